/-
  DERIVED. GIVEN WITH THE SEED: THE CARDS: each row of YtinmmenjlhlpmaaDoorRows.lean that lists a variable, with what it lists TIED to the program's text (the seventh form; the later family's looks); each row that meets fmt, with fmt's text TOLD by the authors' own Lean function (tested against real Go, not proved from fmt's source: count such statements apart). THE CARD IS WHAT COUNTS. Prove the row's statement (the work); the ties are given (YtinmmenjlhlpmaaDoorTie.lean); close each card by the builder's one call (the guide's Derived/Test/ToyasCard.lean, 'card_holds'). Laid BY PROGRAM, IN A SANDBOX (cutbox-door.mjs). By AI agents, Wed Nov 11 2026. No macro, syntax, notation, axiom, sorry.
-/
import Derived.Test.YtinmmenjlhlpmaaDoorRows
import GoSem.ClaimSeven
namespace Go.Proofs.YtinmmenjlhlpmaaDoor
namespace Rows

/-- THE TIED CARD OF 'sodalitylaw02.Sha2Sums'. -/
def sha2SumsCard : Claim7 := { stood := { row := sha2SumsRow, standIns := [], harness := (true, "1055771604fe59caedade01142252d8f9149422942936819be1d8e6fed0e021a"), looks := false }, kinds := [], alts := [], laidByText := true, laidKinds := [.data], laidTests := true, laidLooks := .later }
def Sha2SumsCardSaid : Prop := Claim7.holds Tryd.pinned (.plain (OpenSpec.ofChange sha2SumsSpec)) sha2SumsCard

/-- THE TIED CARD OF 'sodalitylaw02.Sha2Plays'. -/
def sha2PlaysCard : Claim7 := { stood := { row := sha2PlaysRow, standIns := [], harness := (true, "1055771604fe59caedade01142252d8f9149422942936819be1d8e6fed0e021a"), looks := false }, kinds := [], alts := [], laidByText := true, laidKinds := [.data], laidTests := true, laidLooks := .later }
def Sha2PlaysCardSaid : Prop := Claim7.holds Tryd.pinned (.plain (OpenSpec.ofChange sha2PlaysSpec)) sha2PlaysCard

/-- THE TIED CARD OF 'sodalitylaw02.Sha2Parts'. -/
def sha2PartsCard : Claim7 := { stood := { row := sha2PartsRow, standIns := [], harness := (true, "1055771604fe59caedade01142252d8f9149422942936819be1d8e6fed0e021a"), looks := false }, kinds := [], alts := [], laidByText := true, laidKinds := [.data], laidTests := true, laidLooks := .later }
def Sha2PartsCardSaid : Prop := Claim7.holds Tryd.pinned (.plain (OpenSpec.ofChange sha2PartsSpec)) sha2PartsCard

/-- THE TIED CARD OF 'sodalitylaw02.Sha2Many'. -/
def sha2ManyCard : Claim7 := { stood := { row := sha2ManyRow, standIns := [], harness := (true, "1055771604fe59caedade01142252d8f9149422942936819be1d8e6fed0e021a"), looks := false }, kinds := [], alts := [], laidByText := true, laidKinds := [.data], laidTests := true, laidLooks := .later }
def Sha2ManyCardSaid : Prop := Claim7.holds Tryd.pinned (.plain (OpenSpec.ofChange sha2ManySpec)) sha2ManyCard

/-- THE SECOND FORM's CARD OF 'sodalitylaw02.Sha2Sums'. -/
def sha2SumsUptoCard : Claim7 := { stood := { row := sha2SumsUptoRow, standIns := [], harness := (true, "1055771604fe59caedade01142252d8f9149422942936819be1d8e6fed0e021a"), looks := false }, kinds := [], alts := [], laidByText := true, laidKinds := [.data], laidTests := true, laidLooks := .later }
def Sha2SumsUptoCardSaid : Prop := Claim7.holds Tryd.pinned (.plain (OpenSpec.upto sha2SumsSpec)) sha2SumsUptoCard

/-- THE SECOND FORM's CARD OF 'sodalitylaw02.Sha2Plays'. -/
def sha2PlaysUptoCard : Claim7 := { stood := { row := sha2PlaysUptoRow, standIns := [], harness := (true, "1055771604fe59caedade01142252d8f9149422942936819be1d8e6fed0e021a"), looks := false }, kinds := [], alts := [], laidByText := true, laidKinds := [.data], laidTests := true, laidLooks := .later }
def Sha2PlaysUptoCardSaid : Prop := Claim7.holds Tryd.pinned (.plain (OpenSpec.upto sha2PlaysSpec)) sha2PlaysUptoCard

/-- THE SECOND FORM's CARD OF 'sodalitylaw02.Sha2Parts'. -/
def sha2PartsUptoCard : Claim7 := { stood := { row := sha2PartsUptoRow, standIns := [], harness := (true, "1055771604fe59caedade01142252d8f9149422942936819be1d8e6fed0e021a"), looks := false }, kinds := [], alts := [], laidByText := true, laidKinds := [.data], laidTests := true, laidLooks := .later }
def Sha2PartsUptoCardSaid : Prop := Claim7.holds Tryd.pinned (.plain (OpenSpec.upto sha2PartsSpec)) sha2PartsUptoCard

/-- THE SECOND FORM's CARD OF 'sodalitylaw02.Sha2Many'. -/
def sha2ManyUptoCard : Claim7 := { stood := { row := sha2ManyUptoRow, standIns := [], harness := (true, "1055771604fe59caedade01142252d8f9149422942936819be1d8e6fed0e021a"), looks := false }, kinds := [], alts := [], laidByText := true, laidKinds := [.data], laidTests := true, laidLooks := .later }
def Sha2ManyUptoCardSaid : Prop := Claim7.holds Tryd.pinned (.plain (OpenSpec.upto sha2ManySpec)) sha2ManyUptoCard
end Rows
end Go.Proofs.YtinmmenjlhlpmaaDoor
