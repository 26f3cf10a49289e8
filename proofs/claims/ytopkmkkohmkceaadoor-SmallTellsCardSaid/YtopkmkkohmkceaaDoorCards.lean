/-
  DERIVED. GIVEN WITH THE SEED: THE CARDS: each row of YtopkmkkohmkceaaDoorRows.lean that lists a variable, with what it lists TIED to the program's text (the seventh form; the later family's looks); each row that meets fmt, with fmt's text TOLD by the authors' own Lean function (tested against real Go, not proved from fmt's source: count such statements apart). THE CARD IS WHAT COUNTS. Prove the row's statement (the work); the ties are given (YtopkmkkohmkceaaDoorTie.lean); close each card by the builder's one call (the guide's Derived/Test/ToyasCard.lean, 'card_holds'). Laid BY PROGRAM, IN A SANDBOX (cutbox-door.mjs). By AI agents, Wed Nov 11 2026. No macro, syntax, notation, axiom, sorry.
-/
import Derived.Test.YtopkmkkohmkceaaDoorRows
import GoSem.ClaimSeven
namespace Go.Proofs.YtopkmkkohmkceaaDoor
namespace Rows

/-- THE TIED CARD OF 'sodalitylaw04.SmallBack'. -/
def smallBackCard : Claim7 := { stood := { row := smallBackRow, standIns := [], harness := (true, "53321c3ada9ec245fbce3fabe4907174bd1695c25859fe371b476c20b32f4100"), looks := false }, kinds := [], alts := [], laidByText := true, laidKinds := [.widerDeep], laidTests := true, laidLooks := .later }
def SmallBackCardSaid : Prop := Claim7.holds Tryd.pinned (.plain (OpenSpec.ofChange smallBackSpec)) smallBackCard

/-- THE TIED CARD OF 'sodalitylaw04.SmallProducts'. -/
def smallProductsCard : Claim7 := { stood := { row := smallProductsRow, standIns := [], harness := (true, "53321c3ada9ec245fbce3fabe4907174bd1695c25859fe371b476c20b32f4100"), looks := false }, kinds := [], alts := [], laidByText := true, laidKinds := [.widerDeep], laidTests := true, laidLooks := .later }
def SmallProductsCardSaid : Prop := Claim7.holds Tryd.pinned (.plain (OpenSpec.ofChange smallProductsSpec)) smallProductsCard

/-- THE TIED CARD OF 'sodalitylaw04.SmallShift'. -/
def smallShiftCard : Claim7 := { stood := { row := smallShiftRow, standIns := [], harness := (true, "53321c3ada9ec245fbce3fabe4907174bd1695c25859fe371b476c20b32f4100"), looks := false }, kinds := [], alts := [], laidByText := true, laidKinds := [.widerDeep], laidTests := true, laidLooks := .later }
def SmallShiftCardSaid : Prop := Claim7.holds Tryd.pinned (.plain (OpenSpec.ofChange smallShiftSpec)) smallShiftCard

/-- THE TIED CARD OF 'sodalitylaw04.SmallScalars'. -/
def smallScalarsCard : Claim7 := { stood := { row := smallScalarsRow, standIns := [], harness := (true, "53321c3ada9ec245fbce3fabe4907174bd1695c25859fe371b476c20b32f4100"), looks := false }, kinds := [], alts := [], laidByText := true, laidKinds := [.widerDeep], laidTests := true, laidLooks := .later }
def SmallScalarsCardSaid : Prop := Claim7.holds Tryd.pinned (.plain (OpenSpec.ofChange smallScalarsSpec)) smallScalarsCard

/-- THE TIED CARD OF 'sodalitylaw04.SmallTells'. -/
def smallTellsCard : Claim7 := { stood := { row := smallTellsRow, standIns := [], harness := (true, "53321c3ada9ec245fbce3fabe4907174bd1695c25859fe371b476c20b32f4100"), looks := false }, kinds := [], alts := [], laidByText := true, laidKinds := [.widerDeep], laidTests := true, laidLooks := .later }
def SmallTellsCardSaid : Prop := Claim7.holds Tryd.pinned (.plain (OpenSpec.ofChange smallTellsSpec)) smallTellsCard

/-- THE TIED CARD OF 'sodalitylaw04.SmallSums'. -/
def smallSumsCard : Claim7 := { stood := { row := smallSumsRow, standIns := [], harness := (true, "53321c3ada9ec245fbce3fabe4907174bd1695c25859fe371b476c20b32f4100"), looks := false }, kinds := [], alts := [], laidByText := true, laidKinds := [.widerDeep], laidTests := true, laidLooks := .later }
def SmallSumsCardSaid : Prop := Claim7.holds Tryd.pinned (.plain (OpenSpec.ofChange smallSumsSpec)) smallSumsCard

/-- THE SECOND FORM's CARD OF 'sodalitylaw04.SmallBack'. -/
def smallBackUptoCard : Claim7 := { stood := { row := smallBackUptoRow, standIns := [], harness := (true, "53321c3ada9ec245fbce3fabe4907174bd1695c25859fe371b476c20b32f4100"), looks := false }, kinds := [], alts := [], laidByText := true, laidKinds := [.widerDeep], laidTests := true, laidLooks := .later }
def SmallBackUptoCardSaid : Prop := Claim7.holds Tryd.pinned (.plain (OpenSpec.upto smallBackSpec)) smallBackUptoCard

/-- THE SECOND FORM's CARD OF 'sodalitylaw04.SmallProducts'. -/
def smallProductsUptoCard : Claim7 := { stood := { row := smallProductsUptoRow, standIns := [], harness := (true, "53321c3ada9ec245fbce3fabe4907174bd1695c25859fe371b476c20b32f4100"), looks := false }, kinds := [], alts := [], laidByText := true, laidKinds := [.widerDeep], laidTests := true, laidLooks := .later }
def SmallProductsUptoCardSaid : Prop := Claim7.holds Tryd.pinned (.plain (OpenSpec.upto smallProductsSpec)) smallProductsUptoCard

/-- THE SECOND FORM's CARD OF 'sodalitylaw04.SmallShift'. -/
def smallShiftUptoCard : Claim7 := { stood := { row := smallShiftUptoRow, standIns := [], harness := (true, "53321c3ada9ec245fbce3fabe4907174bd1695c25859fe371b476c20b32f4100"), looks := false }, kinds := [], alts := [], laidByText := true, laidKinds := [.widerDeep], laidTests := true, laidLooks := .later }
def SmallShiftUptoCardSaid : Prop := Claim7.holds Tryd.pinned (.plain (OpenSpec.upto smallShiftSpec)) smallShiftUptoCard

/-- THE SECOND FORM's CARD OF 'sodalitylaw04.SmallScalars'. -/
def smallScalarsUptoCard : Claim7 := { stood := { row := smallScalarsUptoRow, standIns := [], harness := (true, "53321c3ada9ec245fbce3fabe4907174bd1695c25859fe371b476c20b32f4100"), looks := false }, kinds := [], alts := [], laidByText := true, laidKinds := [.widerDeep], laidTests := true, laidLooks := .later }
def SmallScalarsUptoCardSaid : Prop := Claim7.holds Tryd.pinned (.plain (OpenSpec.upto smallScalarsSpec)) smallScalarsUptoCard

/-- THE SECOND FORM's CARD OF 'sodalitylaw04.SmallTells'. -/
def smallTellsUptoCard : Claim7 := { stood := { row := smallTellsUptoRow, standIns := [], harness := (true, "53321c3ada9ec245fbce3fabe4907174bd1695c25859fe371b476c20b32f4100"), looks := false }, kinds := [], alts := [], laidByText := true, laidKinds := [.widerDeep], laidTests := true, laidLooks := .later }
def SmallTellsUptoCardSaid : Prop := Claim7.holds Tryd.pinned (.plain (OpenSpec.upto smallTellsSpec)) smallTellsUptoCard

/-- THE SECOND FORM's CARD OF 'sodalitylaw04.SmallSums'. -/
def smallSumsUptoCard : Claim7 := { stood := { row := smallSumsUptoRow, standIns := [], harness := (true, "53321c3ada9ec245fbce3fabe4907174bd1695c25859fe371b476c20b32f4100"), looks := false }, kinds := [], alts := [], laidByText := true, laidKinds := [.widerDeep], laidTests := true, laidLooks := .later }
def SmallSumsUptoCardSaid : Prop := Claim7.holds Tryd.pinned (.plain (OpenSpec.upto smallSumsSpec)) smallSumsUptoCard
end Rows
end Go.Proofs.YtopkmkkohmkceaaDoor
