/-
  DERIVED. GIVEN WITH THE SEED: THE CARDS: each row of YtgjcofneecebjaaDoorRows.lean that lists a variable, with what it lists TIED to the program's text (the seventh form; the later family's looks); each row that meets fmt, with fmt's text TOLD by the authors' own Lean function (tested against real Go, not proved from fmt's source: count such statements apart). THE CARD IS WHAT COUNTS. Prove the row's statement (the work); the ties are given (YtgjcofneecebjaaDoorTie.lean); close each card by the builder's one call (the guide's Derived/Test/ToyasCard.lean, 'card_holds'). Laid BY PROGRAM, IN A SANDBOX (cutbox-door.mjs). By AI agents, Wed Nov 11 2026. No macro, syntax, notation, axiom, sorry.
-/
import Derived.Test.YtgjcofneecebjaaDoorRows
import GoSem.ClaimSeven
namespace Go.Proofs.YtgjcofneecebjaaDoor
namespace Rows

/-- THE TIED CARD OF 'sodalitylaw01.KeccakPlays'. -/
def keccakPlaysCard : Claim7 := { stood := { row := keccakPlaysRow, standIns := [], harness := (true, "4b9eab261d97354b45c759acb779a6119fce8072e7007be45f1e1a2e87ba8510"), looks := false }, kinds := [], alts := [], laidByText := true, laidKinds := [.data, .data, .data], laidTests := true, laidLooks := .later }
def KeccakPlaysCardSaid : Prop := Claim7.holds Tryd.pinned (.plain (OpenSpec.ofChange keccakPlaysSpec)) keccakPlaysCard

/-- THE TIED CARD OF 'sodalitylaw01.KeccakGives'. -/
def keccakGivesCard : Claim7 := { stood := { row := keccakGivesRow, standIns := [], harness := (true, "4b9eab261d97354b45c759acb779a6119fce8072e7007be45f1e1a2e87ba8510"), looks := false }, kinds := [], alts := [], laidByText := true, laidKinds := [.data, .data, .data], laidTests := true, laidLooks := .later }
def KeccakGivesCardSaid : Prop := Claim7.holds Tryd.pinned (.plain (OpenSpec.ofChange keccakGivesSpec)) keccakGivesCard

/-- THE TIED CARD OF 'sodalitylaw01.KeccakSums'. -/
def keccakSumsCard : Claim7 := { stood := { row := keccakSumsRow, standIns := [], harness := (true, "4b9eab261d97354b45c759acb779a6119fce8072e7007be45f1e1a2e87ba8510"), looks := false }, kinds := [], alts := [], laidByText := true, laidKinds := [.data, .data, .data], laidTests := true, laidLooks := .later }
def KeccakSumsCardSaid : Prop := Claim7.holds Tryd.pinned (.plain (OpenSpec.ofChange keccakSumsSpec)) keccakSumsCard

/-- THE TIED CARD OF 'sodalitylaw01.KeccakParts'. -/
def keccakPartsCard : Claim7 := { stood := { row := keccakPartsRow, standIns := [], harness := (true, "4b9eab261d97354b45c759acb779a6119fce8072e7007be45f1e1a2e87ba8510"), looks := false }, kinds := [], alts := [], laidByText := true, laidKinds := [.data, .data, .data], laidTests := true, laidLooks := .later }
def KeccakPartsCardSaid : Prop := Claim7.holds Tryd.pinned (.plain (OpenSpec.ofChange keccakPartsSpec)) keccakPartsCard

/-- THE TIED CARD OF 'sodalitylaw01.KeccakBeginnings'. -/
def keccakBeginningsCard : Claim7 := { stood := { row := keccakBeginningsRow, standIns := [], harness := (true, "4b9eab261d97354b45c759acb779a6119fce8072e7007be45f1e1a2e87ba8510"), looks := false }, kinds := [], alts := [], laidByText := true, laidKinds := [.data, .data, .data], laidTests := true, laidLooks := .later }
def KeccakBeginningsCardSaid : Prop := Claim7.holds Tryd.pinned (.plain (OpenSpec.ofChange keccakBeginningsSpec)) keccakBeginningsCard

/-- THE SECOND FORM's CARD OF 'sodalitylaw01.KeccakPlays'. -/
def keccakPlaysUptoCard : Claim7 := { stood := { row := keccakPlaysUptoRow, standIns := [], harness := (true, "4b9eab261d97354b45c759acb779a6119fce8072e7007be45f1e1a2e87ba8510"), looks := false }, kinds := [], alts := [], laidByText := true, laidKinds := [.data, .data, .data], laidTests := true, laidLooks := .later }
def KeccakPlaysUptoCardSaid : Prop := Claim7.holds Tryd.pinned (.plain (OpenSpec.upto keccakPlaysSpec)) keccakPlaysUptoCard

/-- THE SECOND FORM's CARD OF 'sodalitylaw01.KeccakGives'. -/
def keccakGivesUptoCard : Claim7 := { stood := { row := keccakGivesUptoRow, standIns := [], harness := (true, "4b9eab261d97354b45c759acb779a6119fce8072e7007be45f1e1a2e87ba8510"), looks := false }, kinds := [], alts := [], laidByText := true, laidKinds := [.data, .data, .data], laidTests := true, laidLooks := .later }
def KeccakGivesUptoCardSaid : Prop := Claim7.holds Tryd.pinned (.plain (OpenSpec.upto keccakGivesSpec)) keccakGivesUptoCard

/-- THE SECOND FORM's CARD OF 'sodalitylaw01.KeccakSums'. -/
def keccakSumsUptoCard : Claim7 := { stood := { row := keccakSumsUptoRow, standIns := [], harness := (true, "4b9eab261d97354b45c759acb779a6119fce8072e7007be45f1e1a2e87ba8510"), looks := false }, kinds := [], alts := [], laidByText := true, laidKinds := [.data, .data, .data], laidTests := true, laidLooks := .later }
def KeccakSumsUptoCardSaid : Prop := Claim7.holds Tryd.pinned (.plain (OpenSpec.upto keccakSumsSpec)) keccakSumsUptoCard

/-- THE SECOND FORM's CARD OF 'sodalitylaw01.KeccakParts'. -/
def keccakPartsUptoCard : Claim7 := { stood := { row := keccakPartsUptoRow, standIns := [], harness := (true, "4b9eab261d97354b45c759acb779a6119fce8072e7007be45f1e1a2e87ba8510"), looks := false }, kinds := [], alts := [], laidByText := true, laidKinds := [.data, .data, .data], laidTests := true, laidLooks := .later }
def KeccakPartsUptoCardSaid : Prop := Claim7.holds Tryd.pinned (.plain (OpenSpec.upto keccakPartsSpec)) keccakPartsUptoCard

/-- THE SECOND FORM's CARD OF 'sodalitylaw01.KeccakBeginnings'. -/
def keccakBeginningsUptoCard : Claim7 := { stood := { row := keccakBeginningsUptoRow, standIns := [], harness := (true, "4b9eab261d97354b45c759acb779a6119fce8072e7007be45f1e1a2e87ba8510"), looks := false }, kinds := [], alts := [], laidByText := true, laidKinds := [.data, .data, .data], laidTests := true, laidLooks := .later }
def KeccakBeginningsUptoCardSaid : Prop := Claim7.holds Tryd.pinned (.plain (OpenSpec.upto keccakBeginningsSpec)) keccakBeginningsUptoCard
end Rows
end Go.Proofs.YtgjcofneecebjaaDoor
