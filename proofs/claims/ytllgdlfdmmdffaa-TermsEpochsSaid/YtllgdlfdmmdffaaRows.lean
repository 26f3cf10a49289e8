/-
  No cell of these rows narrows 'for every input' (looked for: loops, veiled, ifaces, maps, wideKeys, modest, calm, conditions, laid).
  DERIVED. THE GIVEN ROWS OF THIS SEAT. 4 by the template 'for every input the law returns true; each argument reads behind the call as it read before'; 0 by the template 'total and deterministic' (their statements: YtllgdlfdmmdffaaTotals.lean).
  GIVEN WITH THE SEED: the statements are not yours to turn. If you find one false, say at which input.
  Laid BY PROGRAM, IN A SANDBOX (cutbox-rows.mjs): the forced cells as the released guide's own fill.sh prints them over the translation 54a84d69e33b90fa… (all of the seat's roots in one cut). By AI agents, Wed Nov 11 2026. No macro, syntax, notation, axiom, sorry.
-/
import Derived.Test.YtllgdlfdmmdffaaChecked
import GoSem.Claim
import GoSem.ClaimJoined
import GoSem.ClaimMapViews
import Derived.JoinedTies
import Derived.KernelRfl
namespace Go.Proofs.Ytllgdlfdmmdffaa
/- THE CELL 'sum', in the pinned program and in every row, IS THE sha256 OF THE DUMP (.gsa) THAT YtllgdlfdmmdffaaProg.lean LOADS. Nothing in Lean hashes anything: it is a label: what it is worth is what the hold of that sum in a sandbox is worth. -/
noncomputable def Try.pinned : Pinned := { name := "ytllgdlfdmmdffaa", sum := "54a84d69e33b90fa99beda27ddd8454f273d3dc09a3c4b57514d545577b0c876", checked := Try.checked }
namespace Rows
def none {H : Type} : Left H := { results := [], args := [] }

/-- 'sodalitylaw24.TermsCloses': WHATEVER THE INPUT: true; the input reads as it did. -/
def termsClosesSpec : ChangeSpec := { name := "termsCloses", fn := fun _ => fun
  | [d1, d2, d3] => { results := [.lit (.bool true)], args := [d1, d2, d3] }
  | _ => none }
def termsClosesRow : OpenClaim := { program := "ytllgdlfdmmdffaa", sum := "54a84d69e33b90fa99beda27ddd8454f273d3dc09a3c4b57514d545577b0c876", func := "sodality/sodalitylaw24.TermsCloses", spec := "termsCloses", unfollowed := true, recurses := true, apart := false }
def TermsClosesSaid : Prop := termsClosesRow.holds Try.pinned (OpenSpec.ofChange termsClosesSpec)

/-- ITS FALSE NEIGHBOUR: 'it returns false'. Refute it at one input. -/
def termsClosesWrong : ChangeSpec := { name := "termsCloses", fn := fun _ => fun
  | [d1, d2, d3] => { results := [.lit (.bool false)], args := [d1, d2, d3] }
  | _ => none }
def TermsClosesWrongFalsely : Prop := termsClosesRow.holds Try.pinned (OpenSpec.ofChange termsClosesWrong)

/-- 'sodalitylaw24.TermsLeast': WHATEVER THE INPUT: true; the input reads as it did. -/
def termsLeastSpec : ChangeSpec := { name := "termsLeast", fn := fun _ => fun
  | [d1, d2, d3] => { results := [.lit (.bool true)], args := [d1, d2, d3] }
  | _ => none }
def termsLeastRow : OpenClaim := { program := "ytllgdlfdmmdffaa", sum := "54a84d69e33b90fa99beda27ddd8454f273d3dc09a3c4b57514d545577b0c876", func := "sodality/sodalitylaw24.TermsLeast", spec := "termsLeast", unfollowed := true, recurses := true, apart := false }
def TermsLeastSaid : Prop := termsLeastRow.holds Try.pinned (OpenSpec.ofChange termsLeastSpec)

/-- ITS FALSE NEIGHBOUR: 'it returns false'. Refute it at one input. -/
def termsLeastWrong : ChangeSpec := { name := "termsLeast", fn := fun _ => fun
  | [d1, d2, d3] => { results := [.lit (.bool false)], args := [d1, d2, d3] }
  | _ => none }
def TermsLeastWrongFalsely : Prop := termsLeastRow.holds Try.pinned (OpenSpec.ofChange termsLeastWrong)

/-- 'sodalitylaw24.TermsMore': WHATEVER THE INPUT: true; the input reads as it did. -/
def termsMoreSpec : ChangeSpec := { name := "termsMore", fn := fun _ => fun
  | [d1, d2, d3, d4, d5] => { results := [.lit (.bool true)], args := [d1, d2, d3, d4, d5] }
  | _ => none }
def termsMoreRow : OpenClaim := { program := "ytllgdlfdmmdffaa", sum := "54a84d69e33b90fa99beda27ddd8454f273d3dc09a3c4b57514d545577b0c876", func := "sodality/sodalitylaw24.TermsMore", spec := "termsMore", unfollowed := true, recurses := true, apart := false }
def TermsMoreSaid : Prop := termsMoreRow.holds Try.pinned (OpenSpec.ofChange termsMoreSpec)

/-- ITS FALSE NEIGHBOUR: 'it returns false'. Refute it at one input. -/
def termsMoreWrong : ChangeSpec := { name := "termsMore", fn := fun _ => fun
  | [d1, d2, d3, d4, d5] => { results := [.lit (.bool false)], args := [d1, d2, d3, d4, d5] }
  | _ => none }
def TermsMoreWrongFalsely : Prop := termsMoreRow.holds Try.pinned (OpenSpec.ofChange termsMoreWrong)

/-- 'sodalitylaw24.TermsEpochs': WHATEVER THE INPUT: true; the input reads as it did. -/
def termsEpochsSpec : ChangeSpec := { name := "termsEpochs", fn := fun _ => fun
  | [d] => { results := [.lit (.bool true)], args := [d] }
  | _ => none }
def termsEpochsRow : OpenClaim := { program := "ytllgdlfdmmdffaa", sum := "54a84d69e33b90fa99beda27ddd8454f273d3dc09a3c4b57514d545577b0c876", func := "sodality/sodalitylaw24.TermsEpochs", spec := "termsEpochs", unfollowed := true, recurses := true, apart := false }
def TermsEpochsSaid : Prop := termsEpochsRow.holds Try.pinned (OpenSpec.ofChange termsEpochsSpec)

/-- ITS FALSE NEIGHBOUR: 'it returns false'. Refute it at one input. -/
def termsEpochsWrong : ChangeSpec := { name := "termsEpochs", fn := fun _ => fun
  | [d] => { results := [.lit (.bool false)], args := [d] }
  | _ => none }
def TermsEpochsWrongFalsely : Prop := termsEpochsRow.holds Try.pinned (OpenSpec.ofChange termsEpochsWrong)

/- THE SECOND FORM. 'bulk': how many values and letters a reading holds, each counted each time it is reached (what is shared counts as often as it is met; a slice's spare places count too). A statement '..UptoSaid' is the law's where the arguments, and the package variables that the reading takes, are together of bulk at most 1048576: NARROWER than '..Said'. Prove '..Said' where nothing that the law and all that it calls make is longer than what came in: it says more and counts as full. Else prove '..UptoSaid'. A law counts once. -/
mutual
def uptoBulk {H : Type} : DataW H → Nat
  | .lit (.string bytes) => bytes.length + 1
  | .lit _ => 1
  | .nil => 1
  | .ptr d => uptoBulk d + 1
  | .slice elems spare => uptoBulkAll elems + uptoBulkAll spare + 1
  | .agg parts => uptoBulkAll parts + 1
  | .iface _ d => uptoBulk d + 1
  | .map entries => uptoBulkEntries entries + 1
  | .held _ => 1
def uptoBulkAll {H : Type} : List (DataW H) → Nat
  | [] => 0
  | d :: r => uptoBulk d + uptoBulkAll r
def uptoBulkEntries {H : Type} : List (Lit × DataW H) → Nat
  | [] => 0
  | x :: r => uptoBulkEntry x + uptoBulkEntries r
def uptoBulkEntry {H : Type} : Lit × DataW H → Nat
  | (.string bytes, d) => bytes.length + uptoBulk d + 1
  | (_, d) => uptoBulk d + 1
 end
def uptoSmall : (H : Type) → List (DataW H) → Bool := fun _ ds => decide (uptoBulkAll ds ≤ 1048576)
def OpenSpec.upto (s : _root_.Go.ChangeSpec) : _root_.Go.OpenSpec := { _root_.Go.OpenSpec.ofChange s with cond := some uptoSmall }

/-- 'sodalitylaw24.TermsCloses', WHERE WHAT IT READS IS OF BULK AT MOST 1048576: true; the input reads as it did. -/
def termsClosesUptoRow : OpenClaim := { program := "ytllgdlfdmmdffaa", sum := "54a84d69e33b90fa99beda27ddd8454f273d3dc09a3c4b57514d545577b0c876", func := "sodality/sodalitylaw24.TermsCloses", spec := "termsCloses", unfollowed := true, recurses := true, apart := false, narrowed := true }
def TermsClosesUptoSaid : Prop := termsClosesUptoRow.holds Try.pinned (OpenSpec.upto termsClosesSpec)

/-- 'sodalitylaw24.TermsLeast', WHERE WHAT IT READS IS OF BULK AT MOST 1048576: true; the input reads as it did. -/
def termsLeastUptoRow : OpenClaim := { program := "ytllgdlfdmmdffaa", sum := "54a84d69e33b90fa99beda27ddd8454f273d3dc09a3c4b57514d545577b0c876", func := "sodality/sodalitylaw24.TermsLeast", spec := "termsLeast", unfollowed := true, recurses := true, apart := false, narrowed := true }
def TermsLeastUptoSaid : Prop := termsLeastUptoRow.holds Try.pinned (OpenSpec.upto termsLeastSpec)

/-- 'sodalitylaw24.TermsMore', WHERE WHAT IT READS IS OF BULK AT MOST 1048576: true; the input reads as it did. -/
def termsMoreUptoRow : OpenClaim := { program := "ytllgdlfdmmdffaa", sum := "54a84d69e33b90fa99beda27ddd8454f273d3dc09a3c4b57514d545577b0c876", func := "sodality/sodalitylaw24.TermsMore", spec := "termsMore", unfollowed := true, recurses := true, apart := false, narrowed := true }
def TermsMoreUptoSaid : Prop := termsMoreUptoRow.holds Try.pinned (OpenSpec.upto termsMoreSpec)

/-- 'sodalitylaw24.TermsEpochs', WHERE WHAT IT READS IS OF BULK AT MOST 1048576: true; the input reads as it did. -/
def termsEpochsUptoRow : OpenClaim := { program := "ytllgdlfdmmdffaa", sum := "54a84d69e33b90fa99beda27ddd8454f273d3dc09a3c4b57514d545577b0c876", func := "sodality/sodalitylaw24.TermsEpochs", spec := "termsEpochs", unfollowed := true, recurses := true, apart := false, narrowed := true }
def TermsEpochsUptoSaid : Prop := termsEpochsUptoRow.holds Try.pinned (OpenSpec.upto termsEpochsSpec)

end Rows
end Go.Proofs.Ytllgdlfdmmdffaa
