/-
  No cell of these rows narrows 'for every input' (looked for: loops, veiled, ifaces, maps, wideKeys, modest, calm, conditions, laid).
  DERIVED. THE GIVEN ROWS OF THIS SEAT. 4 by the template 'for every input the law returns true; each argument reads behind the call as it read before'; 0 by the template 'total and deterministic' (their statements: YtjabkfccfecmgaaTotals.lean).
  GIVEN WITH THE SEED: the statements are not yours to turn. If you find one false, say at which input.
  Laid BY PROGRAM, IN A SANDBOX (cutbox-rows.mjs): the forced cells as the released guide's own fill.sh prints them over the translation 700bacd686024fb1… (all of the seat's roots in one cut). By AI agents, Wed Nov 11 2026. No macro, syntax, notation, axiom, sorry.
-/
import Derived.Test.YtjabkfccfecmgaaChecked
import GoSem.Claim
import GoSem.ClaimJoined
import GoSem.ClaimMapViews
import Derived.JoinedTies
import Derived.KernelRfl
namespace Go.Proofs.Ytjabkfccfecmgaa
/- THE CELL 'sum', in the pinned program and in every row, IS THE sha256 OF THE DUMP (.gsa) THAT YtjabkfccfecmgaaProg.lean LOADS. Nothing in Lean hashes anything: it is a label: what it is worth is what the hold of that sum in a sandbox is worth. -/
noncomputable def Try.pinned : Pinned := { name := "ytjabkfccfecmgaa", sum := "700bacd686024fb159057ee54afeae0330c6024af414a768a2636eb7d0572dd3", checked := Try.checked }
namespace Rows
def none {H : Type} : Left H := { results := [], args := [] }

/-- 'sodalitylaw21.VaultKeeps': WHATEVER THE INPUT: true; the input reads as it did. -/
def vaultKeepsSpec : ChangeSpec := { name := "vaultKeeps", fn := fun _ => fun
  | [d1, d2, d3, d4, d5, d6, d7] => { results := [.lit (.bool true)], args := [d1, d2, d3, d4, d5, d6, d7] }
  | _ => none }
def vaultKeepsRow : OpenClaim := { program := "ytjabkfccfecmgaa", sum := "700bacd686024fb159057ee54afeae0330c6024af414a768a2636eb7d0572dd3", func := "sodality/sodalitylaw21.VaultKeeps", spec := "vaultKeeps", unfollowed := true, recurses := true, apart := false }
def VaultKeepsSaid : Prop := vaultKeepsRow.holds Try.pinned (OpenSpec.ofChange vaultKeepsSpec)

/-- ITS FALSE NEIGHBOUR: 'it returns false'. Refute it at one input. -/
def vaultKeepsWrong : ChangeSpec := { name := "vaultKeeps", fn := fun _ => fun
  | [d1, d2, d3, d4, d5, d6, d7] => { results := [.lit (.bool false)], args := [d1, d2, d3, d4, d5, d6, d7] }
  | _ => none }
def VaultKeepsWrongFalsely : Prop := vaultKeepsRow.holds Try.pinned (OpenSpec.ofChange vaultKeepsWrong)

/-- 'sodalitylaw21.VaultErases': WHATEVER THE INPUT: true; the input reads as it did. -/
def vaultErasesSpec : ChangeSpec := { name := "vaultErases", fn := fun _ => fun
  | [d1, d2] => { results := [.lit (.bool true)], args := [d1, d2] }
  | _ => none }
def vaultErasesRow : OpenClaim := { program := "ytjabkfccfecmgaa", sum := "700bacd686024fb159057ee54afeae0330c6024af414a768a2636eb7d0572dd3", func := "sodality/sodalitylaw21.VaultErases", spec := "vaultErases", unfollowed := true, recurses := true, apart := false }
def VaultErasesSaid : Prop := vaultErasesRow.holds Try.pinned (OpenSpec.ofChange vaultErasesSpec)

/-- ITS FALSE NEIGHBOUR: 'it returns false'. Refute it at one input. -/
def vaultErasesWrong : ChangeSpec := { name := "vaultErases", fn := fun _ => fun
  | [d1, d2] => { results := [.lit (.bool false)], args := [d1, d2] }
  | _ => none }
def VaultErasesWrongFalsely : Prop := vaultErasesRow.holds Try.pinned (OpenSpec.ofChange vaultErasesWrong)

/-- 'sodalitylaw21.VaultRooms': WHATEVER THE INPUT: true; the input reads as it did. -/
def vaultRoomsSpec : ChangeSpec := { name := "vaultRooms", fn := fun _ => fun
  | [d1, d2, d3, d4] => { results := [.lit (.bool true)], args := [d1, d2, d3, d4] }
  | _ => none }
def vaultRoomsRow : OpenClaim := { program := "ytjabkfccfecmgaa", sum := "700bacd686024fb159057ee54afeae0330c6024af414a768a2636eb7d0572dd3", func := "sodality/sodalitylaw21.VaultRooms", spec := "vaultRooms", unfollowed := true, recurses := true, apart := false }
def VaultRoomsSaid : Prop := vaultRoomsRow.holds Try.pinned (OpenSpec.ofChange vaultRoomsSpec)

/-- ITS FALSE NEIGHBOUR: 'it returns false'. Refute it at one input. -/
def vaultRoomsWrong : ChangeSpec := { name := "vaultRooms", fn := fun _ => fun
  | [d1, d2, d3, d4] => { results := [.lit (.bool false)], args := [d1, d2, d3, d4] }
  | _ => none }
def VaultRoomsWrongFalsely : Prop := vaultRoomsRow.holds Try.pinned (OpenSpec.ofChange vaultRoomsWrong)

/-- 'sodalitylaw21.VaultWrong': WHATEVER THE INPUT: true; the input reads as it did. -/
def vaultWrongSpec : ChangeSpec := { name := "vaultWrong", fn := fun _ => fun
  | [d1, d2, d3, d4] => { results := [.lit (.bool true)], args := [d1, d2, d3, d4] }
  | _ => none }
def vaultWrongRow : OpenClaim := { program := "ytjabkfccfecmgaa", sum := "700bacd686024fb159057ee54afeae0330c6024af414a768a2636eb7d0572dd3", func := "sodality/sodalitylaw21.VaultWrong", spec := "vaultWrong", unfollowed := true, recurses := true, apart := false }
def VaultWrongSaid : Prop := vaultWrongRow.holds Try.pinned (OpenSpec.ofChange vaultWrongSpec)

/-- ITS FALSE NEIGHBOUR: 'it returns false'. Refute it at one input. -/
def vaultWrongWrong : ChangeSpec := { name := "vaultWrong", fn := fun _ => fun
  | [d1, d2, d3, d4] => { results := [.lit (.bool false)], args := [d1, d2, d3, d4] }
  | _ => none }
def VaultWrongWrongFalsely : Prop := vaultWrongRow.holds Try.pinned (OpenSpec.ofChange vaultWrongWrong)

/- THE SECOND FORM. 'bulk': how many values and letters a reading holds, each counted each time it is reached (what is shared counts as often as it is met; a slice's spare places count too). A statement '..UptoSaid' is the law's where the arguments, and the package variables that the reading takes, are together of bulk at most 1048576: NARROWER than '..Said'. Prove '..Said' where nothing that the law and all that it calls make is longer than what came in: it says more and counts as full. Else prove '..UptoSaid'. A law counts once. -/
mutual
def uptoBulk {H : Type} : DataW H → Nat
  | .lit (.string bytes) => bytes.length + 1
  | .lit _ => 1
  | .nil => 1
  | .ptr d => uptoBulk d + 1
  | .slice elems spare => uptoBulkAll elems + uptoBulkAll spare + 1
  | .agg parts => uptoBulkAll parts + 1
  | .iface _ d => uptoBulk d + 1
  | .map entries => uptoBulkEntries entries + 1
  | .held _ => 1
def uptoBulkAll {H : Type} : List (DataW H) → Nat
  | [] => 0
  | d :: r => uptoBulk d + uptoBulkAll r
def uptoBulkEntries {H : Type} : List (Lit × DataW H) → Nat
  | [] => 0
  | x :: r => uptoBulkEntry x + uptoBulkEntries r
def uptoBulkEntry {H : Type} : Lit × DataW H → Nat
  | (.string bytes, d) => bytes.length + uptoBulk d + 1
  | (_, d) => uptoBulk d + 1
 end
def uptoSmall : (H : Type) → List (DataW H) → Bool := fun _ ds => decide (uptoBulkAll ds ≤ 1048576)
def OpenSpec.upto (s : _root_.Go.ChangeSpec) : _root_.Go.OpenSpec := { _root_.Go.OpenSpec.ofChange s with cond := some uptoSmall }

/-- 'sodalitylaw21.VaultKeeps', WHERE WHAT IT READS IS OF BULK AT MOST 1048576: true; the input reads as it did. -/
def vaultKeepsUptoRow : OpenClaim := { program := "ytjabkfccfecmgaa", sum := "700bacd686024fb159057ee54afeae0330c6024af414a768a2636eb7d0572dd3", func := "sodality/sodalitylaw21.VaultKeeps", spec := "vaultKeeps", unfollowed := true, recurses := true, apart := false, narrowed := true }
def VaultKeepsUptoSaid : Prop := vaultKeepsUptoRow.holds Try.pinned (OpenSpec.upto vaultKeepsSpec)

/-- 'sodalitylaw21.VaultErases', WHERE WHAT IT READS IS OF BULK AT MOST 1048576: true; the input reads as it did. -/
def vaultErasesUptoRow : OpenClaim := { program := "ytjabkfccfecmgaa", sum := "700bacd686024fb159057ee54afeae0330c6024af414a768a2636eb7d0572dd3", func := "sodality/sodalitylaw21.VaultErases", spec := "vaultErases", unfollowed := true, recurses := true, apart := false, narrowed := true }
def VaultErasesUptoSaid : Prop := vaultErasesUptoRow.holds Try.pinned (OpenSpec.upto vaultErasesSpec)

/-- 'sodalitylaw21.VaultRooms', WHERE WHAT IT READS IS OF BULK AT MOST 1048576: true; the input reads as it did. -/
def vaultRoomsUptoRow : OpenClaim := { program := "ytjabkfccfecmgaa", sum := "700bacd686024fb159057ee54afeae0330c6024af414a768a2636eb7d0572dd3", func := "sodality/sodalitylaw21.VaultRooms", spec := "vaultRooms", unfollowed := true, recurses := true, apart := false, narrowed := true }
def VaultRoomsUptoSaid : Prop := vaultRoomsUptoRow.holds Try.pinned (OpenSpec.upto vaultRoomsSpec)

/-- 'sodalitylaw21.VaultWrong', WHERE WHAT IT READS IS OF BULK AT MOST 1048576: true; the input reads as it did. -/
def vaultWrongUptoRow : OpenClaim := { program := "ytjabkfccfecmgaa", sum := "700bacd686024fb159057ee54afeae0330c6024af414a768a2636eb7d0572dd3", func := "sodality/sodalitylaw21.VaultWrong", spec := "vaultWrong", unfollowed := true, recurses := true, apart := false, narrowed := true }
def VaultWrongUptoSaid : Prop := vaultWrongUptoRow.holds Try.pinned (OpenSpec.upto vaultWrongSpec)

end Rows
end Go.Proofs.Ytjabkfccfecmgaa
