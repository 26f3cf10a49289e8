/- Write of no bytes: nothing is changed, whatever the address. -/
import Derived.Test.YtgjcofneecebjaaDoorR8
namespace Go.Proofs.YtgjcofneecebjaaDoor
open Go.ChangeShapes Go.WideShapes Go.ChangeAt Go.RowKit
set_option linter.unusedSimpArgs false
set_option linter.unusedVariables false
theorem write13e (g : Nat) (rt en at_ : Int) (gv : Bool) (W : Nat → Int) (bo : Option Addr) (bc : Nat) (w : World) (hS : Spr w g rt en W at_ gv) :
    Calls Tryd.prog 13 #[.pointer (some ⟨g, 0, none⟩), .slice bo 0 bc] w fun e w' => e = .returned (.tuple #[]) ∧ w' = w := by
  have hc := hS.gives
  go_enter Tryd.func13, Tryd.ntmps13
  go_wp2_with fail
  go_loopg [4] 1 (fun k v wr => v = .int .i64 0 ∧ wr = w)
  case atStart => exact ⟨rfl, rfl⟩
  case round =>
    obtain ⟨rfl, rfl⟩ := hrel
    go_wp2_with fail
    go_end0
    exact ⟨rfl, rfl⟩
theorem write12e (g : Nat) (rt en at_ : Int) (gv : Bool) (W : Nat → Int) (bo : Option Addr) (bc : Nat) (w : World) (hS : Spg w g rt en W at_ gv) :
    Calls Tryd.prog 12 #[.pointer (some ⟨g, 0, none⟩), .slice bo 0 bc] w fun e w' => e = .returned (.tuple #[]) ∧ w' = w := by
  have hc := hS.gives
  go_enter Tryd.func12, Tryd.ntmps12
  cases gv with
  | true =>
    go_wp2_with fail
    exact bodyPost_ret (v := .tuple #[]) (by simp [results, Tryd.results12, go_sem]) rfl ⟨rfl, rfl⟩
  | false =>
    go_wp2_with fail
    go_loopg [12] 1 (fun k v wr => v = .int .i64 0 ∧ wr = w)
    case atStart => exact ⟨rfl, rfl⟩
    case round =>
      obtain ⟨rfl, rfl⟩ := hrel
      go_wp2_with fail
      go_end0
      exact ⟨rfl, rfl⟩
end Go.Proofs.YtgjcofneecebjaaDoor
