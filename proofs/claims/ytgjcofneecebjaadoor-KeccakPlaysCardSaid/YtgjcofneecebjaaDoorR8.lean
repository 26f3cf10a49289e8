/- What the document's New refuses; a document's sponge that gives takes nothing. -/
import Derived.Test.YtgjcofneecebjaaDoorR7
namespace Go.Proofs.YtgjcofneecebjaaDoor
open Go.ChangeShapes Go.WideShapes Go.ChangeAt Go.RowKit
set_option linter.unusedSimpArgs false
set_option linter.unusedVariables false
theorem new10n (rt en : Int) (w : World) (h : rt < 8 ∨ 192 < rt ∨ (0 ≤ rt ∧ rt % 8 ≠ 0)) :
    Calls Tryd.prog 10 #[.int .i64 rt, .int .u8 en] w fun e w' => e = .returned (.pointer none) ∧ w' = w := by
  go_enter Tryd.func10, Tryd.ntmps10
  by_cases h8 : rt < 8
  · have d1 : decide (rt < 8) = true := by simp; omega
    go_wp2_with fail
    go_ret
    exact ⟨rfl, rfl⟩
  · have d1 : decide (rt < 8) = false := by simp; omega
    by_cases h192 : 192 < rt
    · have d2 : decide (rt > 192) = true := by simp; omega
      go_wp2_with fail
      go_ret
      exact ⟨rfl, rfl⟩
    · have d2 : decide (rt > 192) = false := by simp; omega
      have d3 : rt.tmod 8 ≠ 0 := by rw [Int.tmod_eq_emod_of_nonneg (by omega)]; omega
      have d4 : rt % 8 ≠ 0 := by omega
      go_wp2_with fail
      go_ret
      exact ⟨rfl, rfl⟩
theorem write13g (g : Nat) (rt en at_ : Int) (W : Nat → Int) (bo : Option Addr) (m bc : Nat) (w : World) (hS : Spr w g rt en W at_ true) :
    Calls Tryd.prog 13 #[.pointer (some ⟨g, 0, none⟩), .slice bo m bc] w fun e w' => e = .returned (.tuple #[]) ∧ w' = w := by
  have hc := hS.gives
  go_enter Tryd.func13, Tryd.ntmps13
  go_wp2_with fail
  go_loopg [4] 1 (fun k v wr => v = .int .i64 0 ∧ wr = w)
  case atStart => exact ⟨rfl, rfl⟩
  case round =>
    obtain ⟨rfl, rfl⟩ := hrel
    by_cases hm : 0 < m
    · have hd : decide (0 < m) = true := by simp; omega
      have hd2 : decide ((0 : Int) < (m : Int)) = true := by simp; omega
      go_wp2_with fail
      go_end0
      exact ⟨rfl, rfl⟩
    · have hd : decide (0 < m) = false := by simp; omega
      have hd2 : decide ((0 : Int) < (m : Int)) = false := by simp; omega
      obtain rfl : m = 0 := by omega
      go_wp2_with fail
      go_end0
      exact ⟨rfl, rfl⟩
end Go.Proofs.YtgjcofneecebjaaDoor
