/- The document's own roots, walked: a power of seventeen, and seven bits turned. -/
import Derived.Test.YtopkmkkohmkceaaDoorQ
import Derived.Test.YtopkmkkohmkceaaDoorP
import Derived.Lib.RabinKarpLaws
namespace Go.Proofs.YtopkmkkohmkceaaDoor
open Go.ChangeShapes Go.WideShapes Go.ChangeAt Go.RowKit
set_option linter.unusedSimpArgs false
set_option linter.unusedVariables false

def pwr : Nat → Int
  | 0 => 1
  | n + 1 => emod (pwr n * 17)
theorem pwr_bd (n : Nat) : 0 ≤ pwr n ∧ pwr n < 3329 := by
  cases n with
  | zero => show 0 ≤ (1 : Int) ∧ (1 : Int) < 3329; omega
  | succ n => exact emod_bd _
theorem power30 (n : Nat) (hn : n < 256) (w : World) : Calls Tryd.prog 30 #[.int .i64 17, .int .i64 n] w fun e w' => e = .returned (.int .i64 (pwr n)) ∧ w' = w := by
  go_enter Tryd.func30, Tryd.ntmps30
  go_wp2
  go_loopw [5, 6] (fun v5 v6 wr => ∃ k : Nat, k ≤ n ∧ v5 = .int .i64 (pwr k) ∧ v6 = .int .i64 k ∧ wr = w) (fun v5 v6 wr => n - (intOf v6).toNat)
  case atStart => exact ⟨0, by omega, rfl, rfl, rfl⟩
  case round =>
    obtain ⟨k, hk, rfl, rfl, rfl⟩ := hrel
    by_cases hlt : k < n
    · have b := pwr_bd k
      have e : (pwr k * 17).tmod 3329 = emod (pwr k * 17) := Int.tmod_eq_emod_of_nonneg (by omega)
      have e2 : IntKind.i64.wrap (pwr k * 17) = pwr k * 17 := IntWalk.i64_in _ (by omega)
      go_wp2
      go_roundw
      case rel => exact ⟨k + 1, by omega, by first | rfl | simp [pwr, e], by go_num, trivial⟩
      case measure => simp [intOf]; omega
    · have e1 : k = n := by omega
      subst e1
      go_wp2
      go_ret
      exact ⟨rfl, rfl⟩

def tn (n : Nat) : Nat → Nat
  | 0 => 0
  | k + 1 => 2 * tn n k + n / 2 ^ k % 2
theorem tn_bd (n k : Nat) : tn n k < 2 ^ k := by
  induction k with
  | zero => show 0 < 1; omega
  | succ k ih => show 2 * tn n k + n / 2 ^ k % 2 < 2 ^ (k + 1); rw [Nat.pow_succ]; omega
set_option maxRecDepth 20000 in
theorem turned31 (n : Nat) (hn : n < 128) (w : World) : Calls Tryd.prog 31 #[.int .i64 n] w fun e w' => e = .returned (.int .i64 (tn n 7 : Nat)) ∧ w' = w := by
  go_enter Tryd.func31, Tryd.ntmps31
  go_wp2
  go_loopw [3, 4] (fun v5 v6 wr => ∃ k : Nat, k ≤ 7 ∧ v5 = .int .i64 (tn n k : Nat) ∧ v6 = .int .i64 k ∧ wr = w) (fun v5 v6 wr => 7 - (intOf v6).toNat)
  case atStart => exact ⟨0, by omega, rfl, rfl, rfl⟩
  case round =>
    obtain ⟨k, hk, rfl, rfl, rfl⟩ := hrel
    by_cases hlt : k < 7
    · have b := tn_bd n k
      have b2 : 2 ^ k ≤ 64 := by
        have : 2 ^ k ≤ 2 ^ 6 := Nat.pow_le_pow_right (by omega) (by omega)
        omega
      have e1 : bits BinOp.and IntKind.i64 ((n : Int) / 2 ^ k) 1 = (n : Int) / 2 ^ k % 2 := by
        have h := and_one (n / 2 ^ k) (by have := Nat.div_le_self n (2 ^ k); omega)
        rw [show ((n / 2 ^ k : Nat) : Int) = (n : Int) / 2 ^ k by simp] at h
        rw [h]; simp
      have e3 : 0 ≤ (n : Int) / 2 ^ k % 2 ∧ (n : Int) / 2 ^ k % 2 < 2 := by omega
      have e2 : IntKind.i64.wrap (2 * (tn n k : Int) + (n : Int) / 2 ^ k % 2) = 2 * (tn n k : Int) + (n : Int) / 2 ^ k % 2 := IntWalk.i64_in _ (by omega)
      go_wp2
      go_roundw
      case rel => exact ⟨k + 1, by omega, by simp [tn], by go_num, trivial⟩
      case measure => simp [intOf]; omega
    · have e1 : k = 7 := by omega
      subst e1
      go_wp2
      go_ret
      exact ⟨rfl, rfl⟩

set_option maxRecDepth 100000 in
theorem root_all : ∀ k < 128, pwr (tn k 7) = rt k ∧ pwr (2 * tn k 7 + 1) = emod (rt k * rt k * 17) ∧ 2 * tn k 7 + 1 < 256 := by decide +kernel
end Go.Proofs.YtopkmkkohmkceaaDoor
