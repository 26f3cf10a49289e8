/- The spots' small questions, walked. -/
import Derived.Test.YtllgdlfdmmdffaaA
import Derived.Test.YtllgdlfdmmdffaaRows
import Derived.WalkKit
import Derived.ProofKit
import Derived.OpenShut
import Derived.Lib.Hide
import Derived.WalkLawsBesides
namespace Go.Proofs.Ytllgdlfdmmdffaa
open Go.ChangeShapes Go.WideShapes Go.ChangeAt Go.RowKit
set_option linter.unusedSimpArgs false
set_option linter.unusedVariables false

theorem fl0 : fl 0 = 0 := by decide +kernel
theorem is0 : Is 0 0 := by have := is_fl 0 (by omega); rwa [fl0] at this
theorem ge0 {x n : Nat} (h : Is x n) : (FloatKind.f64.format.order x 0 == some .gt || FloatKind.f64.format.order x 0 == some .eq) = true := by
  show (Ieee.double.order x 0 == some .gt || Ieee.double.order x 0 == some .eq) = true
  rw [order_gt h is0, order_eq h is0]; simp; omega
theorem le_fl {x n m : Nat} (h : Is x n) (hm : m < 2 ^ 53) (hn : n ≤ m) : (FloatKind.f64.format.order x (fl m) == some .lt || FloatKind.f64.format.order x (fl m) == some .eq) = true := by
  show (Ieee.double.order x (fl m) == some .lt || Ieee.double.order x (fl m) == some .eq) = true
  rw [order_lt h (is_fl m hm), order_eq h (is_fl m hm)]; simp; omega
theorem eq_fl {x n m : Nat} (h : Is x n) (hm : m < 2 ^ 53) : (FloatKind.f64.format.order x (fl m) == some .eq) = decide (n = m) := order_eq h (is_fl m hm)
theorem conv28 {x n : Nat} (h : Is x n) (hn : n < 2 ^ 53) (w : World) : (convert 87 3 (.float .f64 x)).run Try.prog w = .ok (.int .i64 n) w :=
  run_convert_float_int w 87 3 .f64 .i64 x n (by kernel_rfl) Try.underlying3 (toInt_is h hn)

theorem whole_yes (x n top : Nat) (h : Is x n) (hn : n ≤ top) (ht : top ≤ 65536) (w : World) : Calls Try.prog 66 #[.float .f64 x, .int .i64 top] w fun e w' => e = .returned (.bool true) ∧ w = w' := by
  have a1 := ge0 h
  have a2 := floatOfInt_fl top
  have a3 := le_fl h (show top < 2 ^ 53 by omega) hn
  have a4 := conv28 h (by omega)
  have a5 : (FloatKind.f64.format.order x (fl n) == some .eq) = true := by rw [eq_fl h (by omega)]; simp
  have a6 := floatOfInt_fl n
  go_enter Try.func66, Try.ntmps66
  go_wp2
  go_ret
  exact ⟨rfl, rfl⟩
theorem whole_no (x top : Nat) (h : ∀ n, n ≤ top → ¬ Is x n) (ht : top ≤ 65536) (w : World) : Calls Try.prog 66 #[.float .f64 x, .int .i64 top] w fun e w' => e = .returned (.bool false) ∧ w = w' := by
  by_cases a1 : (FloatKind.f64.format.order x 0 == some .gt || FloatKind.f64.format.order x 0 == some .eq) = true
  · have a2 := floatOfInt_fl top
    by_cases a3 : (FloatKind.f64.format.order x (fl top) == some .lt || FloatKind.f64.format.order x (fl top) == some .eq) = true
    · obtain ⟨t, t1, t2, t3⟩ := whole_of (x := x) is0 (is_fl top (by omega)) (by omega) a1 a3
      have a4 := fun w => run_convert_float_int (P := Try.prog) w 87 3 .f64 .i64 x t (by kernel_rfl) Try.underlying3 t2
      have a5 : (FloatKind.f64.format.order x (fl t) == some .eq) = false := by
        cases hc : (FloatKind.f64.format.order x (fl t) == some .eq) with
        | false => rfl
        | true => exact absurd (t3 _ (is_fl t (by omega)) hc) (h t t1)
      have a6 := floatOfInt_fl t
      clear t2 t3 h
      go_enter Try.func66, Try.ntmps66
      go_wp2
      go_ret
      exact ⟨rfl, rfl⟩
    · have a3 : (FloatKind.f64.format.order x (fl top) == some .lt || FloatKind.f64.format.order x (fl top) == some .eq) = false := by simpa using a3
      clear h
      go_enter Try.func66, Try.ntmps66
      go_wp2
      go_ret
      exact ⟨rfl, rfl⟩
  · have a1 : (FloatKind.f64.format.order x 0 == some .gt || FloatKind.f64.format.order x 0 == some .eq) = false := by simpa using a1
    clear h
    go_enter Try.func66, Try.ntmps66
    go_wp2
    go_ret
    exact ⟨rfl, rfl⟩
structure Sp (a b l p : Nat) : Prop where
  re : Is a l
  im : Is b p
  l16 : l ≤ 16
  p16 : p < 2 ^ (16 - l)
def No (a b : Nat) : Prop := ∀ l p, ¬ Sp a b l p
theorem whole_at {x n : Nat} (top : Nat) {t : Int} (h : Is x n) (hn : n ≤ top) (ht : top ≤ 65536) (w : World) (e : t = top) : Calls Try.prog 66 #[.float .f64 x, .int .i64 t] w fun e w' => e = .returned (.bool true) ∧ w = w' := by
  subst e; exact whole_yes x n top h hn ht w
theorem whole_not {x : Nat} (top : Nat) {t : Int} (h : ∀ n, n ≤ top → ¬ Is x n) (ht : top ≤ 65536) (w : World) (e : t = top) : Calls Try.prog 66 #[.float .f64 x, .int .i64 t] w fun e w' => e = .returned (.bool false) ∧ w = w' := by
  subst e; exact whole_no x top h ht w
theorem pow16 (n : Nat) (h : n ≤ 16) : 1 ≤ 2 ^ n ∧ 2 ^ n ≤ 65536 := ⟨Nat.one_le_two_pow, Nat.pow_le_pow_right (by omega) h⟩
theorem wrap_pow (n : Nat) (h : n ≤ 16) : wrap64 (wrap64 (2 ^ n) - 1) = ((2 ^ n - 1 : Nat) : Int) := by
  have e := pow16 n h
  have e1 : (2 : Int) ^ n = ((2 ^ n : Nat) : Int) := by push_cast; rfl
  rw [e1]; unfold wrap64; omega

set_option maxHeartbeats 400000 in
theorem right_yes {a b l p deep : Nat} (ha : Is a l) (hb : Is b p) (hl : l ≤ deep) (hd : deep ≤ 16) (hp : p < 2 ^ (deep - l)) (w : World) : Calls Try.prog 55 #[.complex .f64 a b, .int .i64 deep] w fun e w' => e = .returned (.bool true) ∧ w = w' := by
  have a4 := conv28 ha (by omega)
  have e1 : (deep : Int) - l = ((deep - l : Nat) : Int) := by omega
  have e2 := pow16 (deep - l) (by omega)
  go_enter Try.func55, Try.ntmps55
  go_wp2_with (first | (go_at_call 66; (with_reducible refine (whole_at deep ha hl (by omega) _ rfl).mono ?_); rintro e w' ⟨rfl, rfl⟩) | (go_at_call 66; (with_reducible refine (whole_at (2 ^ (deep - l) - 1) hb (by omega) (by omega) _ (wrap_pow _ (by omega))).mono ?_); rintro e w' ⟨rfl, rfl⟩))
  go_ret
  exact ⟨rfl, rfl⟩
set_option maxHeartbeats 400000 in
theorem right_no {a b deep : Nat} (h : ∀ l p, Is a l → Is b p → l ≤ deep → ¬ p < 2 ^ (deep - l)) (hd : deep ≤ 16) (w : World) : Calls Try.prog 55 #[.complex .f64 a b, .int .i64 deep] w fun e w' => e = .returned (.bool false) ∧ w = w' := by
  by_cases hl : ∃ l, l ≤ deep ∧ Is a l
  · obtain ⟨l, hl, ha⟩ := hl
    have a4 := conv28 ha (by omega)
    have e1 : (deep : Int) - l = ((deep - l : Nat) : Int) := by omega
    have e2 := pow16 (deep - l) (by omega)
    have hb := Lib.hid (fun p (hp : p ≤ 2 ^ (deep - l) - 1) (hb : Is b p) => h l p ha hb hl (by omega))
    clear h
    go_enter Try.func55, Try.ntmps55
    go_wp2_with (first | (go_at_call 66; (with_reducible refine (whole_at deep ha hl (by omega) _ rfl).mono ?_); rintro e w' ⟨rfl, rfl⟩) | (go_at_call 66; (with_reducible refine (whole_not (2 ^ (deep - l) - 1) hb.out (by omega) _ (wrap_pow _ (by omega))).mono ?_); rintro e w' ⟨rfl, rfl⟩))
    go_ret
    exact ⟨rfl, rfl⟩
  · have hb := Lib.hid (fun l (hl' : l ≤ deep) (ha : Is a l) => hl ⟨l, hl', ha⟩)
    clear h hl
    go_enter Try.func55, Try.ntmps55
    go_wp2_with (first | (go_at_call 66; (with_reducible refine (whole_not deep hb.out (by omega) _ rfl).mono ?_); rintro e w' ⟨rfl, rfl⟩))
    go_ret
    exact ⟨rfl, rfl⟩
theorem right_bad {a b : Nat} (deep : Int) (hd : deep < 0 ∨ 16 < deep) (w : World) : Calls Try.prog 55 #[.complex .f64 a b, .int .i64 deep] w fun e w' => e = .returned (.bool false) ∧ w = w' := by
  rcases hd with hd | hd
  · go_enter Try.func55, Try.ntmps55
    go_wp2
    go_ret
    exact ⟨rfl, rfl⟩
  · have h0 : ¬ deep < 0 := by omega
    go_enter Try.func55, Try.ntmps55
    go_wp2
    go_ret
    exact ⟨rfl, rfl⟩
theorem all_yes {a b l p : Nat} (h : Sp a b l p) (w : World) : Calls Try.prog 59 #[.complex .f64 a b] w fun e w' => e = .returned (.bool true) ∧ w = w' := by
  have H : ∀ w, Calls Try.prog 55 #[.complex .f64 a b, .int .i64 16] w fun e w' => e = .returned (.bool true) ∧ w = w' := right_yes (deep := 16) h.re h.im h.l16 (by omega) h.p16
  have H := Lib.hid H
  go_enter Try.func59, Try.ntmps59
  go_wp2_with (first | (go_at_call 55; (with_reducible refine (H.out _).mono ?_); rintro e w' ⟨rfl, rfl⟩))
  go_ret
  exact ⟨rfl, rfl⟩
theorem all_no {a b : Nat} (h : No a b) (w : World) : Calls Try.prog 59 #[.complex .f64 a b] w fun e w' => e = .returned (.bool false) ∧ w = w' := by
  have H : ∀ w, Calls Try.prog 55 #[.complex .f64 a b, .int .i64 16] w fun e w' => e = .returned (.bool false) ∧ w = w' := right_no (deep := 16) (fun l p ha hb hl hp => h l p ⟨ha, hb, hl, hp⟩) (by omega)
  have H := Lib.hid H
  clear h
  go_enter Try.func59, Try.ntmps59
  go_wp2_with (first | (go_at_call 55; (with_reducible refine (H.out _).mono ?_); rintro e w' ⟨rfl, rfl⟩))
  go_ret
  exact ⟨rfl, rfl⟩
theorem leaf_yes (i : Nat) (h : i < 65536) (w : World) : Calls Try.prog 57 #[.int .i64 i] w fun e w' => e = .returned (.bool true) ∧ w = w' := by
  have h1 : decide ((i : Int) < 65536) = true := by simp; omega
  clear h
  go_enter Try.func57, Try.ntmps57
  go_wp2
  go_ret
  exact ⟨rfl, rfl⟩
theorem leaf_no (i : Int) (h : i < 0 ∨ 65536 ≤ i) (w : World) : Calls Try.prog 57 #[.int .i64 i] w fun e w' => e = .returned (.bool false) ∧ w = w' := by
  rcases h with h | h
  · go_enter Try.func57, Try.ntmps57
    go_wp2
    go_ret
    exact ⟨rfl, rfl⟩
  · have h0 : 0 ≤ i := by omega
    have h1 : decide (i < 65536) = false := by simp; omega
    clear h
    go_enter Try.func57, Try.ntmps57
    go_wp2
    go_ret
    exact ⟨rfl, rfl⟩
end Go.Proofs.Ytllgdlfdmmdffaa
