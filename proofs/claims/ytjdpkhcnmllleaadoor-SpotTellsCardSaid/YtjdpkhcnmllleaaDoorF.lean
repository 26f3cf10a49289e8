/- The live question, walked; and the law on numbers. -/
import Derived.Test.YtjdpkhcnmllleaaDoorE
namespace Go.Proofs.YtjdpkhcnmllleaaDoor
open Go.ChangeShapes Go.WideShapes Go.ChangeAt Go.RowKit
set_option linter.unusedSimpArgs false
set_option linter.unusedVariables false

theorem no_of {a b l p : Nat} (ha : Is a l) (hb : Is b p) (h : ¬ (l ≤ 16 ∧ p < 2 ^ (16 - l))) : No a b := by
  intro l' p' hs
  have e1 := is_unique ha hs.re
  have e2 := is_unique hb hs.im
  subst e1; subst e2
  exact h ⟨hs.l16, hs.p16⟩
theorem head9 (w : World) (hT : Tab w) : Calls Tryd.prog 9 #[] w fun e w' => e = .returned (.bool true) ∧ Below w.heap.size w w' := by
  have H10 : Hid (∀ w, Calls Tryd.prog 10 #[.complex .f64 4607182418800017408 4611686018427387904] w fun e w' => e = .returned (.int .i64 9) ∧ w = w') := Lib.hid (index_yes (l := 1) (p := 2) ⟨is1, is2, by omega, by omega⟩)
  have H11 : Hid (Calls Tryd.prog 11 #[.int .i64 7] w fun e w' => e = .returned (.complex .f64 (fl 3) (fl 0)) ∧ w = w') := Lib.hid (at_yes 7 3 0 (by omega) (by omega) w hT)
  have H13 : Hid (∀ w, Calls Tryd.prog 13 #[.int .i64 4, .int .i64 6] w fun e w' => e = .returned (.complex .f64 (fl 2) (fl 1)) ∧ w = w') := Lib.hid (fun w => by
    have := meet_yes 4 6 (by omega) (by omega) w
    rwa [show bl (4 ^^^ 6) = 2 by decide +kernel] at this)
  have HR1 : Hid (∀ w, Calls Tryd.prog 19 #[.complex .f64 4607182418800017408 4607182418800017408, .int .i64 2] w fun e w' => e = .returned (.bool true) ∧ w = w') := Lib.hid (right_yes (deep := 2) is1 is1 (by omega) (by omega) (by omega))
  have HR2 : Hid (∀ w, Calls Tryd.prog 19 #[.complex .f64 4607182418800017408 4611686018427387904, .int .i64 2] w fun e w' => e = .returned (.bool false) ∧ w = w') := Lib.hid (right_no (deep := 2) (fun l p ha hb hl hp => by
    have e1 := is_unique is1 ha
    have e2 := is_unique is2 hb
    subst e1; subst e2
    omega) (by omega))
  have HP : Hid (Calls Tryd.prog 12 #[.int .i64 0, .int .i64 3] w fun e w' => ∃ a c, e = .returned (.slice a 3 c) ∧ Below w.heap.size w w') := Lib.hid ((path12 0 3 (by omega) (by omega) w).mono fun e w' ⟨v, xs, he, _, _, ho, hb⟩ => by
    rcases ho.2 with ⟨_, h0⟩ | ⟨g, cap, cur, rfl, _⟩
    · cases h0
    · exact ⟨_, _, he, hb⟩)
  have q1 : (FloatKind.f64.format.order (fl 3) 4613937818241073152 == some .eq) = true := by decide +kernel
  have q2 : (FloatKind.f64.format.order (fl 0) 0 == some .eq) = true := by decide +kernel
  have q3 : (FloatKind.f64.format.order (fl 2) 4611686018427387904 == some .eq) = true := by decide +kernel
  have q4 : (FloatKind.f64.format.order (fl 1) 4607182418800017408 == some .eq) = true := by decide +kernel
  go_enter Tryd.func9, Tryd.ntmps9
  go_wp2_with (first | (go_at_call 10; (with_reducible refine (H10.out _).mono ?_); rintro e w' ⟨rfl, rfl⟩) | (go_at_call 11; (with_reducible refine (H11.out).mono ?_); rintro e w' ⟨rfl, rfl⟩) | (go_at_call 13; (with_reducible refine (H13.out _).mono ?_); rintro e w' ⟨rfl, rfl⟩) | (go_at_call 19; (with_reducible refine (HR1.out _).mono ?_); rintro e w' ⟨rfl, rfl⟩) | (go_at_call 19; (with_reducible refine (HR2.out _).mono ?_); rintro e w' ⟨rfl, rfl⟩) | (go_at_call 12; (with_reducible refine (HP.out).mono ?_); rintro e w1 ⟨a, c, rfl, hb⟩))
  go_ret
  exact ⟨rfl, hb⟩
theorem parts (n : Nat) (h : 0 < n) : ∃ l p, n = (2 * p + 1) * 2 ^ l := by
  induction n using Nat.strongRecOn with
  | _ n ih =>
    by_cases h2 : n % 2 = 1
    · exact ⟨0, n / 2, by omega⟩
    · obtain ⟨l, p, e⟩ := ih (n / 2) (by omega) (by omega)
      exact ⟨l + 1, p, by rw [Nat.pow_succ, ← Nat.mul_assoc, ← e]; omega⟩
theorem l_of (i l p : Nat) (h : i + 1 = (2 * p + 1) * 2 ^ l) (hi : i < 131071) : l ≤ 16 ∧ p < 2 ^ (16 - l) := by
  have hl : l ≤ 16 := by
    refine Decidable.byContradiction fun hc => ?_
    have h1 : 2 ^ 17 ≤ 2 ^ l := Nat.pow_le_pow_right (by omega) (by omega)
    have h2 : 2 ^ l ≤ (2 * p + 1) * 2 ^ l := Nat.le_mul_of_pos_left _ (by omega)
    omega
  refine ⟨hl, Decidable.byContradiction fun hc => ?_⟩
  have h1 := Nat.mul_le_mul_right (2 ^ l) (show 2 * 2 ^ (16 - l) + 1 ≤ 2 * p + 1 by omega)
  rw [Nat.add_mul, Nat.mul_assoc, ← Nat.pow_add, show 16 - l + l = 16 by omega] at h1
  have := Nat.two_pow_pos l
  omega
theorem sp_fl (l p : Nat) (hl : l ≤ 16) (hp : p < 2 ^ (16 - l)) : Sp (fl l) (fl p) l p := ⟨is_fl l (by omega), is_fl p (by have := pow16 (16 - l) (by omega); omega), hl, hp⟩
theorem shl_mod (z d : Nat) (hd : d ≤ 16) : ∃ M q : Nat, 1 ≤ M ∧ M ≤ 65536 ∧ wrap64 (2 ^ d) = (M : Int) ∧ (z : Int) % (M : Int) = (q : Int) ∧ q < 2 ^ d ∧ q = z % 2 ^ d := by
  have h := pow16 d hd
  refine ⟨2 ^ d, z % 2 ^ d, h.1, h.2, ?_, (Int.natCast_emod _ _).symm, Nat.mod_lt _ (by omega), rfl⟩
  have e1 : (2 : Int) ^ d = ((2 ^ d : Nat) : Int) := by push_cast; rfl
  rw [e1]; unfold wrap64; omega
theorem index_is {a b l p i : Nat} (h : Sp a b l p) (e : i + 1 = (2 * p + 1) * 2 ^ l) (w : World) : Calls Tryd.prog 10 #[.complex .f64 a b] w fun e w' => e = .returned (.int .i64 i) ∧ w = w' := by
  obtain rfl : i = (2 * p + 1) * 2 ^ l - 1 := by omega
  exact index_yes h w
theorem ind_ex (q L : Nat) (hq : q < 2 ^ (16 - L)) (hL : L ≤ 16) : ∃ j, j + 1 = (2 * q + 1) * 2 ^ L ∧ j < 131071 := by
  have h0 := Nat.mul_pos (show 0 < 2 * q + 1 by omega) (Nat.two_pow_pos L)
  refine ⟨(2 * q + 1) * 2 ^ L - 1, by omega, ?_⟩
  have h1 := Nat.mul_le_mul_right (2 ^ L) (show 2 * q + 1 + 1 ≤ 2 * 2 ^ (16 - L) by omega)
  rw [Nat.mul_assoc, ← Nat.pow_add, show 16 - L + L = 16 by omega, Nat.add_mul] at h1
  have := Nat.two_pow_pos L
  omega
theorem eq_self (n : Nat) (h : n < 2 ^ 53) : (FloatKind.f64.format.order (fl n) (fl n) == some .eq) = true := by rw [eq_fl (is_fl n h) h]; simp
theorem parity {j q L : Nat} (h : j + 1 = (2 * q + 1) * 2 ^ L) : ((j : Int) % 2 == 0) = ((L : Int) == 0) := by
  cases L with
  | zero => simp at h; rw [Bool.eq_iff_iff]; simp; omega
  | succ k =>
    rw [Nat.pow_succ, ← Nat.mul_assoc] at h
    generalize (2 * q + 1) * 2 ^ k = m at h
    rw [Bool.eq_iff_iff]; simp; omega
end Go.Proofs.YtjdpkhcnmllleaaDoor
