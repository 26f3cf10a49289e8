/- Whole numbers among the floats: what comparisons, sums, products and conversions give of them. -/
import Derived.Laws.FloatArith
import Derived.Laws.ComplexArith
namespace Go.Proofs.Ytllgdlfdmmdffaa
open Ieee
set_option linter.unusedSimpArgs false
set_option linter.unusedVariables false

/-- The bits of a whole number. -/
def fl (n : Nat) : Nat := double.nearest false n 0
/-- x's bits say n. -/
def Is (x n : Nat) : Prop := ∃ (s : Bool) (d : Nat), double.read x = .number s (n * 2 ^ d) (-(d : Int)) ∧ (n ≠ 0 → s = false)

theorem log2_mul (n d : Nat) (h : 0 < n) : (n * 2 ^ d).log2 = n.log2 + d := by
  have h1 : 2 ^ n.log2 ≤ n := Nat.log2_self_le (by omega)
  have h2 : n < 2 ^ (n.log2 + 1) := Nat.lt_log2_self
  have hp : 0 < 2 ^ d := Nat.two_pow_pos d
  refine (Nat.log2_eq_iff (by have := Nat.mul_pos h hp; omega)).2 ⟨?_, ?_⟩
  · rw [Nat.pow_add]; exact Nat.mul_le_mul_right _ h1
  · rw [show n.log2 + d + 1 = (n.log2 + 1) + d by omega, Nat.pow_add]; exact (Nat.mul_lt_mul_right hp).2 h2

theorem cut_exact (s : Bool) (k drop : Nat) (h : drop ≤ (k * 2 ^ drop).log2 + 2) : Toward.even.cut s (k * 2 ^ drop) drop = k := by
  have hp : 0 < 2 ^ drop := Nat.two_pow_pos drop
  unfold Toward.cut
  simp only [Nat.min_eq_left h, Nat.one_shiftLeft, Nat.mul_div_cancel _ hp, Nat.mul_mod_left]
  have e1 : (decide (2 ^ drop < 2 * 0) || 2 ^ drop == 2 * 0 && k % 2 == 1) = false := by
    have : ¬ 2 ^ drop < 2 * 0 := by omega
    have h2 : (2 ^ drop == 2 * 0) = false := by rw [beq_eq_false_iff_ne]; omega
    rw [h2, decide_eq_false this]; rfl
  rw [e1]; rfl
theorem cut_zero (s : Bool) (n drop : Nat) : Toward.zero.cut s n drop = n / 2 ^ drop := by
  unfold Toward.cut
  simp only [Bool.toNat_false, Nat.add_zero, Nat.one_shiftLeft]
  by_cases h : drop ≤ n.log2 + 2
  · rw [Nat.min_eq_left h]
  · rw [Nat.min_eq_right (by omega)]
    have h2 : n < 2 ^ (n.log2 + 1) := Nat.lt_log2_self
    rw [Nat.div_eq_of_lt (Nat.lt_trans h2 (Nat.pow_lt_pow_right (by omega) (by omega))), Nat.div_eq_of_lt (Nat.lt_trans h2 (Nat.pow_lt_pow_right (by omega) (by omega)))]

theorem nearest_bits (n d : Nat) (h0 : 0 < n) (hn : n < 2 ^ 53) : double.nearest false (n * 2 ^ d) (-(d : Int)) = (n.log2 + 1022) * 2 ^ 52 + n * 2 ^ (52 - n.log2) := by
  have hL : n.log2 ≤ 52 := by have := (Nat.log2_lt (by omega)).2 hn; omega
  have hp : 0 < 2 ^ d := Nat.two_pow_pos d
  have hpos := Nat.mul_pos h0 hp
  have h1 : 2 ^ n.log2 ≤ n := Nat.log2_self_le (by omega)
  have h2 : n < 2 ^ (n.log2 + 1) := Nat.lt_log2_self
  have hK : n * 2 ^ (52 - n.log2) < 2 ^ 53 := by
    have := (Nat.mul_lt_mul_right (Nat.two_pow_pos (52 - n.log2))).2 h2
    rw [← Nat.pow_add, show n.log2 + 1 + (52 - n.log2) = 53 by omega] at this
    exact this
  unfold Format.nearest
  rw [if_neg (by omega)]
  have hl : max (-(d : Int) + ((n * 2 ^ d).log2 : Int) - (double.fractionBits : Int)) double.leastPlace = (n.log2 : Int) - 52 := by
    rw [log2_mul n d h0, show double.leastPlace = -1074 by decide, show (double.fractionBits : Int) = 52 by decide]
    omega
  simp only [hl]
  have hlp : double.leastPlace = -1074 := by decide
  have hcut : Toward.even.cut false ((n * 2 ^ d) <<< (-(d : Int) - ((n.log2 : Int) - 52)).toNat) ((n.log2 : Int) - 52 - -(d : Int)).toNat = n * 2 ^ (52 - n.log2) := by
    by_cases hc : d + n.log2 ≤ 52
    · rw [show (-(d : Int) - ((n.log2 : Int) - 52)).toNat = 52 - n.log2 - d by omega, show ((n.log2 : Int) - 52 - -(d : Int)).toNat = 0 by omega, Nat.shiftLeft_eq, Nat.mul_assoc, ← Nat.pow_add,
        show d + (52 - n.log2 - d) = 52 - n.log2 by omega]
      have := cut_exact false (n * 2 ^ (52 - n.log2)) 0 (by omega)
      simpa using this
    · rw [show (-(d : Int) - ((n.log2 : Int) - 52)).toNat = 0 by omega, show ((n.log2 : Int) - 52 - -(d : Int)).toNat = n.log2 + d - 52 by omega, Nat.shiftLeft_zero]
      have e : n * 2 ^ d = n * 2 ^ (52 - n.log2) * 2 ^ (n.log2 + d - 52) := by
        rw [Nat.mul_assoc, ← Nat.pow_add, show 52 - n.log2 + (n.log2 + d - 52) = d by omega]
      have hd := log2_mul n d h0
      rw [e] at hd ⊢
      exact cut_exact false _ _ (by omega)
  rw [hcut, hlp, show ((n.log2 : Int) - 52 - -1074).toNat = n.log2 + 1022 by omega]
  have hb : double.binade = 2 ^ 52 := rfl
  have hi : double.infRung = 2047 * 2 ^ 52 := rfl
  rw [hb, hi]
  unfold Format.word
  simp only [Bool.false_eq_true, if_false]
  refine Nat.min_eq_left ?_
  rw [show (2 : Nat) ^ 53 = 2 * 2 ^ 52 by decide] at hK
  generalize (2 : Nat) ^ 52 = b at *
  generalize n * 2 ^ (52 - n.log2) = K at *
  have := Nat.mul_le_mul_right b (show n.log2 + 1022 + 2 ≤ 2047 by omega)
  rw [Nat.add_mul] at this
  omega

theorem read_gen (L K b : Nat) (hL : L ≤ 52) (h1 : b ≤ K) (h2 : K < 2 * b) (hs : double.signWeight = 2048 * b) (hb : double.binade = b) (hi : double.infRung = 2047 * b) : double.read ((L + 1022) * b + K) = .number false K ((L : Int) - 52) := by
  have hlp : double.leastPlace = -1074 := by decide
  have e : (L + 1022) * b + K = (K - b) + b * (L + 1023) := by rw [show L + 1023 = (L + 1022) + 1 by omega, Nat.mul_add, Nat.mul_comm b]; omega
  have hm := Nat.mul_le_mul_right b (show L + 1022 + 2 ≤ 1076 by omega)
  rw [Nat.add_mul] at hm
  have hlt : (L + 1022) * b + K < 2048 * b := by omega
  have hlo := Nat.mul_le_mul_right b (show 1022 ≤ L + 1022 by omega)
  unfold Format.read
  rw [hs, hb, hi, hlp]
  simp only [Nat.mod_eq_of_lt hlt, Nat.div_eq_of_lt hlt]
  rw [if_neg (by omega), if_pos (by omega)]
  have em : ((L + 1022) * b + K) % b = K - b := by rw [e, Nat.add_mul_mod_self_left, Nat.mod_eq_of_lt (by omega)]
  have ed : ((L + 1022) * b + K) / b = L + 1023 := by rw [e, Nat.add_mul_div_left _ _ (by omega), Nat.div_eq_of_lt (by omega)]; omega
  rw [em, ed, show b + (K - b) = K by omega, show (-1074 : Int) + ((L + 1023 - 1 : Nat) : Int) = (L : Int) - 52 by omega]
  simp
theorem read_bits (L K : Nat) (hL : L ≤ 52) (h1 : 2 ^ 52 ≤ K) (h2 : K < 2 ^ 53) : double.read ((L + 1022) * 2 ^ 52 + K) = .number false K ((L : Int) - 52) :=
  read_gen L K (2 ^ 52) hL h1 (by rw [show (2 : Nat) ^ 53 = 2 * 2 ^ 52 by decide] at h2; exact h2) (by decide) (by decide) (by decide)

theorem is_write (n d : Nat) (s : Bool) (hn : n < 2 ^ 53) (hs : n ≠ 0 → s = false) : Is (double.nearest s (n * 2 ^ d) (-(d : Int))) n := by
  by_cases h0 : n = 0
  · subst h0
    refine ⟨s, 1074, ?_, fun h => absurd rfl h⟩
    simp only [Nat.zero_mul]
    unfold Format.nearest
    rw [if_pos rfl]
    cases s <;> decide +kernel
  · obtain rfl := hs h0
    have h1 : 2 ^ n.log2 ≤ n := Nat.log2_self_le (by omega)
    have h2 : n < 2 ^ (n.log2 + 1) := Nat.lt_log2_self
    have hL : n.log2 ≤ 52 := by have := (Nat.log2_lt h0).2 hn; omega
    rw [nearest_bits n d (by omega) hn]
    refine ⟨false, 52 - n.log2, ?_, fun _ => rfl⟩
    rw [read_bits n.log2 _ hL ?_ ?_]
    · congr 1; omega
    · have := Nat.mul_le_mul_right (2 ^ (52 - n.log2)) h1
      rw [← Nat.pow_add, show n.log2 + (52 - n.log2) = 52 by omega] at this
      exact this
    · have := (Nat.mul_lt_mul_right (Nat.two_pow_pos (52 - n.log2))).2 h2
      rw [← Nat.pow_add, show n.log2 + 1 + (52 - n.log2) = 53 by omega] at this
      exact this
theorem is_fl (n : Nat) (hn : n < 2 ^ 53) : Is (fl n) n := by
  have := is_write n 0 false hn (fun _ => rfl)
  simpa [fl] using this
theorem nearest_fl (n d : Nat) (h0 : 0 < n) (hn : n < 2 ^ 53) : double.nearest false (n * 2 ^ d) (-(d : Int)) = fl n := by
  rw [nearest_bits n d h0 hn]
  have := nearest_bits n 0 h0 hn
  simp only [Nat.pow_zero, Nat.mul_one] at this
  unfold fl
  exact this.symm
theorem floatOfInt_fl (n : Nat) : floatOfInt .f64 (n : Int) = fl n := by
  unfold floatOfInt FloatKind.nearest FloatKind.encode fl
  simp only [FloatKind.format, Format.write]
  congr 1

theorem signed_is {s : Bool} {n : Nat} (h : n ≠ 0 → s = false) (d k : Nat) : signed s (n * 2 ^ d) k = (n : Int) * 2 ^ (d + k) := by
  unfold signed
  rw [Nat.shiftLeft_eq, Nat.mul_assoc, ← Nat.pow_add]
  by_cases h0 : n = 0
  · subst h0; simp
  · rw [h h0]; simp
theorem compare_scaled (a b : Int) (k : Nat) : compare (a * 2 ^ k) (b * 2 ^ k) = compare a b := by
  have hp : (0 : Int) < 2 ^ k := by exact_mod_cast Nat.two_pow_pos k
  have h1 : a * 2 ^ k < b * 2 ^ k ↔ a < b := Int.mul_lt_mul_right hp
  have h2 : b * 2 ^ k < a * 2 ^ k ↔ b < a := Int.mul_lt_mul_right hp
  simp only [compare, compareOfLessAndEq]
  by_cases l : a < b
  · rw [if_pos l, if_pos (h1.2 l)]
  · rw [if_neg l, if_neg (fun h => l (h1.1 h))]
    by_cases e : a = b
    · subst e; simp
    · rw [if_neg e, if_neg (fun h => by have := h2.2 (by omega); omega)]
theorem order_is {x y n m : Nat} (hx : Is x n) (hy : Is y m) : double.order x y = some (compare (n : Int) (m : Int)) := by
  obtain ⟨s, d, hx, hs⟩ := hx
  obtain ⟨t, e, hy, ht⟩ := hy
  unfold Format.order
  rw [hx, hy]
  simp only [Datum.order]
  rw [signed_is hs, signed_is ht]
  have e1 : d + (-(d : Int) - min (-(d : Int)) (-(e : Int))).toNat = max d e := by omega
  have e2 : e + (-(e : Int) - min (-(d : Int)) (-(e : Int))).toNat = max d e := by omega
  rw [e1, e2, compare_scaled]
theorem order_lt {x y n m : Nat} (hx : Is x n) (hy : Is y m) : (double.order x y == some .lt) = decide (n < m) := by
  rw [order_is hx hy]
  simp only [compare, compareOfLessAndEq]
  by_cases h : n < m
  · rw [if_pos (by omega)]; simp [h]
  · rw [if_neg (by omega)]; split <;> simp [h]
theorem order_gt {x y n m : Nat} (hx : Is x n) (hy : Is y m) : (double.order x y == some .gt) = decide (m < n) := by
  rw [order_is hx hy]
  simp only [compare, compareOfLessAndEq]
  by_cases h : n < m
  · rw [if_pos (by omega)]; simp; omega
  · rw [if_neg (by omega)]; split
    · simp; omega
    · simp; omega
theorem order_eq {x y n m : Nat} (hx : Is x n) (hy : Is y m) : (double.order x y == some .eq) = decide (n = m) := by
  rw [order_is hx hy]
  simp only [compare, compareOfLessAndEq]
  by_cases h : n < m
  · rw [if_pos (by omega)]; simp; omega
  · rw [if_neg (by omega)]; split
    · simp; omega
    · simp; omega

theorem sum_is {x y n m : Nat} (hx : Is x n) (hy : Is y m) (hn : n + m < 2 ^ 53) : ∃ r, double.add x y = some r ∧ Is r (n + m) := by
  obtain ⟨s, d, hx, hs⟩ := hx
  obtain ⟨t, e, hy, ht⟩ := hy
  unfold Format.add
  rw [hx, hy]
  simp only [Datum.sum, Option.map_some, Format.write]
  rw [signed_is hs, signed_is ht]
  have e1 : d + (-(d : Int) - min (-(d : Int)) (-(e : Int))).toNat = max d e := by omega
  have e2 : e + (-(e : Int) - min (-(d : Int)) (-(e : Int))).toNat = max d e := by omega
  rw [e1, e2]
  refine ⟨_, rfl, ?_⟩
  have e3 : (n : Int) * 2 ^ max d e + (m : Int) * 2 ^ max d e = ((n + m) * 2 ^ max d e : Nat) := by push_cast; rw [Int.add_mul]
  rw [e3]
  have e4 : min (-(d : Int)) (-(e : Int)) = -((max d e : Nat) : Int) := by omega
  rw [e4, Int.natAbs_natCast]
  refine is_write (n + m) (max d e) _ hn fun h => ?_
  rw [if_neg (by have := Nat.mul_pos (show 0 < n + m by omega) (Nat.two_pow_pos (max d e)); omega)]
  exact decide_eq_false (by omega)
theorem sub_is {x y n m : Nat} (hx : Is x n) (hy : Is y m) (h : m ≤ n) (hn : n < 2 ^ 53) : ∃ r, double.sub x y = some r ∧ Is r (n - m) := by
  obtain ⟨s, d, hx, hs⟩ := hx
  obtain ⟨t, e, hy, ht⟩ := hy
  unfold Format.sub
  rw [hx, hy]
  simp only [Datum.opposite, Datum.sum, Option.map_some, Format.write]
  have e0 : signed (!t) (m * 2 ^ e) (-(e : Int) - min (-(d : Int)) (-(e : Int))).toNat = -signed t (m * 2 ^ e) (-(e : Int) - min (-(d : Int)) (-(e : Int))).toNat := by
    unfold signed; cases t <;> simp
  rw [e0, signed_is hs, signed_is ht]
  have e1 : d + (-(d : Int) - min (-(d : Int)) (-(e : Int))).toNat = max d e := by omega
  have e2 : e + (-(e : Int) - min (-(d : Int)) (-(e : Int))).toNat = max d e := by omega
  rw [e1, e2]
  refine ⟨_, rfl, ?_⟩
  have e3 : (n : Int) * 2 ^ max d e + -((m : Int) * 2 ^ max d e) = ((n - m) * 2 ^ max d e : Nat) := by push_cast [h]; rw [Int.sub_mul]; omega
  rw [e3]
  have e4 : min (-(d : Int)) (-(e : Int)) = -((max d e : Nat) : Int) := by omega
  rw [e4, Int.natAbs_natCast]
  refine is_write (n - m) (max d e) _ (by omega) fun h => ?_
  rw [if_neg (by have := Nat.mul_pos (show 0 < n - m by omega) (Nat.two_pow_pos (max d e)); omega)]
  exact decide_eq_false (by omega)
theorem mul_is {x y n m : Nat} (hx : Is x n) (hy : Is y m) (hn : n * m < 2 ^ 53) : ∃ r, double.mul x y = some r ∧ Is r (n * m) := by
  obtain ⟨s, d, hx, hs⟩ := hx
  obtain ⟨t, e, hy, ht⟩ := hy
  unfold Format.mul
  rw [hx, hy]
  simp only [Datum.product, Option.map_some, Format.write]
  refine ⟨_, rfl, ?_⟩
  rw [show n * 2 ^ d * (m * 2 ^ e) = (n * m) * 2 ^ (d + e) by rw [Nat.pow_add]; ac_rfl, show -(d : Int) + -(e : Int) = -((d + e : Nat) : Int) by omega]
  refine is_write (n * m) (d + e) _ hn fun h => ?_
  rw [hs (fun h' => h (by rw [h', Nat.zero_mul])), ht (fun h' => h (by rw [h', Nat.mul_zero]))]
  rfl
theorem is_unique {x n m : Nat} (h : Is x n) (k : Is x m) : n = m := by
  have h1 := order_eq h k
  have h2 := order_eq k k
  rw [order_is h k] at h1
  obtain ⟨s, d, h, _⟩ := h
  obtain ⟨t, e, k, _⟩ := k
  rw [h] at k
  injection k with _ k1 k2
  obtain rfl : d = e := by omega
  exact Nat.eq_of_mul_eq_mul_right (Nat.two_pow_pos d) k1
theorem i64_fits (t : Nat) (h : t < 2 ^ 53) : IntKind.i64.min ≤ (t : Int) ∧ (t : Int) ≤ IntKind.i64.max := by
  have h1 : IntKind.i64.min = -9223372036854775808 := by decide
  have h2 : IntKind.i64.max = 9223372036854775807 := by decide
  rw [h1, h2]; omega
theorem toInt_is {x n : Nat} (h : Is x n) (hn : n < 2 ^ 53) : floatToIntVal .f64 x .i64 = some n := by
  obtain ⟨s, d, h, hs⟩ := h
  unfold floatToIntVal FloatKind.decode FloatKind.format
  simp only [h, Datum.toInt, Datum.integral]
  have e1 : (-(d : Int)).toNat = 0 := by omega
  have e2 : (- -(d : Int)).toNat = d := by omega
  rw [e1, e2, Nat.shiftLeft_zero, cut_zero, Nat.mul_div_cancel _ (Nat.two_pow_pos d)]
  have := signed_is hs 0 0
  simp only [Nat.pow_zero, Nat.mul_one, Nat.add_zero, Int.pow_zero, Int.mul_one] at this
  simp only [this]
  exact if_pos (i64_fits n hn)

theorem read_number {x : Nat} {s : Bool} {m : Nat} {e : Int} (h : double.read x = .number s m e) : -1074 ≤ e ∧ m < 2 ^ 53 ∧ (e = -1074 ∨ 2 ^ 52 ≤ m) := by
  have hb : double.binade = 2 ^ 52 := rfl
  have hlp : double.leastPlace = -1074 := by decide
  unfold Format.read at h
  simp only [hb, hlp] at h
  split at h
  · injection h with _ h1 h2
    omega
  · split at h
    · injection h with _ h1 h2
      have := Nat.mod_lt (x % double.signWeight) (Nat.two_pow_pos 52)
      omega
    · split at h <;> cases h

theorem le_of_scaled {a b k : Nat} (h : ((a : Int) * 2 ^ k) ≤ (b : Int) * 2 ^ k) : a ≤ b := by
  have hp : (0 : Int) < 2 ^ k := by exact_mod_cast Nat.two_pow_pos k
  have := Int.le_of_mul_le_mul_right h hp
  omega
/-- What lies between nothing and a bound is cut to a whole number; where that is it, x says it. -/
theorem whole_of {x z y top : Nat} (hz : Is z 0) (hy : Is y top) (ht : top < 2 ^ 53) (h0 : (double.order x z == some .gt || double.order x z == some .eq) = true) (h1 : (double.order x y == some .lt || double.order x y == some .eq) = true) :
    ∃ t, t ≤ top ∧ floatToIntVal .f64 x .i64 = some (t : Int) ∧ ∀ v, Is v t → (double.order x v == some .eq) = true → Is x t := by
  obtain ⟨s0, d0, hz, hs0⟩ := hz
  obtain ⟨s1, d1, hy, hs1⟩ := hy
  unfold Format.order at h0 h1
  rw [hz] at h0
  rw [hy] at h1
  cases hx : double.read x with
  | nan s f => rw [hx] at h0; simp [Datum.order] at h0
  | infinity s =>
    rw [hx] at h0 h1
    cases s <;> simp [Datum.order] at h0 h1
  | number s m e =>
    obtain ⟨b1, b2, b3⟩ := read_number hx
    rw [hx] at h0 h1
    by_cases hm : m = 0
    · subst hm
      obtain rfl : e = -1074 := by omega
      obtain ⟨D, hD⟩ : ∃ D : Nat, (-1074 : Int) = -(D : Int) := ⟨1074, rfl⟩
      have hi : Is x 0 := ⟨s, D, by rw [hx, Nat.zero_mul, hD], fun h => absurd rfl h⟩
      exact ⟨0, Nat.zero_le _, toInt_is hi (by omega), fun v _ _ => hi⟩
    · have hsf : s = false := by
        cases s with
        | false => rfl
        | true =>
          simp only [Datum.order, Nat.zero_mul, signed_is (n := 0) (fun h => absurd rfl h)] at h0
          have : signed true m (e - min e (-(d0 : Int))).toNat < 0 := by
            unfold signed
            rw [if_pos rfl, Nat.shiftLeft_eq]
            have := Nat.mul_pos (show 0 < m by omega) (Nat.two_pow_pos (e - min e (-(d0 : Int))).toNat)
            omega
          have hz0 : signed s0 0 (-(d0 : Int) - min e (-(d0 : Int))).toNat = 0 := by unfold signed; simp
          rw [hz0] at h0
          simp only [compare, compareOfLessAndEq] at h0
          rw [if_pos this] at h0
          simp at h0
      subst hsf
      have hle : signed false m (e - min e (-(d1 : Int))).toNat ≤ signed s1 (top * 2 ^ d1) (-(d1 : Int) - min e (-(d1 : Int))).toNat := by
        simp only [Datum.order, compare, compareOfLessAndEq] at h1
        split at h1
        · omega
        · split at h1
          · omega
          · simp at h1
      rw [signed_is hs1] at hle
      by_cases he : e ≤ 0
      · obtain ⟨k, hk⟩ : ∃ k : Nat, e = -(k : Int) := ⟨(-e).toNat, by omega⟩
        subst hk
        have hm1 : ∀ j : Nat, signed false m j = (m : Int) * 2 ^ j := by
          intro j; unfold signed; rw [Nat.shiftLeft_eq]; simp
        rw [hm1] at hle
        have e1 : (-(k : Int) - min (-(k : Int)) (-(d1 : Int))).toNat = max k d1 - k := by omega
        have e2 : d1 + (-(d1 : Int) - min (-(k : Int)) (-(d1 : Int))).toNat = k + (max k d1 - k) := by omega
        rw [e1, e2, Int.pow_add, ← Int.mul_assoc] at hle
        have hle2 : m ≤ top * 2 ^ k := by
          refine le_of_scaled (k := max k d1 - k) ?_
          push_cast
          exact hle
        have ht1 : m / 2 ^ k ≤ top := Nat.div_le_of_le_mul (by rw [Nat.mul_comm]; exact hle2)
        refine ⟨m / 2 ^ k, ht1, ?_, ?_⟩
        · unfold floatToIntVal FloatKind.decode FloatKind.format
          simp only [hx, Datum.toInt, Datum.integral]
          have f1 : (-(k : Int)).toNat = 0 := by omega
          have f2 : (- -(k : Int)).toNat = k := by omega
          rw [f1, f2, Nat.shiftLeft_zero, cut_zero]
          have : signed false (m / 2 ^ k) 0 = ((m / 2 ^ k : Nat) : Int) := by unfold signed; simp
          simp only [this]
          exact if_pos (i64_fits _ (by omega))
        · intro v hv ho
          obtain ⟨s2, d2, hv, hs2⟩ := hv
          unfold Format.order at ho
          rw [hx, hv] at ho
          simp only [Datum.order, signed_is hs2, hm1] at ho
          have g1 : (-(k : Int) - min (-(k : Int)) (-(d2 : Int))).toNat = max k d2 - k := by omega
          have g2 : d2 + (-(d2 : Int) - min (-(k : Int)) (-(d2 : Int))).toNat = k + (max k d2 - k) := by omega
          rw [g1, g2, Int.pow_add, ← Int.mul_assoc] at ho
          have he2 : (m : Int) * 2 ^ (max k d2 - k) = ((m / 2 ^ k : Nat) : Int) * 2 ^ k * 2 ^ (max k d2 - k) := by
            simp only [compare, compareOfLessAndEq] at ho
            split at ho
            · simp at ho
            · split at ho
              · assumption
              · simp at ho
          have hm2 : m = m / 2 ^ k * 2 ^ k := by
            have l1 : m ≤ m / 2 ^ k * 2 ^ k := le_of_scaled (k := max k d2 - k) (by push_cast; push_cast at he2; omega)
            have l2 : m / 2 ^ k * 2 ^ k ≤ m := Nat.div_mul_le_self _ _
            omega
          exact ⟨false, k, by rw [← hm2]; exact hx, fun _ => rfl⟩
      · exfalso
        have hm1 : ∀ j : Nat, signed false m j = (m : Int) * 2 ^ j := by
          intro j; unfold signed; rw [Nat.shiftLeft_eq]; simp
        rw [hm1] at hle
        obtain ⟨k, hk⟩ : ∃ k : Nat, e = ((k + 1 : Nat) : Int) := ⟨e.toNat - 1, by omega⟩
        subst hk
        have e1 : (((k + 1 : Nat) : Int) - min ((k + 1 : Nat) : Int) (-(d1 : Int))).toNat = (k + 1) + d1 := by omega
        have e2 : d1 + (-(d1 : Int) - min ((k + 1 : Nat) : Int) (-(d1 : Int))).toNat = d1 := by omega
        rw [e1, e2, Int.pow_add, ← Int.mul_assoc] at hle
        have hle2 : m * 2 ^ (k + 1) ≤ top := by
          refine le_of_scaled (k := d1) ?_
          push_cast
          exact hle
        have : m * 2 ≤ m * 2 ^ (k + 1) := Nat.mul_le_mul_left _ (by rw [Nat.pow_succ]; have := Nat.two_pow_pos k; omega)
        omega
end Go.Proofs.Ytllgdlfdmmdffaa
