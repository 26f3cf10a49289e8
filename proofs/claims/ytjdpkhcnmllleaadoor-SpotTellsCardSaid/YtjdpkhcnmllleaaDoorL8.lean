/- The law on meetings, walked. -/
import Derived.Test.YtjdpkhcnmllleaaDoorL5
namespace Go.Proofs.YtjdpkhcnmllleaaDoor
open Go.ChangeShapes Go.WideShapes Go.ChangeAt Go.RowKit
set_option linter.unusedSimpArgs false
set_option linter.unusedVariables false

theorem xor_div (x y k : Nat) : (x ^^^ y) / 2 ^ k = x / 2 ^ k ^^^ y / 2 ^ k := by
  rw [← Nat.shiftRight_eq_div_pow, ← Nat.shiftRight_eq_div_pow, ← Nat.shiftRight_eq_div_pow, Nat.shiftRight_xor_distrib]
theorem xor_zero_eq {x y : Nat} (h : x ^^^ y = 0) : x = y := by
  have e : x = (x ^^^ y) ^^^ y := by rw [Nat.xor_assoc, Nat.xor_self, Nat.xor_zero]
  rw [h, Nat.zero_xor] at e; exact e
theorem bl_lt (x : Nat) : x / 2 ^ bl x = 0 := by
  unfold bl
  by_cases h : x = 0
  · subst h; simp
  · rw [if_neg h]; exact Nat.div_eq_of_lt Nat.lt_log2_self
theorem bl_one (x : Nat) (h : x ≠ 0) : x / 2 ^ (bl x - 1) = 1 := by
  unfold bl
  rw [if_neg h, Nat.add_sub_cancel]
  have h1 : 2 ^ x.log2 ≤ x := Nat.log2_self_le h
  have h2 : x < 2 ^ (x.log2 + 1) := Nat.lt_log2_self
  rw [Nat.pow_succ] at h2
  exact Nat.div_eq_of_lt_le (by omega) (by omega)
theorem meets_one (x y : Nat) : y / 2 ^ bl (x ^^^ y) = x / 2 ^ bl (x ^^^ y) := by
  have h := bl_lt (x ^^^ y)
  rw [xor_div] at h
  exact (xor_zero_eq h).symm
theorem meets_two (x y : Nat) (h : x < y) : x / 2 ^ (bl (x ^^^ y) - 1) = 2 * (x / 2 ^ bl (x ^^^ y)) ∧ y / 2 ^ (bl (x ^^^ y) - 1) = 2 * (x / 2 ^ bl (x ^^^ y)) + 1 ∧ 1 ≤ bl (x ^^^ y) := by
  have hne : x ^^^ y ≠ 0 := fun e => by have := xor_zero_eq e; omega
  have h1 := bl_one (x ^^^ y) hne
  have h2 := meets_one x y
  have hL : 1 ≤ bl (x ^^^ y) := by unfold bl; rw [if_neg hne]; omega
  rw [xor_div] at h1
  obtain ⟨m, hm⟩ : ∃ m, bl (x ^^^ y) = m + 1 := ⟨bl (x ^^^ y) - 1, by omega⟩
  rw [hm] at h1 h2 ⊢
  simp only [Nat.add_sub_cancel] at h1 ⊢
  rw [Nat.pow_succ, ← Nat.div_div_eq_div_mul, ← Nat.div_div_eq_div_mul] at h2
  rw [Nat.pow_succ, ← Nat.div_div_eq_div_mul]
  have h3 : x / 2 ^ m ≤ y / 2 ^ m := Nat.div_le_div_right (by omega)
  generalize x / 2 ^ m = a at *
  generalize y / 2 ^ m = b at *
  have h4 : a = sib b := by
    rw [← sib_xor, ← h1, Nat.xor_comm b, Nat.xor_assoc, Nat.xor_self, Nat.xor_zero]
  unfold sib at h4
  omega
theorem meet_sp (x y : Nat) (hx : x < 65536) (hy : y < 65536) : Sp (fl (bl (x ^^^ y))) (fl (x / 2 ^ bl (x ^^^ y))) (bl (x ^^^ y)) (x / 2 ^ bl (x ^^^ y)) := by
  have h2 : x ^^^ y < 65536 := Nat.xor_lt_two_pow (n := 16) hx hy
  have h := bl_le _ h2
  refine sp_fl _ _ h ?_
  rw [Nat.div_lt_iff_lt_mul (Nat.two_pow_pos _), ← Nat.pow_add, show 16 - bl (x ^^^ y) + bl (x ^^^ y) = 16 by omega]
  exact hx
theorem over_at {a b l p : Nat} (i : Nat) (h : Sp a b l p) (hi : i < 65536) (e : i / 2 ^ l = p) (w : World) : Calls Tryd.prog 17 #[.complex .f64 a b, .int .i64 i] w fun e w' => e = .returned (.bool true) ∧ w = w' := by
  have := over_yes i h hi w; rwa [decide_eq_true e] at this

set_option maxHeartbeats 2000000 in
theorem meets8 (x y : Nat) (hx : x < 65536) (hy : y < 65536) (w : World) (hT : Tab w) : Calls Tryd.prog 8 #[.int .u16 x, .int .u16 y] w fun e w' => e = .returned (.bool true) ∧ Below w.heap.size w w' := by
  have hsp := meet_sp x y hx hy
  have h1 := meets_one x y
  have H1 : ∀ w, Calls Tryd.prog 13 #[.int .i64 x, .int .i64 y] w fun e w' => e = .returned (.complex .f64 (fl (bl (x ^^^ y))) (fl (x / 2 ^ bl (x ^^^ y)))) ∧ w = w' := meet_yes x y hx hy
  have H2 : ∀ w, Calls Tryd.prog 13 #[.int .i64 y, .int .i64 x] w fun e w' => e = .returned (.complex .f64 (fl (bl (x ^^^ y))) (fl (x / 2 ^ bl (x ^^^ y)))) ∧ w = w' := fun w => by
    have := meet_yes y x hy hx w
    rwa [Nat.xor_comm y x, h1] at this
  have HH := Lib.hid (head9 w hT)
  have OX := Lib.hid (over_at x hsp hx rfl)
  have OY := Lib.hid (over_at y hsp hy h1)
  have i1 : x ≤ 65535 := by omega
  have i2 : y ≤ 65535 := by omega
  by_cases hxy : x = y
  · subst hxy
    have hL : bl (x ^^^ x) = 0 := by rw [Nat.xor_self]; rfl
    have q1 : (FloatKind.f64.format.order (fl (bl (x ^^^ x))) 0 == some .eq) = true := by rw [hL]; decide +kernel
    have q2 : (FloatKind.f64.format.order (fl (x / 2 ^ bl (x ^^^ x))) (fl x) == some .eq) = true := by rw [hL, Nat.pow_zero, Nat.div_one]; exact eq_self x (by omega)
    have q3 := eq_self (bl (x ^^^ x)) (by rw [hL]; omega)
    have q4 := eq_self (x / 2 ^ bl (x ^^^ x)) (by rw [hL, Nat.pow_zero, Nat.div_one]; omega)
    have HL := Lib.hid (leafs_yes x hx)
    obtain ⟨A, hA⟩ : ∃ A, A = fl (bl (x ^^^ x)) := ⟨_, rfl⟩
    obtain ⟨B, hB⟩ : ∃ B, B = fl (x / 2 ^ bl (x ^^^ x)) := ⟨_, rfl⟩
    rw [← hA] at q1 q3 H1 H2 OX OY
    rw [← hB] at q2 q4 H1 H2 OX OY
    have H1 := Lib.hid H1; have H2 := Lib.hid H2
    clear hA hB hT hsp h1 hx hy hL
    go_enter Tryd.func8, Tryd.ntmps8
    go_wp2_with (first | (go_at_call 9; (with_reducible refine (HH.out).mono ?_); rintro e w1 ⟨rfl, hbel⟩) | (go_at_call 13; (with_reducible refine (H1.out _).mono ?_); rintro e w' ⟨rfl, rfl⟩) | (go_at_call 17; (with_reducible refine (OX.out _).mono ?_); rintro e w' ⟨rfl, rfl⟩) | (go_at_call 16; (with_reducible refine (HL.out _).mono ?_); rintro e w' ⟨rfl, rfl⟩))
    go_ret
    exact ⟨rfl, hbel⟩
  · have hm : ∃ lo hi : Nat, lo < hi ∧ (lo = x ∧ hi = y ∨ lo = y ∧ hi = x) := by
      rcases Nat.lt_or_gt_of_ne hxy with h | h
      · exact ⟨x, y, h, .inl ⟨rfl, rfl⟩⟩
      · exact ⟨y, x, h, .inr ⟨rfl, rfl⟩⟩
    obtain ⟨lo, hi, hlt, hm⟩ := hm
    have hlo : lo < 65536 := by omega
    have hhi : hi < 65536 := by omega
    have h2 := meets_two lo hi hlt
    have h3 : bl (lo ^^^ hi) = bl (x ^^^ y) := by rcases hm with ⟨rfl, rfl⟩ | ⟨rfl, rfl⟩; rfl; rw [Nat.xor_comm]
    have h4 : lo / 2 ^ bl (x ^^^ y) = x / 2 ^ bl (x ^^^ y) := by rcases hm with ⟨rfl, rfl⟩ | ⟨rfl, rfl⟩; rfl; exact h1
    rw [h3, h4] at h2
    obtain ⟨h5, h6, h7⟩ := h2
    obtain ⟨d1, d2, hd, hdo⟩ := down_yes false hsp (by omega)
    simp only [Bool.toNat_false, Nat.add_zero] at hd
    obtain ⟨o1, o2, ho, hoo⟩ := other_yes hd (by have := hsp.l16; omega)
    rw [show sib (2 * (x / 2 ^ bl (x ^^^ y))) = 2 * (x / 2 ^ bl (x ^^^ y)) + 1 by unfold sib; omega] at ho
    have OL := Lib.hid (over_at lo hd hlo h5)
    have OH := Lib.hid (over_at hi ho hhi h6)
    have HDO := Lib.hid hdo
    have HOO := Lib.hid hoo
    have q3 := eq_self (bl (x ^^^ y)) (by have := hsp.l16; omega)
    have q4 := eq_self (x / 2 ^ bl (x ^^^ y)) (by have := Nat.div_le_self x (2 ^ bl (x ^^^ y)); omega)
    obtain ⟨A, hA⟩ : ∃ A, A = fl (bl (x ^^^ y)) := ⟨_, rfl⟩
    obtain ⟨B, hB⟩ : ∃ B, B = fl (x / 2 ^ bl (x ^^^ y)) := ⟨_, rfl⟩
    rw [← hA] at q3 H1 H2 OX OY HDO
    rw [← hB] at q4 H1 H2 OX OY HDO
    have H1 := Lib.hid H1; have H2 := Lib.hid H2
    have hne : (x == y) = false := by simpa using hxy
    clear hA hB hT hsp h1 hx hy h5 h6 h7 hd ho hdo hoo h3 h4 hlo hhi hxy
    rcases hm with ⟨rfl, rfl⟩ | ⟨rfl, rfl⟩
    all_goals
      go_enter Tryd.func8, Tryd.ntmps8
      go_wp2_with (first | (go_at_call 9; (with_reducible refine (HH.out).mono ?_); rintro e w1 ⟨rfl, hbel⟩) | (go_at_call 13; (with_reducible refine (H1.out _).mono ?_); rintro e w' ⟨rfl, rfl⟩) | (go_at_call 13; (with_reducible refine (H2.out _).mono ?_); rintro e w' ⟨rfl, rfl⟩) | (go_at_call 17; (with_reducible refine (OX.out _).mono ?_); rintro e w' ⟨rfl, rfl⟩) | (go_at_call 17; (with_reducible refine (OY.out _).mono ?_); rintro e w' ⟨rfl, rfl⟩) | (go_at_call 18; (with_reducible refine (HDO.out _).mono ?_); rintro e w' ⟨rfl, rfl⟩) | (go_at_call 14; (with_reducible refine (HOO.out _).mono ?_); rintro e w' ⟨rfl, rfl⟩) | (go_at_call 17; (with_reducible refine (OL.out _).mono ?_); rintro e w' ⟨rfl, rfl⟩) | (go_at_call 17; (with_reducible refine (OH.out _).mono ?_); rintro e w' ⟨rfl, rfl⟩))
      go_ret
      exact ⟨rfl, hbel⟩
end Go.Proofs.YtjdpkhcnmllleaaDoor
