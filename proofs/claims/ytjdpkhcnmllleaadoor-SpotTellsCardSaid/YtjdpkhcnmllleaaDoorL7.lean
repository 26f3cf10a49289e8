/- The law that holds the program against the reference, walked. -/
import Derived.Test.YtjdpkhcnmllleaaDoorO
namespace Go.Proofs.YtjdpkhcnmllleaaDoor
open Go.ChangeShapes Go.WideShapes Go.ChangeAt Go.RowKit
set_option linter.unusedSimpArgs false
set_option linter.unusedVariables false

abbrev Tell (f g : FuncId) (args : Array Value) (x y : Value) : Prop :=
  (∀ w, Calls Tryd.prog f args w fun e w' => e = .returned x ∧ w = w') ∧ (∀ w, Calls Tryd.prog g args w fun e w' => e = .returned y ∧ Below w.heap.size w w')
theorem eq_zero : (FloatKind.f64.format.order 0 0 == some .eq) = true := by decide +kernel

theorem pair_right (a b : Nat) (deep : Int) : ∃ r, Tell 19 20 #[.complex .f64 a b, .int .i64 deep] (.bool r) (.bool r) := by
  by_cases hs : ∃ l p, Sp a b l p
  · obtain ⟨l, p, h⟩ := hs
    have H : Of32 a b l p true := of_yes h
    rcases Int.lt_or_le deep 0 with h0 | h0
    · exact ⟨false, right_bad deep (.inl h0), fun w => r20_neg _ deep h0 w H⟩
    rcases Int.lt_or_le 16 deep with h1 | h1
    · exact ⟨false, right_bad deep (.inr h1), fun w => r20_deep _ deep h1 w H⟩
    obtain ⟨d, rfl⟩ : ∃ d : Nat, deep = d := ⟨deep.toNat, by omega⟩
    by_cases hl : l ≤ d
    · by_cases hp : p < 2 ^ (d - l)
      · exact ⟨true, right_yes h.re h.im hl (by omega) hp, fun w => r20_yes d (by omega) hl hp w H⟩
      · refine ⟨false, right_no (fun l' p' ha hb hl' hp' => ?_) (by omega), fun w => r20_wide d (by omega) hl (by omega) w H⟩
        obtain rfl := is_unique h.re ha
        obtain rfl := is_unique h.im hb
        exact hp hp'
    · refine ⟨false, right_no (fun l' p' ha hb hl' hp' => ?_) (by omega), fun w => r20_far d (by omega) (by omega) w H⟩
      obtain rfl := is_unique h.re ha
      exact hl hl'
  · have hn : No a b := fun l p h => hs ⟨l, p, h⟩
    have H : Of32 a b 0 0 false := of_no hn
    rcases Int.lt_or_le deep 0 with h0 | h0
    · exact ⟨false, right_bad deep (.inl h0), fun w => r20_neg _ deep h0 w H⟩
    rcases Int.lt_or_le 16 deep with h1 | h1
    · exact ⟨false, right_bad deep (.inr h1), fun w => r20_deep _ deep h1 w H⟩
    obtain ⟨d, rfl⟩ : ∃ d : Nat, deep = d := ⟨deep.toNat, by omega⟩
    refine ⟨false, right_no (fun l' p' ha hb hl' hp' => hn l' p' ⟨ha, hb, by omega, Nat.lt_of_lt_of_le hp' (Nat.pow_le_pow_right (by omega) (by omega))⟩) (by omega), fun w => r20_no d (by omega) w H⟩
theorem pair_index (a b : Nat) : ∃ r, Tell 10 21 #[.complex .f64 a b] (.int .i64 r) (.int .i64 r) := by
  by_cases hs : ∃ l p, Sp a b l p
  · obtain ⟨l, p, h⟩ := hs
    exact ⟨_, index_yes h, r21_yes h⟩
  · have hn : No a b := fun l p h => hs ⟨l, p, h⟩
    exact ⟨_, index_no hn, r21_no hn⟩
abbrev Alike (c d c' d' : Nat) : Prop := (FloatKind.f64.format.order c c' == some .eq) = true ∧ (FloatKind.f64.format.order d d' == some .eq) = true
theorem pair_up (a b : Nat) : ∃ c d c' d', Tell 15 22 #[.complex .f64 a b] (.complex .f64 c d) (.complex .f64 c' d') ∧ Alike c d c' d' := by
  by_cases hs : ∃ l p, Sp a b l p
  · obtain ⟨l, p, h⟩ := hs
    by_cases hl : l < 16
    · obtain ⟨c, d, h1, h2⟩ := up_yes h hl
      exact ⟨c, d, _, _, ⟨h2, r22_yes h hl⟩, eq_is h1.re (is_fl _ (by omega)), eq_is h1.im (is_fl _ (by have := h1.p16; have := pow16 (16 - (l + 1)) (by omega); omega))⟩
    · obtain rfl : l = 16 := by have := h.l16; omega
      exact ⟨0, 0, 0, 0, ⟨up_no (.inr ⟨p, h⟩), r22_top h⟩, eq_zero, eq_zero⟩
  · have hn : No a b := fun l p h => hs ⟨l, p, h⟩
    exact ⟨0, 0, 0, 0, ⟨up_no (.inl hn), r22_no hn⟩, eq_zero, eq_zero⟩
theorem pair_other (a b : Nat) : ∃ c d c' d', Tell 14 23 #[.complex .f64 a b] (.complex .f64 c d) (.complex .f64 c' d') ∧ Alike c d c' d' := by
  by_cases hs : ∃ l p, Sp a b l p
  · obtain ⟨l, p, h⟩ := hs
    by_cases hl : l < 16
    · obtain ⟨c, d, h1, h2⟩ := other_yes h hl
      exact ⟨c, d, _, _, ⟨h2, r23_yes h hl⟩, eq_is h1.re (is_fl _ (by omega)), eq_is h1.im (is_fl _ (by have := h1.p16; have := pow16 (16 - l) (by omega); omega))⟩
    · obtain rfl : l = 16 := by have := h.l16; omega
      exact ⟨0, 0, 0, 0, ⟨other_no (.inr ⟨p, h⟩), r23_top h⟩, eq_zero, eq_zero⟩
  · have hn : No a b := fun l p h => hs ⟨l, p, h⟩
    exact ⟨0, 0, 0, 0, ⟨other_no (.inl hn), r23_no hn⟩, eq_zero, eq_zero⟩
theorem pair_down (a b : Nat) (r : Bool) : ∃ c d c' d', Tell 18 24 #[.complex .f64 a b, .bool r] (.complex .f64 c d) (.complex .f64 c' d') ∧ Alike c d c' d' := by
  by_cases hs : ∃ l p, Sp a b l p
  · obtain ⟨l, p, h⟩ := hs
    by_cases hl : 0 < l
    · obtain ⟨c, d, h1, h2⟩ := down_yes r h hl
      exact ⟨c, d, _, _, ⟨h2, r24_yes r h hl⟩, eq_is h1.re (is_fl _ (by have := h1.l16; omega)), eq_is h1.im (is_fl _ (by have := h1.p16; have := pow16 (16 - (l - 1)) (by omega); omega))⟩
    · obtain rfl : l = 0 := by omega
      exact ⟨0, 0, 0, 0, ⟨down_no r (.inr ⟨p, h⟩), r24_leaf r h⟩, eq_zero, eq_zero⟩
  · have hn : No a b := fun l p h => hs ⟨l, p, h⟩
    exact ⟨0, 0, 0, 0, ⟨down_no r (.inl hn), r24_no r hn⟩, eq_zero, eq_zero⟩
theorem pair_over (a b : Nat) (i : Int) : ∃ r, Tell 17 25 #[.complex .f64 a b, .int .i64 i] (.bool r) (.bool r) := by
  by_cases hs : ∃ l p, Sp a b l p
  · obtain ⟨l, p, h⟩ := hs
    have H : Of32 a b l p true := of_yes h
    rcases Int.lt_or_le i 0 with h0 | h0
    · exact ⟨false, over_out i h (.inl h0), fun w => r25_neg i h0 w H⟩
    rcases Int.lt_or_le i 65536 with h1 | h1
    · obtain ⟨d, rfl⟩ : ∃ d : Nat, i = d := ⟨i.toNat, by omega⟩
      exact ⟨_, over_yes d h (by omega), fun w => r25_yes d (by omega) h.l16 w H⟩
    · exact ⟨false, over_out i h (.inr h1), fun w => r25_big i h1 w H⟩
  · have hn : No a b := fun l p h => hs ⟨l, p, h⟩
    have H : Of32 a b 0 0 false := of_no hn
    exact ⟨false, over_no i hn, fun w => r25_no i w H⟩
set_option maxHeartbeats 2000000 in
theorem tells7 (a b : Nat) (deep : Int) (r : Bool) (i : Int) (w : World) (hT : Tab w) : Calls Tryd.prog 7 #[.float .f64 a, .float .f64 b, .int .i64 deep, .bool r, .int .i64 i] w fun e w' => e = .returned (.bool true) ∧ Below w.heap.size w w' := by
  obtain ⟨x1, h1, k1⟩ := pair_right a b deep
  obtain ⟨x2, h2, k2⟩ := pair_index a b
  obtain ⟨c3, d3, e3, f3, ⟨h3, k3⟩, q31, q32⟩ := pair_up a b
  obtain ⟨c4, d4, e4, f4, ⟨h4, k4⟩, q41, q42⟩ := pair_other a b
  obtain ⟨c5, d5, e5, f5, ⟨h5, k5⟩, q51, q52⟩ := pair_down a b r
  obtain ⟨x6, h6, k6⟩ := pair_over a b i
  have H1 := Lib.hid h1; have K1 := Lib.hid k1; have H2 := Lib.hid h2; have K2 := Lib.hid k2; have H3 := Lib.hid h3; have K3 := Lib.hid k3
  have H4 := Lib.hid h4; have K4 := Lib.hid k4; have H5 := Lib.hid h5; have K5 := Lib.hid k5; have H6 := Lib.hid h6; have K6 := Lib.hid k6
  have HH := Lib.hid (head9 w hT)
  clear h1 k1 h2 k2 h3 k3 h4 k4 h5 k5 h6 k6 hT
  go_enter Tryd.func7, Tryd.ntmps7
  go_wp2_with (first | (go_at_call 9; (with_reducible refine (HH.out).mono ?_); rintro e w0 ⟨rfl, b0⟩) | (go_at_call 19; (with_reducible refine (H1.out _).mono ?_); rintro e w' ⟨rfl, rfl⟩) | (go_at_call 20; (with_reducible refine (K1.out _).mono ?_); rintro e w1 ⟨rfl, b1⟩) | (go_at_call 10; (with_reducible refine (H2.out _).mono ?_); rintro e w' ⟨rfl, rfl⟩) | (go_at_call 21; (with_reducible refine (K2.out _).mono ?_); rintro e w2 ⟨rfl, b2⟩) | (go_at_call 15; (with_reducible refine (H3.out _).mono ?_); rintro e w' ⟨rfl, rfl⟩) | (go_at_call 22; (with_reducible refine (K3.out _).mono ?_); rintro e w3 ⟨rfl, b3⟩) | (go_at_call 14; (with_reducible refine (H4.out _).mono ?_); rintro e w' ⟨rfl, rfl⟩) | (go_at_call 23; (with_reducible refine (K4.out _).mono ?_); rintro e w4 ⟨rfl, b4⟩) | (go_at_call 18; (with_reducible refine (H5.out _).mono ?_); rintro e w' ⟨rfl, rfl⟩) | (go_at_call 24; (with_reducible refine (K5.out _).mono ?_); rintro e w5 ⟨rfl, b5⟩) | (go_at_call 17; (with_reducible refine (H6.out _).mono ?_); rintro e w' ⟨rfl, rfl⟩) | (go_at_call 25; (with_reducible refine (K6.out _).mono ?_); rintro e w6 ⟨rfl, b6⟩))
  go_ret
  have s0 := b0.size; have s1 := b1.size; have s2 := b2.size; have s3 := b3.size; have s4 := b4.size; have s5 := b5.size; have s6 := b6.size
  exact ⟨rfl, (((((b0.trans (b1.mono (by omega))).trans (b2.mono (by omega))).trans (b3.mono (by omega))).trans (b4.mono (by omega))).trans (b5.mono (by omega))).trans (b6.mono (by omega))⟩
end Go.Proofs.YtjdpkhcnmllleaaDoor
