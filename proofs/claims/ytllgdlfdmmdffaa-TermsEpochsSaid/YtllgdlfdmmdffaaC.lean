/- The spots' functions, walked. -/
import Derived.Test.YtllgdlfdmmdffaaB
namespace Go.Proofs.Ytllgdlfdmmdffaa
open Go.ChangeShapes Go.WideShapes Go.ChangeAt Go.RowKit
set_option linter.unusedSimpArgs false
set_option linter.unusedVariables false
theorem fl16 : fl 16 = 4625196817309499392 := by decide +kernel
theorem fl1 : fl 1 = 4607182418800017408 := by decide +kernel
theorem fl2 : fl 2 = 4611686018427387904 := by decide +kernel
theorem is1 : Is 4607182418800017408 1 := by have := is_fl 1 (by omega); rwa [fl1] at this
theorem is2 : Is 4611686018427387904 2 := by have := is_fl 2 (by omega); rwa [fl2] at this
theorem eq16 {a l : Nat} (h : Is a l) : (FloatKind.f64.format.order a 4625196817309499392 == some .eq) = decide (l = 16) := by
  have := eq_fl h (m := 16) (by omega); rwa [fl16] at this
theorem eq00 {a l : Nat} (h : Is a l) : (FloatKind.f64.format.order a 0 == some .eq) = decide (l = 0) := by
  have := eq_fl h (m := 0) (by omega); rwa [fl0] at this
theorem add1 {a n : Nat} (h : Is a n) (hn : n < 2 ^ 40) : ∃ r, Is r (n + 1) ∧ ∀ w : World, (binOp .add 87 (.float .f64 a) (.float .f64 4607182418800017408)).run Try.prog w = .ok (.float .f64 r) w := by
  obtain ⟨r, h1, h2⟩ := sum_is h is1 (by omega)
  exact ⟨r, h2, fun w => run_float_arith w .add 87 .f64 _ _ r h1⟩

theorem top_in {a b l p : Nat} (h : Sp a b l p) (hl : l < 16) (w : World) : Calls Try.prog 67 #[.complex .f64 a b] w fun e w' => e = .returned (.bool false) ∧ w = w' := by
  have a1 : (FloatKind.f64.format.order a 4625196817309499392 == some .eq) = false := by rw [eq16 h.re]; simp; omega
  go_enter Try.func67, Try.ntmps67
  go_wp2_with (first | (go_at_call 59; (with_reducible refine (all_yes h _).mono ?_); rintro e w' ⟨rfl, rfl⟩))
  go_ret
  exact ⟨rfl, rfl⟩
theorem top_at {a b l p : Nat} (h : Sp a b l p) (hl : l = 16) (w : World) : Calls Try.prog 67 #[.complex .f64 a b] w fun e w' => e = .returned (.bool true) ∧ w = w' := by
  have a1 : (FloatKind.f64.format.order a 4625196817309499392 == some .eq) = true := by rw [eq16 h.re]; simp; omega
  clear hl
  go_enter Try.func67, Try.ntmps67
  go_wp2_with (first | (go_at_call 59; (with_reducible refine (all_yes h _).mono ?_); rintro e w' ⟨rfl, rfl⟩))
  go_ret
  exact ⟨rfl, rfl⟩
theorem top_no {a b : Nat} (h : No a b) (w : World) : Calls Try.prog 67 #[.complex .f64 a b] w fun e w' => e = .returned (.bool true) ∧ w = w' := by
  have h := Lib.hid h
  go_enter Try.func67, Try.ntmps67
  go_wp2_with (first | (go_at_call 59; (with_reducible refine (all_no h.out _).mono ?_); rintro e w' ⟨rfl, rfl⟩))
  go_ret
  exact ⟨rfl, rfl⟩
theorem leafs_yes (i : Nat) (h : i < 65536) (w : World) : Calls Try.prog 56 #[.int .i64 i] w fun e w' => e = .returned (.complex .f64 0 (fl i)) ∧ w = w' := by
  have h1 := floatOfInt_fl i
  go_enter Try.func56, Try.ntmps56
  go_wp2_with (first | (go_at_call 57; (with_reducible refine (leaf_yes i h _).mono ?_); rintro e w' ⟨rfl, rfl⟩))
  go_ret
  exact ⟨rfl, rfl⟩
theorem leafs_no (i : Int) (h : i < 0 ∨ 65536 ≤ i) (w : World) : Calls Try.prog 56 #[.int .i64 i] w fun e w' => e = .returned (.complex .f64 0 0) ∧ w = w' := by
  have h := Lib.hid h
  go_enter Try.func56, Try.ntmps56
  go_wp2_with (first | (go_at_call 57; (with_reducible refine (leaf_no i h.out _).mono ?_); rintro e w' ⟨rfl, rfl⟩))
  go_ret
  exact ⟨rfl, rfl⟩
theorem sp_leaf (i : Nat) (h : i < 65536) : Sp 0 (fl i) 0 i := ⟨is0, is_fl i (by omega), by omega, by omega⟩

theorem index_no {a b : Nat} (h : No a b) (w : World) : Calls Try.prog 46 #[.complex .f64 a b] w fun e w' => e = .returned (.int .i64 (-1)) ∧ w = w' := by
  have h := Lib.hid h
  go_enter Try.func46, Try.ntmps46
  go_wp2_with (first | (go_at_call 59; (with_reducible refine (all_no h.out _).mono ?_); rintro e w' ⟨rfl, rfl⟩))
  go_ret
  exact ⟨rfl, rfl⟩
theorem idx_wrap (l p : Nat) (hl : l ≤ 16) (hp : p < 2 ^ (16 - l)) : wrap64 (wrap64 ((2 * (p : Int) + 1) * 2 ^ min l 64) - 1) = ((2 * p + 1) * 2 ^ l - 1 : Nat) := by
  have h1 : (2 * p + 1) * 2 ^ l ≤ 131072 := by
    have := Nat.mul_le_mul_right (2 ^ l) (show 2 * p + 1 ≤ 2 * 2 ^ (16 - l) by omega)
    rw [Nat.mul_assoc, ← Nat.pow_add, show 16 - l + l = 16 by omega] at this
    omega
  have h2 : 1 ≤ (2 * p + 1) * 2 ^ l := Nat.mul_pos (by omega) (Nat.two_pow_pos l)
  have e : (2 * (p : Int) + 1) * 2 ^ min l 64 = ((2 * p + 1) * 2 ^ l : Nat) := by rw [Nat.min_eq_left (by omega)]; push_cast; rfl
  rw [e]
  unfold wrap64
  omega
theorem index_yes {a b l p : Nat} (h : Sp a b l p) (w : World) : Calls Try.prog 46 #[.complex .f64 a b] w fun e w' => e = .returned (.int .i64 ((2 * p + 1) * 2 ^ l - 1 : Nat)) ∧ w = w' := by
  have h1 := conv28 h.re (by have := h.l16; omega)
  have h2 := conv28 h.im (by have := h.p16; have := pow16 (16 - l) (by omega); omega)
  have h3 : p ≤ 65535 := by have := h.p16; have := pow16 (16 - l) (by omega); omega
  go_enter Try.func46, Try.ntmps46
  go_wp2_with (first | (go_at_call 59; (with_reducible refine (all_yes h _).mono ?_); rintro e w' ⟨rfl, rfl⟩))
  go_ret
  exact ⟨congrArg (fun n => Ending.returned (.int .i64 n)) (idx_wrap l p h.l16 h.p16), rfl⟩
theorem up_no {a b : Nat} (h : No a b ∨ ∃ p, Sp a b 16 p) (w : World) : Calls Try.prog 58 #[.complex .f64 a b] w fun e w' => e = .returned (.complex .f64 0 0) ∧ w = w' := by
  have H : ∀ w, Calls Try.prog 67 #[.complex .f64 a b] w fun e w' => e = .returned (.bool true) ∧ w = w' := by
    rcases h with h | ⟨p, h⟩
    · exact top_no h
    · exact top_at h rfl
  have H := Lib.hid H
  clear h
  go_enter Try.func58, Try.ntmps58
  go_wp2_with (first | (go_at_call 67; (with_reducible refine (H.out _).mono ?_); rintro e w' ⟨rfl, rfl⟩))
  go_ret
  exact ⟨rfl, rfl⟩
theorem up_yes {a b l p : Nat} (h : Sp a b l p) (hl : l < 16) : ∃ c d, Sp c d (l + 1) (p / 2) ∧ ∀ w, Calls Try.prog 58 #[.complex .f64 a b] w fun e w' => e = .returned (.complex .f64 c d) ∧ w = w' := by
  have h3 : p ≤ 65535 := by have := h.p16; have := pow16 (16 - l) (by omega); omega
  have h2 := conv28 h.im (by omega)
  obtain ⟨r, hr, h4⟩ := add1 h.re (by omega)
  have h5 := floatOfInt_fl (p / 2)
  refine ⟨r, fl (p / 2), ⟨hr, is_fl _ (by omega), by omega, ?_⟩, fun w => ?_⟩
  · have := h.p16
    rw [show 16 - l = 16 - (l + 1) + 1 by omega, Nat.pow_succ] at this
    omega
  · go_enter Try.func58, Try.ntmps58
    go_wp2_with (first | (go_at_call 67; (with_reducible refine (top_in h hl _).mono ?_); rintro e w' ⟨rfl, rfl⟩))
    go_ret
    exact ⟨rfl, rfl⟩
theorem other_no {a b : Nat} (h : No a b ∨ ∃ p, Sp a b 16 p) (w : World) : Calls Try.prog 68 #[.complex .f64 a b] w fun e w' => e = .returned (.complex .f64 0 0) ∧ w = w' := by
  have H : ∀ w, Calls Try.prog 67 #[.complex .f64 a b] w fun e w' => e = .returned (.bool true) ∧ w = w' := by
    rcases h with h | ⟨p, h⟩
    · exact top_no h
    · exact top_at h rfl
  have H := Lib.hid H
  clear h
  go_enter Try.func68, Try.ntmps68
  go_wp2_with (first | (go_at_call 67; (with_reducible refine (H.out _).mono ?_); rintro e w' ⟨rfl, rfl⟩))
  go_ret
  exact ⟨rfl, rfl⟩

def sib (p : Nat) : Nat := p + 1 - 2 * (p % 2)
theorem sib_xor (p : Nat) : p ^^^ 1 = sib p := by
  have h1 : (p ^^^ 1) / 2 = p / 2 := by rw [Nat.xor_div_two]; simp
  have h2 : (p ^^^ 1) % 2 = 1 ↔ ¬(p % 2 = 1 ↔ 1 % 2 = 1) := Nat.xor_mod_two_eq_one
  unfold sib
  omega
theorem xor_one (p : Nat) (hp : p ≤ 65535) : bits .xor .i64 (p : Int) 1 = (sib p : Int) := by
  have e1 : bits .xor .i64 (p : Int) 1 = IntKind.i64.wrap (((p ^^^ 1 : Nat)) : Int) := by
    have e : (BitVec.ofInt 64 (p : Int) ^^^ BitVec.ofInt 64 1).toNat = p ^^^ 1 := by
      rw [BitVec.ofInt_natCast, show BitVec.ofInt 64 1 = BitVec.ofNat 64 1 by rfl, BitVec.toNat_xor, BitVec.toNat_ofNat, BitVec.toNat_ofNat, Nat.mod_eq_of_lt (by omega), Nat.mod_eq_of_lt (by omega)]
    show IntKind.i64.wrap ((BitVec.ofInt 64 (p : Int) ^^^ BitVec.ofInt 64 1).toNat : Int) = _
    rw [e]
  rw [e1, sib_xor, IntKind.wrap_i64]
  unfold sib
  omega
theorem sib_lt (p k : Nat) (h : p < 2 ^ k) (hk : 0 < k) : sib p < 2 ^ k := by
  obtain ⟨j, rfl⟩ : ∃ j, k = j + 1 := ⟨k - 1, by omega⟩
  rw [Nat.pow_succ] at h ⊢
  unfold sib; omega
theorem sib_sib (p : Nat) : sib (sib p) = p := by unfold sib; omega
theorem sib_half (p : Nat) : sib p / 2 = p / 2 := by unfold sib; omega
theorem other_yes {a b l p : Nat} (h : Sp a b l p) (hl : l < 16) : ∃ c d, Sp c d l (sib p) ∧ ∀ w, Calls Try.prog 68 #[.complex .f64 a b] w fun e w' => e = .returned (.complex .f64 c d) ∧ w = w' := by
  have h3 : p ≤ 65535 := by have := h.p16; have := pow16 (16 - l) (by omega); omega
  have h2 := conv28 h.im (by omega)
  have h4 := xor_one p h3
  have h5 := floatOfInt_fl (sib p)
  refine ⟨a, fl (sib p), ⟨h.re, is_fl _ (by unfold sib; omega), by omega, sib_lt _ _ h.p16 (by omega)⟩, fun w => ?_⟩
  have h6 : 0 ≤ (sib p : Int) := by omega
  go_enter Try.func68, Try.ntmps68
  go_wp2_with (first | (go_at_call 67; (with_reducible refine (top_in h hl _).mono ?_); rintro e w' ⟨rfl, rfl⟩))
  go_ret
  exact ⟨rfl, rfl⟩

theorem down_no {a b : Nat} (r : Bool) (h : No a b ∨ ∃ p, Sp a b 0 p) (w : World) : Calls Try.prog 69 #[.complex .f64 a b, .bool r] w fun e w' => e = .returned (.complex .f64 0 0) ∧ w = w' := by
  rcases h with h | ⟨p, h⟩
  · have h := Lib.hid h
    go_enter Try.func69, Try.ntmps69
    go_wp2_with (first | (go_at_call 59; (with_reducible refine (all_no h.out _).mono ?_); rintro e w' ⟨rfl, rfl⟩))
    go_ret
    exact ⟨rfl, rfl⟩
  · have a1 : (FloatKind.f64.format.order a 0 == some .eq) = true := by rw [eq00 h.re]; rfl
    go_enter Try.func69, Try.ntmps69
    go_wp2_with (first | (go_at_call 59; (with_reducible refine (all_yes h _).mono ?_); rintro e w' ⟨rfl, rfl⟩))
    go_ret
    exact ⟨rfl, rfl⟩
theorem down_yes {a b l p : Nat} (r : Bool) (h : Sp a b l p) (hl : 0 < l) : ∃ c d, Sp c d (l - 1) (2 * p + r.toNat) ∧ ∀ w, Calls Try.prog 69 #[.complex .f64 a b, .bool r] w fun e w' => e = .returned (.complex .f64 c d) ∧ w = w' := by
  have h3 : p ≤ 65535 := by have := h.p16; have := pow16 (16 - l) (by omega); omega
  have a1 : (FloatKind.f64.format.order a 0 == some .eq) = false := by rw [eq00 h.re]; simp; omega
  obtain ⟨x, x1, x2⟩ := sub_is h.re is1 (by omega) (by have := h.l16; omega)
  obtain ⟨y, y1, y2⟩ := mul_is is2 h.im (by omega)
  have x3 := fun w => run_float_arith (P := Try.prog) w .sub 87 .f64 _ _ x x1
  have y3 := fun w => run_float_arith (P := Try.prog) w .mul 87 .f64 _ _ y y1
  have hp : 2 * p + 1 < 2 ^ (16 - (l - 1)) := by
    have := h.p16
    have := h.l16
    rw [show 16 - (l - 1) = 16 - l + 1 by omega, Nat.pow_succ]
    omega
  cases r with
  | false =>
    refine ⟨x, y, ⟨x2, by simpa using y2, by have := h.l16; omega, by simp; omega⟩, fun w => ?_⟩
    go_enter Try.func69, Try.ntmps69
    go_wp2_with (first | (go_at_call 59; (with_reducible refine (all_yes h _).mono ?_); rintro e w' ⟨rfl, rfl⟩))
    go_ret
    exact ⟨rfl, rfl⟩
  | true =>
    obtain ⟨u, u1, u2⟩ := sum_is x2 is0 (by have := h.l16; omega)
    obtain ⟨v, v1, v2⟩ := sum_is y2 is1 (by omega)
    have z3 := fun w => run_complex_sum (P := Try.prog) w .add (Or.inl rfl) 75 .f64 x y 0 4607182418800017408 u v (by unfold cSumBits; show (Ieee.double.add x 0).bind _ = _; rw [u1]; show (Ieee.double.add y 4607182418800017408).bind _ = _; rw [v1]; rfl)
    refine ⟨u, v, ⟨by simpa using u2, by simpa using v2, by have := h.l16; omega, by simpa using hp⟩, fun w => ?_⟩
    go_enter Try.func69, Try.ntmps69
    go_wp2_with (first | (go_at_call 59; (with_reducible refine (all_yes h _).mono ?_); rintro e w' ⟨rfl, rfl⟩))
    go_ret
    exact ⟨rfl, rfl⟩

theorem over_no {a b : Nat} (i : Int) (h : No a b) (w : World) : Calls Try.prog 50 #[.complex .f64 a b, .int .i64 i] w fun e w' => e = .returned (.bool false) ∧ w = w' := by
  have h := Lib.hid h
  go_enter Try.func50, Try.ntmps50
  go_wp2_with (first | (go_at_call 59; (with_reducible refine (all_no h.out _).mono ?_); rintro e w' ⟨rfl, rfl⟩))
  go_ret
  exact ⟨rfl, rfl⟩
theorem over_out {a b l p : Nat} (i : Int) (h : Sp a b l p) (hi : i < 0 ∨ 65536 ≤ i) (w : World) : Calls Try.prog 50 #[.complex .f64 a b, .int .i64 i] w fun e w' => e = .returned (.bool false) ∧ w = w' := by
  have hi := Lib.hid hi
  go_enter Try.func50, Try.ntmps50
  go_wp2_with (first | (go_at_call 59; (with_reducible refine (all_yes h _).mono ?_); rintro e w' ⟨rfl, rfl⟩) | (go_at_call 57; (with_reducible refine (leaf_no i hi.out _).mono ?_); rintro e w' ⟨rfl, rfl⟩))
  go_ret
  exact ⟨rfl, rfl⟩
theorem over_yes {a b l p : Nat} (i : Nat) (h : Sp a b l p) (hi : i < 65536) (w : World) : Calls Try.prog 50 #[.complex .f64 a b, .int .i64 i] w fun e w' => e = .returned (.bool (decide (i / 2 ^ l = p))) ∧ w = w' := by
  have h1 := conv28 h.re (by have := h.l16; omega)
  have hl := h.l16
  go_enter Try.func50, Try.ntmps50
  go_wp2_with (first | (go_at_call 59; (with_reducible refine (all_yes h _).mono ?_); rintro e w' ⟨rfl, rfl⟩) | (go_at_call 57; (with_reducible refine (leaf_yes i hi _).mono ?_); rintro e w' ⟨rfl, rfl⟩))
  go_ret
  refine ⟨congrArg (fun v => Ending.returned (.bool v)) ?_, rfl⟩
  have e : (i : Int) / 2 ^ l = ((i / 2 ^ l : Nat) : Int) := by push_cast; rfl
  rw [e, floatOfInt_fl]
  exact order_eq (is_fl _ (Nat.lt_of_le_of_lt (Nat.div_le_self _ _) (by omega))) h.im
end Go.Proofs.Ytllgdlfdmmdffaa
