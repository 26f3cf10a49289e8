/- The reference's other functions over spots, walked. -/
import Derived.Test.YtjdpkhcnmllleaaDoorN
namespace Go.Proofs.YtjdpkhcnmllleaaDoor
open Go.ChangeShapes Go.WideShapes Go.ChangeAt Go.RowKit
set_option linter.unusedSimpArgs false
set_option linter.unusedVariables false

theorem r23_yes {a b l p : Nat} (h : Sp a b l p) (hl : l < 16) (w : World) : Calls Tryd.prog 23 #[.complex .f64 a b] w fun e w' => e = .returned (.complex .f64 (fl l) (fl (sib p))) ∧ Below w.heap.size w w' := by
  have h3 : p ≤ 65535 := by have := h.p16; have := pow16 (16 - l) (by omega); omega
  have hz := zero47
  obtain ⟨S, hS⟩ : ∃ S, S = sib p := ⟨_, rfl⟩
  have e1 : (p : Int) + 1 - 2 * ((p : Int) % 2) = (S : Int) := by rw [hS]; unfold sib; omega
  have e2 : ((l : Int) == 16) = false := by simp; omega
  rw [← hS]
  have H1 := Lib.hid (of_yes h)
  have H3 := Lib.hid (num_yes l S)
  clear hS h
  go_enter Tryd.func23, Tryd.ntmps23
  go_wp2_with (first | (go_at_call 32; (with_reducible refine (H1.out _).mono ?_); rintro e w1 ⟨rfl, b1⟩) | (go_at_call 34; (with_reducible refine (H3.out _).mono ?_); rintro e w3 ⟨rfl, b3⟩))
  go_ret
  exact ⟨rfl, (b1.alloc b1.size _).trans (b3.mono (by have := b1.size; simp; omega))⟩
theorem r23_no {a b : Nat} (h : No a b) (w : World) : Calls Tryd.prog 23 #[.complex .f64 a b] w fun e w' => e = .returned (.complex .f64 0 0) ∧ Below w.heap.size w w' := by
  have hz := zero47
  have H1 := Lib.hid (of_no h)
  clear h
  go_enter Tryd.func23, Tryd.ntmps23
  go_wp2_with (first | (go_at_call 32; (with_reducible refine (H1.out _).mono ?_); rintro e w1 ⟨rfl, b1⟩))
  go_ret
  exact ⟨rfl, b1.alloc b1.size _⟩
theorem r23_top {a b p : Nat} (h : Sp a b 16 p) (w : World) : Calls Tryd.prog 23 #[.complex .f64 a b] w fun e w' => e = .returned (.complex .f64 0 0) ∧ Below w.heap.size w w' := by
  have hz := zero47
  have H1 : Hid (∀ w, Calls Tryd.prog 32 #[.complex .f64 a b] w fun e w' => e = .returned (.agg #[.int .i64 16, .int .i64 p, .bool true]) ∧ Below w.heap.size w w') := Lib.hid (of_yes h)
  clear h
  go_enter Tryd.func23, Tryd.ntmps23
  go_wp2_with (first | (go_at_call 32; (with_reducible refine (H1.out _).mono ?_); rintro e w1 ⟨rfl, b1⟩))
  go_ret
  exact ⟨rfl, b1.alloc b1.size _⟩
theorem r24_yes {a b l p : Nat} (r : Bool) (h : Sp a b l p) (hl : 0 < l) (w : World) : Calls Tryd.prog 24 #[.complex .f64 a b, .bool r] w fun e w' => e = .returned (.complex .f64 (fl (l - 1)) (fl (2 * p + r.toNat))) ∧ Below w.heap.size w w' := by
  have h3 : p ≤ 65535 := by have := h.p16; have := pow16 (16 - l) (by omega); omega
  have h16 := h.l16
  have hz := zero47
  obtain ⟨S, hS⟩ : ∃ S, S = 2 * p + r.toNat := ⟨_, rfl⟩
  obtain ⟨L, hL⟩ : ∃ L, L = l - 1 := ⟨_, rfl⟩
  have e2 : ((l : Int) == 0) = false := by simp; omega
  have e3 : (l : Int) - 1 = (L : Int) := by omega
  have e4 : IntKind.i64.wrap ((l : Int) - 1) = (L : Int) := by rw [IntKind.wrap_i64]; omega
  rw [← hS, ← hL]
  have H1 := Lib.hid (of_yes h)
  have H3 := Lib.hid (num_yes L S)
  clear h hL
  cases r with
  | false =>
    have e1 : 2 * (p : Int) = (S : Int) := by rw [hS]; simp
    clear hS
    go_enter Tryd.func24, Tryd.ntmps24
    go_wp2_with (first | (go_at_call 32; (with_reducible refine (H1.out _).mono ?_); rintro e w1 ⟨rfl, b1⟩) | (go_at_call 34; (with_reducible refine (H3.out _).mono ?_); rintro e w3 ⟨rfl, b3⟩))
    go_ret
    exact ⟨rfl, (b1.alloc b1.size _).trans (b3.mono (by have := b1.size; simp; omega))⟩
  | true =>
    have e1 : 2 * (p : Int) + 1 = (S : Int) := by rw [hS]; simp
    clear hS
    go_enter Tryd.func24, Tryd.ntmps24
    go_wp2_with (first | (go_at_call 32; (with_reducible refine (H1.out _).mono ?_); rintro e w1 ⟨rfl, b1⟩) | (go_at_call 34; (with_reducible refine (H3.out _).mono ?_); rintro e w3 ⟨rfl, b3⟩))
    go_ret
    exact ⟨rfl, (b1.alloc b1.size _).trans (b3.mono (by have := b1.size; simp; omega))⟩
theorem r24_no {a b : Nat} (r : Bool) (h : No a b) (w : World) : Calls Tryd.prog 24 #[.complex .f64 a b, .bool r] w fun e w' => e = .returned (.complex .f64 0 0) ∧ Below w.heap.size w w' := by
  have hz := zero47
  have H1 := Lib.hid (of_no h)
  clear h
  go_enter Tryd.func24, Tryd.ntmps24
  go_wp2_with (first | (go_at_call 32; (with_reducible refine (H1.out _).mono ?_); rintro e w1 ⟨rfl, b1⟩))
  go_ret
  exact ⟨rfl, b1.alloc b1.size _⟩
theorem r24_leaf {a b p : Nat} (r : Bool) (h : Sp a b 0 p) (w : World) : Calls Tryd.prog 24 #[.complex .f64 a b, .bool r] w fun e w' => e = .returned (.complex .f64 0 0) ∧ Below w.heap.size w w' := by
  have hz := zero47
  have H1 : Hid (∀ w, Calls Tryd.prog 32 #[.complex .f64 a b] w fun e w' => e = .returned (.agg #[.int .i64 0, .int .i64 p, .bool true]) ∧ Below w.heap.size w w') := Lib.hid (of_yes h)
  clear h
  go_enter Tryd.func24, Tryd.ntmps24
  go_wp2_with (first | (go_at_call 32; (with_reducible refine (H1.out _).mono ?_); rintro e w1 ⟨rfl, b1⟩))
  go_ret
  exact ⟨rfl, b1.alloc b1.size _⟩
theorem r21_no {a b : Nat} (h : No a b) (w : World) : Calls Tryd.prog 21 #[.complex .f64 a b] w fun e w' => e = .returned (.int .i64 (-1)) ∧ Below w.heap.size w w' := by
  have hz := zero47
  have H1 := Lib.hid (of_no h)
  clear h
  go_enter Tryd.func21, Tryd.ntmps21
  go_wp2_with (first | (go_at_call 32; (with_reducible refine (H1.out _).mono ?_); rintro e w1 ⟨rfl, b1⟩))
  go_ret
  exact ⟨rfl, b1.alloc b1.size _⟩
theorem r21_yes {a b l p : Nat} (h : Sp a b l p) (w : World) : Calls Tryd.prog 21 #[.complex .f64 a b] w fun e w' => e = .returned (.int .i64 ((2 * p + 1) * 2 ^ l - 1 : Nat)) ∧ Below w.heap.size w w' := by
  have hz := zero47
  have H1 := Lib.hid (of_yes h)
  obtain ⟨j, hj1, hj2⟩ := ind_ex p l h.p16 h.l16
  have hl16 := h.l16
  have h3 : p ≤ 65535 := by have := h.p16; have := pow16 (16 - l) (by omega); omega
  have hM := pow16 l hl16
  obtain ⟨M, hM2⟩ : ∃ M : Nat, M = 2 ^ l := ⟨_, rfl⟩
  have e1 : IntKind.i64.wrap (2 ^ l) = (M : Int) := by
    have e1 : (2 : Int) ^ l = ((2 ^ l : Nat) : Int) := by push_cast; rfl
    rw [hM2, e1, IntKind.wrap_i64]; omega
  rw [show (2 * p + 1) * 2 ^ l - 1 = j by omega]
  have e2 : IntKind.i64.wrap (2 * (p : Int)) = 2 * (p : Int) := by rw [IntKind.wrap_i64]; omega
  have e3 : IntKind.i64.wrap (2 * (p : Int) + 1) = 2 * (p : Int) + 1 := by rw [IntKind.wrap_i64]; omega
  have e5 : (M : Int) * (2 * (p : Int) + 1) = ((j + 1 : Nat) : Int) := by rw [hj1, hM2, Int.mul_comm]; push_cast; rfl
  have e6 : ((j + 1 : Nat) : Int) = (j : Int) + 1 := by omega
  rw [e6] at e5
  have e7 : IntKind.i64.wrap ((j : Int) + 1) = (j : Int) + 1 := by rw [IntKind.wrap_i64]; omega
  have e8 : IntKind.i64.wrap (j : Int) = (j : Int) := by rw [IntKind.wrap_i64]; omega
  clear h hj1 hM2 hM e6
  go_enter Tryd.func21, Tryd.ntmps21
  go_wp2_with (first | (go_at_call 32; (with_reducible refine (H1.out _).mono ?_); rintro e w1 ⟨rfl, b1⟩))
  obtain ⟨w0, hw0⟩ : ∃ w0 : World, w1.alloc (.cells #[.int .i64 l, .int .i64 p, .bool true] 47) = w0 := ⟨_, rfl⟩
  rw [hw0]
  have c0 : w0.cell? ⟨w1.heap.size, 0, none⟩ = some (.int .i64 l) := by rw [← hw0]; exact cell_top _ _ _ _ _ _ rfl rfl
  have c1 : w0.cell? ⟨w1.heap.size, 1, none⟩ = some (.int .i64 p) := by rw [← hw0]; exact cell_top _ _ _ _ _ _ rfl rfl
  have hb : Below w.heap.size w w0 := by rw [← hw0]; exact b1.alloc b1.size _
  clear hw0
  go_quiet (fail)
  go_wp2_with fail
  go_ret
  exact ⟨rfl, below_drews hb⟩
/-- What Of tells of a complex number. -/
abbrev Of32 (a b l p : Nat) (I : Bool) : Prop := ∀ w, Calls Tryd.prog 32 #[.complex .f64 a b] w fun e w' => e = .returned (.agg #[.int .i64 l, .int .i64 p, .bool I]) ∧ Below w.heap.size w w'
theorem r20_neg {a b l p : Nat} (I : Bool) (deep : Int) (hd : deep < 0) (w : World) (H : Of32 a b l p I) : Calls Tryd.prog 20 #[.complex .f64 a b, .int .i64 deep] w fun e w' => e = .returned (.bool false) ∧ Below w.heap.size w w' := by
  have hz := zero47
  have H1 := Lib.hid H
  have t1 : decide (0 ≤ deep) = false := by simp; omega
  clear hd
  clear H
  go_enter Tryd.func20, Tryd.ntmps20
  go_wp2_with (first | (go_at_call 32; (with_reducible refine (H1.out _).mono ?_); rintro e w1 ⟨rfl, b1⟩))
  obtain ⟨w0, hw0⟩ : ∃ w0 : World, w1.alloc (.cells #[.int .i64 l, .int .i64 p, .bool I] 47) = w0 := ⟨_, rfl⟩
  rw [hw0]
  have c0 : w0.cell? ⟨w1.heap.size, 0, none⟩ = some (.int .i64 l) := by rw [← hw0]; exact cell_top _ _ _ _ _ _ rfl rfl
  have c1 : w0.cell? ⟨w1.heap.size, 1, none⟩ = some (.int .i64 p) := by rw [← hw0]; exact cell_top _ _ _ _ _ _ rfl rfl
  have c2 : w0.cell? ⟨w1.heap.size, 2, none⟩ = some (.bool I) := by rw [← hw0]; exact cell_top _ _ _ _ _ _ rfl rfl
  have hb : Below w.heap.size w w0 := by rw [← hw0]; exact b1.alloc b1.size _
  clear hw0
  go_quiet (fail)
  go_wp2_with fail
  go_ret
  exact ⟨rfl, below_drews hb⟩
theorem r20_deep {a b l p : Nat} (I : Bool) (deep : Int) (hd : 16 < deep) (w : World) (H : Of32 a b l p I) : Calls Tryd.prog 20 #[.complex .f64 a b, .int .i64 deep] w fun e w' => e = .returned (.bool false) ∧ Below w.heap.size w w' := by
  have hz := zero47
  have H1 := Lib.hid H
  have t1 : decide (0 ≤ deep) = true := by simp; omega
  have t2 : decide (deep ≤ 16) = false := by simp; omega
  clear hd
  clear H
  go_enter Tryd.func20, Tryd.ntmps20
  go_wp2_with (first | (go_at_call 32; (with_reducible refine (H1.out _).mono ?_); rintro e w1 ⟨rfl, b1⟩))
  obtain ⟨w0, hw0⟩ : ∃ w0 : World, w1.alloc (.cells #[.int .i64 l, .int .i64 p, .bool I] 47) = w0 := ⟨_, rfl⟩
  rw [hw0]
  have c0 : w0.cell? ⟨w1.heap.size, 0, none⟩ = some (.int .i64 l) := by rw [← hw0]; exact cell_top _ _ _ _ _ _ rfl rfl
  have c1 : w0.cell? ⟨w1.heap.size, 1, none⟩ = some (.int .i64 p) := by rw [← hw0]; exact cell_top _ _ _ _ _ _ rfl rfl
  have c2 : w0.cell? ⟨w1.heap.size, 2, none⟩ = some (.bool I) := by rw [← hw0]; exact cell_top _ _ _ _ _ _ rfl rfl
  have hb : Below w.heap.size w w0 := by rw [← hw0]; exact b1.alloc b1.size _
  clear hw0
  go_quiet (fail)
  go_wp2_with fail
  go_ret
  exact ⟨rfl, below_drews hb⟩
theorem r20_no {a b l p : Nat} (deep : Nat) (hd : deep ≤ 16) (w : World) (H : Of32 a b l p false) : Calls Tryd.prog 20 #[.complex .f64 a b, .int .i64 deep] w fun e w' => e = .returned (.bool false) ∧ Below w.heap.size w w' := by
  have hz := zero47
  have H1 := Lib.hid H
  have t1 : decide ((0 : Int) ≤ (deep : Int)) = true := by simp
  have t2 : decide ((deep : Int) ≤ 16) = true := by simp; omega
  clear hd
  clear H
  go_enter Tryd.func20, Tryd.ntmps20
  go_wp2_with (first | (go_at_call 32; (with_reducible refine (H1.out _).mono ?_); rintro e w1 ⟨rfl, b1⟩))
  obtain ⟨w0, hw0⟩ : ∃ w0 : World, w1.alloc (.cells #[.int .i64 l, .int .i64 p, .bool false] 47) = w0 := ⟨_, rfl⟩
  rw [hw0]
  have c0 : w0.cell? ⟨w1.heap.size, 0, none⟩ = some (.int .i64 l) := by rw [← hw0]; exact cell_top _ _ _ _ _ _ rfl rfl
  have c1 : w0.cell? ⟨w1.heap.size, 1, none⟩ = some (.int .i64 p) := by rw [← hw0]; exact cell_top _ _ _ _ _ _ rfl rfl
  have c2 : w0.cell? ⟨w1.heap.size, 2, none⟩ = some (.bool false) := by rw [← hw0]; exact cell_top _ _ _ _ _ _ rfl rfl
  have hb : Below w.heap.size w w0 := by rw [← hw0]; exact b1.alloc b1.size _
  clear hw0
  go_quiet (fail)
  go_wp2_with fail
  go_ret
  exact ⟨rfl, below_drews hb⟩
theorem r20_far {a b l p : Nat} (deep : Nat) (hd : deep ≤ 16) (hl : deep < l) (w : World) (H : Of32 a b l p true) : Calls Tryd.prog 20 #[.complex .f64 a b, .int .i64 deep] w fun e w' => e = .returned (.bool false) ∧ Below w.heap.size w w' := by
  have hz := zero47
  have H1 := Lib.hid H
  have t1 : decide ((0 : Int) ≤ (deep : Int)) = true := by simp
  have t2 : decide ((deep : Int) ≤ 16) = true := by simp; omega
  have t3 : decide (l ≤ deep) = false := by simp; omega
  clear hd hl
  clear H
  go_enter Tryd.func20, Tryd.ntmps20
  go_wp2_with (first | (go_at_call 32; (with_reducible refine (H1.out _).mono ?_); rintro e w1 ⟨rfl, b1⟩))
  obtain ⟨w0, hw0⟩ : ∃ w0 : World, w1.alloc (.cells #[.int .i64 l, .int .i64 p, .bool true] 47) = w0 := ⟨_, rfl⟩
  rw [hw0]
  have c0 : w0.cell? ⟨w1.heap.size, 0, none⟩ = some (.int .i64 l) := by rw [← hw0]; exact cell_top _ _ _ _ _ _ rfl rfl
  have c1 : w0.cell? ⟨w1.heap.size, 1, none⟩ = some (.int .i64 p) := by rw [← hw0]; exact cell_top _ _ _ _ _ _ rfl rfl
  have c2 : w0.cell? ⟨w1.heap.size, 2, none⟩ = some (.bool true) := by rw [← hw0]; exact cell_top _ _ _ _ _ _ rfl rfl
  have hb : Below w.heap.size w w0 := by rw [← hw0]; exact b1.alloc b1.size _
  clear hw0
  go_quiet (fail)
  go_wp2_with fail
  go_ret
  exact ⟨rfl, below_drews hb⟩
theorem r20_wide {a b l p : Nat} (deep : Nat) (hd : deep ≤ 16) (hl : l ≤ deep) (hp : 2 ^ (deep - l) ≤ p) (w : World) (H : Of32 a b l p true) : Calls Tryd.prog 20 #[.complex .f64 a b, .int .i64 deep] w fun e w' => e = .returned (.bool false) ∧ Below w.heap.size w w' := by
  have hz := zero47
  have H1 := Lib.hid H
  have t1 : decide ((0 : Int) ≤ (deep : Int)) = true := by simp
  have t2 : decide ((deep : Int) ≤ 16) = true := by simp; omega
  have t3 : decide (l ≤ deep) = true := by simp; omega
  obtain ⟨d, hdd⟩ : ∃ d : Nat, d = deep - l := ⟨_, rfl⟩
  have e1 : IntKind.i64.wrap ((deep : Int) - l) = (d : Int) := by rw [IntKind.wrap_i64]; omega
  have e2 : (deep : Int) - l = (d : Int) := by omega
  have hd16 : d ≤ 16 := by omega
  have e5 : IntKind.i64.wrap (d : Int) = (d : Int) := by rw [IntKind.wrap_i64]; omega
  have e6 : (0 : Int) ≤ (d : Int) := by omega
  have hq := pow16 d hd16
  obtain ⟨M, hM⟩ : ∃ M : Nat, M = 2 ^ d := ⟨_, rfl⟩
  have e3 : IntKind.i64.wrap (2 ^ d) = (M : Int) := by
    have e1 : (2 : Int) ^ d = ((2 ^ d : Nat) : Int) := by push_cast; rfl
    rw [hM, e1, IntKind.wrap_i64]; omega
  have e4 : decide (p < M) = false := by rw [hM, hdd]; simp; omega
  clear hM hdd hq hd hl hp
  clear H
  go_enter Tryd.func20, Tryd.ntmps20
  go_wp2_with (first | (go_at_call 32; (with_reducible refine (H1.out _).mono ?_); rintro e w1 ⟨rfl, b1⟩))
  obtain ⟨w0, hw0⟩ : ∃ w0 : World, w1.alloc (.cells #[.int .i64 l, .int .i64 p, .bool true] 47) = w0 := ⟨_, rfl⟩
  rw [hw0]
  have c0 : w0.cell? ⟨w1.heap.size, 0, none⟩ = some (.int .i64 l) := by rw [← hw0]; exact cell_top _ _ _ _ _ _ rfl rfl
  have c1 : w0.cell? ⟨w1.heap.size, 1, none⟩ = some (.int .i64 p) := by rw [← hw0]; exact cell_top _ _ _ _ _ _ rfl rfl
  have c2 : w0.cell? ⟨w1.heap.size, 2, none⟩ = some (.bool true) := by rw [← hw0]; exact cell_top _ _ _ _ _ _ rfl rfl
  have hb : Below w.heap.size w w0 := by rw [← hw0]; exact b1.alloc b1.size _
  clear hw0
  go_quiet (fail)
  go_wp2_with fail
  go_ret
  exact ⟨rfl, below_drews hb⟩
theorem r20_yes {a b l p : Nat} (deep : Nat) (hd : deep ≤ 16) (hl : l ≤ deep) (hp : p < 2 ^ (deep - l)) (w : World) (H : Of32 a b l p true) : Calls Tryd.prog 20 #[.complex .f64 a b, .int .i64 deep] w fun e w' => e = .returned (.bool true) ∧ Below w.heap.size w w' := by
  have hz := zero47
  have H1 := Lib.hid H
  have t1 : decide ((0 : Int) ≤ (deep : Int)) = true := by simp
  have t2 : decide ((deep : Int) ≤ 16) = true := by simp; omega
  have t3 : decide (l ≤ deep) = true := by simp; omega
  obtain ⟨d, hdd⟩ : ∃ d : Nat, d = deep - l := ⟨_, rfl⟩
  have e1 : IntKind.i64.wrap ((deep : Int) - l) = (d : Int) := by rw [IntKind.wrap_i64]; omega
  have e2 : (deep : Int) - l = (d : Int) := by omega
  have hd16 : d ≤ 16 := by omega
  have e5 : IntKind.i64.wrap (d : Int) = (d : Int) := by rw [IntKind.wrap_i64]; omega
  have e6 : (0 : Int) ≤ (d : Int) := by omega
  have hq := pow16 d hd16
  obtain ⟨M, hM⟩ : ∃ M : Nat, M = 2 ^ d := ⟨_, rfl⟩
  have e3 : IntKind.i64.wrap (2 ^ d) = (M : Int) := by
    have e1 : (2 : Int) ^ d = ((2 ^ d : Nat) : Int) := by push_cast; rfl
    rw [hM, e1, IntKind.wrap_i64]; omega
  have e4 : decide (p < M) = true := by rw [hM, hdd]; simp; omega
  clear hM hdd hq hd hl hp
  clear H
  go_enter Tryd.func20, Tryd.ntmps20
  go_wp2_with (first | (go_at_call 32; (with_reducible refine (H1.out _).mono ?_); rintro e w1 ⟨rfl, b1⟩))
  obtain ⟨w0, hw0⟩ : ∃ w0 : World, w1.alloc (.cells #[.int .i64 l, .int .i64 p, .bool true] 47) = w0 := ⟨_, rfl⟩
  rw [hw0]
  have c0 : w0.cell? ⟨w1.heap.size, 0, none⟩ = some (.int .i64 l) := by rw [← hw0]; exact cell_top _ _ _ _ _ _ rfl rfl
  have c1 : w0.cell? ⟨w1.heap.size, 1, none⟩ = some (.int .i64 p) := by rw [← hw0]; exact cell_top _ _ _ _ _ _ rfl rfl
  have c2 : w0.cell? ⟨w1.heap.size, 2, none⟩ = some (.bool true) := by rw [← hw0]; exact cell_top _ _ _ _ _ _ rfl rfl
  have hb : Below w.heap.size w w0 := by rw [← hw0]; exact b1.alloc b1.size _
  clear hw0
  go_quiet (fail)
  go_wp2_with fail
  go_ret
  exact ⟨rfl, below_drews hb⟩
theorem r25_no {a b l p : Nat} (i : Int) (w : World) (H : Of32 a b l p false) : Calls Tryd.prog 25 #[.complex .f64 a b, .int .i64 i] w fun e w' => e = .returned (.bool false) ∧ Below w.heap.size w w' := by
  have hz := zero47
  have H1 := Lib.hid H
  clear H
  go_enter Tryd.func25, Tryd.ntmps25
  go_wp2_with (first | (go_at_call 32; (with_reducible refine (H1.out _).mono ?_); rintro e w1 ⟨rfl, b1⟩))
  obtain ⟨w0, hw0⟩ : ∃ w0 : World, w1.alloc (.cells #[.int .i64 l, .int .i64 p, .bool false] 47) = w0 := ⟨_, rfl⟩
  rw [hw0]
  have c0 : w0.cell? ⟨w1.heap.size, 0, none⟩ = some (.int .i64 l) := by rw [← hw0]; exact cell_top _ _ _ _ _ _ rfl rfl
  have c1 : w0.cell? ⟨w1.heap.size, 1, none⟩ = some (.int .i64 p) := by rw [← hw0]; exact cell_top _ _ _ _ _ _ rfl rfl
  have c2 : w0.cell? ⟨w1.heap.size, 2, none⟩ = some (.bool false) := by rw [← hw0]; exact cell_top _ _ _ _ _ _ rfl rfl
  have hb : Below w.heap.size w w0 := by rw [← hw0]; exact b1.alloc b1.size _
  clear hw0
  go_quiet (fail)
  go_wp2_with fail
  go_ret
  exact ⟨rfl, below_drews hb⟩
theorem r25_neg {a b l p : Nat} (i : Int) (hi : i < 0) (w : World) (H : Of32 a b l p true) : Calls Tryd.prog 25 #[.complex .f64 a b, .int .i64 i] w fun e w' => e = .returned (.bool false) ∧ Below w.heap.size w w' := by
  have hz := zero47
  have H1 := Lib.hid H
  have t1 : decide (0 ≤ i) = false := by simp; omega
  clear hi
  clear H
  go_enter Tryd.func25, Tryd.ntmps25
  go_wp2_with (first | (go_at_call 32; (with_reducible refine (H1.out _).mono ?_); rintro e w1 ⟨rfl, b1⟩))
  obtain ⟨w0, hw0⟩ : ∃ w0 : World, w1.alloc (.cells #[.int .i64 l, .int .i64 p, .bool true] 47) = w0 := ⟨_, rfl⟩
  rw [hw0]
  have c0 : w0.cell? ⟨w1.heap.size, 0, none⟩ = some (.int .i64 l) := by rw [← hw0]; exact cell_top _ _ _ _ _ _ rfl rfl
  have c1 : w0.cell? ⟨w1.heap.size, 1, none⟩ = some (.int .i64 p) := by rw [← hw0]; exact cell_top _ _ _ _ _ _ rfl rfl
  have c2 : w0.cell? ⟨w1.heap.size, 2, none⟩ = some (.bool true) := by rw [← hw0]; exact cell_top _ _ _ _ _ _ rfl rfl
  have hb : Below w.heap.size w w0 := by rw [← hw0]; exact b1.alloc b1.size _
  clear hw0
  go_quiet (fail)
  go_wp2_with fail
  go_ret
  exact ⟨rfl, below_drews hb⟩
theorem r25_big {a b l p : Nat} (i : Int) (hi : 65536 ≤ i) (w : World) (H : Of32 a b l p true) : Calls Tryd.prog 25 #[.complex .f64 a b, .int .i64 i] w fun e w' => e = .returned (.bool false) ∧ Below w.heap.size w w' := by
  have hz := zero47
  have H1 := Lib.hid H
  have t1 : decide (0 ≤ i) = true := by simp; omega
  have t2 : decide (i < 65536) = false := by simp; omega
  clear hi
  clear H
  go_enter Tryd.func25, Tryd.ntmps25
  go_wp2_with (first | (go_at_call 32; (with_reducible refine (H1.out _).mono ?_); rintro e w1 ⟨rfl, b1⟩))
  obtain ⟨w0, hw0⟩ : ∃ w0 : World, w1.alloc (.cells #[.int .i64 l, .int .i64 p, .bool true] 47) = w0 := ⟨_, rfl⟩
  rw [hw0]
  have c0 : w0.cell? ⟨w1.heap.size, 0, none⟩ = some (.int .i64 l) := by rw [← hw0]; exact cell_top _ _ _ _ _ _ rfl rfl
  have c1 : w0.cell? ⟨w1.heap.size, 1, none⟩ = some (.int .i64 p) := by rw [← hw0]; exact cell_top _ _ _ _ _ _ rfl rfl
  have c2 : w0.cell? ⟨w1.heap.size, 2, none⟩ = some (.bool true) := by rw [← hw0]; exact cell_top _ _ _ _ _ _ rfl rfl
  have hb : Below w.heap.size w w0 := by rw [← hw0]; exact b1.alloc b1.size _
  clear hw0
  go_quiet (fail)
  go_wp2_with fail
  go_ret
  exact ⟨rfl, below_drews hb⟩
theorem r25_yes {a b l p : Nat} (i : Nat) (hi : i < 65536) (hl : l ≤ 16) (w : World) (H : Of32 a b l p true) : Calls Tryd.prog 25 #[.complex .f64 a b, .int .i64 i] w fun e w' => e = .returned (.bool (decide (i / 2 ^ l = p))) ∧ Below w.heap.size w w' := by
  have hz := zero47
  have H1 := Lib.hid H
  have t1 : decide ((0 : Int) ≤ (i : Int)) = true := by simp
  have t2 : decide ((i : Int) < 65536) = true := by simp; omega
  obtain ⟨q, hq⟩ : ∃ q, q = i / 2 ^ l := ⟨_, rfl⟩
  have e1 : (i : Int) / 2 ^ l = (q : Int) := by rw [hq]; push_cast; rfl
  have E2 := Lib.hid (show ((q : Int) == (p : Int)) = decide (i / 2 ^ l = p) by rw [hq, Bool.eq_iff_iff]; simp [-Int.natCast_ediv]; exact Int.ofNat_inj)
  clear hq hi
  clear H
  go_enter Tryd.func25, Tryd.ntmps25
  go_wp2_with (first | (go_at_call 32; (with_reducible refine (H1.out _).mono ?_); rintro e w1 ⟨rfl, b1⟩))
  obtain ⟨w0, hw0⟩ : ∃ w0 : World, w1.alloc (.cells #[.int .i64 l, .int .i64 p, .bool true] 47) = w0 := ⟨_, rfl⟩
  rw [hw0]
  have c0 : w0.cell? ⟨w1.heap.size, 0, none⟩ = some (.int .i64 l) := by rw [← hw0]; exact cell_top _ _ _ _ _ _ rfl rfl
  have c1 : w0.cell? ⟨w1.heap.size, 1, none⟩ = some (.int .i64 p) := by rw [← hw0]; exact cell_top _ _ _ _ _ _ rfl rfl
  have c2 : w0.cell? ⟨w1.heap.size, 2, none⟩ = some (.bool true) := by rw [← hw0]; exact cell_top _ _ _ _ _ _ rfl rfl
  have hb : Below w.heap.size w w0 := by rw [← hw0]; exact b1.alloc b1.size _
  clear hw0
  go_quiet (fail)
  go_wp2_with fail
  go_ret
  exact ⟨congrArg (fun v => Ending.returned (.bool v)) E2.out, below_drews hb⟩
end Go.Proofs.YtjdpkhcnmllleaaDoor
