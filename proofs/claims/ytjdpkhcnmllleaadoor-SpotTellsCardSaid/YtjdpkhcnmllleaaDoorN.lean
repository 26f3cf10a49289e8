/- The reference's functions over spots, walked. -/
import Derived.Test.YtjdpkhcnmllleaaDoorM
namespace Go.Proofs.YtjdpkhcnmllleaaDoor
open Go.ChangeShapes Go.WideShapes Go.ChangeAt Go.RowKit
set_option linter.unusedSimpArgs false
set_option linter.unusedVariables false

theorem rup_yes (l p : Nat) (hl : l < 16) (hp : p ≤ 65535) (w : World) : Calls Tryd.prog 33 #[.agg #[.int .i64 l, .int .i64 p, .bool true]] w fun e w' => e = .returned (.agg #[.int .i64 ((l + 1 : Nat) : Int), .int .i64 ((p / 2 : Nat) : Int), .bool true]) ∧ Below w.heap.size w w' := by
  have hz := zero47
  have h1 : ((l : Int) == 16) = false := by simp; omega
  have e1 : ((l + 1 : Nat) : Int) = (l : Int) + 1 := by omega
  have e2 : ((p / 2 : Nat) : Int) = (p : Int) / 2 := by omega
  rw [e1, e2]
  clear e1 e2
  go_enter Tryd.func33, Tryd.ntmps33
  go_wp2_with fail
  exact bodyPost_ret (v := .agg #[.int .i64 ((l : Int) + 1), .int .i64 ((p : Int) / 2), .bool true]) (by simp [results, Tryd.results33, go_sem]) rfl ⟨rfl, ((Below.refl _ _).alloc (Nat.le_refl _) _).alloc (by simp) _⟩
theorem rup_no (l p : Nat) (b : Bool) (hl : b = false ∨ l = 16) (w : World) : Calls Tryd.prog 33 #[.agg #[.int .i64 l, .int .i64 p, .bool b]] w fun e w' => e = .returned (.agg #[.int .i64 0, .int .i64 0, .bool false]) ∧ Below w.heap.size w w' := by
  have hz := zero47
  cases b with
  | false =>
    clear hl
    go_enter Tryd.func33, Tryd.ntmps33
    go_wp2_with fail
    exact bodyPost_ret (v := .agg #[.int .i64 0, .int .i64 0, .bool false]) (by simp [results, Tryd.results33, go_sem]) rfl ⟨rfl, ((Below.refl _ _).alloc (Nat.le_refl _) _).alloc (by simp) _⟩
  | true =>
    have h1 : ((l : Int) == 16) = true := by simp at hl ⊢; omega
    clear hl
    go_enter Tryd.func33, Tryd.ntmps33
    go_wp2_with fail
    exact bodyPost_ret (v := .agg #[.int .i64 0, .int .i64 0, .bool false]) (by simp [results, Tryd.results33, go_sem]) rfl ⟨rfl, ((Below.refl _ _).alloc (Nat.le_refl _) _).alloc (by simp) _⟩
theorem num_yes (l p : Nat) (w : World) : Calls Tryd.prog 34 #[.agg #[.int .i64 l, .int .i64 p, .bool true]] w fun e w' => e = .returned (.complex .f64 (fl l) (fl p)) ∧ Below w.heap.size w w' := by
  have a4 := floatOfInt_fl l
  have b4 := floatOfInt_fl p
  go_enter Tryd.func34, Tryd.ntmps34
  go_wp2_with fail
  go_ret
  exact ⟨rfl, (Below.refl _ _).alloc (Nat.le_refl _) _⟩
theorem num_no (l p : Nat) (w : World) : Calls Tryd.prog 34 #[.agg #[.int .i64 l, .int .i64 p, .bool false]] w fun e w' => e = .returned (.complex .f64 0 0) ∧ Below w.heap.size w w' := by
  go_enter Tryd.func34, Tryd.ntmps34
  go_wp2_with fail
  go_ret
  exact ⟨rfl, (Below.refl _ _).alloc (Nat.le_refl _) _⟩
theorem num0 (w : World) : Calls Tryd.prog 34 #[.agg #[.int .i64 0, .int .i64 0, .bool false]] w fun e w' => e = .returned (.complex .f64 0 0) ∧ Below w.heap.size w w' := num_no 0 0 w
theorem rup0 (w : World) : Calls Tryd.prog 33 #[.agg #[.int .i64 0, .int .i64 0, .bool false]] w fun e w' => e = .returned (.agg #[.int .i64 0, .int .i64 0, .bool false]) ∧ Below w.heap.size w w' := rup_no 0 0 false (.inl rfl) w

theorem r22_yes {a b l p : Nat} (h : Sp a b l p) (hl : l < 16) (w : World) : Calls Tryd.prog 22 #[.complex .f64 a b] w fun e w' => e = .returned (.complex .f64 (fl (l + 1)) (fl (p / 2))) ∧ Below w.heap.size w w' := by
  have h3 : p ≤ 65535 := by have := h.p16; have := pow16 (16 - l) (by omega); omega
  obtain ⟨L, hL⟩ : ∃ L, L = l + 1 := ⟨_, rfl⟩
  obtain ⟨P, hP⟩ : ∃ P, P = p / 2 := ⟨_, rfl⟩
  have H1 := Lib.hid (of_yes h)
  have H2 := Lib.hid (rup_yes l p hl h3)
  rw [← hL, ← hP] at H2 ⊢
  have H3 := Lib.hid (num_yes L P)
  clear hL hP h
  go_enter Tryd.func22, Tryd.ntmps22
  go_wp2_with (first | (go_at_call 32; (with_reducible refine (H1.out _).mono ?_); rintro e w1 ⟨rfl, b1⟩) | (go_at_call 33; (with_reducible refine (H2.out _).mono ?_); rintro e w2 ⟨rfl, b2⟩) | (go_at_call 34; (with_reducible refine (H3.out _).mono ?_); rintro e w3 ⟨rfl, b3⟩))
  go_ret
  exact ⟨rfl, (b1.trans (b2.mono b1.size)).trans (b3.mono (by have := b1.size; have := b2.size; omega))⟩
theorem r22_no {a b : Nat} (h : No a b) (w : World) : Calls Tryd.prog 22 #[.complex .f64 a b] w fun e w' => e = .returned (.complex .f64 0 0) ∧ Below w.heap.size w w' := by
  have H1 := Lib.hid (of_no h)
  have H2 := Lib.hid rup0
  have H3 := Lib.hid num0
  clear h
  go_enter Tryd.func22, Tryd.ntmps22
  go_wp2_with (first | (go_at_call 32; (with_reducible refine (H1.out _).mono ?_); rintro e w1 ⟨rfl, b1⟩) | (go_at_call 33; (with_reducible refine (H2.out _).mono ?_); rintro e w2 ⟨rfl, b2⟩) | (go_at_call 34; (with_reducible refine (H3.out _).mono ?_); rintro e w3 ⟨rfl, b3⟩))
  go_ret
  exact ⟨rfl, (b1.trans (b2.mono b1.size)).trans (b3.mono (by have := b1.size; have := b2.size; omega))⟩
theorem r22_top {a b p : Nat} (h : Sp a b 16 p) (w : World) : Calls Tryd.prog 22 #[.complex .f64 a b] w fun e w' => e = .returned (.complex .f64 0 0) ∧ Below w.heap.size w w' := by
  have H1 : Hid (∀ w, Calls Tryd.prog 32 #[.complex .f64 a b] w fun e w' => e = .returned (.agg #[.int .i64 16, .int .i64 p, .bool true]) ∧ Below w.heap.size w w') := Lib.hid (of_yes h)
  have H2 : Hid (∀ w, Calls Tryd.prog 33 #[.agg #[.int .i64 16, .int .i64 p, .bool true]] w fun e w' => e = .returned (.agg #[.int .i64 0, .int .i64 0, .bool false]) ∧ Below w.heap.size w w') := Lib.hid (rup_no 16 p true (.inr rfl))
  have H3 := Lib.hid num0
  clear h
  go_enter Tryd.func22, Tryd.ntmps22
  go_wp2_with (first | (go_at_call 32; (with_reducible refine (H1.out _).mono ?_); rintro e w1 ⟨rfl, b1⟩) | (go_at_call 33; (with_reducible refine (H2.out _).mono ?_); rintro e w2 ⟨rfl, b2⟩) | (go_at_call 34; (with_reducible refine (H3.out _).mono ?_); rintro e w3 ⟨rfl, b3⟩))
  go_ret
  exact ⟨rfl, (b1.trans (b2.mono b1.size)).trans (b3.mono (by have := b1.size; have := b2.size; omega))⟩
end Go.Proofs.YtjdpkhcnmllleaaDoor
