/- The reference's functions, walked. -/
import Derived.Test.YtjdpkhcnmllleaaDoorL8
import Derived.Deep.QuietTactic
import Derived.BigQuiet
import Derived.StillTailTactics
namespace Go.Proofs.YtjdpkhcnmllleaaDoor
open Go.ChangeShapes Go.WideShapes Go.ChangeAt Go.RowKit
set_option linter.unusedSimpArgs false
set_option linter.unusedVariables false

theorem cmp_eq_iff (a b : Int) : compare a b = .eq ↔ a = b := by
  simp only [compare, compareOfLessAndEq]
  by_cases h : a < b
  · rw [if_pos h]; simp; omega
  · rw [if_neg h]; split
    · rename_i e; simp [e]
    · rename_i e; simp [e]
theorem dorder_symm {x y : Ieee.Datum} (h : x.order y = some .eq) : y.order x = some .eq := by
  cases x with
  | nan => cases y <;> simp [Ieee.Datum.order] at h
  | infinity s =>
    cases y with
    | nan => simp [Ieee.Datum.order] at h
    | infinity t => cases s <;> cases t <;> simp_all [Ieee.Datum.order] <;> revert h <;> decide
    | number t n j => cases s <;> simp [Ieee.Datum.order] at h
  | number s m i =>
    cases y with
    | nan => simp [Ieee.Datum.order] at h
    | infinity t => cases t <;> simp [Ieee.Datum.order] at h
    | number t n j =>
      simp only [Ieee.Datum.order, Option.some.injEq] at h ⊢
      rw [cmp_eq_iff] at h ⊢
      rw [Int.min_comm j i]
      exact h.symm
theorem order_symm (x y : Nat) : (FloatKind.f64.format.order x y == some .eq) = (FloatKind.f64.format.order y x == some .eq) := by
  rw [Bool.eq_iff_iff, beq_iff_eq, beq_iff_eq]
  exact ⟨dorder_symm, dorder_symm⟩
theorem zero47 (w : World) : (zeroValue 47).run Tryd.prog w = .ok (.agg #[.int .i64 0, .int .i64 0, .bool false]) w := by kernel_rfl
theorem fl65536 : fl 65536 = 4679240012837945344 := by decide +kernel
theorem cell_top (w : World) (o : Array Value) (t : TypeId) (n i : Nat) (v : Value) (hn : n = w.heap.size) (h : o[i]? = some v) : (w.alloc (.cells o t)).cell? ⟨n, i, none⟩ = some v := by
  subst hn; rw [cell_of_row _ _ i o t (0, 0) (heap_alloc_new w _)]; exact h
def spot (l p : Nat) (b : Bool) : Value := .agg #[.int .i64 l, .int .i64 p, .bool b]
set_option maxHeartbeats 1000000 in
theorem of_yes {a b l p : Nat} (h : Sp a b l p) (w : World) : Calls Tryd.prog 32 #[.complex .f64 a b] w fun e w' => e = .returned (.agg #[.int .i64 l, .int .i64 p, .bool true]) ∧ Below w.heap.size w w' := by
  have hz := zero47
  have hl := h.l16
  have hp := pow16 (16 - l) (by omega)
  have hp16 := h.p16
  have a1 := ge0 h.re
  have b1 := ge0 h.im
  have a2 : (FloatKind.f64.format.order a 4625196817309499392 == some .lt || FloatKind.f64.format.order a 4625196817309499392 == some .eq) = true := by have := le_fl h.re (m := 16) (by omega) h.l16; rwa [fl16] at this
  have b2 : (FloatKind.f64.format.order b 4679240012837945344 == some .lt) = true := by
    have := order_lt h.im (is_fl 65536 (by omega))
    rw [fl65536] at this
    show (Ieee.double.order b 4679240012837945344 == some .lt) = true
    rw [this]; simp; omega
  have a3 := conv28 h.re (by omega)
  have b3 := conv28 h.im (by omega)
  have a4 := floatOfInt_fl l
  have b4 := floatOfInt_fl p
  have a5 : (FloatKind.f64.format.order (fl l) a != some .eq) = false := by rw [bne, eq_is (is_fl l (by omega)) h.re]; rfl
  have b5 : (FloatKind.f64.format.order (fl p) b != some .eq) = false := by rw [bne, eq_is (is_fl p (by omega)) h.im]; rfl
  obtain ⟨d, hd⟩ : ∃ d : Nat, d = 16 - l := ⟨_, rfl⟩
  have e1 : IntKind.i64.wrap (16 - (l : Int)) = (d : Int) := by rw [IntKind.wrap_i64]; omega
  have e2 : 16 - (l : Int) = (d : Int) := by omega
  have hd16 : d ≤ 16 := by omega
  have e5 : IntKind.i64.wrap (d : Int) = (d : Int) := by rw [IntKind.wrap_i64]; omega
  have e6 : (0 : Int) ≤ (d : Int) := by omega
  obtain ⟨M, hM⟩ : ∃ M : Nat, M = 2 ^ d := ⟨_, rfl⟩
  have e3 : IntKind.i64.wrap (2 ^ d) = (M : Int) := by
    rw [hM, hd]
    have e1 : (2 : Int) ^ (16 - l) = ((2 ^ (16 - l) : Nat) : Int) := by push_cast; rfl
    rw [e1, IntKind.wrap_i64]; omega
  have e4 : decide (M ≤ p) = false := by rw [hM, hd]; simp; omega
  clear hM hd hp hp16 h
  go_enter Tryd.func32, Tryd.ntmps32
  go_wp2_with fail
  obtain ⟨w0, hw0⟩ : ∃ w0 : World, (w.alloc (.cells #[.int .i64 0, .int .i64 0, .bool false] 47)).alloc (.cells #[.int .i64 l, .int .i64 p, .bool true] 47) = w0 := ⟨_, rfl⟩
  rw [hw0]
  have c0 : w0.cell? ⟨w.heap.size + 1, 0, none⟩ = some (.int .i64 l) := by rw [← hw0]; exact cell_top _ _ _ _ _ _ (by simp) rfl
  have c1 : w0.cell? ⟨w.heap.size + 1, 1, none⟩ = some (.int .i64 p) := by rw [← hw0]; exact cell_top _ _ _ _ _ _ (by simp) rfl
  have HW := Lib.hid hw0
  clear hw0
  go_still (by kernel_rfl)
  change Exit.then _ _ _ _ w0.drew
  rw [← HW.out]
  clear c0 c1
  go_wp2_with fail
  exact bodyPost_ret (v := .agg #[.int .i64 l, .int .i64 p, .bool true]) (by simp [results, Tryd.results32, go_sem]) rfl ⟨rfl, (((Below.refl _ _).alloc (Nat.le_refl _) _).alloc (by simp) _).drew⟩
theorem below_drews {B n : Nat} {a w : World} (h : Below B a w) : Below B a (w.drewN n) := ⟨h.os, h.tape, h.output, h.size, h.block⟩
theorem bool_cases (b : Bool) : b = true ∨ b = false := by cases b <;> simp
set_option maxHeartbeats 1000000 in
theorem of_no {a b : Nat} (h : No a b) (w : World) : Calls Tryd.prog 32 #[.complex .f64 a b] w fun e w' => e = .returned (.agg #[.int .i64 0, .int .i64 0, .bool false]) ∧ Below w.heap.size w w' := by
  have hz := zero47
  rcases bool_cases (FloatKind.f64.format.order a 0 == some .gt || FloatKind.f64.format.order a 0 == some .eq) with a1 | a1
  case inr =>
    clear h
    go_enter Tryd.func32, Tryd.ntmps32
    go_wp2_with fail
    exact bodyPost_ret (v := .agg #[.int .i64 0, .int .i64 0, .bool false]) (by simp [results, Tryd.results32, go_sem]) rfl ⟨rfl, (Below.refl _ _).alloc (Nat.le_refl _) _⟩
  rcases bool_cases (FloatKind.f64.format.order a 4625196817309499392 == some .lt || FloatKind.f64.format.order a 4625196817309499392 == some .eq) with a2 | a2
  case inr =>
    clear h
    go_enter Tryd.func32, Tryd.ntmps32
    go_wp2_with fail
    exact bodyPost_ret (v := .agg #[.int .i64 0, .int .i64 0, .bool false]) (by simp [results, Tryd.results32, go_sem]) rfl ⟨rfl, (Below.refl _ _).alloc (Nat.le_refl _) _⟩
  rcases bool_cases (FloatKind.f64.format.order b 0 == some .gt || FloatKind.f64.format.order b 0 == some .eq) with b1 | b1
  case inr =>
    clear h
    go_enter Tryd.func32, Tryd.ntmps32
    go_wp2_with fail
    exact bodyPost_ret (v := .agg #[.int .i64 0, .int .i64 0, .bool false]) (by simp [results, Tryd.results32, go_sem]) rfl ⟨rfl, (Below.refl _ _).alloc (Nat.le_refl _) _⟩
  rcases bool_cases (FloatKind.f64.format.order b 4679240012837945344 == some .lt) with b2 | b2
  case inr =>
    clear h
    go_enter Tryd.func32, Tryd.ntmps32
    go_wp2_with fail
    exact bodyPost_ret (v := .agg #[.int .i64 0, .int .i64 0, .bool false]) (by simp [results, Tryd.results32, go_sem]) rfl ⟨rfl, (Below.refl _ _).alloc (Nat.le_refl _) _⟩
  have is16 : Is 4625196817309499392 16 := by have := is_fl 16 (by omega); rwa [fl16] at this
  have is65536 : Is 4679240012837945344 65536 := by have := is_fl 65536 (by omega); rwa [fl65536] at this
  obtain ⟨l, l1, l2, l3⟩ := whole_of (x := a) is0 is16 (by omega) a1 a2
  obtain ⟨p, p1, p2, p3⟩ := whole_of (x := b) is0 is65536 (by omega) b1 (by show (FloatKind.f64.format.order b 4679240012837945344 == some .lt || _) = true; rw [b2]; rfl)
  have a3 := fun w => run_convert_float_int (P := Tryd.prog) w 28 3 .f64 .i64 a l (by kernel_rfl) Tryd.underlying3 l2
  have b3 := fun w => run_convert_float_int (P := Tryd.prog) w 28 3 .f64 .i64 b p (by kernel_rfl) Tryd.underlying3 p2
  have a4 := floatOfInt_fl l
  have b4 := floatOfInt_fl p
  obtain ⟨w0, hw0⟩ : ∃ w0 : World, (w.alloc (.cells #[.int .i64 0, .int .i64 0, .bool false] 47)).alloc (.cells #[.int .i64 l, .int .i64 p, .bool true] 47) = w0 := ⟨_, rfl⟩
  have c0 : w0.cell? ⟨w.heap.size + 1, 0, none⟩ = some (.int .i64 l) := by rw [← hw0]; exact cell_top _ _ _ _ _ _ (by simp) rfl
  have c1 : w0.cell? ⟨w.heap.size + 1, 1, none⟩ = some (.int .i64 p) := by rw [← hw0]; exact cell_top _ _ _ _ _ _ (by simp) rfl
  have HW := Lib.hid hw0
  clear hw0 is16 is65536
  rcases bool_cases (FloatKind.f64.format.order (fl l) a != some .eq) with a5 | a5
  case inl =>
    clear h l2 l3 p2 p3
    go_enter Tryd.func32, Tryd.ntmps32
    go_wp2_with fail
    rw [HW.out]
    go_quiet (fail)
    rw [← HW.out]
    clear c0 c1
    go_wp2_with fail
    exact bodyPost_ret (v := .agg #[.int .i64 0, .int .i64 0, .bool false]) (by simp [results, Tryd.results32, go_sem]) rfl ⟨rfl, (((below_drews (((Below.refl _ _).alloc (Nat.le_refl _) _).alloc (by simp) _)).setCell (Nat.le_refl _) _).setCell (Nat.le_refl _) _).setCell (Nat.le_refl _) _⟩
  rcases bool_cases (FloatKind.f64.format.order (fl p) b != some .eq) with b5 | b5
  case inl =>
    clear h l2 l3 p2 p3
    go_enter Tryd.func32, Tryd.ntmps32
    go_wp2_with fail
    rw [HW.out]
    go_quiet (fail)
    rw [← HW.out]
    clear c0 c1
    go_wp2_with fail
    exact bodyPost_ret (v := .agg #[.int .i64 0, .int .i64 0, .bool false]) (by simp [results, Tryd.results32, go_sem]) rfl ⟨rfl, (((below_drews (((Below.refl _ _).alloc (Nat.le_refl _) _).alloc (by simp) _)).setCell (Nat.le_refl _) _).setCell (Nat.le_refl _) _).setCell (Nat.le_refl _) _⟩
  have ha : Is a l := l3 _ (is_fl l (by omega)) (by
    have : (FloatKind.f64.format.order (fl l) a == some .eq) = true := by simpa [bne] using a5
    rwa [order_symm] at this)
  have hb : Is b p := p3 _ (is_fl p (by omega)) (by
    have : (FloatKind.f64.format.order (fl p) b == some .eq) = true := by simpa [bne] using b5
    rwa [order_symm] at this)
  have hp : 2 ^ (16 - l) ≤ p := by
    rcases Nat.lt_or_ge p (2 ^ (16 - l)) with g | g
    · exact absurd ⟨ha, hb, l1, g⟩ (h l p)
    · exact g
  have hq := pow16 (16 - l) (by omega)
  obtain ⟨d, hd⟩ : ∃ d : Nat, d = 16 - l := ⟨_, rfl⟩
  have e1 : IntKind.i64.wrap (16 - (l : Int)) = (d : Int) := by rw [IntKind.wrap_i64]; omega
  have e2 : 16 - (l : Int) = (d : Int) := by omega
  have hd16 : d ≤ 16 := by omega
  have e5 : IntKind.i64.wrap (d : Int) = (d : Int) := by rw [IntKind.wrap_i64]; omega
  have e6 : (0 : Int) ≤ (d : Int) := by omega
  obtain ⟨M, hM⟩ : ∃ M : Nat, M = 2 ^ d := ⟨_, rfl⟩
  have e3 : IntKind.i64.wrap (2 ^ d) = (M : Int) := by
    rw [hM, hd]
    have e1 : (2 : Int) ^ (16 - l) = ((2 ^ (16 - l) : Nat) : Int) := by push_cast; rfl
    rw [e1, IntKind.wrap_i64]; omega
  have e4 : decide (M ≤ p) = true := by rw [hM, hd]; simp; omega
  clear hM hd hp hq h ha hb l2 l3 p2 p3
  go_enter Tryd.func32, Tryd.ntmps32
  go_wp2_with fail
  rw [HW.out]
  go_still (by kernel_rfl)
  change Exit.then _ _ _ _ w0.drew
  rw [← HW.out]
  clear c0 c1
  go_wp2_with fail
  exact bodyPost_ret (v := .agg #[.int .i64 0, .int .i64 0, .bool false]) (by simp [results, Tryd.results32, go_sem]) rfl ⟨rfl, (((Below.refl _ _).alloc (Nat.le_refl _) _).alloc (by simp) _).drew⟩
end Go.Proofs.YtjdpkhcnmllleaaDoor
