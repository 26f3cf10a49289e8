/- The document's own sum and difference, walked. -/
import Derived.Test.YtopkmkkohmkceaaDoorQ
namespace Go.Proofs.YtopkmkkohmkceaaDoor
open Go.ChangeShapes Go.WideShapes Go.ChangeAt Go.RowKit
set_option linter.unusedSimpArgs false
set_option linter.unusedVariables false

set_option maxRecDepth 20000 in
set_option maxHeartbeats 4000000 in
theorem add18 (a b : Nat → Int) (w : World) (ha : I64 a) (hb : I64 b) : Calls Tryd.prog 18 #[.agg (arr 256 a), .agg (arr 256 b)] w fun e w' => e = .returned (.agg (arr 256 fun i => emod (emod (a i) + emod (b i)))) ∧ Below w.heap.size w w' := by
  have hz := zero23
  have HA := Lib.hid ha; clear ha
  have HB := Lib.hid hb; clear hb
  obtain ⟨w0, hw0⟩ : ∃ w0 : World, w0 = ((w.alloc (.cells (arr 256 a) 23)).alloc (.cells (arr 256 b) 23)).alloc (.cells (arr 256 fun _ => 0) 23) := ⟨_, rfl⟩
  have r1 : Row w0 w.heap.size 23 256 a := by rw [hw0]; exact ((Row.new w 23 256 a).alloc _).alloc _
  have r2 : Row w0 (w.heap.size + 1) 23 256 b := by
    have := (Row.new (w.alloc (.cells (arr 256 a) 23)) 23 256 b).alloc (.cells (arr 256 fun _ => 0) 23)
    rw [hw0]; simpa using this
  have r3 : Row w0 (w.heap.size + 1 + 1) 23 256 (fun _ => 0) := by
    have := Row.new ((w.alloc (.cells (arr 256 a) 23)).alloc (.cells (arr 256 b) 23)) 23 256 (fun _ => 0)
    rw [hw0]; simpa using this
  have hb0 : Below w.heap.size w w0 := by rw [hw0]; exact (((Below.refl _ _).alloc (Nat.le_refl _) _).alloc (by simp) _).alloc (by simp; omega) _
  have HW := Lib.hid hw0
  go_enter Tryd.func18, Tryd.ntmps18
  go_upto_region 1 with (fail)
  rw [← HW.out]
  clear hw0 HW hz
  go_wp2_with fail
  go_loopw [5] (fun j wr => ∃ k : Nat, k ≤ 256 ∧ j = .int .i64 k ∧ Row wr w.heap.size 23 256 (mix k (fun i => emod (emod (a i) + emod (b i))) a) ∧ Row wr (w.heap.size + 1) 23 256 b ∧ Row wr (w.heap.size + 1 + 1) 23 256 (fun _ => 0) ∧ Below w.heap.size w wr) (fun j wr => 256 - (intOf j).toNat)
  case atStart => exact ⟨0, by omega, rfl, r1.congr (fun i _ => rfl), r2, r3, hb0⟩
  case round =>
    clear r1 r2 r3 hb0
    obtain ⟨k, hk, rfl, q1, q2, q3, q4⟩ := hrel
    by_cases hlt : k < 256
    · have c1 := q1.cell k (by omega)
      rw [show mix k (fun i => emod (emod (a i) + emod (b i))) a k = a k by simp [mix]] at c1
      have c2 := q2.cell k (by omega)
      have hx1 := HA.out k
      have hx2 := HB.out k
      have hs := Lib.hid (funext fun i => mix_succ k (fun i => emod (emod (a i) + emod (b i))) a i)
      have b1 := emod_bd (a k)
      have b2 := emod_bd (b k)
      have t0 : 0 ≤ (k : Int) := by omega
      have t1 : (k : Int) < 256 := by omega
      generalize a k = x at *
      generalize b k = y at *
      have u1 : IntKind.i64.wrap (emod x + emod y) = emod x + emod y := IntWalk.i64_in _ (by omega)
      go_wp2_with fail
      have M1 := Lib.hid (mod27 x wr.drew (by omega) (by omega))
      have M2 := Lib.hid (mod27 y wr.drew (by omega) (by omega))
      have M3 := Lib.hid (mod27 (emod x + emod y) wr.drew (by omega) (by omega))
      go_still_tail 11, (by kernel_rfl)
      still_call M1.out
      repeat still_step
      still_call M2.out
      repeat still_step
      still_call M3.out
      refine wpStill_nil ?_
      change wpList _ _ _ _ _ wr.drew
      have q1 := q1.drew; have q2 := q2.drew; have q3 := q3.drew; have q4 := q4.drew
      clear c1 c2 M1 M2 M3
      generalize wr.drew = w5 at *
      have c1 := q1.cell k (by omega)
      have f1 := q1.frozen k
      have s1 := q1.set k (emod (emod x + emod y))
      rw [hs.out] at s1
      have s2 := q2.other ⟨w.heap.size, k, none⟩ (.int .i64 (emod (emod x + emod y))) (by simp)
      have s3 := q3.other ⟨w.heap.size, k, none⟩ (.int .i64 (emod (emod x + emod y))) (by simp; omega)
      have s4 := q4.setCell (p := ⟨w.heap.size, k, none⟩) (by simp) (.int .i64 (emod (emod x + emod y)))
      clear q1 q2 q3 q4
      go_wp2_with fail
      go_roundw
      case rel => exact ⟨k + 1, by omega, by go_num, s1, s2, s3, s4⟩
      case measure => simp [intOf]; omega
    · have e1 : k = 256 := by omega
      subst e1
      have rr := q1.congr (g := fun i => emod (emod (a i) + emod (b i))) (fun i hi => by simp [mix, hi])
      have rb := below_setRow q4 (g := w.heap.size + 1 + 1) (by omega) (arr 256 fun i => emod (emod (a i) + emod (b i)))
      have r4 := q3.setRow (m := 256) (fun i => emod (emod (a i) + emod (b i)))
      go_wp2_with (first | (with_reducible refine load23 rfl (.tmp 2) rfl w.heap.size rfl rr ?_) | (with_reducible refine store23 rfl (.tmp 4) (.tmp 22) rfl (w.heap.size + 1 + 1) _ rfl rfl q3 ?_))
      exact ret23 rfl (w.heap.size + 1 + 1) rfl r4 rfl ⟨rfl, rb⟩

set_option maxRecDepth 20000 in
set_option maxHeartbeats 4000000 in
theorem sub19 (a b : Nat → Int) (w : World) (ha : I64 a) (hb : I64 b) : Calls Tryd.prog 19 #[.agg (arr 256 a), .agg (arr 256 b)] w fun e w' => e = .returned (.agg (arr 256 fun i => emod (emod (a i) - emod (b i)))) ∧ Below w.heap.size w w' := by
  have hz := zero23
  have HA := Lib.hid ha; clear ha
  have HB := Lib.hid hb; clear hb
  obtain ⟨w0, hw0⟩ : ∃ w0 : World, w0 = ((w.alloc (.cells (arr 256 a) 23)).alloc (.cells (arr 256 b) 23)).alloc (.cells (arr 256 fun _ => 0) 23) := ⟨_, rfl⟩
  have r1 : Row w0 w.heap.size 23 256 a := by rw [hw0]; exact ((Row.new w 23 256 a).alloc _).alloc _
  have r2 : Row w0 (w.heap.size + 1) 23 256 b := by
    have := (Row.new (w.alloc (.cells (arr 256 a) 23)) 23 256 b).alloc (.cells (arr 256 fun _ => 0) 23)
    rw [hw0]; simpa using this
  have r3 : Row w0 (w.heap.size + 1 + 1) 23 256 (fun _ => 0) := by
    have := Row.new ((w.alloc (.cells (arr 256 a) 23)).alloc (.cells (arr 256 b) 23)) 23 256 (fun _ => 0)
    rw [hw0]; simpa using this
  have hb0 : Below w.heap.size w w0 := by rw [hw0]; exact (((Below.refl _ _).alloc (Nat.le_refl _) _).alloc (by simp) _).alloc (by simp; omega) _
  have HW := Lib.hid hw0
  go_enter Tryd.func19, Tryd.ntmps19
  go_upto_region 1 with (fail)
  rw [← HW.out]
  clear hw0 HW hz
  go_wp2_with fail
  go_loopw [5] (fun j wr => ∃ k : Nat, k ≤ 256 ∧ j = .int .i64 k ∧ Row wr w.heap.size 23 256 (mix k (fun i => emod (emod (a i) - emod (b i))) a) ∧ Row wr (w.heap.size + 1) 23 256 b ∧ Row wr (w.heap.size + 1 + 1) 23 256 (fun _ => 0) ∧ Below w.heap.size w wr) (fun j wr => 256 - (intOf j).toNat)
  case atStart => exact ⟨0, by omega, rfl, r1.congr (fun i _ => rfl), r2, r3, hb0⟩
  case round =>
    clear r1 r2 r3 hb0
    obtain ⟨k, hk, rfl, q1, q2, q3, q4⟩ := hrel
    by_cases hlt : k < 256
    · have c1 := q1.cell k (by omega)
      rw [show mix k (fun i => emod (emod (a i) - emod (b i))) a k = a k by simp [mix]] at c1
      have c2 := q2.cell k (by omega)
      have hx1 := HA.out k
      have hx2 := HB.out k
      have hs := Lib.hid (funext fun i => mix_succ k (fun i => emod (emod (a i) - emod (b i))) a i)
      have b1 := emod_bd (a k)
      have b2 := emod_bd (b k)
      have t0 : 0 ≤ (k : Int) := by omega
      have t1 : (k : Int) < 256 := by omega
      generalize a k = x at *
      generalize b k = y at *
      have u1 : IntKind.i64.wrap (emod x - emod y) = emod x - emod y := IntWalk.i64_in _ (by omega)
      go_wp2_with fail
      have M1 := Lib.hid (mod27 x wr.drew (by omega) (by omega))
      have M2 := Lib.hid (mod27 y wr.drew (by omega) (by omega))
      have M3 := Lib.hid (mod27 (emod x - emod y) wr.drew (by omega) (by omega))
      go_still_tail 11, (by kernel_rfl)
      still_call M1.out
      repeat still_step
      still_call M2.out
      repeat still_step
      still_call M3.out
      refine wpStill_nil ?_
      change wpList _ _ _ _ _ wr.drew
      have q1 := q1.drew; have q2 := q2.drew; have q3 := q3.drew; have q4 := q4.drew
      clear c1 c2 M1 M2 M3
      generalize wr.drew = w5 at *
      have c1 := q1.cell k (by omega)
      have f1 := q1.frozen k
      have s1 := q1.set k (emod (emod x - emod y))
      rw [hs.out] at s1
      have s2 := q2.other ⟨w.heap.size, k, none⟩ (.int .i64 (emod (emod x - emod y))) (by simp)
      have s3 := q3.other ⟨w.heap.size, k, none⟩ (.int .i64 (emod (emod x - emod y))) (by simp; omega)
      have s4 := q4.setCell (p := ⟨w.heap.size, k, none⟩) (by simp) (.int .i64 (emod (emod x - emod y)))
      clear q1 q2 q3 q4
      go_wp2_with fail
      go_roundw
      case rel => exact ⟨k + 1, by omega, by go_num, s1, s2, s3, s4⟩
      case measure => simp [intOf]; omega
    · have e1 : k = 256 := by omega
      subst e1
      have rr := q1.congr (g := fun i => emod (emod (a i) - emod (b i))) (fun i hi => by simp [mix, hi])
      have rb := below_setRow q4 (g := w.heap.size + 1 + 1) (by omega) (arr 256 fun i => emod (emod (a i) - emod (b i)))
      have r4 := q3.setRow (m := 256) (fun i => emod (emod (a i) - emod (b i)))
      go_wp2_with (first | (with_reducible refine load23 rfl (.tmp 2) rfl w.heap.size rfl rr ?_) | (with_reducible refine store23 rfl (.tmp 4) (.tmp 22) rfl (w.heap.size + 1 + 1) _ rfl rfl q3 ?_))
      exact ret23 rfl (w.heap.size + 1 + 1) rfl r4 rfl ⟨rfl, rb⟩
end Go.Proofs.YtopkmkkohmkceaaDoor
