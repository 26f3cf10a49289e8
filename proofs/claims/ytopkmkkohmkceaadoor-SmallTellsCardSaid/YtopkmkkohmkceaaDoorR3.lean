/- The document's own product of transforms, walked. -/
import Derived.Test.YtopkmkkohmkceaaDoorR0
namespace Go.Proofs.YtopkmkkohmkceaaDoor
open Go.ChangeShapes Go.WideShapes Go.ChangeAt Go.RowKit
set_option linter.unusedSimpArgs false
set_option linter.unusedVariables false

theorem odd30 (x : Int) (n : Nat) (hn : n < 128) (hx : x = 2 * (tn n 7 : Int) + 1) (w : World) : Calls Tryd.prog 30 #[.int .i64 17, .int .i64 x] w fun e w' => e = .returned (.int .i64 (emod (rt n * rt n * 17))) ∧ w' = w := by
  have h := root_all n hn
  rw [← h.2.1]; have := power30 (2 * tn n 7 + 1) h.2.2 w
  rw [show ((2 * tn n 7 + 1 : Nat) : Int) = x by rw [hx]; simp] at this; exact this

set_option maxRecDepth 20000 in
set_option maxHeartbeats 4000000 in
theorem times22 (a b : Nat → Int) (w : World) (ha : I64 a) (hb : I64 b) : Calls Tryd.prog 22 #[.agg (arr 256 a), .agg (arr 256 b)] w fun e w' => e = .returned (.agg (arr 256 (tm a b))) ∧ Below w.heap.size w w' := by
  have hz := zero23
  obtain ⟨w0, hw0⟩ : ∃ w0 : World, w0 = ((w.alloc (.cells (arr 256 a) 23)).alloc (.cells (arr 256 b) 23)).alloc (.cells (arr 256 fun _ => 0) 23) := ⟨_, rfl⟩
  have r1 : Row w0 w.heap.size 23 256 a := by rw [hw0]; exact ((Row.new w 23 256 a).alloc _).alloc _
  have r2 : Row w0 (w.heap.size + 1) 23 256 b := by
    have := (Row.new (w.alloc (.cells (arr 256 a) 23)) 23 256 b).alloc (.cells (arr 256 fun _ => 0) 23)
    rw [hw0]; simpa using this
  have r3 : Row w0 (w.heap.size + 1 + 1) 23 256 (fun _ => 0) := by
    have := Row.new ((w.alloc (.cells (arr 256 a) 23)).alloc (.cells (arr 256 b) 23)) 23 256 (fun _ => 0)
    rw [hw0]; simpa using this
  have hb0 : Below w.heap.size w w0 := by rw [hw0]; exact (((Below.refl _ _).alloc (Nat.le_refl _) _).alloc (by simp) _).alloc (by simp; omega) _
  have HW := Lib.hid hw0
  go_enter Tryd.func22, Tryd.ntmps22
  go_upto_region 1 with (fail)
  rw [← HW.out]
  clear hw0 HW
  go_wp2_with (first | (with_reducible refine load23 rfl (.tmp 2) rfl w.heap.size rfl r1 ?_))
  refine (rmod16 a _ ha).mono ?_
  rintro e w1 ⟨rfl, k1⟩
  have r1 := r1.below k1 r1.lt
  have r2 := r2.below k1 r2.lt
  have r3 := r3.below k1 r3.lt
  have hb0 := hb0.trans (k1.mono hb0.size)
  clear k1
  have s1 := r1.setRow (m := 256) (fun i => emod (a i))
  have r2 := r2.setRow_other (c := w.heap.size) (arr 256 fun i => emod (a i)) (by omega)
  have r3 := r3.setRow_other (c := w.heap.size) (arr 256 fun i => emod (a i)) (by omega)
  have hb0 := below_setRow hb0 (g := w.heap.size) (by omega) (arr 256 fun i => emod (a i))
  go_wp2_with (first | (with_reducible refine store23 rfl (.tmp 2) (.tmp 9) rfl w.heap.size _ rfl rfl r1 ?_) | (with_reducible refine load23 rfl (.tmp 3) rfl (w.heap.size + 1) rfl r2 ?_))
  clear r1
  generalize w1.setRow w.heap.size (arr 256 fun i => emod (a i)) = w2 at *
  refine (rmod16 b _ hb).mono ?_
  rintro e w3 ⟨rfl, k1⟩
  have s1 := s1.below k1 s1.lt
  have r2 := r2.below k1 r2.lt
  have r3 := r3.below k1 r3.lt
  have hb0 := hb0.trans (k1.mono hb0.size)
  clear k1
  have s2 := r2.setRow (m := 256) (fun i => emod (b i))
  have s1 := s1.setRow_other (c := w.heap.size + 1) (arr 256 fun i => emod (b i)) (by omega)
  have r3 := r3.setRow_other (c := w.heap.size + 1) (arr 256 fun i => emod (b i)) (by omega)
  have hb0 := below_setRow hb0 (g := w.heap.size + 1) (by omega) (arr 256 fun i => emod (b i))
  have l3 := r3.lt
  have s3 := Row.new (w3.setRow (w.heap.size + 1) (arr 256 fun i => emod (b i))) 23 256 (fun _ => 0)
  have hsz : (w3.setRow (w.heap.size + 1) (arr 256 fun i => emod (b i))).heap.size = w3.heap.size := by simp
  have y1 := s1.alloc (.cells (arr 256 fun _ => 0) 23)
  have y2 := s2.alloc (.cells (arr 256 fun _ => 0) 23)
  have y3 := r3.alloc (.cells (arr 256 fun _ => 0) 23)
  have yb := hb0.alloc (by omega) (.cells (arr 256 fun _ => 0) 23)
  rw [hsz] at s3 l3
  clear hsz s1 s2 r3 hb0
  go_wp2_with (first | (with_reducible refine store23 rfl (.tmp 3) (.tmp 11) rfl (w.heap.size + 1) _ rfl rfl r2 ?_))
  clear r2 hz
  generalize (w3.setRow (w.heap.size + 1) (arr 256 fun i => emod (b i))).alloc (.cells (arr 256 fun _ => 0) 23) = w4 at *
  have HA := Lib.hid (fun i => emod_bd (a i))
  have HB := Lib.hid (fun i => emod_bd (b i))
  generalize hA : (fun i => emod (a i)) = A at *
  generalize hB : (fun i => emod (b i)) = B at *
  have HA : Hid (∀ i, 0 ≤ A i ∧ A i < 3329) := by rw [← hA]; exact HA
  have HB : Hid (∀ i, 0 ≤ B i ∧ B i < 3329) := by rw [← hB]; exact HB
  have hA := Lib.hid hA
  have hB := Lib.hid hB
  go_loopw [6] (fun v wr => ∃ k : Nat, k ≤ 128 ∧ v = .int .i64 k ∧ Row wr w.heap.size 23 256 A ∧ Row wr (w.heap.size + 1) 23 256 B ∧ Row wr (w.heap.size + 1 + 1) 23 256 (fun _ => 0) ∧ Row wr w3.heap.size 23 256 (mix (2 * k) (tim A B) (fun _ => 0)) ∧ Below w.heap.size w wr) (fun v wr => 128 - (intOf v).toNat)
  case atStart => exact ⟨0, by omega, rfl, y1, y2, y3, s3, yb⟩
  case round =>
    clear y1 y2 y3 s3 yb
    obtain ⟨k, hk, rfl, p1, p2, p3, p5, p4⟩ := hrel
    by_cases hlt2 : k < 128
    · have b3 := rt_bd k
      have c1 := p1.cell (2 * k) (by omega)
      have c2 := p1.cell (2 * k + 1) (by omega)
      have c3 := p2.cell (2 * k) (by omega)
      have c4 := p2.cell (2 * k + 1) (by omega)
      have a1 := HA.out (2 * k)
      have a2 := HA.out (2 * k + 1)
      have a3 := HB.out (2 * k)
      have a4 := HB.out (2 * k + 1)
      have H12 : Hid (upd (upd (mix (2 * k) (tim A B) (fun _ => 0)) (2 * k) _) (2 * k + 1) _ = _) := Lib.hid (funext fun i => mix_two k (tim A B) (fun _ => 0) i _ _ (tim_lo A B k).symm (tim_hi A B k).symm)
      generalize X0 : A (2 * k) = x0 at *
      generalize X1 : A (2 * k + 1) = x1 at *
      generalize Y0 : B (2 * k) = y0 at *
      generalize Y1 : B (2 * k + 1) = y1 at *
      have b4 := tn_bd k 7
      have b5 : 2 * (tn k 7 : Int) + 1 < 256 := by omega
      have tb : IntKind.i64.wrap (2 * (tn k 7 : Int)) = 2 * (tn k 7 : Int) := IntWalk.i64_in _ (by omega)
      have GD := Lib.hid (odd30 (2 * (tn k 7 : Int) + 1) k hlt2 rfl)
      have m6 := emod_bd (rt k * rt k * 17)
      generalize emod (rt k * rt k * 17) = g at *
      have X0 := Lib.hid X0; have X1 := Lib.hid X1; have Y0 := Lib.hid Y0; have Y1 := Lib.hid Y1
      have m1 := mul_bd x0 y0 a1 a3
      have m2 := mul_bd x1 y1 a2 a4
      have m3 := mul_bd x0 y1 a1 a4
      have m4 := mul_bd x1 y0 a2 a3
      have m5 := emod_bd (x1 * y1)
      have m7 := mul_bd (emod (x1 * y1)) g m5 m6
      have m8 : g * emod (x1 * y1) = emod (x1 * y1) * g := Int.mul_comm _ _
      go_wp2_with (first | (go_at_call 31; refine (turnedi _ k (by omega) (by omega) _).mono ?_; rintro e w' ⟨rfl, rfl⟩) | (go_at_call 30; refine (GD.out _).mono ?_; rintro e w' ⟨rfl, rfl⟩))
      have t0 : 0 ≤ 2 * (k : Int) := by omega
      have t1 : 2 * (k : Int) < 256 := by omega
      have t2 : (2 * (k : Int)).toNat = 2 * k := by omega
      have t9 : IntKind.i64.wrap (2 * (k : Int)) = 2 * (k : Int) := IntWalk.i64_in _ (by omega)
      have t3 : IntKind.i64.wrap (2 * (k : Int) + 1) = 2 * (k : Int) + 1 := IntWalk.i64_in _ (by omega)
      have t4 : 0 ≤ 2 * (k : Int) + 1 := by omega
      have t5 : 2 * (k : Int) + 1 < 256 := by omega
      have t6 : (2 * (k : Int) + 1).toNat = 2 * k + 1 := by omega
      have u1 : IntKind.i64.wrap (x0 * y0) = x0 * y0 := IntWalk.i64_in _ (by omega)
      have u2 : IntKind.i64.wrap (x1 * y1) = x1 * y1 := IntWalk.i64_in _ (by omega)
      have u3 : IntKind.i64.wrap (x0 * y1) = x0 * y1 := IntWalk.i64_in _ (by omega)
      have u4 : IntKind.i64.wrap (x1 * y0) = x1 * y0 := IntWalk.i64_in _ (by omega)
      have u8 : (x1 * y1).tmod 3329 = emod (x1 * y1) := Int.tmod_eq_emod_of_nonneg m2.1
      have u9 : x1 * y1 % 3329 = emod (x1 * y1) := rfl
      have t7 : 0 ≤ x1 * y1 := m2.1
      have u5 : IntKind.i64.wrap (emod (x1 * y1) * g) = emod (x1 * y1) * g := IntWalk.i64_in _ (by omega)
      have u6 : IntKind.i64.wrap (x0 * y0 + emod (x1 * y1) * g) = x0 * y0 + emod (x1 * y1) * g := IntWalk.i64_in _ (by omega)
      have u7 : IntKind.i64.wrap (x0 * y1 + x1 * y0) = x0 * y1 + x1 * y0 := IntWalk.i64_in _ (by omega)
      have M2 := Lib.hid (mod27 (x0 * y0 + emod (x1 * y1) * g) w'.drew (by omega) (by omega))
      go_still_tail 27, (by kernel_rfl)
      still_call M2.out
      refine wpStill_nil ?_
      change wpList _ _ _ _ _ w'.drew
      have p1 := p1.drew; have p2 := p2.drew; have p3 := p3.drew; have p4 := p4.drew; have p5 := p5.drew
      clear c1 c2 c3 c4 M2
      generalize w'.drew = w6 at *
      have f0 := p5.cell (2 * k) (by omega)
      have f1 := p5.frozen (2 * k)
      have s1 := p5.set (2 * k) (emod (x0 * y0 + emod (x1 * y1) * g))
      have p1 := p1.other ⟨w3.heap.size, 2 * k, none⟩ (.int .i64 (emod (x0 * y0 + emod (x1 * y1) * g))) (by simp; omega)
      have p2 := p2.other ⟨w3.heap.size, 2 * k, none⟩ (.int .i64 (emod (x0 * y0 + emod (x1 * y1) * g))) (by simp; omega)
      have p3 := p3.other ⟨w3.heap.size, 2 * k, none⟩ (.int .i64 (emod (x0 * y0 + emod (x1 * y1) * g))) (by simp; omega)
      have p4 := p4.setCell (p := ⟨w3.heap.size, 2 * k, none⟩) (by simp; omega) (.int .i64 (emod (x0 * y0 + emod (x1 * y1) * g)))
      clear p5
      go_wp2
      generalize w6.setCell ⟨w3.heap.size, 2 * k, none⟩ (.int .i64 (emod (x0 * y0 + emod (x1 * y1) * g))) = w7 at *
      have c1 := p1.cell (2 * k) (by omega)
      have c2 := p1.cell (2 * k + 1) (by omega)
      have c3 := p2.cell (2 * k) (by omega)
      have c4 := p2.cell (2 * k + 1) (by omega)
      rw [X0.out] at c1
      rw [X1.out] at c2
      rw [Y0.out] at c3
      rw [Y1.out] at c4
      clear f0 f1
      have M1 := Lib.hid (mod27 (x0 * y1 + x1 * y0) w7.drew (by omega) (by omega))
      go_still_tail 25, (by kernel_rfl)
      still_call M1.out
      refine wpStill_nil ?_
      change wpList _ _ _ _ _ w7.drew
      have p1 := p1.drew; have p2 := p2.drew; have p3 := p3.drew; have p4 := p4.drew; have s1 := s1.drew
      clear c1 c2 c3 c4 M1
      generalize w7.drew = w8 at *
      have f0 := s1.cell (2 * k + 1) (by omega)
      have f1 := s1.frozen (2 * k + 1)
      have s2 := s1.set (2 * k + 1) (emod (x0 * y1 + x1 * y0))
      have p1 := p1.other ⟨w3.heap.size, 2 * k + 1, none⟩ (.int .i64 (emod (x0 * y1 + x1 * y0))) (by simp; omega)
      have p2 := p2.other ⟨w3.heap.size, 2 * k + 1, none⟩ (.int .i64 (emod (x0 * y1 + x1 * y0))) (by simp; omega)
      have p3 := p3.other ⟨w3.heap.size, 2 * k + 1, none⟩ (.int .i64 (emod (x0 * y1 + x1 * y0))) (by simp; omega)
      have p4 := p4.setCell (p := ⟨w3.heap.size, 2 * k + 1, none⟩) (by simp; omega) (.int .i64 (emod (x0 * y1 + x1 * y0)))
      rw [H12.out] at s2
      clear s1
      go_wp2
      go_roundw
      case rel => exact ⟨k + 1, by omega, by go_num, p1, p2, p3, s2, p4⟩
      case measure => simp [intOf]; omega
    · have e1 : k = 128 := by omega
      subst e1
      have p5 := p5.congr (g := tim A B) (fun i hi => by unfold mix; rw [if_pos (by omega)])
      have r4 := p3.setRow (m := 256) (tim A B)
      have rb := below_setRow p4 (g := w.heap.size + 1 + 1) (by omega) (arr 256 (tim A B))
      clear p1 p2 p4
      go_wp2_with (first | (with_reducible refine load23 rfl (.tmp 5) rfl w3.heap.size rfl p5 ?_) | (with_reducible refine store23 rfl (.tmp 4) (.tmp 75) rfl (w.heap.size + 1 + 1) _ rfl rfl p3 ?_))
      exact ret23 rfl (w.heap.size + 1 + 1) rfl r4 rfl ⟨by unfold tm; rw [hA.out, hB.out], rb⟩
end Go.Proofs.YtopkmkkohmkceaaDoor
