/- Times, walked. -/
import Derived.Test.YtopkmkkohmkceaaDoorB
import Derived.Deep.DeepCutAuto
namespace Go.Proofs.YtopkmkkohmkceaaDoor
open Go.ChangeShapes Go.WideShapes Go.ChangeAt Go.RowKit

theorem wp_load23 {o : Oper} {a : Act} {w : World} {K : Act → World → Prop} {Q : Exit → Act → World → Prop} (x : Operand) (ho : o.op = .load 23 x)
    (b : Nat) (hx : a.eval x = .pointer (some ⟨b, 0, none⟩)) {f : Nat → Int} (r : Row w b 23 256 f) (h : K (a.put o.dst (.agg (arr 256 f))) w) : o.wp Tryd.prog a w K Q :=
  wp_load_row 23 x ho b hx 23 _ _ _ r.at_ Tryd.underlying23 rfl (by rw [arr_size]; exact info23) h
theorem wp_store23 {o : Oper} {a : Act} {w : World} {K : Act → World → Prop} {Q : Exit → Act → World → Prop} (x y : Operand) (ho : o.op = .store 23 x y)
    (b : Nat) (g : Nat → Int) (hx : a.eval x = .pointer (some ⟨b, 0, none⟩)) (hy : a.eval y = .agg (arr 256 g)) {f : Nat → Int} (r : Row w b 23 256 f)
    (h : K (a.put o.dst undef) (w.setRow b (arr 256 g))) : o.wp Tryd.prog a w K Q :=
  wp_store_row 23 x y ho b _ hx hy 23 _ r.at_ (by rw [arr_size]; exact info23) (by simp [arr_size]) (arr_one _ _) h

theorem info35 : (Tryd.prog.info? 35).map (·.size) = some 128 := by kernel_rfl
theorem load35 {ops : Array Oper} {rest : List Oper} {o : Oper} {a : Act} {w : World} {Q : Exit → Act → World → Prop} (hgd : o.guard = none) (x : Operand) (ho : o.op = .load 35 x)
    (b : Nat) (hx : a.eval x = .pointer (some ⟨b, 0, none⟩)) {f : Nat → Int} (r : TRow w b 128 f)
    (h : wpList Tryd.prog ops Q rest (a.put o.dst (.agg (arr 128 f))) w) : wpList Tryd.prog ops Q (o :: rest) a w := by
  obtain ⟨t, fz, r⟩ := r.at_
  exact wpList_load_row hgd 35 x ho b hx t _ fz _ r Tryd.underlying35 rfl (by rw [arr_size]; exact info35) h
theorem size3 (w : World) : (sizeOf 3).run Tryd.prog w = .ok 1 w := by kernel_rfl
theorem agg3 (w : World) : (isAgg 3).run Tryd.prog w = .ok false w := by kernel_rfl
theorem index35 (k : Nat) (hk : k < 128) (w : World) : (Instr.index 35 (.agg (arr 128 rt)) (.int .i64 (k : Int))).run Tryd.prog w = .ok (.int .i64 (rt k)) w := by
  simp [Instr.index, run_underlying Tryd.underlying35, asIntOf]
  rw [if_pos hk]
  simp [Go.part, Sem.run_bind, arr_get 128 rt k hk]
/-- The product of two transforms, number by number. -/
def tim (a b : Nat → Int) : Nat → Int := fun i =>
  if i % 2 = 0 then emod (a i * b i + emod (a (i + 1) * b (i + 1)) * emod (rt (i / 2) * rt (i / 2) * 17)) else emod (a (i - 1) * b i + a i * b (i - 1))
theorem tim_lo (a b : Nat → Int) (k : Nat) : tim a b (2 * k) = emod (a (2 * k) * b (2 * k) + emod (a (2 * k + 1) * b (2 * k + 1)) * emod (rt k * rt k * 17)) := by
  unfold tim; rw [if_pos (by omega), show 2 * k / 2 = k by omega]
theorem tim_hi (a b : Nat → Int) (k : Nat) : tim a b (2 * k + 1) = emod (a (2 * k) * b (2 * k + 1) + a (2 * k + 1) * b (2 * k)) := by
  unfold tim; rw [if_neg (by omega), show 2 * k + 1 - 1 = 2 * k by omega]
theorem mul_bd (x y : Int) (hx : 0 ≤ x ∧ x < 3329) (hy : 0 ≤ y ∧ y < 3329) : 0 ≤ x * y ∧ x * y ≤ 11082241 :=
  ⟨Int.mul_nonneg hx.1 hy.1, by have := Int.mul_le_mul (show x ≤ 3329 by omega) (show y ≤ 3329 by omega) hy.1 (by omega); omega⟩
theorem mix_two (k : Nat) (f g : Nat → Int) (i : Nat) (u v : Int) (hu : u = f (2 * k)) (hv : v = f (2 * k + 1)) : upd (upd (mix (2 * k) f g) (2 * k) u) (2 * k + 1) v i = mix (2 * (k + 1)) f g i := by
  unfold upd mix
  by_cases e1 : i = 2 * k + 1
  · rw [if_pos e1, if_pos (by omega), e1, hv]
  · rw [if_neg e1]
    by_cases e2 : i = 2 * k
    · rw [if_pos e2, if_pos (by omega), e2, hu]
    · rw [if_neg e2]
      by_cases e3 : i < 2 * k
      · rw [if_pos e3, if_pos (by omega)]
      · rw [if_neg e3, if_neg (by omega)]
set_option maxRecDepth 20000 in
set_option maxHeartbeats 4000000 in
theorem times13 (a b : Nat → Int) (w : World) (ha : I64 a) (hb : I64 b) (hR : TRow w 0 128 rt) : Calls Tryd.prog 13 #[.agg (arr 256 a), .agg (arr 256 b)] w fun e w' => e = .returned (.agg (arr 256 (tim (fun i => emod (a i)) (fun i => emod (b i))))) ∧ Below w.heap.size w w' := by
  have hz := zero23
  have hlt := hR.lt
  go_enter Tryd.func13, Tryd.ntmps13
  go_upto_region 1 with (fail)
  obtain ⟨w0, hw0⟩ : ∃ w0 : World, w0 = ((w.alloc (.cells (arr 256 a) 23)).alloc (.cells (arr 256 b) 23)).alloc (.cells (arr 256 fun _ => 0) 23) := ⟨_, rfl⟩
  have r1 : Row w0 w.heap.size 23 256 a := by rw [hw0]; exact ((Row.new w 23 256 a).alloc _).alloc _
  have r2 : Row w0 (w.heap.size + 1) 23 256 b := by
    have := (Row.new (w.alloc (.cells (arr 256 a) 23)) 23 256 b).alloc (.cells (arr 256 fun _ => 0) 23)
    rw [hw0]; simpa using this
  have r3 : Row w0 (w.heap.size + 2) 23 256 (fun _ => 0) := by
    have := Row.new ((w.alloc (.cells (arr 256 a) 23)).alloc (.cells (arr 256 b) 23)) 23 256 (fun _ => 0)
    rw [hw0]; simpa using this
  have hb0 : Below w.heap.size w w0 := by rw [hw0]; exact (((Below.refl _ _).alloc (Nat.le_refl _) _).alloc (by simp) _).alloc (by simp; omega) _
  have hs0 : w.heap.size + 3 ≤ w0.heap.size := by rw [hw0]; simp
  rw [← hw0]
  clear hw0
  go_cut [] (fun wc => Row wc w.heap.size 23 256 (fun i => emod (a i)) ∧ Row wc (w.heap.size + 1) 23 256 (fun i => emod (b i)) ∧ Row wc (w.heap.size + 2) 23 256 (fun _ => 0) ∧ Below w.heap.size w wc ∧ w.heap.size + 3 ≤ wc.heap.size)
  case first =>
    refine wp_region_any (by kernel_rfl) ?_
    change wpAny _ _ _ _ _ _ _ w0.drew
    have r1 := r1.drew; have r2 := r2.drew; have r3 := r3.drew; have hb0 := hb0.drew
    have hs0 : w.heap.size + 3 ≤ w0.drew.heap.size := hs0
    generalize w0.drew = w1 at *
    refine wpAny_ready (rs := [0, 2]) (by kernel_rfl) (by simp) ?_
    refine AllReady.cons rfl (fun K hK => ?_) ?_
    · rw [if_pos (by rfl)]
      refine wp_load23 _ rfl w.heap.size rfl r1 ?_
      refine hK _ _ ?_
      clear hK K
      refine wpAny_ready (rs := [1, 2]) (by kernel_rfl) (by simp) ?_
      refine AllReady.cons rfl (fun K hK => ?_) ?_
      · rw [if_pos (by rfl)]
        go_simp
        refine (mod10 a _ ha).mono ?_
        rintro e w2 ⟨rfl, kk⟩
        refine hK _ _ ?_
        clear hK K
        have r1 := r1.below kk r1.lt
        have r2 := r2.below kk r2.lt
        have r3 := r3.below kk r3.lt
        have hb0 := hb0.trans (kk.mono (by omega))
        have hs0 : w.heap.size + 3 ≤ w2.heap.size := by have := kk.size; omega
        clear kk
        refine wpAny_ready (rs := [2]) (by kernel_rfl) (by simp) ?_
        refine AllReady.cons rfl (fun K hK => ?_) AllReady.nil
        rw [if_pos (by rfl)]
        refine wp_load23 _ rfl (w.heap.size + 1) rfl r2 ?_
        refine hK _ _ ?_
        clear hK K
        refine wpAny_ready (rs := [3]) (by kernel_rfl) (by simp) ?_
        refine AllReady.cons rfl (fun K hK => ?_) AllReady.nil
        rw [if_pos (by rfl)]
        go_simp
        refine (mod10 b _ hb).mono ?_
        rintro e w3 ⟨rfl, kk⟩
        refine hK _ _ ?_
        clear hK K
        have r1 := r1.below kk r1.lt
        have r2 := r2.below kk r2.lt
        have r3 := r3.below kk r3.lt
        have hb0 := hb0.trans (kk.mono (by omega))
        have hs0 : w.heap.size + 3 ≤ w3.heap.size := by have := kk.size; omega
        clear kk
        refine wpAny_ready (rs := [4]) (by kernel_rfl) (by simp) ?_
        refine AllReady.cons rfl (fun K hK => ?_) AllReady.nil
        rw [if_pos (by rfl)]
        refine wp_store23 _ _ rfl w.heap.size _ rfl rfl r1 ?_
        refine hK _ _ ?_
        clear hK K
        refine wpAny_ready (rs := [5]) (by kernel_rfl) (by simp) ?_
        refine AllReady.cons rfl (fun K hK => ?_) AllReady.nil
        rw [if_pos (by rfl)]
        have q2 := r2.setRow_other (c := w.heap.size) (arr 256 fun i => emod (a i)) (by omega)
        refine wp_store23 _ _ rfl (w.heap.size + 1) _ rfl rfl q2 ?_
        refine hK _ _ ?_
        clear hK K
        have q1 := (r1.setRow (m := 256) (fun i => emod (a i))).setRow_other (c := w.heap.size + 1) (arr 256 fun i => emod (b i)) (by omega)
        have q2 := q2.setRow (m := 256) (fun i => emod (b i))
        have q3 := (r3.setRow_other (c := w.heap.size) (arr 256 fun i => emod (a i)) (by omega)).setRow_other (c := w.heap.size + 1) (arr 256 fun i => emod (b i)) (by omega)
        have q4 := below_setRow (below_setRow hb0 (g := w.heap.size) (by omega) (arr 256 fun i => emod (a i))) (g := w.heap.size + 1) (by omega) (arr 256 fun i => emod (b i))
        refine wpAny_done (by kernel_rfl) ?_ _
        go_wp2_with fail
        go_meet
        exact ⟨q1, q2, q3, q4, by simpa using hs0⟩
      refine AllReady.cons rfl (fun K hK => ?_) AllReady.nil
      rw [if_pos (by rfl)]
      refine wp_load23 _ rfl (w.heap.size + 1) rfl r2 ?_
      refine hK _ _ ?_
      clear hK K
      refine wpAny_ready (rs := [1]) (by kernel_rfl) (by simp) ?_
      refine AllReady.cons rfl (fun K hK => ?_) AllReady.nil
      rw [if_pos (by rfl)]
      go_simp
      refine (mod10 a _ ha).mono ?_
      rintro e w2 ⟨rfl, kk⟩
      refine hK _ _ ?_
      clear hK K
      have r1 := r1.below kk r1.lt
      have r2 := r2.below kk r2.lt
      have r3 := r3.below kk r3.lt
      have hb0 := hb0.trans (kk.mono (by omega))
      have hs0 : w.heap.size + 3 ≤ w2.heap.size := by have := kk.size; omega
      clear kk
      refine wpAny_ready (rs := [3]) (by kernel_rfl) (by simp) ?_
      refine AllReady.cons rfl (fun K hK => ?_) AllReady.nil
      rw [if_pos (by rfl)]
      go_simp
      refine (mod10 b _ hb).mono ?_
      rintro e w3 ⟨rfl, kk⟩
      refine hK _ _ ?_
      clear hK K
      have r1 := r1.below kk r1.lt
      have r2 := r2.below kk r2.lt
      have r3 := r3.below kk r3.lt
      have hb0 := hb0.trans (kk.mono (by omega))
      have hs0 : w.heap.size + 3 ≤ w3.heap.size := by have := kk.size; omega
      clear kk
      refine wpAny_ready (rs := [4]) (by kernel_rfl) (by simp) ?_
      refine AllReady.cons rfl (fun K hK => ?_) AllReady.nil
      rw [if_pos (by rfl)]
      refine wp_store23 _ _ rfl w.heap.size _ rfl rfl r1 ?_
      refine hK _ _ ?_
      clear hK K
      refine wpAny_ready (rs := [5]) (by kernel_rfl) (by simp) ?_
      refine AllReady.cons rfl (fun K hK => ?_) AllReady.nil
      rw [if_pos (by rfl)]
      have q2 := r2.setRow_other (c := w.heap.size) (arr 256 fun i => emod (a i)) (by omega)
      refine wp_store23 _ _ rfl (w.heap.size + 1) _ rfl rfl q2 ?_
      refine hK _ _ ?_
      clear hK K
      have q1 := (r1.setRow (m := 256) (fun i => emod (a i))).setRow_other (c := w.heap.size + 1) (arr 256 fun i => emod (b i)) (by omega)
      have q2 := q2.setRow (m := 256) (fun i => emod (b i))
      have q3 := (r3.setRow_other (c := w.heap.size) (arr 256 fun i => emod (a i)) (by omega)).setRow_other (c := w.heap.size + 1) (arr 256 fun i => emod (b i)) (by omega)
      have q4 := below_setRow (below_setRow hb0 (g := w.heap.size) (by omega) (arr 256 fun i => emod (a i))) (g := w.heap.size + 1) (by omega) (arr 256 fun i => emod (b i))
      refine wpAny_done (by kernel_rfl) ?_ _
      go_wp2_with fail
      go_meet
      exact ⟨q1, q2, q3, q4, by simpa using hs0⟩
    refine AllReady.cons rfl (fun K hK => ?_) AllReady.nil
    rw [if_pos (by rfl)]
    refine wp_load23 _ rfl (w.heap.size + 1) rfl r2 ?_
    refine hK _ _ ?_
    clear hK K
    refine wpAny_ready (rs := [0]) (by kernel_rfl) (by simp) ?_
    refine AllReady.cons rfl (fun K hK => ?_) AllReady.nil
    rw [if_pos (by rfl)]
    refine wp_load23 _ rfl w.heap.size rfl r1 ?_
    refine hK _ _ ?_
    clear hK K
    refine wpAny_ready (rs := [1]) (by kernel_rfl) (by simp) ?_
    refine AllReady.cons rfl (fun K hK => ?_) AllReady.nil
    rw [if_pos (by rfl)]
    go_simp
    refine (mod10 a _ ha).mono ?_
    rintro e w2 ⟨rfl, kk⟩
    refine hK _ _ ?_
    clear hK K
    have r1 := r1.below kk r1.lt
    have r2 := r2.below kk r2.lt
    have r3 := r3.below kk r3.lt
    have hb0 := hb0.trans (kk.mono (by omega))
    have hs0 : w.heap.size + 3 ≤ w2.heap.size := by have := kk.size; omega
    clear kk
    refine wpAny_ready (rs := [3]) (by kernel_rfl) (by simp) ?_
    refine AllReady.cons rfl (fun K hK => ?_) AllReady.nil
    rw [if_pos (by rfl)]
    go_simp
    refine (mod10 b _ hb).mono ?_
    rintro e w3 ⟨rfl, kk⟩
    refine hK _ _ ?_
    clear hK K
    have r1 := r1.below kk r1.lt
    have r2 := r2.below kk r2.lt
    have r3 := r3.below kk r3.lt
    have hb0 := hb0.trans (kk.mono (by omega))
    have hs0 : w.heap.size + 3 ≤ w3.heap.size := by have := kk.size; omega
    clear kk
    refine wpAny_ready (rs := [4]) (by kernel_rfl) (by simp) ?_
    refine AllReady.cons rfl (fun K hK => ?_) AllReady.nil
    rw [if_pos (by rfl)]
    refine wp_store23 _ _ rfl w.heap.size _ rfl rfl r1 ?_
    refine hK _ _ ?_
    clear hK K
    refine wpAny_ready (rs := [5]) (by kernel_rfl) (by simp) ?_
    refine AllReady.cons rfl (fun K hK => ?_) AllReady.nil
    rw [if_pos (by rfl)]
    have q2 := r2.setRow_other (c := w.heap.size) (arr 256 fun i => emod (a i)) (by omega)
    refine wp_store23 _ _ rfl (w.heap.size + 1) _ rfl rfl q2 ?_
    refine hK _ _ ?_
    clear hK K
    have q1 := (r1.setRow (m := 256) (fun i => emod (a i))).setRow_other (c := w.heap.size + 1) (arr 256 fun i => emod (b i)) (by omega)
    have q2 := q2.setRow (m := 256) (fun i => emod (b i))
    have q3 := (r3.setRow_other (c := w.heap.size) (arr 256 fun i => emod (a i)) (by omega)).setRow_other (c := w.heap.size + 1) (arr 256 fun i => emod (b i)) (by omega)
    have q4 := below_setRow (below_setRow hb0 (g := w.heap.size) (by omega) (arr 256 fun i => emod (a i))) (g := w.heap.size + 1) (by omega) (arr 256 fun i => emod (b i))
    refine wpAny_done (by kernel_rfl) ?_ _
    go_wp2_with fail
    go_meet
    exact ⟨q1, q2, q3, q4, by simpa using hs0⟩
  case rest =>
    obtain ⟨q1, q2, q3, q4, q5⟩ := hcut
    clear r1 r2 r3 hb0 hs0 w0
    have p1 := (q1.alloc (.cells (arr 256 fun _ => 0) 23))
    have p2 := (q2.alloc (.cells (arr 256 fun _ => 0) 23))
    have p3 := (q3.alloc (.cells (arr 256 fun _ => 0) 23))
    have p5 := Row.new wc 23 256 (fun _ => 0)
    have p4 := q4.alloc (by omega) (.cells (arr 256 fun _ => 0) 23)
    have p6 := hR.below p4 hlt
    clear q1 q2 q3 q4
    have hlt1 : 0 < wc.heap.size := by omega
    go_wp2_with (first | (with_reducible refine load35 rfl (.global 0) rfl 0 rfl p6 ?_))
    generalize wc.alloc (.cells (arr 256 fun _ => 0) 23) = w5 at *
    clear hz
    have HA := Lib.hid (fun i => emod_bd (a i))
    have HB := Lib.hid (fun i => emod_bd (b i))
    have HAe : Hid ((fun i => emod (a i)) = (fun i => emod (a i))) := Lib.hid rfl
    generalize hA : (fun i => emod (a i)) = A at *
    generalize hB : (fun i => emod (b i)) = B at *
    have HA : Hid (∀ i, 0 ≤ A i ∧ A i < 3329) := by rw [← hA]; exact HA
    have HB : Hid (∀ i, 0 ≤ B i ∧ B i < 3329) := by rw [← hB]; exact HB
    have hA := Lib.hid hA
    have hB := Lib.hid hB
    clear HAe
    go_loopw [15] (fun v wr => ∃ k : Nat, k ≤ 128 ∧ v = .int .i64 k ∧ Row wr w.heap.size 23 256 A ∧ Row wr (w.heap.size + 1) 23 256 B ∧ Row wr (w.heap.size + 2) 23 256 (fun _ => 0) ∧ Row wr wc.heap.size 23 256 (mix (2 * k) (tim A B) (fun _ => 0)) ∧ Below w.heap.size w wr) (fun v wr => 128 - (intOf v).toNat)
    case atStart => exact ⟨0, by omega, rfl, p1, p2, p3, p5, p4⟩
    case round =>
      clear p1 p2 p3 p4 p5 p6 w5
      obtain ⟨k, hk, rfl, p1, p2, p3, p5, p4⟩ := hrel
      by_cases hlt2 : k < 128
      · have hi := index35 k hlt2
        have b3 := rt_bd k
        have E1 := Lib.hid (tim_lo A B k)
        have E2 := Lib.hid (tim_hi A B k)
        have c1 := p1.cell (2 * k) (by omega)
        have c2 := p1.cell (2 * k + 1) (by omega)
        have c3 := p2.cell (2 * k) (by omega)
        have c4 := p2.cell (2 * k + 1) (by omega)
        have a1 := HA.out (2 * k)
        have a2 := HA.out (2 * k + 1)
        have a3 := HB.out (2 * k)
        have a4 := HB.out (2 * k + 1)
        have H12 : Hid (upd (upd (mix (2 * k) (tim A B) (fun _ => 0)) (2 * k) _) (2 * k + 1) _ = _) := Lib.hid (funext fun i => mix_two k (tim A B) (fun _ => 0) i _ _ (tim_lo A B k).symm (tim_hi A B k).symm)
        generalize X0 : A (2 * k) = x0 at *
        generalize X1 : A (2 * k + 1) = x1 at *
        generalize Y0 : B (2 * k) = y0 at *
        generalize Y1 : B (2 * k + 1) = y1 at *
        generalize rt k = z at *
        have X0 := Lib.hid X0; have X1 := Lib.hid X1; have Y0 := Lib.hid Y0; have Y1 := Lib.hid Y1
        have m0 := mul_bd z z b3 b3
        have m1 := mul_bd x0 y0 a1 a3
        have m2 := mul_bd x1 y1 a2 a4
        have m3 := mul_bd x0 y1 a1 a4
        have m4 := mul_bd x1 y0 a2 a3
        have m5 := emod_bd (x1 * y1)
        have m6 := emod_bd (z * z * 17)
        have m7 := mul_bd (emod (x1 * y1)) (emod (z * z * 17)) m5 m6
        have u0 : IntKind.i64.wrap (z * z) = z * z := IntWalk.i64_in _ (by omega)
        go_wp2_with (first | (go_at_call 25; refine (mod25 _ _ (by omega) (by omega)).mono ?_; rintro e w' ⟨rfl, rfl⟩))
        have t0 : 0 ≤ 2 * (k : Int) := by omega
        have t1 : 2 * (k : Int) < 256 := by omega
        have t2 : (2 * (k : Int)).toNat = 2 * k := by omega
        have t3 : IntKind.i64.wrap (2 * (k : Int) + 1) = 2 * (k : Int) + 1 := IntWalk.i64_in _ (by omega)
        have t4 : 0 ≤ 2 * (k : Int) + 1 := by omega
        have t5 : 2 * (k : Int) + 1 < 256 := by omega
        have t6 : (2 * (k : Int) + 1).toNat = 2 * k + 1 := by omega
        have u1 : IntKind.i64.wrap (x0 * y0) = x0 * y0 := IntWalk.i64_in _ (by omega)
        have u2 : IntKind.i64.wrap (x1 * y1) = x1 * y1 := IntWalk.i64_in _ (by omega)
        have u3 : IntKind.i64.wrap (x0 * y1) = x0 * y1 := IntWalk.i64_in _ (by omega)
        have u4 : IntKind.i64.wrap (x1 * y0) = x1 * y0 := IntWalk.i64_in _ (by omega)
        generalize hg : emod (z * z * 17) = g at *
        have u5 : IntKind.i64.wrap (emod (x1 * y1) * g) = emod (x1 * y1) * g := IntWalk.i64_in _ (by omega)
        have u6 : IntKind.i64.wrap (x0 * y0 + emod (x1 * y1) * g) = x0 * y0 + emod (x1 * y1) * g := IntWalk.i64_in _ (by omega)
        have u7 : IntKind.i64.wrap (x0 * y1 + x1 * y0) = x0 * y1 + x1 * y0 := IntWalk.i64_in _ (by omega)
        have M1 := Lib.hid (mod25 (x1 * y1) w'.drew (by omega) (by omega))
        have M2 := Lib.hid (mod25 (x0 * y0 + emod (x1 * y1) * g) w'.drew (by omega) (by omega))
        clear hg
        go_still_tail 22, (by kernel_rfl)
        still_call M1.out
        repeat still_step
        still_call M2.out
        refine wpStill_nil ?_
        change wpList _ _ _ _ _ w'.drew
        have p1 := p1.drew; have p2 := p2.drew; have p3 := p3.drew; have p4 := p4.drew; have p5 := p5.drew
        clear c1 c2 c3 c4 M1 M2
        generalize w'.drew = w6 at *
        have f0 := p5.cell (2 * k) (by omega)
        have f1 := p5.frozen (2 * k)
        have s1 := p5.set (2 * k) (emod (x0 * y0 + emod (x1 * y1) * g))
        have p1 := p1.other ⟨wc.heap.size, 2 * k, none⟩ (.int .i64 (emod (x0 * y0 + emod (x1 * y1) * g))) (by simp; omega)
        have p2 := p2.other ⟨wc.heap.size, 2 * k, none⟩ (.int .i64 (emod (x0 * y0 + emod (x1 * y1) * g))) (by simp; omega)
        have p3 := p3.other ⟨wc.heap.size, 2 * k, none⟩ (.int .i64 (emod (x0 * y0 + emod (x1 * y1) * g))) (by simp; omega)
        have p4 := p4.setCell (p := ⟨wc.heap.size, 2 * k, none⟩) (by simp; omega) (.int .i64 (emod (x0 * y0 + emod (x1 * y1) * g)))
        clear p5
        go_wp2
        generalize w6.setCell ⟨wc.heap.size, 2 * k, none⟩ (.int .i64 (emod (x0 * y0 + emod (x1 * y1) * g))) = w7 at *
        have c1 := p1.cell (2 * k) (by omega)
        have c2 := p1.cell (2 * k + 1) (by omega)
        have c3 := p2.cell (2 * k) (by omega)
        have c4 := p2.cell (2 * k + 1) (by omega)
        rw [X0.out] at c1
        rw [X1.out] at c2
        rw [Y0.out] at c3
        rw [Y1.out] at c4
        clear f0 f1
        have M1 := Lib.hid (mod25 (x0 * y1 + x1 * y0) w7.drew (by omega) (by omega))
        go_still_tail 20, (by kernel_rfl)
        still_call M1.out
        refine wpStill_nil ?_
        change wpList _ _ _ _ _ w7.drew
        have p1 := p1.drew; have p2 := p2.drew; have p3 := p3.drew; have p4 := p4.drew; have s1 := s1.drew
        clear c1 c2 c3 c4 M1
        generalize w7.drew = w8 at *
        have f0 := s1.cell (2 * k + 1) (by omega)
        have f1 := s1.frozen (2 * k + 1)
        have s2 := s1.set (2 * k + 1) (emod (x0 * y1 + x1 * y0))
        have p1 := p1.other ⟨wc.heap.size, 2 * k + 1, none⟩ (.int .i64 (emod (x0 * y1 + x1 * y0))) (by simp; omega)
        have p2 := p2.other ⟨wc.heap.size, 2 * k + 1, none⟩ (.int .i64 (emod (x0 * y1 + x1 * y0))) (by simp; omega)
        have p3 := p3.other ⟨wc.heap.size, 2 * k + 1, none⟩ (.int .i64 (emod (x0 * y1 + x1 * y0))) (by simp; omega)
        have p4 := p4.setCell (p := ⟨wc.heap.size, 2 * k + 1, none⟩) (by simp; omega) (.int .i64 (emod (x0 * y1 + x1 * y0)))
        rw [H12.out] at s2
        clear s1
        go_wp2
        go_roundw
        case rel => exact ⟨k + 1, by omega, by go_num, p1, p2, p3, s2, p4⟩
        case measure => simp [intOf]; omega
      · have e1 : k = 128 := by omega
        subst e1
        have p5 := p5.congr (g := tim A B) (fun i hi => by unfold mix; rw [if_pos (by omega)])
        have r4 := p3.setRow (m := 256) (tim A B)
        have rb := below_setRow p4 (g := w.heap.size + 2) (by omega) (arr 256 (tim A B))
        clear p1 p2 p4 hR
        go_wp2_with (first | (with_reducible refine load23 rfl (.tmp 5) rfl wc.heap.size rfl p5 ?_) | (with_reducible refine store23 rfl (.tmp 4) (.tmp 71) rfl (w.heap.size + 2) _ rfl rfl p3 ?_))
        exact ret23 rfl (w.heap.size + 2) rfl r4 rfl ⟨by rw [hA.out, hB.out], rb⟩
end Go.Proofs.YtopkmkkohmkceaaDoor
