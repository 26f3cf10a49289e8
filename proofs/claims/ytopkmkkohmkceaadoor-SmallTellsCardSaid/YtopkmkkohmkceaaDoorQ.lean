/- The document's own product, walked; and that it is the product. -/
import Derived.Test.YtopkmkkohmkceaaDoorP
import Derived.Test.YtopkmkkohmkceaaDoorF
namespace Go.Proofs.YtopkmkkohmkceaaDoor
open Go.ChangeShapes Go.WideShapes Go.ChangeAt Go.RowKit
set_option linter.unusedSimpArgs false
set_option linter.unusedVariables false

def pstep (A B c : Nat → Int) (i k : Nat) : Nat → Int :=
  if i + k < 256 then upd c (i + k) (emod (c (i + k) + emod (A i * B k))) else upd c (i + k - 256) (emod (c (i + k - 256) - emod (A i * B k)))
def prow (A B c : Nat → Int) (i : Nat) : Nat → (Nat → Int)
  | 0 => c
  | k + 1 => pstep A B (prow A B c i k) i k
def pall (A B : Nat → Int) : Nat → (Nat → Int)
  | 0 => fun _ => 0
  | i + 1 => prow A B (pall A B i) i 256
theorem upd_bd (c : Nat → Int) (m : Nat) (v : Int) (hc : ∀ j, 0 ≤ c j ∧ c j < 3329) (hv : 0 ≤ v ∧ v < 3329) (j : Nat) : 0 ≤ upd c m v j ∧ upd c m v j < 3329 := by
  by_cases h : j = m
  · rw [show upd c m v j = v from if_pos h]; exact hv
  · rw [show upd c m v j = c j from if_neg h]; exact hc j
theorem pstep_bd (A B c : Nat → Int) (i k : Nat) (hc : ∀ j, 0 ≤ c j ∧ c j < 3329) (j : Nat) : 0 ≤ pstep A B c i k j ∧ pstep A B c i k j < 3329 := by
  unfold pstep
  split
  · exact upd_bd _ _ _ hc (emod_bd _) j
  · exact upd_bd _ _ _ hc (emod_bd _) j
theorem prow_bd (A B c : Nat → Int) (i k : Nat) (hc : ∀ j, 0 ≤ c j ∧ c j < 3329) (j : Nat) : 0 ≤ prow A B c i k j ∧ prow A B c i k j < 3329 := by
  induction k generalizing j with
  | zero => exact hc j
  | succ k ih => exact pstep_bd A B _ i k ih j
theorem pall_bd (A B : Nat → Int) (i : Nat) (j : Nat) : 0 ≤ pall A B i j ∧ pall A B i j < 3329 := by
  induction i generalizing j with
  | zero => exact ⟨Int.le_refl 0, by show (0 : Int) < 3329; omega⟩
  | succ i ih => exact prow_bd A B _ i 256 ih j
theorem sm_upd (n m : Nat) (c w : Nat → Int) (v : Int) (h : m < n) : sm n (fun p => upd c m v p * w p) = sm n (fun p => c p * w p) + (v - c m) * w m := by
  have e : (fun p => upd c m v p * w p) = fun p => c p * w p + (if p = m then (v - c m) * w p else 0) := by
    funext p; unfold upd; split
    · rename_i h; subst h; grind
    · omega
  rw [e, sm_add, sm_single n m (fun p => (v - c m) * w p) h]
theorem ev_upd (m : Nat) (c : Nat → Int) (v : Int) (t j : Nat) (h : m < 256) : ev (upd c m v) t j = ev c t j + (v - c m) * wt t j m := sm_upd 256 m c (wt t j) v h
theorem pstep_ev (a b c : Nat → Int) (i k : Nat) (hi : i < 256) (hk : k < 256) (t j : Nat) (ht : t < 128) :
    M (ev (pstep (fun i => emod (a i)) (fun i => emod (b i)) c i k) t j) (ev c t j + a i * b k * wt t j (i + k)) := by
  have hn : M (emod (emod (a i) * emod (b k))) (a i * b k) := (M.emod _).trans ((M.emod _).mul (M.emod _))
  unfold pstep
  by_cases h : i + k < 256
  · rw [if_pos h, ev_upd _ _ _ _ _ h]
    refine (M.refl _).add (M.mul ?_ (M.refl _))
    exact (((M.emod _).trans ((M.refl _).add hn)).sub (M.refl _)).trans (M.of_eq (by omega))
  · rw [if_neg h, ev_upd _ _ _ _ _ (by omega)]
    have hw := wt_wrap t j (i + k - 256) ht
    rw [show i + k - 256 + 256 = i + k by omega] at hw
    refine (M.refl _).add ?_
    refine ((((M.emod _).trans ((M.refl _).sub hn)).sub (M.refl _)).mul (M.refl _)).trans ?_
    exact (M.of_eq (by grind)).trans ((M.refl (a i * b k)).mul hw.symm)
theorem prow_ev (a b c : Nat → Int) (i : Nat) (hi : i < 256) (t j : Nat) (ht : t < 128) (k : Nat) (hk : k ≤ 256) :
    M (ev (prow (fun i => emod (a i)) (fun i => emod (b i)) c i k) t j) (ev c t j + sm k fun k => a i * b k * wt t j (i + k)) := by
  induction k with
  | zero => exact M.of_eq (by simp [prow, sm])
  | succ k ih =>
    show M (ev (pstep _ _ (prow _ _ c i k) i k) t j) _
    exact (pstep_ev a b _ i k hi (by omega) t j ht).trans (((ih (by omega)).add (M.refl _)).trans (M.of_eq (by simp only [sm]; omega)))
theorem pall_ev (a b : Nat → Int) (t j : Nat) (ht : t < 128) (i : Nat) (hi : i ≤ 256) :
    M (ev (pall (fun i => emod (a i)) (fun i => emod (b i)) i) t j) (sm i fun i => sm 256 fun k => a i * b k * wt t j (i + k)) := by
  induction i with
  | zero =>
    have : ev (pall (fun i => emod (a i)) (fun i => emod (b i)) 0) t j = sm 256 (fun p => 0 * wt t j p) := rfl
    rw [this, sm_mul, Int.zero_mul]; exact M.refl _
  | succ i ih =>
    show M (ev (prow _ _ (pall _ _ i) i 256) t j) _
    exact (prow_ev a b _ i (by omega) t j ht 256 (by omega)).trans (((ih (by omega)).add (M.refl _)).trans (M.of_eq rfl))
theorem prod_all (a b : Nat → Int) : IsProd a b (pall (fun i => emod (a i)) (fun i => emod (b i)) 256) := fun t j ht hj => pall_ev a b t j ht 256 (by omega)

set_option maxRecDepth 20000 in
theorem rmod16 (a : Nat → Int) (w : World) (ha : I64 a) : Calls Tryd.prog 16 #[.agg (arr 256 a)] w fun e w' => e = .returned (.agg (arr 256 fun i => emod (a i))) ∧ Below w.heap.size w w' := by
  have HA := Lib.hid ha; clear ha
  have hz := zero23
  go_enter Tryd.func16, Tryd.ntmps16
  go_wp2
  clear hz
  go_loopw [3] (fun j wr => ∃ k : Nat, k ≤ 256 ∧ j = .int .i64 k ∧ Row wr w.heap.size 23 256 (mix k (fun i => emod (a i)) a) ∧ Row wr (w.heap.size + 1) 23 256 (fun _ => 0) ∧ Below w.heap.size w wr) (fun j wr => 256 - (intOf j).toNat)
  case atStart =>
    refine ⟨0, by omega, rfl, (Row.new _ _ _ _).alloc _, ?_, ?_⟩
    · have := (Row.new (w.alloc (Obj.cells (arr 256 a) 23)) 23 256 (fun _ => 0))
      simpa using this
    · exact (((Below.refl _ _).alloc (Nat.le_refl _) _).alloc (by simp) _)
  case round =>
    obtain ⟨k, hk, rfl, r1, r3, hbl⟩ := hrel
    by_cases hlt : k < 256
    · have c1 := r1.cell k (by omega)
      have f1 := r1.frozen k
      rw [show mix k (fun i => emod (a i)) a k = a k by simp [mix]] at c1
      have hx1 := HA.out k
      have hs := (r1.set k (emod (a k))).congr (fun i _ => mix_succ k (fun i => emod (a i)) a i)
      have hs3 := r3.other ⟨w.heap.size, k, none⟩ (.int .i64 (emod (a k))) (by simp)
      have hs5 := hbl.setCell (p := ⟨w.heap.size, k, none⟩) (by simp) (.int .i64 (emod (a k)))
      clear r1 r3 hbl
      go_wp2_with (first | (go_at_call 27; refine (mod27 _ _ (by omega) (by omega)).mono ?_; rintro e w' ⟨rfl, rfl⟩))
      go_roundw
      case rel => exact ⟨k + 1, by omega, by go_num, hs, hs3, hs5⟩
      case measure => simp [intOf]; omega
    · have e1 : k = 256 := by omega
      subst e1
      have rr := r1.congr (g := fun i => emod (a i)) (fun i hi => by simp [mix, hi])
      have rb := below_setRow hbl (g := w.heap.size + 1) (by omega) (arr 256 fun i => emod (a i))
      have r4 := r3.setRow (m := 256) (fun i => emod (a i))
      clear r1
      go_wp2_with (first | (with_reducible refine load23 rfl (.tmp 1) rfl w.heap.size rfl rr ?_) | (with_reducible refine store23 rfl (.tmp 2) (.tmp 14) rfl (w.heap.size + 1) _ rfl rfl r3 ?_))
      exact ret23 rfl (w.heap.size + 1) rfl r4 rfl ⟨rfl, rb⟩

set_option maxRecDepth 20000 in
set_option maxHeartbeats 4000000 in
theorem prod14 (a b : Nat → Int) (w : World) (ha : I64 a) (hb : I64 b) : Calls Tryd.prog 14 #[.agg (arr 256 a), .agg (arr 256 b)] w fun e w' => e = .returned (.agg (arr 256 (pall (fun i => emod (a i)) (fun i => emod (b i)) 256))) ∧ Below w.heap.size w w' := by
  have hz := zero23
  obtain ⟨w0, hw0⟩ : ∃ w0 : World, w0 = ((w.alloc (.cells (arr 256 a) 23)).alloc (.cells (arr 256 b) 23)).alloc (.cells (arr 256 fun _ => 0) 23) := ⟨_, rfl⟩
  have r1 : Row w0 w.heap.size 23 256 a := by rw [hw0]; exact ((Row.new w 23 256 a).alloc _).alloc _
  have r2 : Row w0 (w.heap.size + 1) 23 256 b := by
    have := (Row.new (w.alloc (.cells (arr 256 a) 23)) 23 256 b).alloc (.cells (arr 256 fun _ => 0) 23)
    rw [hw0]; simpa using this
  have r3 : Row w0 (w.heap.size + 1 + 1) 23 256 (fun _ => 0) := by
    have := Row.new ((w.alloc (.cells (arr 256 a) 23)).alloc (.cells (arr 256 b) 23)) 23 256 (fun _ => 0)
    rw [hw0]; simpa using this
  have hb0 : Below w.heap.size w w0 := by rw [hw0]; exact (((Below.refl _ _).alloc (Nat.le_refl _) _).alloc (by simp) _).alloc (by simp; omega) _
  have HW := Lib.hid hw0
  go_enter Tryd.func14, Tryd.ntmps14
  go_upto_region 1 with (fail)
  rw [← HW.out]
  clear hw0 HW
  go_wp2_with (first | (with_reducible refine load23 rfl (.tmp 2) rfl w.heap.size rfl r1 ?_))
  refine (rmod16 a _ ha).mono ?_
  rintro e w1 ⟨rfl, k1⟩
  have r1 := r1.below k1 r1.lt
  have r2 := r2.below k1 r2.lt
  have r3 := r3.below k1 r3.lt
  have hb0 := hb0.trans (k1.mono hb0.size)
  clear k1
  have s1 := r1.setRow (m := 256) (fun i => emod (a i))
  have r2 := r2.setRow_other (c := w.heap.size) (arr 256 fun i => emod (a i)) (by omega)
  have r3 := r3.setRow_other (c := w.heap.size) (arr 256 fun i => emod (a i)) (by omega)
  have hb0 := below_setRow hb0 (g := w.heap.size) (by omega) (arr 256 fun i => emod (a i))
  go_wp2_with (first | (with_reducible refine store23 rfl (.tmp 2) (.tmp 10) rfl w.heap.size _ rfl rfl r1 ?_) | (with_reducible refine load23 rfl (.tmp 3) rfl (w.heap.size + 1) rfl r2 ?_))
  clear r1
  generalize w1.setRow w.heap.size (arr 256 fun i => emod (a i)) = w2 at *
  refine (rmod16 b _ hb).mono ?_
  rintro e w3 ⟨rfl, k1⟩
  have s1 := s1.below k1 s1.lt
  have r2 := r2.below k1 r2.lt
  have r3 := r3.below k1 r3.lt
  have hb0 := hb0.trans (k1.mono hb0.size)
  clear k1
  have s2 := r2.setRow (m := 256) (fun i => emod (b i))
  have s1 := s1.setRow_other (c := w.heap.size + 1) (arr 256 fun i => emod (b i)) (by omega)
  have r3 := r3.setRow_other (c := w.heap.size + 1) (arr 256 fun i => emod (b i)) (by omega)
  have hb0 := below_setRow hb0 (g := w.heap.size + 1) (by omega) (arr 256 fun i => emod (b i))
  have l3 := r3.lt
  have s3 := Row.new (w3.setRow (w.heap.size + 1) (arr 256 fun i => emod (b i))) 23 256 (fun _ => 0)
  have hsz : (w3.setRow (w.heap.size + 1) (arr 256 fun i => emod (b i))).heap.size = w3.heap.size := by simp
  have y1 := s1.alloc (.cells (arr 256 fun _ => 0) 23)
  have y2 := s2.alloc (.cells (arr 256 fun _ => 0) 23)
  have y3 := r3.alloc (.cells (arr 256 fun _ => 0) 23)
  have yb := hb0.alloc (by omega) (.cells (arr 256 fun _ => 0) 23)
  rw [hsz] at s3 l3
  clear hsz s1 s2 r3 hb0
  go_wp2_with (first | (with_reducible refine store23 rfl (.tmp 3) (.tmp 12) rfl (w.heap.size + 1) _ rfl rfl r2 ?_))
  clear r2 hz
  generalize (w3.setRow (w.heap.size + 1) (arr 256 fun i => emod (b i))).alloc (.cells (arr 256 fun _ => 0) 23) = w4 at *
  have HA := Lib.hid (fun i => emod_bd (a i))
  have HB := Lib.hid (fun i => emod_bd (b i))
  generalize hA : (fun i => emod (a i)) = A at *
  generalize hB : (fun i => emod (b i)) = B at *
  have HA : Hid (∀ i, 0 ≤ A i ∧ A i < 3329) := by rw [← hA]; exact HA
  have HB : Hid (∀ i, 0 ≤ B i ∧ B i < 3329) := by rw [← hB]; exact HB
  have hA := Lib.hid hA
  have hB := Lib.hid hB
  go_loopw [6] (fun v wr => ∃ i : Nat, i ≤ 256 ∧ v = .int .i64 i ∧ Row wr w.heap.size 23 256 A ∧ Row wr (w.heap.size + 1) 23 256 B ∧ Row wr (w.heap.size + 1 + 1) 23 256 (fun _ => 0) ∧ Row wr w3.heap.size 23 256 (pall A B i) ∧ Below w.heap.size w wr) (fun v wr => 256 - (intOf v).toNat)
  case atStart => exact ⟨0, by omega, rfl, y1, y2, y3, s3, yb⟩
  case round =>
    clear y1 y2 y3 s3 yb
    obtain ⟨i, hi, rfl, s1, s2, r3, s3, hb0⟩ := hrel
    by_cases hlt : i < 256
    · have hd : decide ((i : Int) < 256) = true := by simp; omega
      go_wp2
      obtain ⟨wo, hwo⟩ : ∃ wo : World, wo = wr := ⟨_, rfl⟩
      go_loopw [7] (fun v wr => ∃ k : Nat, k ≤ 256 ∧ v = .int .i64 k ∧ Row wr w.heap.size 23 256 A ∧ Row wr (w.heap.size + 1) 23 256 B ∧ Row wr (w.heap.size + 1 + 1) 23 256 (fun _ => 0) ∧ Row wr w3.heap.size 23 256 (prow A B (pall A B i) i k) ∧ Below w.heap.size w wr) (fun v wr => 256 - (intOf v).toNat)
      case atStart => exact ⟨0, by omega, rfl, s1, s2, r3, s3, hb0⟩
      case round =>
        clear s1 s2 r3 s3 hb0 hwo wo
        obtain ⟨k, hk, rfl, s1, s2, r3, s3, hb0⟩ := hrel
        by_cases hlt2 : k < 256
        · have c1 := s1.cell i (by omega)
          have c2 := s2.cell k (by omega)
          have b1 := HA.out i
          have b2 := HB.out k
          have mm := mul_bd (A i) (B k) b1 b2
          have bn := emod_bd (A i * B k)
          have u1 : IntKind.i64.wrap (A i * B k) = A i * B k := IntWalk.i64_in _ (by omega)
          have t2 : 0 ≤ A i * B k := mm.1
          have u2 : (A i * B k).tmod 3329 = emod (A i * B k) := Int.tmod_eq_emod_of_nonneg mm.1
          have u3 : A i * B k % 3329 = emod (A i * B k) := rfl
          have t0 : 0 ≤ (i : Int) := by omega
          have t1 : (i : Int) < 256 := by omega
          have t3 : 0 ≤ (k : Int) := by omega
          have t4 : (k : Int) < 256 := by omega
          have ep : ∀ c, prow A B c i (k + 1) = pstep A B (prow A B c i k) i k := fun c => rfl
          have EP := Lib.hid ep
          clear ep
          have hcb := prow_bd A B (pall A B i) i k (pall_bd A B i)
          have HCB := Lib.hid hcb
          clear hcb
          by_cases hs : i + k < 256
          · have c3 := s3.cell (i + k) (by omega)
            have f3 := s3.frozen (i + k)
            have b3 := HCB.out (i + k)
            have es : pstep A B (prow A B (pall A B i) i k) i k = upd (prow A B (pall A B i) i k) (i + k) (emod (prow A B (pall A B i) i k (i + k) + emod (A i * B k))) := if_pos hs
            have ES := Lib.hid es
            clear es
            go_wp2
            go_still (by kernel_rfl)
            change Exit.then _ _ _ _ wr.drew
            generalize emod (A i * B k) = n at *
            clear c1 c2 c3 f3 u1 u2 u3 t0 t1 t2 t3 t4 mm b1 b2
            have x1 := s1.drew; have x2 := s2.drew; have x3 := r3.drew; have x4 := s3.drew; have xb := hb0.drew
            clear s1 s2 r3 s3 hb0
            generalize wr.drew = w5 at *
            have c3 := x4.cell (i + k) (by omega)
            have f3 := x4.frozen (i + k)
            have hc3 : ∃ v, w5.cell? ⟨w3.heap.size, i + k, none⟩ = some v := ⟨_, c3⟩
            have y4 := x4.set (i + k) (emod (prow A B (pall A B i) i k (i + k) + n))
            rw [← ES.out, ← EP.out] at y4
            have y1 := x1.other ⟨w3.heap.size, i + k, none⟩ (.int .i64 (emod (prow A B (pall A B i) i k (i + k) + n))) (by simp; omega)
            have y2 := x2.other ⟨w3.heap.size, i + k, none⟩ (.int .i64 (emod (prow A B (pall A B i) i k (i + k) + n))) (by simp; omega)
            have y3 := x3.other ⟨w3.heap.size, i + k, none⟩ (.int .i64 (emod (prow A B (pall A B i) i k (i + k) + n))) (by simp; omega)
            have yb := xb.setCell (p := ⟨w3.heap.size, i + k, none⟩) (by simp; omega) (.int .i64 (emod (prow A B (pall A B i) i k (i + k) + n)))
            clear x1 x2 x3 x4 xb hc3
            go_wp2_with (first | (go_at_call 27; refine (mod27 _ _ (by omega) (by omega)).mono ?_; rintro e w' ⟨rfl, rfl⟩))
            go_roundw
            case rel => exact ⟨k + 1, by omega, by go_num, y1, y2, y3, y4, yb⟩
            case measure => simp [intOf]; omega
          · have c3 := s3.cell (i + k - 256) (by omega)
            have f3 := s3.frozen (i + k - 256)
            have b3 := HCB.out (i + k - 256)
            have es : pstep A B (prow A B (pall A B i) i k) i k = upd (prow A B (pall A B i) i k) (i + k - 256) (emod (prow A B (pall A B i) i k (i + k - 256) - emod (A i * B k))) := if_neg hs
            have ES := Lib.hid es
            clear es
            have t5 : 0 ≤ (i : Int) + (k : Int) - 256 := by omega
            have t6 : (i : Int) + (k : Int) - 256 < 256 := by omega
            have t7 : ((i : Int) + (k : Int) - 256).toNat = i + k - 256 := by omega
            have t8 : IntKind.i64.wrap ((i : Int) + (k : Int) - 256) = (i : Int) + (k : Int) - 256 := IntWalk.i64_in _ (by omega)
            have t9 : 256 ≤ (i : Int) + (k : Int) := by omega
            have t10 : (i : Int) + (k : Int) < 512 := by omega
            go_wp2
            go_still (by kernel_rfl)
            change Exit.then _ _ _ _ wr.drew
            generalize emod (A i * B k) = n at *
            clear c1 c2 c3 f3 u1 u2 u3 t0 t1 t2 t3 t4 t5 t6 t7 t8 t9 t10 mm b1 b2
            have x1 := s1.drew; have x2 := s2.drew; have x3 := r3.drew; have x4 := s3.drew; have xb := hb0.drew
            clear s1 s2 r3 s3 hb0
            generalize wr.drew = w5 at *
            have c3 := x4.cell (i + k - 256) (by omega)
            have f3 := x4.frozen (i + k - 256)
            have hc3 : ∃ v, w5.cell? ⟨w3.heap.size, i + k - 256, none⟩ = some v := ⟨_, c3⟩
            have y4 := x4.set (i + k - 256) (emod (prow A B (pall A B i) i k (i + k - 256) - n))
            rw [← ES.out, ← EP.out] at y4
            have y1 := x1.other ⟨w3.heap.size, i + k - 256, none⟩ (.int .i64 (emod (prow A B (pall A B i) i k (i + k - 256) - n))) (by simp; omega)
            have y2 := x2.other ⟨w3.heap.size, i + k - 256, none⟩ (.int .i64 (emod (prow A B (pall A B i) i k (i + k - 256) - n))) (by simp; omega)
            have y3 := x3.other ⟨w3.heap.size, i + k - 256, none⟩ (.int .i64 (emod (prow A B (pall A B i) i k (i + k - 256) - n))) (by simp; omega)
            have yb := xb.setCell (p := ⟨w3.heap.size, i + k - 256, none⟩) (by simp; omega) (.int .i64 (emod (prow A B (pall A B i) i k (i + k - 256) - n)))
            clear x1 x2 x3 x4 xb hc3
            go_wp2_with (first | (go_at_call 27; refine (mod27 _ _ (by omega) (by omega)).mono ?_; rintro e w' ⟨rfl, rfl⟩))
            go_roundw
            case rel => exact ⟨k + 1, by omega, by go_num, y1, y2, y3, y4, yb⟩
            case measure => simp [intOf]; omega
        · have e2 : k = 256 := by omega
          subst e2
          go_wp2
          go_roundw
          case rel => exact ⟨i + 1, by omega, by go_num, s1, s2, r3, s3, hb0⟩
          case measure => simp [intOf]; omega
    · have e1 : i = 256 := by omega
      subst e1
      have k3 := r3.setRow (m := 256) (pall A B 256)
      have kb := below_setRow hb0 (g := w.heap.size + 1 + 1) (by omega) (arr 256 (pall A B 256))
      go_wp2_with (first | (with_reducible refine load23 rfl (.tmp 5) rfl w3.heap.size rfl s3 ?_) | (with_reducible refine store23 rfl (.tmp 4) (.tmp 59) rfl (w.heap.size + 1 + 1) _ rfl rfl r3 ?_))
      exact ret23 rfl (w.heap.size + 1 + 1) rfl k3 rfl ⟨by rw [hA.out, hB.out], kb⟩
end Go.Proofs.YtopkmkkohmkceaaDoor
