/- SmallSums, walked. -/
import Derived.Test.YtopkmkkohmkceaaDoorH5
namespace Go.Proofs.YtopkmkkohmkceaaDoor
open Go.ChangeShapes Go.WideShapes Go.ChangeAt Go.RowKit
set_option linter.unusedSimpArgs false
set_option linter.unusedVariables false

def sm2 (a b : Nat → Int) : Nat → Int := fun i => emod (emod (a i) + emod (b i))
theorem sm2_bd (a b : Nat → Int) : I64 (sm2 a b) := I64.of fun i => emod_bd _
theorem sm2_M (a b : Nat → Int) (i : Nat) : M (sm2 a b i) (a i + b i) := (M.emod _).trans ((M.emod _).add (M.emod _))
theorem add17' (a b : Nat → Int) (w : World) (ha : I64 a) (hb : I64 b) : Calls Tryd.prog 17 #[.agg (arr 256 a), .agg (arr 256 b)] w fun e w' => e = .returned (.agg (arr 256 (sm2 a b))) ∧ Below w.heap.size w w' := add17 a b w ha hb
theorem sub_back (a b : Nat → Int) (i : Nat) : emod (emod (sm2 a b i) - emod (b i)) = emod (a i) := by
  unfold sm2 emod; omega

set_option maxRecDepth 20000 in
set_option maxHeartbeats 4000000 in
theorem sums8 (a b c : Nat → Int) (w : World) (ha : I64 a) (hb : I64 b) (hc : I64 c) (hR : TRow w 0 128 rt) : Calls Tryd.prog 8 #[.agg (arr 256 a), .agg (arr 256 b), .agg (arr 256 c)] w fun e w' => e = .returned (.bool true) ∧ Below w.heap.size w w' := by
  have hlt := hR.lt
  obtain ⟨w0, hw0⟩ : ∃ w0 : World, w0 = ((w.alloc (.cells (arr 256 a) 23)).alloc (.cells (arr 256 b) 23)).alloc (.cells (arr 256 c) 23) := ⟨_, rfl⟩
  have r1 : Row w0 w.heap.size 23 256 a := by rw [hw0]; exact ((Row.new w 23 256 a).alloc _).alloc _
  have r2 : Row w0 (w.heap.size + 1) 23 256 b := by
    have := (Row.new (w.alloc (.cells (arr 256 a) 23)) 23 256 b).alloc (.cells (arr 256 c) 23)
    rw [hw0]; simpa using this
  have r3 : Row w0 (w.heap.size + 1 + 1) 23 256 c := by
    have := Row.new ((w.alloc (.cells (arr 256 a) 23)).alloc (.cells (arr 256 b) 23)) 23 256 c
    rw [hw0]; simpa using this
  have hb0 : Below w.heap.size w w0 := by rw [hw0]; exact (((Below.refl _ _).alloc (Nat.le_refl _) _).alloc (by simp) _).alloc (by simp; omega) _
  have R1 := hR.below hb0 hlt
  have HW := Lib.hid hw0
  go_enter Tryd.func8, Tryd.ntmps8
  go_wp2_with fail
  rw [← HW.out]
  clear hw0 HW
  refine (head9 _ R1).mono ?_
  rintro e w1 ⟨rfl, k1⟩
  have r1 := r1.below k1 r1.lt
  have r2 := r2.below k1 r2.lt
  have r3 := r3.below k1 r3.lt
  have R1 := R1.below k1 R1.lt
  have hb0 := hb0.trans (k1.mono hb0.size)
  clear k1
  go_wp2_with (first | (with_reducible refine load23 rfl (.tmp 3) rfl w.heap.size rfl r1 ?_) | (with_reducible refine load23 rfl (.tmp 4) rfl (w.heap.size + 1) rfl r2 ?_))
  refine (add17' a b _ ha hb).mono ?_
  rintro e w2 ⟨rfl, k1⟩
  have r1 := r1.below k1 r1.lt
  have r2 := r2.below k1 r2.lt
  have r3 := r3.below k1 r3.lt
  have R1 := R1.below k1 R1.lt
  have hb0 := hb0.trans (k1.mono hb0.size)
  have l1 := r1.lt; have l2 := r2.lt; have l3 := r3.lt; have l4 := R1.lt
  clear k1
  have hz := zero23
  have p0 := Row.new w2 23 256 (fun _ => 0)
  have r1 := (r1.alloc (.cells (arr 256 fun _ => 0) 23)).setRow_other (c := w2.heap.size) (arr 256 (sm2 a b)) (by omega)
  have r2 := (r2.alloc (.cells (arr 256 fun _ => 0) 23)).setRow_other (c := w2.heap.size) (arr 256 (sm2 a b)) (by omega)
  have r3 := (r3.alloc (.cells (arr 256 fun _ => 0) 23)).setRow_other (c := w2.heap.size) (arr 256 (sm2 a b)) (by omega)
  have hb0 := below_setRow (hb0.alloc (by omega) (.cells (arr 256 fun _ => 0) 23)) (g := w2.heap.size) (by omega) (arr 256 (sm2 a b))
  have R1 := (R1.alloc (.cells (arr 256 fun _ => 0) 23)).setRow_other (c := w2.heap.size) (arr 256 (sm2 a b)) (by omega)
  have r4 := p0.setRow (m := 256) (sm2 a b)
  go_wp2_with (first | (with_reducible refine store23 rfl (.tmp 8) (.tmp 12) rfl w2.heap.size _ rfl rfl p0 ?_))
  generalize ((w2.alloc (.cells (arr 256 fun _ => 0) 23)).setRow w2.heap.size (arr 256 (sm2 a b))) = w3 at *
  clear hz p0
  simp only [Act.put]
  have hq := eql23
  have e1 : eqA 256 (ntt (sm2 a b)) (sm2 (ntt a) (ntt b)) = true := eqA_of (fun i hi => ntt_add a b _ (fun i _ => sm2_M a b i) i hi)
  have e2 : eqA 256 (fun i => emod (emod (sm2 a b i) - emod (b i))) (fun i => emod (a i)) = true := eqA_of (fun i _ => sub_back a b i)
  have e3 : eqA 256 (tm c (sm2 a b)) (sm2 (tm c a) (tm c b)) = true := eqA_of (fun i _ => tm_add c a b _ (sm2_M a b) i)
  have e4 : eqA 256 (tm a b) (tm b a) = true := eqA_of (fun i _ => tm_comm a b i)
  refine wp_region_held_drew (S := (fun w' => Row w' w.heap.size 23 256 a ∧ Row w' (w.heap.size + 1) 23 256 b ∧ Row w' (w.heap.size + 1 + 1) 23 256 c ∧ Row w' w2.heap.size 23 256 (sm2 a b) ∧ Below w.heap.size w w' ∧ TRow w' 0 128 rt)) (by kernel_rfl) ⟨r1.drew, r2.drew, r3.drew, r4.drew, hb0.drew, R1.drew⟩ (fun hH => ?_)
  clear r1 r2 r3 r4 hb0 R1 l1 l2 l3 l4
  refine wpAnyH_take (i := 0) (oi := { dst := some 13, op := Op.load 23 (Operand.tmp 8), type := 23, pos := "law.go:42", after := #[], guard := none }) rfl (by kernel_rfl) (by kernel_rfl) (by kernel_rfl) (fun _ _ _ h => h) (yields23 (by rfl) _ rfl w2.heap.size rfl (sm2 a b) (fun _ h => h.2.2.2.1)) hH ?_
  try simp only [Act.put, List.setIfInBounds_toArray, List.set_cons_zero, List.set_cons_succ]
  refine wpAnyH_take (i := 2) (oi := { dst := some 15, op := Op.load 23 (Operand.tmp 3), type := 23, pos := "law.go:42", after := #[], guard := none }) rfl (by kernel_rfl) (by kernel_rfl) (by kernel_rfl) (fun _ _ _ h => h) (yields23 (by rfl) _ rfl w.heap.size rfl a (fun _ h => h.1)) hH ?_
  try simp only [Act.put, List.setIfInBounds_toArray, List.set_cons_zero, List.set_cons_succ]
  refine wpAnyH_take (i := 4) (oi := { dst := some 17, op := Op.load 23 (Operand.tmp 4), type := 23, pos := "law.go:42", after := #[], guard := none }) rfl (by kernel_rfl) (by kernel_rfl) (by kernel_rfl) (fun _ _ _ h => h) (yields23 (by rfl) _ rfl (w.heap.size + 1) rfl b (fun _ h => h.2.1)) hH ?_
  try simp only [Act.put, List.setIfInBounds_toArray, List.set_cons_zero, List.set_cons_succ]
  refine wpAnyH_ready (rs := [1]) (by kernel_rfl) (by simp) ?_
  refine AllReadyH.cons (o := { dst := some 14, op := Op.call { callee := Callee.value (Operand.func 12), args := #[Operand.tmp 13], argTypes := #[23] }, type := 23, pos := "law.go:42", after := #[{ on := 0, ground := Ground.data }], guard := none }) rfl (fun K hK => ?_) AllReadyH.nil
  rw [if_pos (by rfl)]
  go_simp
  refine (ntt12' (sm2 a b) _ (sm2_bd a b) hH.2.2.2.2.2).mono ?_
  rintro e v1 ⟨rfl, kk⟩
  refine hK.out _ _ ⟨hH.1.below kk hH.1.lt, hH.2.1.below kk hH.2.1.lt, hH.2.2.1.below kk hH.2.2.1.lt, hH.2.2.2.1.below kk hH.2.2.2.1.lt, hH.2.2.2.2.1.trans (kk.mono hH.2.2.2.2.1.size), hH.2.2.2.2.2.below kk hH.2.2.2.2.2.lt⟩ (fun hH => ?_)
  clear hK K
  clear kk
  refine wpAnyH_ready (rs := [3]) (by kernel_rfl) (by simp) ?_
  refine AllReadyH.cons (o := { dst := some 16, op := Op.call { callee := Callee.value (Operand.func 12), args := #[Operand.tmp 15], argTypes := #[23] }, type := 23, pos := "law.go:42", after := #[{ on := 2, ground := Ground.data }, { on := 1, ground := Ground.chain }], guard := none }) rfl (fun K hK => ?_) AllReadyH.nil
  rw [if_pos (by rfl)]
  go_simp
  refine (ntt12' a _ ha hH.2.2.2.2.2).mono ?_
  rintro e v2 ⟨rfl, kk⟩
  refine hK.out _ _ ⟨hH.1.below kk hH.1.lt, hH.2.1.below kk hH.2.1.lt, hH.2.2.1.below kk hH.2.2.1.lt, hH.2.2.2.1.below kk hH.2.2.2.1.lt, hH.2.2.2.2.1.trans (kk.mono hH.2.2.2.2.1.size), hH.2.2.2.2.2.below kk hH.2.2.2.2.2.lt⟩ (fun hH => ?_)
  clear hK K
  clear kk
  refine wpAnyH_ready (rs := [5]) (by kernel_rfl) (by simp) ?_
  refine AllReadyH.cons (o := { dst := some 18, op := Op.call { callee := Callee.value (Operand.func 12), args := #[Operand.tmp 17], argTypes := #[23] }, type := 23, pos := "law.go:42", after := #[{ on := 4, ground := Ground.data }, { on := 3, ground := Ground.chain }], guard := none }) rfl (fun K hK => ?_) AllReadyH.nil
  rw [if_pos (by rfl)]
  go_simp
  refine (ntt12' b _ hb hH.2.2.2.2.2).mono ?_
  rintro e v3 ⟨rfl, kk⟩
  refine hK.out _ _ ⟨hH.1.below kk hH.1.lt, hH.2.1.below kk hH.2.1.lt, hH.2.2.1.below kk hH.2.2.1.lt, hH.2.2.2.1.below kk hH.2.2.2.1.lt, hH.2.2.2.2.1.trans (kk.mono hH.2.2.2.2.1.size), hH.2.2.2.2.2.below kk hH.2.2.2.2.2.lt⟩ (fun hH => ?_)
  clear hK K
  clear kk
  refine wpAnyH_ready (rs := [6]) (by kernel_rfl) (by simp) ?_
  refine AllReadyH.cons (o := { dst := some 19, op := Op.call { callee := Callee.value (Operand.func 17), args := #[Operand.tmp 16, Operand.tmp 18], argTypes := #[23, 23] }, type := 23, pos := "law.go:42", after := #[{ on := 3, ground := Ground.data }, { on := 5, ground := Ground.data }, { on := 5, ground := Ground.chain }], guard := none }) rfl (fun K hK => ?_) AllReadyH.nil
  rw [if_pos (by rfl)]
  go_simp
  refine (add17' (ntt a) (ntt b) _ (I64.of (ntt_bd _)) (I64.of (ntt_bd _))).mono ?_
  rintro e v4 ⟨rfl, kk⟩
  refine hK.out _ _ ⟨hH.1.below kk hH.1.lt, hH.2.1.below kk hH.2.1.lt, hH.2.2.1.below kk hH.2.2.1.lt, hH.2.2.2.1.below kk hH.2.2.2.1.lt, hH.2.2.2.2.1.trans (kk.mono hH.2.2.2.2.1.size), hH.2.2.2.2.2.below kk hH.2.2.2.2.2.lt⟩ (fun hH => ?_)
  clear hK K
  clear kk
  refine wpAnyH_take (i := 7) (oi := { dst := some 20, op := Op.binOp BinOp.neq 23 (Operand.tmp 14) (Operand.tmp 19) 23, type := 4, pos := "law.go:42", after := #[{ on := 1, ground := Ground.data }, { on := 6, ground := Ground.data }], guard := none }) (v := ?_) rfl (by kernel_rfl) (by kernel_rfl) (by kernel_rfl) (fun _ _ _ h => h) (Or.inl ⟨by rfl, ?_⟩) hH ?_; rotate_left
  · (intro w hSw; go_simp; try with_reducible rfl)
  try simp only [Act.put, List.setIfInBounds_toArray, List.set_cons_zero, List.set_cons_succ]
  refine wpAnyH_take (i := 8) (oi := { dst := some 21, op := Op.move (Operand.tmp 20), type := 4, pos := "law.go:42", after := #[{ on := 7, ground := Ground.data }, { on := 6, ground := Ground.chain }], guard := none }) (v := ?_) rfl (by kernel_rfl) (by kernel_rfl) (by kernel_rfl) (fun _ _ _ h => h) (Or.inl ⟨by rfl, ?_⟩) hH ?_; rotate_left
  · (intro w hSw; go_simp; try with_reducible rfl)
  try simp only [Act.put, List.setIfInBounds_toArray, List.set_cons_zero, List.set_cons_succ]
  refine wpAnyH_take (i := 9) (oi := { dst := some 22, op := Op.load 23 (Operand.tmp 8), type := 23, pos := "law.go:42", after := #[{ on := 8, ground := Ground.guard }], guard := some (8, false) }) rfl (by kernel_rfl) (by kernel_rfl) (by kernel_rfl) (fun _ _ _ h => h) (yields23 (by rfl) _ rfl w2.heap.size rfl (sm2 a b) (fun _ h => h.2.2.2.1)) hH ?_
  try simp only [Act.put, List.setIfInBounds_toArray, List.set_cons_zero, List.set_cons_succ]
  refine wpAnyH_take (i := 10) (oi := { dst := some 23, op := Op.load 23 (Operand.tmp 4), type := 23, pos := "law.go:42", after := #[{ on := 8, ground := Ground.guard }], guard := some (8, false) }) rfl (by kernel_rfl) (by kernel_rfl) (by kernel_rfl) (fun _ _ _ h => h) (yields23 (by rfl) _ rfl (w.heap.size + 1) rfl b (fun _ h => h.2.1)) hH ?_
  try simp only [Act.put, List.setIfInBounds_toArray, List.set_cons_zero, List.set_cons_succ]
  refine wpAnyH_take (i := 12) (oi := { dst := some 25, op := Op.load 23 (Operand.tmp 3), type := 23, pos := "law.go:42", after := #[{ on := 8, ground := Ground.guard }], guard := some (8, false) }) rfl (by kernel_rfl) (by kernel_rfl) (by kernel_rfl) (fun _ _ _ h => h) (yields23 (by rfl) _ rfl w.heap.size rfl a (fun _ h => h.1)) hH ?_
  try simp only [Act.put, List.setIfInBounds_toArray, List.set_cons_zero, List.set_cons_succ]
  refine wpAnyH_ready (rs := [11]) (by kernel_rfl) (by simp) ?_
  refine AllReadyH.cons (o := { dst := some 24, op := Op.call { callee := Callee.value (Operand.func 15), args := #[Operand.tmp 22, Operand.tmp 23], argTypes := #[23, 23] }, type := 23, pos := "law.go:42", after := #[{ on := 9, ground := Ground.data }, { on := 10, ground := Ground.data }, { on := 8, ground := Ground.chain }, { on := 8, ground := Ground.guard }], guard := some (8, false) }) rfl (fun K hK => ?_) AllReadyH.nil
  rw [if_pos (by rfl)]
  go_simp
  refine (sub15 (sm2 a b) b _ (sm2_bd a b) hb).mono ?_
  rintro e v5 ⟨rfl, kk⟩
  refine hK.out _ _ ⟨hH.1.below kk hH.1.lt, hH.2.1.below kk hH.2.1.lt, hH.2.2.1.below kk hH.2.2.1.lt, hH.2.2.2.1.below kk hH.2.2.2.1.lt, hH.2.2.2.2.1.trans (kk.mono hH.2.2.2.2.1.size), hH.2.2.2.2.2.below kk hH.2.2.2.2.2.lt⟩ (fun hH => ?_)
  clear hK K
  clear kk
  refine wpAnyH_ready (rs := [13]) (by kernel_rfl) (by simp) ?_
  refine AllReadyH.cons (o := { dst := some 26, op := Op.call { callee := Callee.value (Operand.func 10), args := #[Operand.tmp 25], argTypes := #[23] }, type := 23, pos := "law.go:42", after := #[{ on := 12, ground := Ground.data }, { on := 11, ground := Ground.chain }, { on := 8, ground := Ground.guard }], guard := some (8, false) }) rfl (fun K hK => ?_) AllReadyH.nil
  rw [if_pos (by rfl)]
  go_simp
  refine (mod10 a _ ha).mono ?_
  rintro e v6 ⟨rfl, kk⟩
  refine hK.out _ _ ⟨hH.1.below kk hH.1.lt, hH.2.1.below kk hH.2.1.lt, hH.2.2.1.below kk hH.2.2.1.lt, hH.2.2.2.1.below kk hH.2.2.2.1.lt, hH.2.2.2.2.1.trans (kk.mono hH.2.2.2.2.1.size), hH.2.2.2.2.2.below kk hH.2.2.2.2.2.lt⟩ (fun hH => ?_)
  clear hK K
  clear kk
  refine wpAnyH_take (i := 14) (oi := { dst := some 27, op := Op.binOp BinOp.neq 23 (Operand.tmp 24) (Operand.tmp 26) 23, type := 4, pos := "law.go:42", after := #[{ on := 11, ground := Ground.data }, { on := 13, ground := Ground.data }, { on := 8, ground := Ground.guard }], guard := some (8, false) }) (v := ?_) rfl (by kernel_rfl) (by kernel_rfl) (by kernel_rfl) (fun _ _ _ h => h) (Or.inl ⟨by rfl, ?_⟩) hH ?_; rotate_left
  · (intro w hSw; go_simp; try with_reducible rfl)
  try simp only [Act.put, List.setIfInBounds_toArray, List.set_cons_zero, List.set_cons_succ]
  refine wpAnyH_take (i := 15) (oi := { dst := some 28, op := Op.pick (Operand.tmp 21) (Operand.const (Value.bool true)) (Operand.tmp 27), type := 4, pos := "law.go:42", after := #[{ on := 8, ground := Ground.data }, { on := 14, ground := Ground.data }], guard := none }) (v := ?_) rfl (by kernel_rfl) (by kernel_rfl) (by kernel_rfl) (fun _ _ _ h => h) (Or.inl ⟨by rfl, ?_⟩) hH ?_; rotate_left
  · (intro w hSw; go_simp; try with_reducible rfl)
  try simp only [Act.put, List.setIfInBounds_toArray, List.set_cons_zero, List.set_cons_succ]
  refine wpAnyH_done (by kernel_rfl) ?_ _
  go_upto_region 5 with (fail)
  obtain ⟨r1, r2, r3, r4, hb0, R1⟩ := hH
  refine wp_region_held_drew (S := (fun w' => Row w' w.heap.size 23 256 a ∧ Row w' (w.heap.size + 1) 23 256 b ∧ Row w' (w.heap.size + 1 + 1) 23 256 c ∧ Row w' w2.heap.size 23 256 (sm2 a b) ∧ Below w.heap.size w w' ∧ TRow w' 0 128 rt)) (by kernel_rfl) ⟨r1.drew, r2.drew, r3.drew, r4.drew, hb0.drew, R1.drew⟩ (fun hH => ?_)
  clear r1 r2 r3 r4 hb0 R1
  refine wpAnyH_take (i := 0) (oi := { dst := some 29, op := Op.move (Operand.tmp 7), type := 4, pos := "law.go:45", after := #[], guard := none }) (v := ?_) rfl (by kernel_rfl) (by kernel_rfl) (by kernel_rfl) (fun _ _ _ h => h) (Or.inl ⟨by rfl, ?_⟩) hH ?_; rotate_left
  · (intro w hSw; go_simp; try with_reducible rfl)
  try simp only [Act.put, List.setIfInBounds_toArray, List.set_cons_zero, List.set_cons_succ]
  refine wpAnyH_take (i := 1) (oi := { dst := some 30, op := Op.move (Operand.tmp 29), type := 4, pos := "law.go:45", after := #[{ on := 0, ground := Ground.data }], guard := none }) (v := ?_) rfl (by kernel_rfl) (by kernel_rfl) (by kernel_rfl) (fun _ _ _ h => h) (Or.inl ⟨by rfl, ?_⟩) hH ?_; rotate_left
  · (intro w hSw; go_simp; try with_reducible rfl)
  try simp only [Act.put, List.setIfInBounds_toArray, List.set_cons_zero, List.set_cons_succ]
  refine wpAnyH_take (i := 2) (oi := { dst := some 31, op := Op.load 23 (Operand.tmp 5), type := 23, pos := "law.go:45", after := #[{ on := 1, ground := Ground.guard }], guard := some (1, true) }) rfl (by kernel_rfl) (by kernel_rfl) (by kernel_rfl) (fun _ _ _ h => h) (yields23 (by rfl) _ rfl (w.heap.size + 1 + 1) rfl c (fun _ h => h.2.2.1)) hH ?_
  try simp only [Act.put, List.setIfInBounds_toArray, List.set_cons_zero, List.set_cons_succ]
  refine wpAnyH_take (i := 3) (oi := { dst := some 32, op := Op.load 23 (Operand.tmp 8), type := 23, pos := "law.go:45", after := #[{ on := 1, ground := Ground.guard }], guard := some (1, true) }) rfl (by kernel_rfl) (by kernel_rfl) (by kernel_rfl) (fun _ _ _ h => h) (yields23 (by rfl) _ rfl w2.heap.size rfl (sm2 a b) (fun _ h => h.2.2.2.1)) hH ?_
  try simp only [Act.put, List.setIfInBounds_toArray, List.set_cons_zero, List.set_cons_succ]
  refine wpAnyH_take (i := 5) (oi := { dst := some 34, op := Op.load 23 (Operand.tmp 5), type := 23, pos := "law.go:45", after := #[{ on := 1, ground := Ground.guard }], guard := some (1, true) }) rfl (by kernel_rfl) (by kernel_rfl) (by kernel_rfl) (fun _ _ _ h => h) (yields23 (by rfl) _ rfl (w.heap.size + 1 + 1) rfl c (fun _ h => h.2.2.1)) hH ?_
  try simp only [Act.put, List.setIfInBounds_toArray, List.set_cons_zero, List.set_cons_succ]
  refine wpAnyH_take (i := 6) (oi := { dst := some 35, op := Op.load 23 (Operand.tmp 3), type := 23, pos := "law.go:45", after := #[{ on := 1, ground := Ground.guard }], guard := some (1, true) }) rfl (by kernel_rfl) (by kernel_rfl) (by kernel_rfl) (fun _ _ _ h => h) (yields23 (by rfl) _ rfl w.heap.size rfl a (fun _ h => h.1)) hH ?_
  try simp only [Act.put, List.setIfInBounds_toArray, List.set_cons_zero, List.set_cons_succ]
  refine wpAnyH_take (i := 8) (oi := { dst := some 37, op := Op.load 23 (Operand.tmp 5), type := 23, pos := "law.go:45", after := #[{ on := 1, ground := Ground.guard }], guard := some (1, true) }) rfl (by kernel_rfl) (by kernel_rfl) (by kernel_rfl) (fun _ _ _ h => h) (yields23 (by rfl) _ rfl (w.heap.size + 1 + 1) rfl c (fun _ h => h.2.2.1)) hH ?_
  try simp only [Act.put, List.setIfInBounds_toArray, List.set_cons_zero, List.set_cons_succ]
  refine wpAnyH_take (i := 9) (oi := { dst := some 38, op := Op.load 23 (Operand.tmp 4), type := 23, pos := "law.go:45", after := #[{ on := 1, ground := Ground.guard }], guard := some (1, true) }) rfl (by kernel_rfl) (by kernel_rfl) (by kernel_rfl) (fun _ _ _ h => h) (yields23 (by rfl) _ rfl (w.heap.size + 1) rfl b (fun _ h => h.2.1)) hH ?_
  try simp only [Act.put, List.setIfInBounds_toArray, List.set_cons_zero, List.set_cons_succ]
  refine wpAnyH_ready (rs := [4]) (by kernel_rfl) (by simp) ?_
  refine AllReadyH.cons (o := { dst := some 33, op := Op.call { callee := Callee.value (Operand.func 13), args := #[Operand.tmp 31, Operand.tmp 32], argTypes := #[23, 23] }, type := 23, pos := "law.go:45", after := #[{ on := 2, ground := Ground.data }, { on := 3, ground := Ground.data }, { on := 1, ground := Ground.chain }, { on := 1, ground := Ground.guard }], guard := some (1, true) }) rfl (fun K hK => ?_) AllReadyH.nil
  rw [if_pos (by rfl)]
  go_simp
  refine (times13' c (sm2 a b) _ hc (sm2_bd a b) hH.2.2.2.2.2).mono ?_
  rintro e v1 ⟨rfl, kk⟩
  refine hK.out _ _ ⟨hH.1.below kk hH.1.lt, hH.2.1.below kk hH.2.1.lt, hH.2.2.1.below kk hH.2.2.1.lt, hH.2.2.2.1.below kk hH.2.2.2.1.lt, hH.2.2.2.2.1.trans (kk.mono hH.2.2.2.2.1.size), hH.2.2.2.2.2.below kk hH.2.2.2.2.2.lt⟩ (fun hH => ?_)
  clear hK K
  clear kk
  refine wpAnyH_ready (rs := [7]) (by kernel_rfl) (by simp) ?_
  refine AllReadyH.cons (o := { dst := some 36, op := Op.call { callee := Callee.value (Operand.func 13), args := #[Operand.tmp 34, Operand.tmp 35], argTypes := #[23, 23] }, type := 23, pos := "law.go:45", after := #[{ on := 5, ground := Ground.data }, { on := 6, ground := Ground.data }, { on := 4, ground := Ground.chain }, { on := 1, ground := Ground.guard }], guard := some (1, true) }) rfl (fun K hK => ?_) AllReadyH.nil
  rw [if_pos (by rfl)]
  go_simp
  refine (times13' c a _ hc ha hH.2.2.2.2.2).mono ?_
  rintro e v2 ⟨rfl, kk⟩
  refine hK.out _ _ ⟨hH.1.below kk hH.1.lt, hH.2.1.below kk hH.2.1.lt, hH.2.2.1.below kk hH.2.2.1.lt, hH.2.2.2.1.below kk hH.2.2.2.1.lt, hH.2.2.2.2.1.trans (kk.mono hH.2.2.2.2.1.size), hH.2.2.2.2.2.below kk hH.2.2.2.2.2.lt⟩ (fun hH => ?_)
  clear hK K
  clear kk
  refine wpAnyH_ready (rs := [10]) (by kernel_rfl) (by simp) ?_
  refine AllReadyH.cons (o := { dst := some 39, op := Op.call { callee := Callee.value (Operand.func 13), args := #[Operand.tmp 37, Operand.tmp 38], argTypes := #[23, 23] }, type := 23, pos := "law.go:45", after := #[{ on := 8, ground := Ground.data }, { on := 9, ground := Ground.data }, { on := 7, ground := Ground.chain }, { on := 1, ground := Ground.guard }], guard := some (1, true) }) rfl (fun K hK => ?_) AllReadyH.nil
  rw [if_pos (by rfl)]
  go_simp
  refine (times13' c b _ hc hb hH.2.2.2.2.2).mono ?_
  rintro e v3 ⟨rfl, kk⟩
  refine hK.out _ _ ⟨hH.1.below kk hH.1.lt, hH.2.1.below kk hH.2.1.lt, hH.2.2.1.below kk hH.2.2.1.lt, hH.2.2.2.1.below kk hH.2.2.2.1.lt, hH.2.2.2.2.1.trans (kk.mono hH.2.2.2.2.1.size), hH.2.2.2.2.2.below kk hH.2.2.2.2.2.lt⟩ (fun hH => ?_)
  clear hK K
  clear kk
  refine wpAnyH_ready (rs := [11]) (by kernel_rfl) (by simp) ?_
  refine AllReadyH.cons (o := { dst := some 40, op := Op.call { callee := Callee.value (Operand.func 17), args := #[Operand.tmp 36, Operand.tmp 39], argTypes := #[23, 23] }, type := 23, pos := "law.go:45", after := #[{ on := 7, ground := Ground.data }, { on := 10, ground := Ground.data }, { on := 10, ground := Ground.chain }, { on := 1, ground := Ground.guard }], guard := some (1, true) }) rfl (fun K hK => ?_) AllReadyH.nil
  rw [if_pos (by rfl)]
  go_simp
  refine (add17' (tm c a) (tm c b) _ (I64.of (tm_bd _ _)) (I64.of (tm_bd _ _))).mono ?_
  rintro e v4 ⟨rfl, kk⟩
  refine hK.out _ _ ⟨hH.1.below kk hH.1.lt, hH.2.1.below kk hH.2.1.lt, hH.2.2.1.below kk hH.2.2.1.lt, hH.2.2.2.1.below kk hH.2.2.2.1.lt, hH.2.2.2.2.1.trans (kk.mono hH.2.2.2.2.1.size), hH.2.2.2.2.2.below kk hH.2.2.2.2.2.lt⟩ (fun hH => ?_)
  clear hK K
  clear kk
  refine wpAnyH_take (i := 12) (oi := { dst := some 41, op := Op.binOp BinOp.eql 23 (Operand.tmp 33) (Operand.tmp 40) 23, type := 4, pos := "law.go:45", after := #[{ on := 4, ground := Ground.data }, { on := 11, ground := Ground.data }, { on := 1, ground := Ground.guard }], guard := some (1, true) }) (v := ?_) rfl (by kernel_rfl) (by kernel_rfl) (by kernel_rfl) (fun _ _ _ h => h) (Or.inl ⟨by rfl, ?_⟩) hH ?_; rotate_left
  · (intro w hSw; go_simp; try with_reducible rfl)
  try simp only [Act.put, List.setIfInBounds_toArray, List.set_cons_zero, List.set_cons_succ]
  refine wpAnyH_take (i := 13) (oi := { dst := some 42, op := Op.pick (Operand.tmp 30) (Operand.tmp 41) (Operand.const (Value.bool false)), type := 4, pos := "law.go:45", after := #[{ on := 1, ground := Ground.data }, { on := 12, ground := Ground.data }], guard := none }) (v := ?_) rfl (by kernel_rfl) (by kernel_rfl) (by kernel_rfl) (fun _ _ _ h => h) (Or.inl ⟨by rfl, ?_⟩) hH ?_; rotate_left
  · (intro w hSw; go_simp; try with_reducible rfl)
  try simp only [Act.put, List.setIfInBounds_toArray, List.set_cons_zero, List.set_cons_succ]
  refine wpAnyH_take (i := 14) (oi := { dst := some 43, op := Op.move (Operand.tmp 42), type := 4, pos := "law.go:45", after := #[{ on := 13, ground := Ground.data }, { on := 11, ground := Ground.chain }], guard := none }) (v := ?_) rfl (by kernel_rfl) (by kernel_rfl) (by kernel_rfl) (fun _ _ _ h => h) (Or.inl ⟨by rfl, ?_⟩) hH ?_; rotate_left
  · (intro w hSw; go_simp; try with_reducible rfl)
  try simp only [Act.put, List.setIfInBounds_toArray, List.set_cons_zero, List.set_cons_succ]
  refine wpAnyH_take (i := 15) (oi := { dst := some 44, op := Op.load 23 (Operand.tmp 3), type := 23, pos := "law.go:45", after := #[{ on := 14, ground := Ground.guard }], guard := some (14, true) }) rfl (by kernel_rfl) (by kernel_rfl) (by kernel_rfl) (fun _ _ _ h => h) (yields23 (by rfl) _ rfl w.heap.size rfl a (fun _ h => h.1)) hH ?_
  try simp only [Act.put, List.setIfInBounds_toArray, List.set_cons_zero, List.set_cons_succ]
  refine wpAnyH_take (i := 16) (oi := { dst := some 45, op := Op.load 23 (Operand.tmp 4), type := 23, pos := "law.go:45", after := #[{ on := 14, ground := Ground.guard }], guard := some (14, true) }) rfl (by kernel_rfl) (by kernel_rfl) (by kernel_rfl) (fun _ _ _ h => h) (yields23 (by rfl) _ rfl (w.heap.size + 1) rfl b (fun _ h => h.2.1)) hH ?_
  try simp only [Act.put, List.setIfInBounds_toArray, List.set_cons_zero, List.set_cons_succ]
  refine wpAnyH_take (i := 18) (oi := { dst := some 47, op := Op.load 23 (Operand.tmp 4), type := 23, pos := "law.go:45", after := #[{ on := 14, ground := Ground.guard }], guard := some (14, true) }) rfl (by kernel_rfl) (by kernel_rfl) (by kernel_rfl) (fun _ _ _ h => h) (yields23 (by rfl) _ rfl (w.heap.size + 1) rfl b (fun _ h => h.2.1)) hH ?_
  try simp only [Act.put, List.setIfInBounds_toArray, List.set_cons_zero, List.set_cons_succ]
  refine wpAnyH_take (i := 19) (oi := { dst := some 48, op := Op.load 23 (Operand.tmp 3), type := 23, pos := "law.go:45", after := #[{ on := 14, ground := Ground.guard }], guard := some (14, true) }) rfl (by kernel_rfl) (by kernel_rfl) (by kernel_rfl) (fun _ _ _ h => h) (yields23 (by rfl) _ rfl w.heap.size rfl a (fun _ h => h.1)) hH ?_
  try simp only [Act.put, List.setIfInBounds_toArray, List.set_cons_zero, List.set_cons_succ]
  refine wpAnyH_ready (rs := [17]) (by kernel_rfl) (by simp) ?_
  refine AllReadyH.cons (o := { dst := some 46, op := Op.call { callee := Callee.value (Operand.func 13), args := #[Operand.tmp 44, Operand.tmp 45], argTypes := #[23, 23] }, type := 23, pos := "law.go:45", after := #[{ on := 15, ground := Ground.data }, { on := 16, ground := Ground.data }, { on := 14, ground := Ground.chain }, { on := 14, ground := Ground.guard }], guard := some (14, true) }) rfl (fun K hK => ?_) AllReadyH.nil
  rw [if_pos (by rfl)]
  go_simp
  refine (times13' a b _ ha hb hH.2.2.2.2.2).mono ?_
  rintro e v5 ⟨rfl, kk⟩
  refine hK.out _ _ ⟨hH.1.below kk hH.1.lt, hH.2.1.below kk hH.2.1.lt, hH.2.2.1.below kk hH.2.2.1.lt, hH.2.2.2.1.below kk hH.2.2.2.1.lt, hH.2.2.2.2.1.trans (kk.mono hH.2.2.2.2.1.size), hH.2.2.2.2.2.below kk hH.2.2.2.2.2.lt⟩ (fun hH => ?_)
  clear hK K
  clear kk
  refine wpAnyH_ready (rs := [20]) (by kernel_rfl) (by simp) ?_
  refine AllReadyH.cons (o := { dst := some 49, op := Op.call { callee := Callee.value (Operand.func 13), args := #[Operand.tmp 47, Operand.tmp 48], argTypes := #[23, 23] }, type := 23, pos := "law.go:45", after := #[{ on := 18, ground := Ground.data }, { on := 19, ground := Ground.data }, { on := 17, ground := Ground.chain }, { on := 14, ground := Ground.guard }], guard := some (14, true) }) rfl (fun K hK => ?_) AllReadyH.nil
  rw [if_pos (by rfl)]
  go_simp
  refine (times13' b a _ hb ha hH.2.2.2.2.2).mono ?_
  rintro e v6 ⟨rfl, kk⟩
  refine hK.out _ _ ⟨hH.1.below kk hH.1.lt, hH.2.1.below kk hH.2.1.lt, hH.2.2.1.below kk hH.2.2.1.lt, hH.2.2.2.1.below kk hH.2.2.2.1.lt, hH.2.2.2.2.1.trans (kk.mono hH.2.2.2.2.1.size), hH.2.2.2.2.2.below kk hH.2.2.2.2.2.lt⟩ (fun hH => ?_)
  clear hK K
  clear kk
  refine wpAnyH_take (i := 21) (oi := { dst := some 50, op := Op.binOp BinOp.eql 23 (Operand.tmp 46) (Operand.tmp 49) 23, type := 4, pos := "law.go:45", after := #[{ on := 17, ground := Ground.data }, { on := 20, ground := Ground.data }, { on := 14, ground := Ground.guard }], guard := some (14, true) }) (v := ?_) rfl (by kernel_rfl) (by kernel_rfl) (by kernel_rfl) (fun _ _ _ h => h) (Or.inl ⟨by rfl, ?_⟩) hH ?_; rotate_left
  · (intro w hSw; go_simp; try with_reducible rfl)
  try simp only [Act.put, List.setIfInBounds_toArray, List.set_cons_zero, List.set_cons_succ]
  refine wpAnyH_take (i := 22) (oi := { dst := some 51, op := Op.pick (Operand.tmp 43) (Operand.tmp 50) (Operand.const (Value.bool false)), type := 4, pos := "law.go:45", after := #[{ on := 14, ground := Ground.data }, { on := 21, ground := Ground.data }], guard := none }) (v := ?_) rfl (by kernel_rfl) (by kernel_rfl) (by kernel_rfl) (fun _ _ _ h => h) (Or.inl ⟨by rfl, ?_⟩) hH ?_; rotate_left
  · (intro w hSw; go_simp; try with_reducible rfl)
  try simp only [Act.put, List.setIfInBounds_toArray, List.set_cons_zero, List.set_cons_succ]
  refine wpAnyH_take (i := 23) (oi := { dst := some 6, op := Op.assign (Operand.tmp 51), type := 4, pos := "law.go:45", after := #[{ on := 22, ground := Ground.data }, { on := 20, ground := Ground.chain }, { on := 0, ground := Ground.phase }, { on := 1, ground := Ground.phase }, { on := 2, ground := Ground.phase }, { on := 3, ground := Ground.phase }, { on := 4, ground := Ground.phase }, { on := 5, ground := Ground.phase }, { on := 6, ground := Ground.phase }, { on := 7, ground := Ground.phase }, { on := 8, ground := Ground.phase }, { on := 9, ground := Ground.phase }, { on := 10, ground := Ground.phase }, { on := 11, ground := Ground.phase }, { on := 12, ground := Ground.phase }, { on := 13, ground := Ground.phase }, { on := 14, ground := Ground.phase }, { on := 15, ground := Ground.phase }, { on := 16, ground := Ground.phase }, { on := 17, ground := Ground.phase }, { on := 18, ground := Ground.phase }, { on := 19, ground := Ground.phase }, { on := 20, ground := Ground.phase }, { on := 21, ground := Ground.phase }, { on := 22, ground := Ground.phase }], guard := none }) (v := ?_) rfl (by kernel_rfl) (by kernel_rfl) (by kernel_rfl) (fun _ _ _ h => h) (Or.inl ⟨by rfl, ?_⟩) hH ?_; rotate_left
  · (intro w hSw; go_simp; try with_reducible rfl)
  try simp only [Act.put, List.setIfInBounds_toArray, List.set_cons_zero, List.set_cons_succ]
  refine wpAnyH_done (by kernel_rfl) ?_ _
  go_wp2_with fail
  go_ret
  exact ⟨rfl, hH.2.2.2.2.1⟩
end Go.Proofs.YtopkmkkohmkceaaDoor
