/- SmallProducts, walked. -/
import Derived.Test.YtopkmkkohmkceaaDoorH5
import Derived.Test.YtopkmkkohmkceaaDoorQ
namespace Go.Proofs.YtopkmkkohmkceaaDoor
open Go.ChangeShapes Go.WideShapes Go.ChangeAt Go.RowKit
set_option linter.unusedSimpArgs false
set_option linter.unusedVariables false

def pal (a b : Nat → Int) : Nat → Int := pall (fun i => emod (a i)) (fun i => emod (b i)) 256
theorem prod14' (a b : Nat → Int) (w : World) (ha : I64 a) (hb : I64 b) : Calls Tryd.prog 14 #[.agg (arr 256 a), .agg (arr 256 b)] w fun e w' => e = .returned (.agg (arr 256 (pal a b))) ∧ Below w.heap.size w w' := prod14 a b w ha hb
theorem pal_eq (a b : Nat → Int) : eqA 256 (inv (tm (ntt a) (ntt b))) (pal a b) = true :=
  eqA_of (fun i hi => (prod_back a b _ (prod_all a b) i hi).trans (emod_small _ (pall_bd _ _ 256 i)))

set_option maxRecDepth 20000 in
set_option maxHeartbeats 4000000 in
theorem prods4 (a b : Nat → Int) (w : World) (ha : I64 a) (hb : I64 b) (hR : TRow w 0 128 rt) : Calls Tryd.prog 4 #[.agg (arr 256 a), .agg (arr 256 b)] w fun e w' => e = .returned (.bool true) ∧ Below w.heap.size w w' := by
  have hlt := hR.lt
  obtain ⟨w0, hw0⟩ : ∃ w0 : World, w0 = (w.alloc (.cells (arr 256 a) 23)).alloc (.cells (arr 256 b) 23) := ⟨_, rfl⟩
  have r1 : Row w0 w.heap.size 23 256 a := by rw [hw0]; exact (Row.new w 23 256 a).alloc _
  have r2 : Row w0 (w.heap.size + 1) 23 256 b := by
    have := Row.new (w.alloc (.cells (arr 256 a) 23)) 23 256 b
    rw [hw0]; simpa using this
  have hb0 : Below w.heap.size w w0 := by rw [hw0]; exact ((Below.refl _ _).alloc (Nat.le_refl _) _).alloc (by simp) _
  have R1 := hR.below hb0 hlt
  have HW := Lib.hid hw0
  go_enter Tryd.func4, Tryd.ntmps4
  go_wp2_with fail
  rw [← HW.out]
  clear hw0 HW
  refine (head9 _ R1).mono ?_
  rintro e w1 ⟨rfl, k1⟩
  have r1 := r1.below k1 r1.lt
  have r2 := r2.below k1 r2.lt
  have R1 := R1.below k1 R1.lt
  have hb0 := hb0.trans (k1.mono hb0.size)
  clear k1
  go_upto_region 2 with (fail)
  have hq := eql23
  have e1 := pal_eq a b
  refine wp_region_held_drew (S := (fun w' => Row w' w.heap.size 23 256 a ∧ Row w' (w.heap.size + 1) 23 256 b ∧ Below w.heap.size w w' ∧ TRow w' 0 128 rt)) (by kernel_rfl) ⟨r1.drew, r2.drew, hb0.drew, R1.drew⟩ (fun hH => ?_)
  clear r1 r2 hb0 R1
  refine wpAnyH_take (i := 0) (oi := { dst := some 7, op := Op.move (Operand.tmp 5), type := 4, pos := "law.go:35", after := #[], guard := none }) (v := ?_) rfl (by kernel_rfl) (by kernel_rfl) (by kernel_rfl) (fun _ _ _ h => h) (Or.inl ⟨by rfl, ?_⟩) hH ?_; rotate_left
  · (intro w hSw; go_simp; try with_reducible rfl)
  try simp only [Act.put, List.setIfInBounds_toArray, List.set_cons_zero, List.set_cons_succ]
  refine wpAnyH_take (i := 1) (oi := { dst := some 8, op := Op.move (Operand.tmp 7), type := 4, pos := "law.go:35", after := #[{ on := 0, ground := Ground.data }], guard := none }) (v := ?_) rfl (by kernel_rfl) (by kernel_rfl) (by kernel_rfl) (fun _ _ _ h => h) (Or.inl ⟨by rfl, ?_⟩) hH ?_; rotate_left
  · (intro w hSw; go_simp; try with_reducible rfl)
  try simp only [Act.put, List.setIfInBounds_toArray, List.set_cons_zero, List.set_cons_succ]
  refine wpAnyH_take (i := 2) (oi := { dst := some 9, op := Op.load 23 (Operand.tmp 2), type := 23, pos := "law.go:35", after := #[{ on := 1, ground := Ground.guard }], guard := some (1, true) }) rfl (by kernel_rfl) (by kernel_rfl) (by kernel_rfl) (fun _ _ _ h => h) (yields23 (by rfl) _ rfl w.heap.size rfl a (fun _ h => h.1)) hH ?_
  try simp only [Act.put, List.setIfInBounds_toArray, List.set_cons_zero, List.set_cons_succ]
  refine wpAnyH_take (i := 4) (oi := { dst := some 11, op := Op.load 23 (Operand.tmp 3), type := 23, pos := "law.go:35", after := #[{ on := 1, ground := Ground.guard }], guard := some (1, true) }) rfl (by kernel_rfl) (by kernel_rfl) (by kernel_rfl) (fun _ _ _ h => h) (yields23 (by rfl) _ rfl (w.heap.size + 1) rfl b (fun _ h => h.2.1)) hH ?_
  try simp only [Act.put, List.setIfInBounds_toArray, List.set_cons_zero, List.set_cons_succ]
  refine wpAnyH_take (i := 8) (oi := { dst := some 15, op := Op.load 23 (Operand.tmp 2), type := 23, pos := "law.go:35", after := #[{ on := 1, ground := Ground.guard }], guard := some (1, true) }) rfl (by kernel_rfl) (by kernel_rfl) (by kernel_rfl) (fun _ _ _ h => h) (yields23 (by rfl) _ rfl w.heap.size rfl a (fun _ h => h.1)) hH ?_
  try simp only [Act.put, List.setIfInBounds_toArray, List.set_cons_zero, List.set_cons_succ]
  refine wpAnyH_take (i := 9) (oi := { dst := some 16, op := Op.load 23 (Operand.tmp 3), type := 23, pos := "law.go:35", after := #[{ on := 1, ground := Ground.guard }], guard := some (1, true) }) rfl (by kernel_rfl) (by kernel_rfl) (by kernel_rfl) (fun _ _ _ h => h) (yields23 (by rfl) _ rfl (w.heap.size + 1) rfl b (fun _ h => h.2.1)) hH ?_
  try simp only [Act.put, List.setIfInBounds_toArray, List.set_cons_zero, List.set_cons_succ]
  refine wpAnyH_ready (rs := [3]) (by kernel_rfl) (by simp) ?_
  refine AllReadyH.cons (o := { dst := some 10, op := Op.call { callee := Callee.value (Operand.func 12), args := #[Operand.tmp 9], argTypes := #[23] }, type := 23, pos := "law.go:35", after := #[{ on := 2, ground := Ground.data }, { on := 1, ground := Ground.chain }, { on := 1, ground := Ground.guard }], guard := some (1, true) }) rfl (fun K hK => ?_) AllReadyH.nil
  rw [if_pos (by rfl)]
  go_simp
  refine (ntt12' a _ ha hH.2.2.2).mono ?_
  rintro e v1 ⟨rfl, kk⟩
  refine hK.out _ _ ⟨hH.1.below kk hH.1.lt, hH.2.1.below kk hH.2.1.lt, hH.2.2.1.trans (kk.mono hH.2.2.1.size), hH.2.2.2.below kk hH.2.2.2.lt⟩ (fun hH => ?_)
  clear hK K
  clear kk
  refine wpAnyH_ready (rs := [5]) (by kernel_rfl) (by simp) ?_
  refine AllReadyH.cons (o := { dst := some 12, op := Op.call { callee := Callee.value (Operand.func 12), args := #[Operand.tmp 11], argTypes := #[23] }, type := 23, pos := "law.go:35", after := #[{ on := 4, ground := Ground.data }, { on := 3, ground := Ground.chain }, { on := 1, ground := Ground.guard }], guard := some (1, true) }) rfl (fun K hK => ?_) AllReadyH.nil
  rw [if_pos (by rfl)]
  go_simp
  refine (ntt12' b _ hb hH.2.2.2).mono ?_
  rintro e v2 ⟨rfl, kk⟩
  refine hK.out _ _ ⟨hH.1.below kk hH.1.lt, hH.2.1.below kk hH.2.1.lt, hH.2.2.1.trans (kk.mono hH.2.2.1.size), hH.2.2.2.below kk hH.2.2.2.lt⟩ (fun hH => ?_)
  clear hK K
  clear kk
  refine wpAnyH_ready (rs := [6]) (by kernel_rfl) (by simp) ?_
  refine AllReadyH.cons (o := { dst := some 13, op := Op.call { callee := Callee.value (Operand.func 13), args := #[Operand.tmp 10, Operand.tmp 12], argTypes := #[23, 23] }, type := 23, pos := "law.go:35", after := #[{ on := 3, ground := Ground.data }, { on := 5, ground := Ground.data }, { on := 5, ground := Ground.chain }, { on := 1, ground := Ground.guard }], guard := some (1, true) }) rfl (fun K hK => ?_) AllReadyH.nil
  rw [if_pos (by rfl)]
  go_simp
  refine (times13' (ntt a) (ntt b) _ (I64.of (ntt_bd _)) (I64.of (ntt_bd _)) hH.2.2.2).mono ?_
  rintro e v3 ⟨rfl, kk⟩
  refine hK.out _ _ ⟨hH.1.below kk hH.1.lt, hH.2.1.below kk hH.2.1.lt, hH.2.2.1.trans (kk.mono hH.2.2.1.size), hH.2.2.2.below kk hH.2.2.2.lt⟩ (fun hH => ?_)
  clear hK K
  clear kk
  refine wpAnyH_ready (rs := [7]) (by kernel_rfl) (by simp) ?_
  refine AllReadyH.cons (o := { dst := some 14, op := Op.call { callee := Callee.value (Operand.func 11), args := #[Operand.tmp 13], argTypes := #[23] }, type := 23, pos := "law.go:35", after := #[{ on := 6, ground := Ground.data }, { on := 6, ground := Ground.chain }, { on := 1, ground := Ground.guard }], guard := some (1, true) }) rfl (fun K hK => ?_) AllReadyH.nil
  rw [if_pos (by rfl)]
  go_simp
  refine (inv11' (tm (ntt a) (ntt b)) _ (I64.of (tm_bd _ _)) hH.2.2.2).mono ?_
  rintro e v4 ⟨rfl, kk⟩
  refine hK.out _ _ ⟨hH.1.below kk hH.1.lt, hH.2.1.below kk hH.2.1.lt, hH.2.2.1.trans (kk.mono hH.2.2.1.size), hH.2.2.2.below kk hH.2.2.2.lt⟩ (fun hH => ?_)
  clear hK K
  clear kk
  refine wpAnyH_ready (rs := [10]) (by kernel_rfl) (by simp) ?_
  refine AllReadyH.cons (o := { dst := some 17, op := Op.call { callee := Callee.value (Operand.func 14), args := #[Operand.tmp 15, Operand.tmp 16], argTypes := #[23, 23] }, type := 23, pos := "law.go:35", after := #[{ on := 8, ground := Ground.data }, { on := 9, ground := Ground.data }, { on := 7, ground := Ground.chain }, { on := 1, ground := Ground.guard }], guard := some (1, true) }) rfl (fun K hK => ?_) AllReadyH.nil
  rw [if_pos (by rfl)]
  go_simp
  refine (prod14' a b _ ha hb).mono ?_
  rintro e v5 ⟨rfl, kk⟩
  refine hK.out _ _ ⟨hH.1.below kk hH.1.lt, hH.2.1.below kk hH.2.1.lt, hH.2.2.1.trans (kk.mono hH.2.2.1.size), hH.2.2.2.below kk hH.2.2.2.lt⟩ (fun hH => ?_)
  clear hK K
  clear kk
  refine wpAnyH_take (i := 11) (oi := { dst := some 18, op := Op.binOp BinOp.eql 23 (Operand.tmp 14) (Operand.tmp 17) 23, type := 4, pos := "law.go:35", after := #[{ on := 7, ground := Ground.data }, { on := 10, ground := Ground.data }, { on := 1, ground := Ground.guard }], guard := some (1, true) }) (v := ?_) rfl (by kernel_rfl) (by kernel_rfl) (by kernel_rfl) (fun _ _ _ h => h) (Or.inl ⟨by rfl, ?_⟩) hH ?_; rotate_left
  · (intro w hSw; go_simp; try with_reducible rfl)
  try simp only [Act.put, List.setIfInBounds_toArray, List.set_cons_zero, List.set_cons_succ]
  refine wpAnyH_take (i := 12) (oi := { dst := some 19, op := Op.pick (Operand.tmp 8) (Operand.tmp 18) (Operand.const (Value.bool false)), type := 4, pos := "law.go:35", after := #[{ on := 1, ground := Ground.data }, { on := 11, ground := Ground.data }], guard := none }) (v := ?_) rfl (by kernel_rfl) (by kernel_rfl) (by kernel_rfl) (fun _ _ _ h => h) (Or.inl ⟨by rfl, ?_⟩) hH ?_; rotate_left
  · (intro w hSw; go_simp; try with_reducible rfl)
  try simp only [Act.put, List.setIfInBounds_toArray, List.set_cons_zero, List.set_cons_succ]
  refine wpAnyH_take (i := 13) (oi := { dst := some 4, op := Op.assign (Operand.tmp 19), type := 4, pos := "law.go:35", after := #[{ on := 12, ground := Ground.data }, { on := 10, ground := Ground.chain }, { on := 0, ground := Ground.phase }, { on := 1, ground := Ground.phase }, { on := 2, ground := Ground.phase }, { on := 3, ground := Ground.phase }, { on := 4, ground := Ground.phase }, { on := 5, ground := Ground.phase }, { on := 6, ground := Ground.phase }, { on := 7, ground := Ground.phase }, { on := 8, ground := Ground.phase }, { on := 9, ground := Ground.phase }, { on := 10, ground := Ground.phase }, { on := 11, ground := Ground.phase }, { on := 12, ground := Ground.phase }], guard := none }) (v := ?_) rfl (by kernel_rfl) (by kernel_rfl) (by kernel_rfl) (fun _ _ _ h => h) (Or.inl ⟨by rfl, ?_⟩) hH ?_; rotate_left
  · (intro w hSw; go_simp; try with_reducible rfl)
  try simp only [Act.put, List.setIfInBounds_toArray, List.set_cons_zero, List.set_cons_succ]
  refine wpAnyH_done (by kernel_rfl) ?_ _
  go_wp2_with fail
  go_ret
  exact ⟨rfl, hH.2.2.1⟩
end Go.Proofs.YtopkmkkohmkceaaDoor
