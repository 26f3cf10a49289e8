/- SmallTells, walked. -/
import Derived.Test.YtopkmkkohmkceaaDoorH5
import Derived.Test.YtopkmkkohmkceaaDoorR1
import Derived.Test.YtopkmkkohmkceaaDoorR2
import Derived.Test.YtopkmkkohmkceaaDoorR3
namespace Go.Proofs.YtopkmkkohmkceaaDoor
open Go.ChangeShapes Go.WideShapes Go.ChangeAt Go.RowKit
set_option linter.unusedSimpArgs false
set_option linter.unusedVariables false

def modr (a : Nat → Int) : Nat → Int := fun i => emod (a i)
def sumr (a b : Nat → Int) : Nat → Int := fun i => emod (emod (a i) + emod (b i))
def difr (a b : Nat → Int) : Nat → Int := fun i => emod (emod (a i) - emod (b i))
theorem q10' (a : Nat → Int) (w : World) (ha : I64 a) : Calls Tryd.prog 10 #[.agg (arr 256 a)] w fun e w' => e = .returned (.agg (arr 256 (modr a))) ∧ Below w.heap.size w w' := mod10 a w ha
theorem q16' (a : Nat → Int) (w : World) (ha : I64 a) : Calls Tryd.prog 16 #[.agg (arr 256 a)] w fun e w' => e = .returned (.agg (arr 256 (modr a))) ∧ Below w.heap.size w w' := rmod16 a w ha
theorem q17' (a b : Nat → Int) (w : World) (ha : I64 a) (hb : I64 b) : Calls Tryd.prog 17 #[.agg (arr 256 a), .agg (arr 256 b)] w fun e w' => e = .returned (.agg (arr 256 (sumr a b))) ∧ Below w.heap.size w w' := add17 a b w ha hb
theorem q18' (a b : Nat → Int) (w : World) (ha : I64 a) (hb : I64 b) : Calls Tryd.prog 18 #[.agg (arr 256 a), .agg (arr 256 b)] w fun e w' => e = .returned (.agg (arr 256 (sumr a b))) ∧ Below w.heap.size w w' := add18 a b w ha hb
theorem q15' (a b : Nat → Int) (w : World) (ha : I64 a) (hb : I64 b) : Calls Tryd.prog 15 #[.agg (arr 256 a), .agg (arr 256 b)] w fun e w' => e = .returned (.agg (arr 256 (difr a b))) ∧ Below w.heap.size w w' := sub15 a b w ha hb
theorem q19' (a b : Nat → Int) (w : World) (ha : I64 a) (hb : I64 b) : Calls Tryd.prog 19 #[.agg (arr 256 a), .agg (arr 256 b)] w fun e w' => e = .returned (.agg (arr 256 (difr a b))) ∧ Below w.heap.size w w' := sub19 a b w ha hb

set_option maxRecDepth 20000 in
set_option maxHeartbeats 4000000 in
theorem tells7 (a b : Nat → Int) (w : World) (ha : I64 a) (hb : I64 b) (hR : TRow w 0 128 rt) : Calls Tryd.prog 7 #[.agg (arr 256 a), .agg (arr 256 b)] w fun e w' => e = .returned (.bool true) ∧ Below w.heap.size w w' := by
  have hlt := hR.lt
  obtain ⟨w0, hw0⟩ : ∃ w0 : World, w0 = (w.alloc (.cells (arr 256 a) 23)).alloc (.cells (arr 256 b) 23) := ⟨_, rfl⟩
  have r1 : Row w0 w.heap.size 23 256 a := by rw [hw0]; exact (Row.new w 23 256 a).alloc _
  have r2 : Row w0 (w.heap.size + 1) 23 256 b := by
    have := Row.new (w.alloc (.cells (arr 256 a) 23)) 23 256 b
    rw [hw0]; simpa using this
  have hb0 : Below w.heap.size w w0 := by rw [hw0]; exact ((Below.refl _ _).alloc (Nat.le_refl _) _).alloc (by simp) _
  have R1 := hR.below hb0 hlt
  have HW := Lib.hid hw0
  go_enter Tryd.func7, Tryd.ntmps7
  go_wp2_with fail
  rw [← HW.out]
  clear hw0 HW
  refine (head9 _ R1).mono ?_
  rintro e w1 ⟨rfl, k1⟩
  have r1 := r1.below k1 r1.lt
  have r2 := r2.below k1 r2.lt
  have R1 := R1.below k1 R1.lt
  have hb0 := hb0.trans (k1.mono hb0.size)
  clear k1
  go_upto_region 2 with (fail)
  have hq := eql23
  have e1 : eqA 256 (modr a) (modr a) = true := eqA_of (fun i _ => rfl)
  have e2 : eqA 256 (sumr a b) (sumr a b) = true := eqA_of (fun i _ => rfl)
  have e3 : eqA 256 (difr a b) (difr a b) = true := eqA_of (fun i _ => rfl)
  have e4 : eqA 256 (ntt a) (ntt a) = true := eqA_of (fun i _ => rfl)
  have e5 : eqA 256 (inv a) (inv a) = true := eqA_of (fun i _ => rfl)
  have e6 : eqA 256 (tm a b) (tm a b) = true := eqA_of (fun i _ => rfl)
  refine wp_region_held_drew (S := (fun w' => Row w' w.heap.size 23 256 a ∧ Row w' (w.heap.size + 1) 23 256 b ∧ Below w.heap.size w w' ∧ TRow w' 0 128 rt)) (by kernel_rfl) ⟨r1.drew, r2.drew, hb0.drew, R1.drew⟩ (fun hH => ?_)
  clear r1 r2 hb0 R1
  refine wpAnyH_take (i := 0) (oi := { dst := some 8, op := Op.load 23 (Operand.tmp 2), type := 23, pos := "law.go:21", after := #[], guard := none }) rfl (by kernel_rfl) (by kernel_rfl) (by kernel_rfl) (fun _ _ _ h => h) (yields23 (by rfl) _ rfl w.heap.size rfl a (fun _ h => h.1)) hH ?_
  try simp only [Act.put, List.setIfInBounds_toArray, List.set_cons_zero, List.set_cons_succ]
  refine wpAnyH_take (i := 2) (oi := { dst := some 10, op := Op.load 23 (Operand.tmp 2), type := 23, pos := "law.go:21", after := #[], guard := none }) rfl (by kernel_rfl) (by kernel_rfl) (by kernel_rfl) (fun _ _ _ h => h) (yields23 (by rfl) _ rfl w.heap.size rfl a (fun _ h => h.1)) hH ?_
  try simp only [Act.put, List.setIfInBounds_toArray, List.set_cons_zero, List.set_cons_succ]
  refine wpAnyH_ready (rs := [1]) (by kernel_rfl) (by simp) ?_
  refine AllReadyH.cons (o := { dst := some 9, op := Op.call { callee := Callee.value (Operand.func 10), args := #[Operand.tmp 8], argTypes := #[23] }, type := 23, pos := "law.go:21", after := #[{ on := 0, ground := Ground.data }], guard := none }) rfl (fun K hK => ?_) AllReadyH.nil
  rw [if_pos (by rfl)]
  go_simp
  refine (q10' a _ ha).mono ?_
  rintro e v1 ⟨rfl, kk⟩
  refine hK.out _ _ ⟨hH.1.below kk hH.1.lt, hH.2.1.below kk hH.2.1.lt, hH.2.2.1.trans (kk.mono hH.2.2.1.size), hH.2.2.2.below kk hH.2.2.2.lt⟩ (fun hH => ?_)
  clear hK K
  clear kk
  refine wpAnyH_ready (rs := [3]) (by kernel_rfl) (by simp) ?_
  refine AllReadyH.cons (o := { dst := some 11, op := Op.call { callee := Callee.value (Operand.func 16), args := #[Operand.tmp 10], argTypes := #[23] }, type := 23, pos := "law.go:21", after := #[{ on := 2, ground := Ground.data }, { on := 1, ground := Ground.chain }], guard := none }) rfl (fun K hK => ?_) AllReadyH.nil
  rw [if_pos (by rfl)]
  go_simp
  refine (q16' a _ ha).mono ?_
  rintro e v2 ⟨rfl, kk⟩
  refine hK.out _ _ ⟨hH.1.below kk hH.1.lt, hH.2.1.below kk hH.2.1.lt, hH.2.2.1.trans (kk.mono hH.2.2.1.size), hH.2.2.2.below kk hH.2.2.2.lt⟩ (fun hH => ?_)
  clear hK K
  clear kk
  refine wpAnyH_take (i := 4) (oi := { dst := some 12, op := Op.binOp BinOp.eql 23 (Operand.tmp 9) (Operand.tmp 11) 23, type := 4, pos := "law.go:21", after := #[{ on := 1, ground := Ground.data }, { on := 3, ground := Ground.data }], guard := none }) (v := ?_) rfl (by kernel_rfl) (by kernel_rfl) (by kernel_rfl) (fun _ _ _ h => h) (Or.inl ⟨by rfl, ?_⟩) hH ?_; rotate_left
  · (intro w hSw; go_simp; try with_reducible rfl)
  try simp only [Act.put, List.setIfInBounds_toArray, List.set_cons_zero, List.set_cons_succ]
  refine wpAnyH_take (i := 5) (oi := { dst := some 13, op := Op.move (Operand.tmp 12), type := 4, pos := "law.go:21", after := #[{ on := 4, ground := Ground.data }, { on := 3, ground := Ground.chain }], guard := none }) (v := ?_) rfl (by kernel_rfl) (by kernel_rfl) (by kernel_rfl) (fun _ _ _ h => h) (Or.inl ⟨by rfl, ?_⟩) hH ?_; rotate_left
  · (intro w hSw; go_simp; try with_reducible rfl)
  try simp only [Act.put, List.setIfInBounds_toArray, List.set_cons_zero, List.set_cons_succ]
  refine wpAnyH_take (i := 6) (oi := { dst := some 14, op := Op.load 23 (Operand.tmp 2), type := 23, pos := "law.go:21", after := #[{ on := 5, ground := Ground.guard }], guard := some (5, true) }) rfl (by kernel_rfl) (by kernel_rfl) (by kernel_rfl) (fun _ _ _ h => h) (yields23 (by rfl) _ rfl w.heap.size rfl a (fun _ h => h.1)) hH ?_
  try simp only [Act.put, List.setIfInBounds_toArray, List.set_cons_zero, List.set_cons_succ]
  refine wpAnyH_take (i := 7) (oi := { dst := some 15, op := Op.load 23 (Operand.tmp 3), type := 23, pos := "law.go:21", after := #[{ on := 5, ground := Ground.guard }], guard := some (5, true) }) rfl (by kernel_rfl) (by kernel_rfl) (by kernel_rfl) (fun _ _ _ h => h) (yields23 (by rfl) _ rfl (w.heap.size + 1) rfl b (fun _ h => h.2.1)) hH ?_
  try simp only [Act.put, List.setIfInBounds_toArray, List.set_cons_zero, List.set_cons_succ]
  refine wpAnyH_take (i := 9) (oi := { dst := some 17, op := Op.load 23 (Operand.tmp 2), type := 23, pos := "law.go:21", after := #[{ on := 5, ground := Ground.guard }], guard := some (5, true) }) rfl (by kernel_rfl) (by kernel_rfl) (by kernel_rfl) (fun _ _ _ h => h) (yields23 (by rfl) _ rfl w.heap.size rfl a (fun _ h => h.1)) hH ?_
  try simp only [Act.put, List.setIfInBounds_toArray, List.set_cons_zero, List.set_cons_succ]
  refine wpAnyH_take (i := 10) (oi := { dst := some 18, op := Op.load 23 (Operand.tmp 3), type := 23, pos := "law.go:21", after := #[{ on := 5, ground := Ground.guard }], guard := some (5, true) }) rfl (by kernel_rfl) (by kernel_rfl) (by kernel_rfl) (fun _ _ _ h => h) (yields23 (by rfl) _ rfl (w.heap.size + 1) rfl b (fun _ h => h.2.1)) hH ?_
  try simp only [Act.put, List.setIfInBounds_toArray, List.set_cons_zero, List.set_cons_succ]
  refine wpAnyH_ready (rs := [8]) (by kernel_rfl) (by simp) ?_
  refine AllReadyH.cons (o := { dst := some 16, op := Op.call { callee := Callee.value (Operand.func 17), args := #[Operand.tmp 14, Operand.tmp 15], argTypes := #[23, 23] }, type := 23, pos := "law.go:21", after := #[{ on := 6, ground := Ground.data }, { on := 7, ground := Ground.data }, { on := 5, ground := Ground.chain }, { on := 5, ground := Ground.guard }], guard := some (5, true) }) rfl (fun K hK => ?_) AllReadyH.nil
  rw [if_pos (by rfl)]
  go_simp
  refine (q17' a b _ ha hb).mono ?_
  rintro e v3 ⟨rfl, kk⟩
  refine hK.out _ _ ⟨hH.1.below kk hH.1.lt, hH.2.1.below kk hH.2.1.lt, hH.2.2.1.trans (kk.mono hH.2.2.1.size), hH.2.2.2.below kk hH.2.2.2.lt⟩ (fun hH => ?_)
  clear hK K
  clear kk
  refine wpAnyH_ready (rs := [11]) (by kernel_rfl) (by simp) ?_
  refine AllReadyH.cons (o := { dst := some 19, op := Op.call { callee := Callee.value (Operand.func 18), args := #[Operand.tmp 17, Operand.tmp 18], argTypes := #[23, 23] }, type := 23, pos := "law.go:21", after := #[{ on := 9, ground := Ground.data }, { on := 10, ground := Ground.data }, { on := 8, ground := Ground.chain }, { on := 5, ground := Ground.guard }], guard := some (5, true) }) rfl (fun K hK => ?_) AllReadyH.nil
  rw [if_pos (by rfl)]
  go_simp
  refine (q18' a b _ ha hb).mono ?_
  rintro e v4 ⟨rfl, kk⟩
  refine hK.out _ _ ⟨hH.1.below kk hH.1.lt, hH.2.1.below kk hH.2.1.lt, hH.2.2.1.trans (kk.mono hH.2.2.1.size), hH.2.2.2.below kk hH.2.2.2.lt⟩ (fun hH => ?_)
  clear hK K
  clear kk
  refine wpAnyH_take (i := 12) (oi := { dst := some 20, op := Op.binOp BinOp.eql 23 (Operand.tmp 16) (Operand.tmp 19) 23, type := 4, pos := "law.go:21", after := #[{ on := 8, ground := Ground.data }, { on := 11, ground := Ground.data }, { on := 5, ground := Ground.guard }], guard := some (5, true) }) (v := ?_) rfl (by kernel_rfl) (by kernel_rfl) (by kernel_rfl) (fun _ _ _ h => h) (Or.inl ⟨by rfl, ?_⟩) hH ?_; rotate_left
  · (intro w hSw; go_simp; try with_reducible rfl)
  try simp only [Act.put, List.setIfInBounds_toArray, List.set_cons_zero, List.set_cons_succ]
  refine wpAnyH_take (i := 13) (oi := { dst := some 21, op := Op.pick (Operand.tmp 13) (Operand.tmp 20) (Operand.const (Value.bool false)), type := 4, pos := "law.go:21", after := #[{ on := 5, ground := Ground.data }, { on := 12, ground := Ground.data }], guard := none }) (v := ?_) rfl (by kernel_rfl) (by kernel_rfl) (by kernel_rfl) (fun _ _ _ h => h) (Or.inl ⟨by rfl, ?_⟩) hH ?_; rotate_left
  · (intro w hSw; go_simp; try with_reducible rfl)
  try simp only [Act.put, List.setIfInBounds_toArray, List.set_cons_zero, List.set_cons_succ]
  refine wpAnyH_take (i := 14) (oi := { dst := some 22, op := Op.move (Operand.tmp 21), type := 4, pos := "law.go:21", after := #[{ on := 13, ground := Ground.data }, { on := 11, ground := Ground.chain }], guard := none }) (v := ?_) rfl (by kernel_rfl) (by kernel_rfl) (by kernel_rfl) (fun _ _ _ h => h) (Or.inl ⟨by rfl, ?_⟩) hH ?_; rotate_left
  · (intro w hSw; go_simp; try with_reducible rfl)
  try simp only [Act.put, List.setIfInBounds_toArray, List.set_cons_zero, List.set_cons_succ]
  refine wpAnyH_take (i := 15) (oi := { dst := some 23, op := Op.load 23 (Operand.tmp 2), type := 23, pos := "law.go:21", after := #[{ on := 14, ground := Ground.guard }], guard := some (14, true) }) rfl (by kernel_rfl) (by kernel_rfl) (by kernel_rfl) (fun _ _ _ h => h) (yields23 (by rfl) _ rfl w.heap.size rfl a (fun _ h => h.1)) hH ?_
  try simp only [Act.put, List.setIfInBounds_toArray, List.set_cons_zero, List.set_cons_succ]
  refine wpAnyH_take (i := 16) (oi := { dst := some 24, op := Op.load 23 (Operand.tmp 3), type := 23, pos := "law.go:21", after := #[{ on := 14, ground := Ground.guard }], guard := some (14, true) }) rfl (by kernel_rfl) (by kernel_rfl) (by kernel_rfl) (fun _ _ _ h => h) (yields23 (by rfl) _ rfl (w.heap.size + 1) rfl b (fun _ h => h.2.1)) hH ?_
  try simp only [Act.put, List.setIfInBounds_toArray, List.set_cons_zero, List.set_cons_succ]
  refine wpAnyH_take (i := 18) (oi := { dst := some 26, op := Op.load 23 (Operand.tmp 2), type := 23, pos := "law.go:21", after := #[{ on := 14, ground := Ground.guard }], guard := some (14, true) }) rfl (by kernel_rfl) (by kernel_rfl) (by kernel_rfl) (fun _ _ _ h => h) (yields23 (by rfl) _ rfl w.heap.size rfl a (fun _ h => h.1)) hH ?_
  try simp only [Act.put, List.setIfInBounds_toArray, List.set_cons_zero, List.set_cons_succ]
  refine wpAnyH_take (i := 19) (oi := { dst := some 27, op := Op.load 23 (Operand.tmp 3), type := 23, pos := "law.go:21", after := #[{ on := 14, ground := Ground.guard }], guard := some (14, true) }) rfl (by kernel_rfl) (by kernel_rfl) (by kernel_rfl) (fun _ _ _ h => h) (yields23 (by rfl) _ rfl (w.heap.size + 1) rfl b (fun _ h => h.2.1)) hH ?_
  try simp only [Act.put, List.setIfInBounds_toArray, List.set_cons_zero, List.set_cons_succ]
  refine wpAnyH_ready (rs := [17]) (by kernel_rfl) (by simp) ?_
  refine AllReadyH.cons (o := { dst := some 25, op := Op.call { callee := Callee.value (Operand.func 15), args := #[Operand.tmp 23, Operand.tmp 24], argTypes := #[23, 23] }, type := 23, pos := "law.go:21", after := #[{ on := 15, ground := Ground.data }, { on := 16, ground := Ground.data }, { on := 14, ground := Ground.chain }, { on := 14, ground := Ground.guard }], guard := some (14, true) }) rfl (fun K hK => ?_) AllReadyH.nil
  rw [if_pos (by rfl)]
  go_simp
  refine (q15' a b _ ha hb).mono ?_
  rintro e v5 ⟨rfl, kk⟩
  refine hK.out _ _ ⟨hH.1.below kk hH.1.lt, hH.2.1.below kk hH.2.1.lt, hH.2.2.1.trans (kk.mono hH.2.2.1.size), hH.2.2.2.below kk hH.2.2.2.lt⟩ (fun hH => ?_)
  clear hK K
  clear kk
  refine wpAnyH_ready (rs := [20]) (by kernel_rfl) (by simp) ?_
  refine AllReadyH.cons (o := { dst := some 28, op := Op.call { callee := Callee.value (Operand.func 19), args := #[Operand.tmp 26, Operand.tmp 27], argTypes := #[23, 23] }, type := 23, pos := "law.go:21", after := #[{ on := 18, ground := Ground.data }, { on := 19, ground := Ground.data }, { on := 17, ground := Ground.chain }, { on := 14, ground := Ground.guard }], guard := some (14, true) }) rfl (fun K hK => ?_) AllReadyH.nil
  rw [if_pos (by rfl)]
  go_simp
  refine (q19' a b _ ha hb).mono ?_
  rintro e v6 ⟨rfl, kk⟩
  refine hK.out _ _ ⟨hH.1.below kk hH.1.lt, hH.2.1.below kk hH.2.1.lt, hH.2.2.1.trans (kk.mono hH.2.2.1.size), hH.2.2.2.below kk hH.2.2.2.lt⟩ (fun hH => ?_)
  clear hK K
  clear kk
  refine wpAnyH_take (i := 21) (oi := { dst := some 29, op := Op.binOp BinOp.eql 23 (Operand.tmp 25) (Operand.tmp 28) 23, type := 4, pos := "law.go:21", after := #[{ on := 17, ground := Ground.data }, { on := 20, ground := Ground.data }, { on := 14, ground := Ground.guard }], guard := some (14, true) }) (v := ?_) rfl (by kernel_rfl) (by kernel_rfl) (by kernel_rfl) (fun _ _ _ h => h) (Or.inl ⟨by rfl, ?_⟩) hH ?_; rotate_left
  · (intro w hSw; go_simp; try with_reducible rfl)
  try simp only [Act.put, List.setIfInBounds_toArray, List.set_cons_zero, List.set_cons_succ]
  refine wpAnyH_take (i := 22) (oi := { dst := some 30, op := Op.pick (Operand.tmp 22) (Operand.tmp 29) (Operand.const (Value.bool false)), type := 4, pos := "law.go:21", after := #[{ on := 14, ground := Ground.data }, { on := 21, ground := Ground.data }], guard := none }) (v := ?_) rfl (by kernel_rfl) (by kernel_rfl) (by kernel_rfl) (fun _ _ _ h => h) (Or.inl ⟨by rfl, ?_⟩) hH ?_; rotate_left
  · (intro w hSw; go_simp; try with_reducible rfl)
  try simp only [Act.put, List.setIfInBounds_toArray, List.set_cons_zero, List.set_cons_succ]
  refine wpAnyH_take (i := 23) (oi := { dst := some 6, op := Op.assign (Operand.tmp 30), type := 4, pos := "law.go:21", after := #[{ on := 22, ground := Ground.data }, { on := 20, ground := Ground.chain }, { on := 0, ground := Ground.phase }, { on := 1, ground := Ground.phase }, { on := 2, ground := Ground.phase }, { on := 3, ground := Ground.phase }, { on := 4, ground := Ground.phase }, { on := 5, ground := Ground.phase }, { on := 6, ground := Ground.phase }, { on := 7, ground := Ground.phase }, { on := 8, ground := Ground.phase }, { on := 9, ground := Ground.phase }, { on := 10, ground := Ground.phase }, { on := 11, ground := Ground.phase }, { on := 12, ground := Ground.phase }, { on := 13, ground := Ground.phase }, { on := 14, ground := Ground.phase }, { on := 15, ground := Ground.phase }, { on := 16, ground := Ground.phase }, { on := 17, ground := Ground.phase }, { on := 18, ground := Ground.phase }, { on := 19, ground := Ground.phase }, { on := 20, ground := Ground.phase }, { on := 21, ground := Ground.phase }, { on := 22, ground := Ground.phase }], guard := none }) (v := ?_) rfl (by kernel_rfl) (by kernel_rfl) (by kernel_rfl) (fun _ _ _ h => h) (Or.inl ⟨by rfl, ?_⟩) hH ?_; rotate_left
  · (intro w hSw; go_simp; try with_reducible rfl)
  try simp only [Act.put, List.setIfInBounds_toArray, List.set_cons_zero, List.set_cons_succ]
  refine wpAnyH_done (by kernel_rfl) ?_ _
  go_upto_region 3 with (fail)
  obtain ⟨r1, r2, hb0, R1⟩ := hH
  refine wp_region_held_drew (S := (fun w' => Row w' w.heap.size 23 256 a ∧ Row w' (w.heap.size + 1) 23 256 b ∧ Below w.heap.size w w' ∧ TRow w' 0 128 rt)) (by kernel_rfl) ⟨r1.drew, r2.drew, hb0.drew, R1.drew⟩ (fun hH => ?_)
  clear r1 r2 hb0 R1
  refine wpAnyH_take (i := 0) (oi := { dst := some 31, op := Op.move (Operand.tmp 5), type := 4, pos := "law.go:22", after := #[], guard := none }) (v := ?_) rfl (by kernel_rfl) (by kernel_rfl) (by kernel_rfl) (fun _ _ _ h => h) (Or.inl ⟨by rfl, ?_⟩) hH ?_; rotate_left
  · (intro w hSw; go_simp; try with_reducible rfl)
  try simp only [Act.put, List.setIfInBounds_toArray, List.set_cons_zero, List.set_cons_succ]
  refine wpAnyH_take (i := 1) (oi := { dst := some 32, op := Op.move (Operand.tmp 31), type := 4, pos := "law.go:22", after := #[{ on := 0, ground := Ground.data }], guard := none }) (v := ?_) rfl (by kernel_rfl) (by kernel_rfl) (by kernel_rfl) (fun _ _ _ h => h) (Or.inl ⟨by rfl, ?_⟩) hH ?_; rotate_left
  · (intro w hSw; go_simp; try with_reducible rfl)
  try simp only [Act.put, List.setIfInBounds_toArray, List.set_cons_zero, List.set_cons_succ]
  refine wpAnyH_take (i := 2) (oi := { dst := some 33, op := Op.move (Operand.tmp 6), type := 4, pos := "law.go:22", after := #[{ on := 1, ground := Ground.guard }], guard := some (1, true) }) (v := ?_) rfl (by kernel_rfl) (by kernel_rfl) (by kernel_rfl) (fun _ _ _ h => h) (Or.inl ⟨by rfl, ?_⟩) hH ?_; rotate_left
  · (intro w hSw; go_simp; try with_reducible rfl)
  try simp only [Act.put, List.setIfInBounds_toArray, List.set_cons_zero, List.set_cons_succ]
  refine wpAnyH_take (i := 3) (oi := { dst := some 34, op := Op.pick (Operand.tmp 32) (Operand.tmp 33) (Operand.const (Value.bool false)), type := 4, pos := "law.go:22", after := #[{ on := 1, ground := Ground.data }, { on := 2, ground := Ground.data }], guard := none }) (v := ?_) rfl (by kernel_rfl) (by kernel_rfl) (by kernel_rfl) (fun _ _ _ h => h) (Or.inl ⟨by rfl, ?_⟩) hH ?_; rotate_left
  · (intro w hSw; go_simp; try with_reducible rfl)
  try simp only [Act.put, List.setIfInBounds_toArray, List.set_cons_zero, List.set_cons_succ]
  refine wpAnyH_take (i := 4) (oi := { dst := some 35, op := Op.move (Operand.tmp 34), type := 4, pos := "law.go:22", after := #[{ on := 3, ground := Ground.data }, { on := 1, ground := Ground.chain }], guard := none }) (v := ?_) rfl (by kernel_rfl) (by kernel_rfl) (by kernel_rfl) (fun _ _ _ h => h) (Or.inl ⟨by rfl, ?_⟩) hH ?_; rotate_left
  · (intro w hSw; go_simp; try with_reducible rfl)
  try simp only [Act.put, List.setIfInBounds_toArray, List.set_cons_zero, List.set_cons_succ]
  refine wpAnyH_take (i := 5) (oi := { dst := some 36, op := Op.load 23 (Operand.tmp 2), type := 23, pos := "law.go:22", after := #[{ on := 4, ground := Ground.guard }], guard := some (4, true) }) rfl (by kernel_rfl) (by kernel_rfl) (by kernel_rfl) (fun _ _ _ h => h) (yields23 (by rfl) _ rfl w.heap.size rfl a (fun _ h => h.1)) hH ?_
  try simp only [Act.put, List.setIfInBounds_toArray, List.set_cons_zero, List.set_cons_succ]
  refine wpAnyH_take (i := 7) (oi := { dst := some 38, op := Op.load 23 (Operand.tmp 2), type := 23, pos := "law.go:22", after := #[{ on := 4, ground := Ground.guard }], guard := some (4, true) }) rfl (by kernel_rfl) (by kernel_rfl) (by kernel_rfl) (fun _ _ _ h => h) (yields23 (by rfl) _ rfl w.heap.size rfl a (fun _ h => h.1)) hH ?_
  try simp only [Act.put, List.setIfInBounds_toArray, List.set_cons_zero, List.set_cons_succ]
  refine wpAnyH_ready (rs := [6]) (by kernel_rfl) (by simp) ?_
  refine AllReadyH.cons (o := { dst := some 37, op := Op.call { callee := Callee.value (Operand.func 12), args := #[Operand.tmp 36], argTypes := #[23] }, type := 23, pos := "law.go:22", after := #[{ on := 5, ground := Ground.data }, { on := 4, ground := Ground.chain }, { on := 4, ground := Ground.guard }], guard := some (4, true) }) rfl (fun K hK => ?_) AllReadyH.nil
  rw [if_pos (by rfl)]
  go_simp
  refine (ntt12' a _ ha hH.2.2.2).mono ?_
  rintro e v1 ⟨rfl, kk⟩
  refine hK.out _ _ ⟨hH.1.below kk hH.1.lt, hH.2.1.below kk hH.2.1.lt, hH.2.2.1.trans (kk.mono hH.2.2.1.size), hH.2.2.2.below kk hH.2.2.2.lt⟩ (fun hH => ?_)
  clear hK K
  clear kk
  refine wpAnyH_ready (rs := [8]) (by kernel_rfl) (by simp) ?_
  refine AllReadyH.cons (o := { dst := some 39, op := Op.call { callee := Callee.value (Operand.func 20), args := #[Operand.tmp 38], argTypes := #[23] }, type := 23, pos := "law.go:22", after := #[{ on := 7, ground := Ground.data }, { on := 6, ground := Ground.chain }, { on := 4, ground := Ground.guard }], guard := some (4, true) }) rfl (fun K hK => ?_) AllReadyH.nil
  rw [if_pos (by rfl)]
  go_simp
  refine (ntt20 a _ ha).mono ?_
  rintro e v2 ⟨rfl, kk⟩
  refine hK.out _ _ ⟨hH.1.below kk hH.1.lt, hH.2.1.below kk hH.2.1.lt, hH.2.2.1.trans (kk.mono hH.2.2.1.size), hH.2.2.2.below kk hH.2.2.2.lt⟩ (fun hH => ?_)
  clear hK K
  clear kk
  refine wpAnyH_take (i := 9) (oi := { dst := some 40, op := Op.binOp BinOp.eql 23 (Operand.tmp 37) (Operand.tmp 39) 23, type := 4, pos := "law.go:22", after := #[{ on := 6, ground := Ground.data }, { on := 8, ground := Ground.data }, { on := 4, ground := Ground.guard }], guard := some (4, true) }) (v := ?_) rfl (by kernel_rfl) (by kernel_rfl) (by kernel_rfl) (fun _ _ _ h => h) (Or.inl ⟨by rfl, ?_⟩) hH ?_; rotate_left
  · (intro w hSw; go_simp; try with_reducible rfl)
  try simp only [Act.put, List.setIfInBounds_toArray, List.set_cons_zero, List.set_cons_succ]
  refine wpAnyH_take (i := 10) (oi := { dst := some 41, op := Op.pick (Operand.tmp 35) (Operand.tmp 40) (Operand.const (Value.bool false)), type := 4, pos := "law.go:22", after := #[{ on := 4, ground := Ground.data }, { on := 9, ground := Ground.data }], guard := none }) (v := ?_) rfl (by kernel_rfl) (by kernel_rfl) (by kernel_rfl) (fun _ _ _ h => h) (Or.inl ⟨by rfl, ?_⟩) hH ?_; rotate_left
  · (intro w hSw; go_simp; try with_reducible rfl)
  try simp only [Act.put, List.setIfInBounds_toArray, List.set_cons_zero, List.set_cons_succ]
  refine wpAnyH_take (i := 11) (oi := { dst := some 42, op := Op.move (Operand.tmp 41), type := 4, pos := "law.go:22", after := #[{ on := 10, ground := Ground.data }, { on := 8, ground := Ground.chain }], guard := none }) (v := ?_) rfl (by kernel_rfl) (by kernel_rfl) (by kernel_rfl) (fun _ _ _ h => h) (Or.inl ⟨by rfl, ?_⟩) hH ?_; rotate_left
  · (intro w hSw; go_simp; try with_reducible rfl)
  try simp only [Act.put, List.setIfInBounds_toArray, List.set_cons_zero, List.set_cons_succ]
  refine wpAnyH_take (i := 12) (oi := { dst := some 43, op := Op.load 23 (Operand.tmp 2), type := 23, pos := "law.go:22", after := #[{ on := 11, ground := Ground.guard }], guard := some (11, true) }) rfl (by kernel_rfl) (by kernel_rfl) (by kernel_rfl) (fun _ _ _ h => h) (yields23 (by rfl) _ rfl w.heap.size rfl a (fun _ h => h.1)) hH ?_
  try simp only [Act.put, List.setIfInBounds_toArray, List.set_cons_zero, List.set_cons_succ]
  refine wpAnyH_take (i := 14) (oi := { dst := some 45, op := Op.load 23 (Operand.tmp 2), type := 23, pos := "law.go:22", after := #[{ on := 11, ground := Ground.guard }], guard := some (11, true) }) rfl (by kernel_rfl) (by kernel_rfl) (by kernel_rfl) (fun _ _ _ h => h) (yields23 (by rfl) _ rfl w.heap.size rfl a (fun _ h => h.1)) hH ?_
  try simp only [Act.put, List.setIfInBounds_toArray, List.set_cons_zero, List.set_cons_succ]
  refine wpAnyH_ready (rs := [13]) (by kernel_rfl) (by simp) ?_
  refine AllReadyH.cons (o := { dst := some 44, op := Op.call { callee := Callee.value (Operand.func 11), args := #[Operand.tmp 43], argTypes := #[23] }, type := 23, pos := "law.go:22", after := #[{ on := 12, ground := Ground.data }, { on := 11, ground := Ground.chain }, { on := 11, ground := Ground.guard }], guard := some (11, true) }) rfl (fun K hK => ?_) AllReadyH.nil
  rw [if_pos (by rfl)]
  go_simp
  refine (inv11' a _ ha hH.2.2.2).mono ?_
  rintro e v3 ⟨rfl, kk⟩
  refine hK.out _ _ ⟨hH.1.below kk hH.1.lt, hH.2.1.below kk hH.2.1.lt, hH.2.2.1.trans (kk.mono hH.2.2.1.size), hH.2.2.2.below kk hH.2.2.2.lt⟩ (fun hH => ?_)
  clear hK K
  clear kk
  refine wpAnyH_ready (rs := [15]) (by kernel_rfl) (by simp) ?_
  refine AllReadyH.cons (o := { dst := some 46, op := Op.call { callee := Callee.value (Operand.func 21), args := #[Operand.tmp 45], argTypes := #[23] }, type := 23, pos := "law.go:22", after := #[{ on := 14, ground := Ground.data }, { on := 13, ground := Ground.chain }, { on := 11, ground := Ground.guard }], guard := some (11, true) }) rfl (fun K hK => ?_) AllReadyH.nil
  rw [if_pos (by rfl)]
  go_simp
  refine (inv21 a _ ha).mono ?_
  rintro e v4 ⟨rfl, kk⟩
  refine hK.out _ _ ⟨hH.1.below kk hH.1.lt, hH.2.1.below kk hH.2.1.lt, hH.2.2.1.trans (kk.mono hH.2.2.1.size), hH.2.2.2.below kk hH.2.2.2.lt⟩ (fun hH => ?_)
  clear hK K
  clear kk
  refine wpAnyH_take (i := 16) (oi := { dst := some 47, op := Op.binOp BinOp.eql 23 (Operand.tmp 44) (Operand.tmp 46) 23, type := 4, pos := "law.go:22", after := #[{ on := 13, ground := Ground.data }, { on := 15, ground := Ground.data }, { on := 11, ground := Ground.guard }], guard := some (11, true) }) (v := ?_) rfl (by kernel_rfl) (by kernel_rfl) (by kernel_rfl) (fun _ _ _ h => h) (Or.inl ⟨by rfl, ?_⟩) hH ?_; rotate_left
  · (intro w hSw; go_simp; try with_reducible rfl)
  try simp only [Act.put, List.setIfInBounds_toArray, List.set_cons_zero, List.set_cons_succ]
  refine wpAnyH_take (i := 17) (oi := { dst := some 48, op := Op.pick (Operand.tmp 42) (Operand.tmp 47) (Operand.const (Value.bool false)), type := 4, pos := "law.go:22", after := #[{ on := 11, ground := Ground.data }, { on := 16, ground := Ground.data }], guard := none }) (v := ?_) rfl (by kernel_rfl) (by kernel_rfl) (by kernel_rfl) (fun _ _ _ h => h) (Or.inl ⟨by rfl, ?_⟩) hH ?_; rotate_left
  · (intro w hSw; go_simp; try with_reducible rfl)
  try simp only [Act.put, List.setIfInBounds_toArray, List.set_cons_zero, List.set_cons_succ]
  refine wpAnyH_take (i := 18) (oi := { dst := some 49, op := Op.move (Operand.tmp 48), type := 4, pos := "law.go:22", after := #[{ on := 17, ground := Ground.data }, { on := 15, ground := Ground.chain }], guard := none }) (v := ?_) rfl (by kernel_rfl) (by kernel_rfl) (by kernel_rfl) (fun _ _ _ h => h) (Or.inl ⟨by rfl, ?_⟩) hH ?_; rotate_left
  · (intro w hSw; go_simp; try with_reducible rfl)
  try simp only [Act.put, List.setIfInBounds_toArray, List.set_cons_zero, List.set_cons_succ]
  refine wpAnyH_take (i := 19) (oi := { dst := some 50, op := Op.load 23 (Operand.tmp 2), type := 23, pos := "law.go:22", after := #[{ on := 18, ground := Ground.guard }], guard := some (18, true) }) rfl (by kernel_rfl) (by kernel_rfl) (by kernel_rfl) (fun _ _ _ h => h) (yields23 (by rfl) _ rfl w.heap.size rfl a (fun _ h => h.1)) hH ?_
  try simp only [Act.put, List.setIfInBounds_toArray, List.set_cons_zero, List.set_cons_succ]
  refine wpAnyH_take (i := 20) (oi := { dst := some 51, op := Op.load 23 (Operand.tmp 3), type := 23, pos := "law.go:22", after := #[{ on := 18, ground := Ground.guard }], guard := some (18, true) }) rfl (by kernel_rfl) (by kernel_rfl) (by kernel_rfl) (fun _ _ _ h => h) (yields23 (by rfl) _ rfl (w.heap.size + 1) rfl b (fun _ h => h.2.1)) hH ?_
  try simp only [Act.put, List.setIfInBounds_toArray, List.set_cons_zero, List.set_cons_succ]
  refine wpAnyH_take (i := 22) (oi := { dst := some 53, op := Op.load 23 (Operand.tmp 2), type := 23, pos := "law.go:22", after := #[{ on := 18, ground := Ground.guard }], guard := some (18, true) }) rfl (by kernel_rfl) (by kernel_rfl) (by kernel_rfl) (fun _ _ _ h => h) (yields23 (by rfl) _ rfl w.heap.size rfl a (fun _ h => h.1)) hH ?_
  try simp only [Act.put, List.setIfInBounds_toArray, List.set_cons_zero, List.set_cons_succ]
  refine wpAnyH_take (i := 23) (oi := { dst := some 54, op := Op.load 23 (Operand.tmp 3), type := 23, pos := "law.go:22", after := #[{ on := 18, ground := Ground.guard }], guard := some (18, true) }) rfl (by kernel_rfl) (by kernel_rfl) (by kernel_rfl) (fun _ _ _ h => h) (yields23 (by rfl) _ rfl (w.heap.size + 1) rfl b (fun _ h => h.2.1)) hH ?_
  try simp only [Act.put, List.setIfInBounds_toArray, List.set_cons_zero, List.set_cons_succ]
  refine wpAnyH_ready (rs := [21]) (by kernel_rfl) (by simp) ?_
  refine AllReadyH.cons (o := { dst := some 52, op := Op.call { callee := Callee.value (Operand.func 13), args := #[Operand.tmp 50, Operand.tmp 51], argTypes := #[23, 23] }, type := 23, pos := "law.go:22", after := #[{ on := 19, ground := Ground.data }, { on := 20, ground := Ground.data }, { on := 18, ground := Ground.chain }, { on := 18, ground := Ground.guard }], guard := some (18, true) }) rfl (fun K hK => ?_) AllReadyH.nil
  rw [if_pos (by rfl)]
  go_simp
  refine (times13' a b _ ha hb hH.2.2.2).mono ?_
  rintro e v5 ⟨rfl, kk⟩
  refine hK.out _ _ ⟨hH.1.below kk hH.1.lt, hH.2.1.below kk hH.2.1.lt, hH.2.2.1.trans (kk.mono hH.2.2.1.size), hH.2.2.2.below kk hH.2.2.2.lt⟩ (fun hH => ?_)
  clear hK K
  clear kk
  refine wpAnyH_ready (rs := [24]) (by kernel_rfl) (by simp) ?_
  refine AllReadyH.cons (o := { dst := some 55, op := Op.call { callee := Callee.value (Operand.func 22), args := #[Operand.tmp 53, Operand.tmp 54], argTypes := #[23, 23] }, type := 23, pos := "law.go:22", after := #[{ on := 22, ground := Ground.data }, { on := 23, ground := Ground.data }, { on := 21, ground := Ground.chain }, { on := 18, ground := Ground.guard }], guard := some (18, true) }) rfl (fun K hK => ?_) AllReadyH.nil
  rw [if_pos (by rfl)]
  go_simp
  refine (times22 a b _ ha hb).mono ?_
  rintro e v6 ⟨rfl, kk⟩
  refine hK.out _ _ ⟨hH.1.below kk hH.1.lt, hH.2.1.below kk hH.2.1.lt, hH.2.2.1.trans (kk.mono hH.2.2.1.size), hH.2.2.2.below kk hH.2.2.2.lt⟩ (fun hH => ?_)
  clear hK K
  clear kk
  refine wpAnyH_take (i := 25) (oi := { dst := some 56, op := Op.binOp BinOp.eql 23 (Operand.tmp 52) (Operand.tmp 55) 23, type := 4, pos := "law.go:22", after := #[{ on := 21, ground := Ground.data }, { on := 24, ground := Ground.data }, { on := 18, ground := Ground.guard }], guard := some (18, true) }) (v := ?_) rfl (by kernel_rfl) (by kernel_rfl) (by kernel_rfl) (fun _ _ _ h => h) (Or.inl ⟨by rfl, ?_⟩) hH ?_; rotate_left
  · (intro w hSw; go_simp; try with_reducible rfl)
  try simp only [Act.put, List.setIfInBounds_toArray, List.set_cons_zero, List.set_cons_succ]
  refine wpAnyH_take (i := 26) (oi := { dst := some 57, op := Op.pick (Operand.tmp 49) (Operand.tmp 56) (Operand.const (Value.bool false)), type := 4, pos := "law.go:22", after := #[{ on := 18, ground := Ground.data }, { on := 25, ground := Ground.data }], guard := none }) (v := ?_) rfl (by kernel_rfl) (by kernel_rfl) (by kernel_rfl) (fun _ _ _ h => h) (Or.inl ⟨by rfl, ?_⟩) hH ?_; rotate_left
  · (intro w hSw; go_simp; try with_reducible rfl)
  try simp only [Act.put, List.setIfInBounds_toArray, List.set_cons_zero, List.set_cons_succ]
  refine wpAnyH_take (i := 27) (oi := { dst := some 4, op := Op.assign (Operand.tmp 57), type := 4, pos := "law.go:22", after := #[{ on := 26, ground := Ground.data }, { on := 24, ground := Ground.chain }, { on := 0, ground := Ground.phase }, { on := 1, ground := Ground.phase }, { on := 2, ground := Ground.phase }, { on := 3, ground := Ground.phase }, { on := 4, ground := Ground.phase }, { on := 5, ground := Ground.phase }, { on := 6, ground := Ground.phase }, { on := 7, ground := Ground.phase }, { on := 8, ground := Ground.phase }, { on := 9, ground := Ground.phase }, { on := 10, ground := Ground.phase }, { on := 11, ground := Ground.phase }, { on := 12, ground := Ground.phase }, { on := 13, ground := Ground.phase }, { on := 14, ground := Ground.phase }, { on := 15, ground := Ground.phase }, { on := 16, ground := Ground.phase }, { on := 17, ground := Ground.phase }, { on := 18, ground := Ground.phase }, { on := 19, ground := Ground.phase }, { on := 20, ground := Ground.phase }, { on := 21, ground := Ground.phase }, { on := 22, ground := Ground.phase }, { on := 23, ground := Ground.phase }, { on := 24, ground := Ground.phase }, { on := 25, ground := Ground.phase }, { on := 26, ground := Ground.phase }], guard := none }) (v := ?_) rfl (by kernel_rfl) (by kernel_rfl) (by kernel_rfl) (fun _ _ _ h => h) (Or.inl ⟨by rfl, ?_⟩) hH ?_; rotate_left
  · (intro w hSw; go_simp; try with_reducible rfl)
  try simp only [Act.put, List.setIfInBounds_toArray, List.set_cons_zero, List.set_cons_succ]
  refine wpAnyH_done (by kernel_rfl) ?_ _
  go_wp2_with fail
  go_ret
  exact ⟨rfl, hH.2.2.1⟩
end Go.Proofs.YtopkmkkohmkceaaDoor
