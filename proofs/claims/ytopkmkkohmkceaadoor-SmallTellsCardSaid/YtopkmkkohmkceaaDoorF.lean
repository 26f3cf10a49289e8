/- What '==' says of two arrays of numbers; and the laws' own head. -/
import Derived.Test.YtopkmkkohmkceaaDoorD
import Derived.Test.YtopkmkkohmkceaaDoorE
import Derived.Deep.RegionHeld3
namespace Go.Proofs.YtopkmkkohmkceaaDoor
open Go.ChangeShapes Go.WideShapes Go.ChangeAt Go.RowKit
set_option linter.unusedSimpArgs false
set_option linter.unusedVariables false

def eqA (n : Nat) (f g : Nat → Int) : Bool := (List.range n).all fun i => f i == g i
theorem eqA_of {n : Nat} {f g : Nat → Int} (h : ∀ i, i < n → f i = g i) : eqA n f g = true := by
  unfold eqA; rw [List.all_eq_true]; intro i hi; simp [h i (List.mem_range.1 hi)]
theorem run_equalIn_arr {P : Program} (w : World) (d : Nat) (t e : TypeId) (n : Nat) (ht : P.underlying t = some (.array n e)) (he : P.underlying e = some (.int .i64)) (hsz : ∀ w, (sizeOf e).run P w = .ok 1 w)
    (f g : Nat → Int) : (Op.equalIn (d + 2) t (.agg (arr n f)) (.agg (arr n g))).run P w = .ok (eqA n f g) w := by
  unfold eqA
  rw [List.range_eq_range', Op.equalIn]
  simp only [Sem.run_bind, run_underlying ht, Result.andThen_ok, hsz, Std.Legacy.Range.forIn_eq_forIn_range', Std.Legacy.Range.size, Nat.sub_zero, Nat.add_sub_cancel, Nat.div_one]
  have hl : ∀ i ∈ List.range' 0 n 1, i < n := fun i hi => by simpa using (List.mem_range'_1.1 hi).2
  generalize List.range' 0 n 1 = l at hl ⊢
  induction l with
  | nil => simp
  | cons i l ih =>
    have hi : i < n := hl i (by simp)
    have px : (Go.part e (arr n f) (i * 1)).run P w = .ok (.int .i64 (f i)) w := by
      simp [Go.part, isAgg, run_underlying he, arr_get n f i hi]
    have py : (Go.part e (arr n g) (i * 1)).run P w = .ok (.int .i64 (g i)) w := by
      simp [Go.part, isAgg, run_underlying he, arr_get n g i hi]
    have pe : (Op.equalIn (d + 1) e (.int .i64 (f i)) (.int .i64 (g i))).run P w = .ok (f i == g i) w := by
      rw [run_equalIn_int w d e .i64 .i64 _ _ he]
    simp only [List.forIn_cons, Sem.run_bind, px, py, pe, Result.andThen_ok, List.all_cons]
    cases hb : (f i == g i)
    · simp
    · simp only [Bool.not_true, Bool.false_eq_true, if_false, Sem.run_pure, Result.andThen_ok, Bool.true_and]
      exact ih fun j hj => hl j (by simp [hj])
theorem size3' (w : World) : (sizeOf 3).run Tryd.prog w = .ok 1 w := by kernel_rfl
theorem eql23 (f g : Nat → Int) (w : World) : (Op.equalIn 10000 23 (.agg (arr 256 f)) (.agg (arr 256 g))).run Tryd.prog w = .ok (eqA 256 f g) w :=
  run_equalIn_arr w 9998 23 3 256 Tryd.underlying23 Tryd.underlying3 size3' f g
theorem index23 (f : Nat → Int) (k : Nat) (hk : k < 256) (w : World) : (Instr.index 23 (.agg (arr 256 f)) (.int .i64 (k : Int))).run Tryd.prog w = .ok (.int .i64 (f k)) w := by
  simp [Instr.index, run_underlying Tryd.underlying23, asIntOf]
  rw [if_pos hk]
  simp [Go.part, Sem.run_bind, arr_get 256 f k hk]
theorem Row.range {w : World} {b n : Nat} {t : TypeId} {f : Nat → Int} (h : Row w b t n f) : w.rangeAt b 0 (arr n f).toList := fun j v hv => by
  rw [cell_of_row w b (0 + j) _ t _ h.at_]; simpa using hv
theorem range_below {w w' : World} {B b o : Nat} {cs : List Value} (h : w.rangeAt b o cs) (k : Below B w w') (hb : b < B) : w'.rangeAt b o cs := fun j v hv => by
  rw [k.cell (p := ⟨b, o + j, none⟩) hb]; exact h j v hv
theorem hi23 (f : Nat → Int) : (Tryd.prog.info? 23).map (·.size) = some (arr 256 f).toList.length := by simpa [arr] using info23
theorem yields23 {ops : Array Oper} {S : World → Prop} {op : Oper} {a : Act} (hw : Region.wanted op (yielded ops a.tmps) = true) (x : Operand) (ho : op.op = .load 23 x)
    (b : Nat) (hx : a.eval x = .pointer (some ⟨b, 0, none⟩)) (f : Nat → Int) (hS : ∀ w, S w → Row w b 23 256 f) : YieldsIf Tryd.prog ops S op (.agg (arr 256 f)) a :=
  .inl ⟨hw, fun w hw' => by
    unfold execOp
    simp only [ho, hx, Instr.loadAt, Instr.sureAddr, Sem.run_bind, Sem.run_pure, Result.andThen_ok, run_loadVar_row w b 23 23 _ _ _ (hS w hw').at_ Tryd.underlying23 rfl (by rw [arr_size]; exact info23)]⟩
theorem ntt_bd (a : Nat → Int) (i : Nat) : 0 ≤ ntt a i ∧ ntt a i < 3329 := Ls_bd 7 _ (fun i => emod_bd _) i
theorem inv_bd (a : Nat → Int) (i : Nat) : 0 ≤ inv a i ∧ inv a i < 3329 := emod_bd _
theorem ntt12' (a : Nat → Int) (w : World) (ha : I64 a) (hR : TRow w 0 128 rt) : Calls Tryd.prog 12 #[.agg (arr 256 a)] w fun e w' => e = .returned (.agg (arr 256 (ntt a))) ∧ Below w.heap.size w w' := ntt12 a w ha hR
theorem inv11' (a : Nat → Int) (w : World) (ha : I64 a) (hR : TRow w 0 128 rt) : Calls Tryd.prog 11 #[.agg (arr 256 a)] w fun e w' => e = .returned (.agg (arr 256 (inv a))) ∧ Below w.heap.size w w' := inv11 a w ha hR

def P0 : Nat → Int := upd (fun _ => 0) 0 (-1)
theorem P0_bd : I64 P0 := fun i => by unfold P0 upd; split <;> simp
theorem P0_0 : emod (P0 0) = 3328 := by decide
theorem N0_0 : ntt P0 0 = 3328 := by decide +kernel
theorem N0_1 : ntt P0 1 = 0 := by decide +kernel
theorem N0_254 : ntt P0 254 = 3328 := by decide +kernel
set_option maxRecDepth 20000 in
set_option maxHeartbeats 2000000 in
theorem head9g (P0 : Nat → Int) (hP : upd (fun _ => 0) 0 (-1) = P0) (P0_bd : I64 P0) (P0_0 : emod (P0 0) = 3328) (N0_0 : ntt P0 0 = 3328) (N0_1 : ntt P0 1 = 0) (N0_254 : ntt P0 254 = 3328) (w : World) (hR : TRow w 0 128 rt) : Calls Tryd.prog 9 #[] w fun e w' => e = .returned (.bool true) ∧ Below w.heap.size w w' := by
  have hz := zero23
  have hlt := hR.lt
  have ea : (arr 256 fun _ => 0).setIfInBounds 0 (Value.int .i64 (-1)) = arr 256 P0 := (arr_set _ _ _ _).trans (by rw [hP])
  have P0_0 := Lib.hid P0_0; have N0_0 := Lib.hid N0_0; have N0_1 := Lib.hid N0_1; have N0_254 := Lib.hid N0_254; have hP := Lib.hid hP
  have r1 := Row.new w 23 256 P0
  have hb0 := (Below.refl w.heap.size w).alloc (Nat.le_refl _) (.cells (arr 256 P0) 23)
  have R1 := hR.below hb0 hlt
  have hs0 : (w.alloc (.cells (arr 256 P0) 23)).heap.size = w.heap.size + 1 := by simp
  go_enter Tryd.func9, Tryd.ntmps9
  go_upto_region 3 with (fail)
  clear hz ea
  generalize w.alloc (.cells (arr 256 P0) 23) = w1 at *
  have hs1 : w.heap.size + 1 ≤ w1.heap.size := by omega
  clear hs0
  go_wp2_with (first | (with_reducible refine load23 rfl (.tmp 1) rfl w.heap.size rfl r1 ?_))
  refine (ntt12' P0 _ P0_bd R1).mono ?_
  rintro e w2 ⟨rfl, k1⟩
  have r1 := r1.below k1 (by omega)
  have R1 := R1.below k1 (by omega)
  have hb0 := hb0.trans (k1.mono (by omega))
  have hs2 := k1.size
  have hz := zero23
  have r2 := Row.new w2 23 256 (fun _ => 0)
  have r1 := (r1.alloc (.cells (arr 256 fun _ => 0) 23)).setRow_other (c := w2.heap.size) (arr 256 (ntt P0)) (by omega)
  have hb0 := below_setRow (hb0.alloc (by omega) (.cells (arr 256 fun _ => 0) 23)) (g := w2.heap.size) (by omega) (arr 256 (ntt P0))
  have R1 := (R1.alloc (.cells (arr 256 fun _ => 0) 23)).setRow_other (c := w2.heap.size) (arr 256 (ntt P0)) (by omega)
  have r3 := r2.setRow (m := 256) (ntt P0)
  clear k1
  go_wp2_with (first | (with_reducible refine store23 rfl (.tmp 2) (.tmp 5) rfl w2.heap.size _ rfl rfl r2 ?_))
  clear r2 hz
  have hs3 : ((w2.alloc (.cells (arr 256 fun _ => 0) 23)).setRow w2.heap.size (arr 256 (ntt P0))).heap.size = w2.heap.size + 1 := by simp
  generalize (w2.alloc (.cells (arr 256 fun _ => 0) 23)).setRow w2.heap.size (arr 256 (ntt P0)) = w3 at *
  have hs4 : w2.heap.size + 1 ≤ w3.heap.size := by omega
  clear hs3
  have hq := eql23
  have hi0 : ∀ w, (Instr.index 23 (.agg (arr 256 fun i => emod (P0 i))) (.int .i64 0)).run Tryd.prog w = .ok (.int .i64 3328) w := fun w => by
    have := index23 (fun i => emod (P0 i)) 0 (by omega) w
    simpa [P0_0.out] using this
  have q1 : eqA 256 (inv (ntt P0)) (fun i => emod (P0 i)) = true := eqA_of (fun i hi => inv_ntt P0 i hi)
  simp only [Act.put]
  refine wp_region_held_drew (S := (fun w' => Row w' w.heap.size 23 256 P0 ∧ Row w' w2.heap.size 23 256 (ntt P0) ∧ Below w.heap.size w w' ∧ TRow w' 0 128 rt ∧ w2.heap.size + 1 ≤ w'.heap.size)) (by kernel_rfl) ⟨r1.drew, r3.drew, hb0.drew, R1.drew, hs4⟩ (fun hH => ?_)
  clear r1 r3 hb0 R1 hs4 hs2 hs1
  refine wpAnyH_take (i := 0) (oi := { dst := some 6, op := Op.load 23 (Operand.tmp 1), type := 23, pos := "law.go:15", after := #[], guard := none }) rfl (by kernel_rfl) (by kernel_rfl) (by kernel_rfl) (fun _ _ _ h => h) (yields23 (by rfl) _ rfl w.heap.size rfl P0 (fun _ h => h.1)) hH ?_
  try simp only [Act.put, List.setIfInBounds_toArray, List.set_cons_zero, List.set_cons_succ]
  refine wpAnyH_ready (rs := [1]) (by kernel_rfl) (by simp) ?_
  refine AllReadyH.cons (o := { dst := some 7, op := Op.call { callee := Callee.value (Operand.func 10), args := #[Operand.tmp 6], argTypes := #[23] }, type := 23, pos := "law.go:15", after := #[{ on := 0, ground := Ground.data }], guard := none }) rfl (fun K hK => ?_) AllReadyH.nil
  rw [if_pos (by rfl)]
  go_simp
  refine (mod10 P0 _ P0_bd).mono ?_
  rintro e w9 ⟨rfl, kk⟩
  refine hK.out _ _ ⟨hH.1.below kk hH.1.lt, hH.2.1.below kk hH.2.1.lt, hH.2.2.1.trans (kk.mono (by have := hH.1.lt; omega)), hH.2.2.2.1.below kk hH.2.2.2.1.lt, Nat.le_trans hH.2.2.2.2 kk.size⟩ (fun hH => ?_)
  clear hK K
  refine wpAnyH_take (i := 2) (oi := { dst := some 8, op := Op.index 23 (Operand.tmp 7) (Operand.const (Value.int IntKind.i64 0)), type := 3, pos := "law.go:15", after := #[{ on := 1, ground := Ground.data }], guard := none }) (v := ?_) rfl (by kernel_rfl) (by kernel_rfl) (by kernel_rfl) (fun _ _ _ h => h) (Or.inl ⟨by rfl, ?_⟩) hH ?_; rotate_left
  · (intro w hSw; go_simp; try with_reducible rfl)
  try simp only [Act.put, List.setIfInBounds_toArray, List.set_cons_zero, List.set_cons_succ]
  refine wpAnyH_take (i := 3) (oi := { dst := some 9, op := Op.binOp BinOp.eql 3 (Operand.tmp 8) (Operand.const (Value.int IntKind.i64 3328)) 3, type := 4, pos := "law.go:15", after := #[{ on := 2, ground := Ground.data }], guard := none }) (v := ?_) rfl (by kernel_rfl) (by kernel_rfl) (by kernel_rfl) (fun _ _ _ h => h) (Or.inl ⟨by rfl, ?_⟩) hH ?_; rotate_left
  · (intro w hSw; go_simp; try with_reducible rfl)
  try simp only [Act.put, List.setIfInBounds_toArray, List.set_cons_zero, List.set_cons_succ]
  refine wpAnyH_take (i := 4) (oi := { dst := some 10, op := Op.move (Operand.tmp 9), type := 4, pos := "law.go:15", after := #[{ on := 3, ground := Ground.data }, { on := 1, ground := Ground.chain }], guard := none }) (v := ?_) rfl (by kernel_rfl) (by kernel_rfl) (by kernel_rfl) (fun _ _ _ h => h) (Or.inl ⟨by rfl, ?_⟩) hH ?_; rotate_left
  · (intro w hSw; go_simp; try with_reducible rfl)
  try simp only [Act.put, List.setIfInBounds_toArray, List.set_cons_zero, List.set_cons_succ]
  refine wpAnyH_take (i := 5) (oi := { dst := some 11, op := Op.indexAddr 23 (Operand.tmp 2) (Operand.const (Value.int IntKind.i64 0)), type := 0, pos := "law.go:15", after := #[{ on := 4, ground := Ground.guard }], guard := some (4, true) }) (v := ?_) rfl (by kernel_rfl) (by kernel_rfl) (by kernel_rfl) (fun _ _ _ h => h) (Or.inl ⟨by rfl, ?_⟩) hH ?_; rotate_left
  · (intro w hSw; go_simp; try with_reducible rfl)
  try simp only [Act.put, List.setIfInBounds_toArray, List.set_cons_zero, List.set_cons_succ]
  refine wpAnyH_take (i := 6) (oi := { dst := some 12, op := Op.load 3 (Operand.tmp 11), type := 3, pos := "law.go:15", after := #[{ on := 5, ground := Ground.data }, { on := 4, ground := Ground.guard }], guard := some (4, true) }) (v := ?_) rfl (by kernel_rfl) (by kernel_rfl) (by kernel_rfl) (fun _ _ _ h => h) (Or.inl ⟨by rfl, ?_⟩) hH ?_; rotate_left
  · intro w hSw
    have hc := hSw.2.1.cell 0 (by omega)
    rw [N0_0.out] at hc
    go_simp; try with_reducible rfl
  try simp only [Act.put, List.setIfInBounds_toArray, List.set_cons_zero, List.set_cons_succ]
  refine wpAnyH_take (i := 7) (oi := { dst := some 13, op := Op.binOp BinOp.eql 3 (Operand.tmp 12) (Operand.const (Value.int IntKind.i64 3328)) 3, type := 4, pos := "law.go:15", after := #[{ on := 6, ground := Ground.data }, { on := 4, ground := Ground.guard }], guard := some (4, true) }) (v := ?_) rfl (by kernel_rfl) (by kernel_rfl) (by kernel_rfl) (fun _ _ _ h => h) (Or.inl ⟨by rfl, ?_⟩) hH ?_; rotate_left
  · (intro w hSw; go_simp; try with_reducible rfl)
  try simp only [Act.put, List.setIfInBounds_toArray, List.set_cons_zero, List.set_cons_succ]
  refine wpAnyH_take (i := 8) (oi := { dst := some 14, op := Op.pick (Operand.tmp 10) (Operand.tmp 13) (Operand.const (Value.bool false)), type := 4, pos := "law.go:15", after := #[{ on := 4, ground := Ground.data }, { on := 7, ground := Ground.data }], guard := none }) (v := ?_) rfl (by kernel_rfl) (by kernel_rfl) (by kernel_rfl) (fun _ _ _ h => h) (Or.inl ⟨by rfl, ?_⟩) hH ?_; rotate_left
  · (intro w hSw; go_simp; try with_reducible rfl)
  try simp only [Act.put, List.setIfInBounds_toArray, List.set_cons_zero, List.set_cons_succ]
  refine wpAnyH_take (i := 9) (oi := { dst := some 15, op := Op.move (Operand.tmp 14), type := 4, pos := "law.go:15", after := #[{ on := 8, ground := Ground.data }, { on := 4, ground := Ground.chain }], guard := none }) (v := ?_) rfl (by kernel_rfl) (by kernel_rfl) (by kernel_rfl) (fun _ _ _ h => h) (Or.inl ⟨by rfl, ?_⟩) hH ?_; rotate_left
  · (intro w hSw; go_simp; try with_reducible rfl)
  try simp only [Act.put, List.setIfInBounds_toArray, List.set_cons_zero, List.set_cons_succ]
  refine wpAnyH_take (i := 10) (oi := { dst := some 16, op := Op.indexAddr 23 (Operand.tmp 2) (Operand.const (Value.int IntKind.i64 1)), type := 0, pos := "law.go:15", after := #[{ on := 9, ground := Ground.guard }], guard := some (9, true) }) (v := ?_) rfl (by kernel_rfl) (by kernel_rfl) (by kernel_rfl) (fun _ _ _ h => h) (Or.inl ⟨by rfl, ?_⟩) hH ?_; rotate_left
  · (intro w hSw; go_simp; try with_reducible rfl)
  try simp only [Act.put, List.setIfInBounds_toArray, List.set_cons_zero, List.set_cons_succ]
  refine wpAnyH_take (i := 11) (oi := { dst := some 17, op := Op.load 3 (Operand.tmp 16), type := 3, pos := "law.go:15", after := #[{ on := 10, ground := Ground.data }, { on := 9, ground := Ground.guard }], guard := some (9, true) }) (v := ?_) rfl (by kernel_rfl) (by kernel_rfl) (by kernel_rfl) (fun _ _ _ h => h) (Or.inl ⟨by rfl, ?_⟩) hH ?_; rotate_left
  · intro w hSw
    have hc := hSw.2.1.cell 1 (by omega)
    rw [N0_1.out] at hc
    go_simp; try with_reducible rfl
  try simp only [Act.put, List.setIfInBounds_toArray, List.set_cons_zero, List.set_cons_succ]
  refine wpAnyH_take (i := 12) (oi := { dst := some 18, op := Op.binOp BinOp.eql 3 (Operand.tmp 17) (Operand.const (Value.int IntKind.i64 0)) 3, type := 4, pos := "law.go:15", after := #[{ on := 11, ground := Ground.data }, { on := 9, ground := Ground.guard }], guard := some (9, true) }) (v := ?_) rfl (by kernel_rfl) (by kernel_rfl) (by kernel_rfl) (fun _ _ _ h => h) (Or.inl ⟨by rfl, ?_⟩) hH ?_; rotate_left
  · (intro w hSw; go_simp; try with_reducible rfl)
  try simp only [Act.put, List.setIfInBounds_toArray, List.set_cons_zero, List.set_cons_succ]
  refine wpAnyH_take (i := 13) (oi := { dst := some 19, op := Op.pick (Operand.tmp 15) (Operand.tmp 18) (Operand.const (Value.bool false)), type := 4, pos := "law.go:15", after := #[{ on := 9, ground := Ground.data }, { on := 12, ground := Ground.data }], guard := none }) (v := ?_) rfl (by kernel_rfl) (by kernel_rfl) (by kernel_rfl) (fun _ _ _ h => h) (Or.inl ⟨by rfl, ?_⟩) hH ?_; rotate_left
  · (intro w hSw; go_simp; try with_reducible rfl)
  try simp only [Act.put, List.setIfInBounds_toArray, List.set_cons_zero, List.set_cons_succ]
  refine wpAnyH_take (i := 14) (oi := { dst := some 20, op := Op.move (Operand.tmp 19), type := 4, pos := "law.go:15", after := #[{ on := 13, ground := Ground.data }, { on := 9, ground := Ground.chain }], guard := none }) (v := ?_) rfl (by kernel_rfl) (by kernel_rfl) (by kernel_rfl) (fun _ _ _ h => h) (Or.inl ⟨by rfl, ?_⟩) hH ?_; rotate_left
  · (intro w hSw; go_simp; try with_reducible rfl)
  try simp only [Act.put, List.setIfInBounds_toArray, List.set_cons_zero, List.set_cons_succ]
  refine wpAnyH_take (i := 15) (oi := { dst := some 21, op := Op.indexAddr 23 (Operand.tmp 2) (Operand.const (Value.int IntKind.i64 254)), type := 0, pos := "law.go:15", after := #[{ on := 14, ground := Ground.guard }], guard := some (14, true) }) (v := ?_) rfl (by kernel_rfl) (by kernel_rfl) (by kernel_rfl) (fun _ _ _ h => h) (Or.inl ⟨by rfl, ?_⟩) hH ?_; rotate_left
  · (intro w hSw; go_simp; try with_reducible rfl)
  try simp only [Act.put, List.setIfInBounds_toArray, List.set_cons_zero, List.set_cons_succ]
  refine wpAnyH_take (i := 16) (oi := { dst := some 22, op := Op.load 3 (Operand.tmp 21), type := 3, pos := "law.go:15", after := #[{ on := 15, ground := Ground.data }, { on := 14, ground := Ground.guard }], guard := some (14, true) }) (v := ?_) rfl (by kernel_rfl) (by kernel_rfl) (by kernel_rfl) (fun _ _ _ h => h) (Or.inl ⟨by rfl, ?_⟩) hH ?_; rotate_left
  · intro w hSw
    have hc := hSw.2.1.cell 254 (by omega)
    rw [N0_254.out] at hc
    go_simp; try with_reducible rfl
  try simp only [Act.put, List.setIfInBounds_toArray, List.set_cons_zero, List.set_cons_succ]
  refine wpAnyH_take (i := 17) (oi := { dst := some 23, op := Op.binOp BinOp.eql 3 (Operand.tmp 22) (Operand.const (Value.int IntKind.i64 3328)) 3, type := 4, pos := "law.go:15", after := #[{ on := 16, ground := Ground.data }, { on := 14, ground := Ground.guard }], guard := some (14, true) }) (v := ?_) rfl (by kernel_rfl) (by kernel_rfl) (by kernel_rfl) (fun _ _ _ h => h) (Or.inl ⟨by rfl, ?_⟩) hH ?_; rotate_left
  · (intro w hSw; go_simp; try with_reducible rfl)
  try simp only [Act.put, List.setIfInBounds_toArray, List.set_cons_zero, List.set_cons_succ]
  refine wpAnyH_take (i := 18) (oi := { dst := some 24, op := Op.pick (Operand.tmp 20) (Operand.tmp 23) (Operand.const (Value.bool false)), type := 4, pos := "law.go:15", after := #[{ on := 14, ground := Ground.data }, { on := 17, ground := Ground.data }], guard := none }) (v := ?_) rfl (by kernel_rfl) (by kernel_rfl) (by kernel_rfl) (fun _ _ _ h => h) (Or.inl ⟨by rfl, ?_⟩) hH ?_; rotate_left
  · (intro w hSw; go_simp; try with_reducible rfl)
  try simp only [Act.put, List.setIfInBounds_toArray, List.set_cons_zero, List.set_cons_succ]
  refine wpAnyH_take (i := 19) (oi := { dst := some 25, op := Op.move (Operand.tmp 24), type := 4, pos := "law.go:15", after := #[{ on := 18, ground := Ground.data }, { on := 14, ground := Ground.chain }], guard := none }) (v := ?_) rfl (by kernel_rfl) (by kernel_rfl) (by kernel_rfl) (fun _ _ _ h => h) (Or.inl ⟨by rfl, ?_⟩) hH ?_; rotate_left
  · (intro w hSw; go_simp; try with_reducible rfl)
  try simp only [Act.put, List.setIfInBounds_toArray, List.set_cons_zero, List.set_cons_succ]
  refine wpAnyH_take (i := 20) (oi := { dst := some 26, op := Op.load 23 (Operand.tmp 2), type := 23, pos := "law.go:15", after := #[{ on := 19, ground := Ground.guard }], guard := some (19, true) }) rfl (by kernel_rfl) (by kernel_rfl) (by kernel_rfl) (fun _ _ _ h => h) (yields23 (by rfl) _ rfl w2.heap.size rfl (ntt P0) (fun _ h => h.2.1)) hH ?_
  try simp only [Act.put, List.setIfInBounds_toArray, List.set_cons_zero, List.set_cons_succ]
  refine wpAnyH_take (i := 22) (oi := { dst := some 28, op := Op.load 23 (Operand.tmp 1), type := 23, pos := "law.go:15", after := #[{ on := 19, ground := Ground.guard }], guard := some (19, true) }) rfl (by kernel_rfl) (by kernel_rfl) (by kernel_rfl) (fun _ _ _ h => h) (yields23 (by rfl) _ rfl w.heap.size rfl P0 (fun _ h => h.1)) hH ?_
  try simp only [Act.put, List.setIfInBounds_toArray, List.set_cons_zero, List.set_cons_succ]
  refine wpAnyH_ready (rs := [21]) (by kernel_rfl) (by simp) ?_
  refine AllReadyH.cons (o := { dst := some 27, op := Op.call { callee := Callee.value (Operand.func 11), args := #[Operand.tmp 26], argTypes := #[23] }, type := 23, pos := "law.go:15", after := #[{ on := 20, ground := Ground.data }, { on := 19, ground := Ground.chain }, { on := 19, ground := Ground.guard }], guard := some (19, true) }) rfl (fun K hK => ?_) AllReadyH.nil
  rw [if_pos (by rfl)]
  go_simp
  refine (inv11' (ntt P0) _ (I64.of (ntt_bd P0)) hH.2.2.2.1).mono ?_
  rintro e w9 ⟨rfl, kk⟩
  refine hK.out _ _ ⟨hH.1.below kk hH.1.lt, hH.2.1.below kk hH.2.1.lt, hH.2.2.1.trans (kk.mono (by have := hH.1.lt; omega)), hH.2.2.2.1.below kk hH.2.2.2.1.lt, Nat.le_trans hH.2.2.2.2 kk.size⟩ (fun hH => ?_)
  clear hK K
  refine wpAnyH_ready (rs := [23]) (by kernel_rfl) (by simp) ?_
  refine AllReadyH.cons (o := { dst := some 29, op := Op.call { callee := Callee.value (Operand.func 10), args := #[Operand.tmp 28], argTypes := #[23] }, type := 23, pos := "law.go:15", after := #[{ on := 22, ground := Ground.data }, { on := 21, ground := Ground.chain }, { on := 19, ground := Ground.guard }], guard := some (19, true) }) rfl (fun K hK => ?_) AllReadyH.nil
  rw [if_pos (by rfl)]
  go_simp
  refine (mod10 P0 _ P0_bd).mono ?_
  rintro e w9 ⟨rfl, kk⟩
  refine hK.out _ _ ⟨hH.1.below kk hH.1.lt, hH.2.1.below kk hH.2.1.lt, hH.2.2.1.trans (kk.mono (by have := hH.1.lt; omega)), hH.2.2.2.1.below kk hH.2.2.2.1.lt, Nat.le_trans hH.2.2.2.2 kk.size⟩ (fun hH => ?_)
  clear hK K
  refine wpAnyH_take (i := 24) (oi := { dst := some 30, op := Op.binOp BinOp.eql 23 (Operand.tmp 27) (Operand.tmp 29) 23, type := 4, pos := "law.go:15", after := #[{ on := 21, ground := Ground.data }, { on := 23, ground := Ground.data }, { on := 19, ground := Ground.guard }], guard := some (19, true) }) (v := ?_) rfl (by kernel_rfl) (by kernel_rfl) (by kernel_rfl) (fun _ _ _ h => h) (Or.inl ⟨by rfl, ?_⟩) hH ?_; rotate_left
  · (intro w hSw; go_simp; try with_reducible rfl)
  try simp only [Act.put, List.setIfInBounds_toArray, List.set_cons_zero, List.set_cons_succ]
  refine wpAnyH_take (i := 25) (oi := { dst := some 31, op := Op.pick (Operand.tmp 25) (Operand.tmp 30) (Operand.const (Value.bool false)), type := 4, pos := "law.go:15", after := #[{ on := 19, ground := Ground.data }, { on := 24, ground := Ground.data }], guard := none }) (v := ?_) rfl (by kernel_rfl) (by kernel_rfl) (by kernel_rfl) (fun _ _ _ h => h) (Or.inl ⟨by rfl, ?_⟩) hH ?_; rotate_left
  · (intro w hSw; go_simp; try with_reducible rfl)
  try simp only [Act.put, List.setIfInBounds_toArray, List.set_cons_zero, List.set_cons_succ]
  refine wpAnyH_take (i := 26) (oi := { dst := some 0, op := Op.assign (Operand.tmp 31), type := 4, pos := "law.go:15", after := #[{ on := 25, ground := Ground.data }, { on := 23, ground := Ground.chain }, { on := 0, ground := Ground.phase }, { on := 1, ground := Ground.phase }, { on := 2, ground := Ground.phase }, { on := 3, ground := Ground.phase }, { on := 4, ground := Ground.phase }, { on := 5, ground := Ground.phase }, { on := 6, ground := Ground.phase }, { on := 7, ground := Ground.phase }, { on := 8, ground := Ground.phase }, { on := 9, ground := Ground.phase }, { on := 10, ground := Ground.phase }, { on := 11, ground := Ground.phase }, { on := 12, ground := Ground.phase }, { on := 13, ground := Ground.phase }, { on := 14, ground := Ground.phase }, { on := 15, ground := Ground.phase }, { on := 16, ground := Ground.phase }, { on := 17, ground := Ground.phase }, { on := 18, ground := Ground.phase }, { on := 19, ground := Ground.phase }, { on := 20, ground := Ground.phase }, { on := 21, ground := Ground.phase }, { on := 22, ground := Ground.phase }, { on := 23, ground := Ground.phase }, { on := 24, ground := Ground.phase }, { on := 25, ground := Ground.phase }], guard := none }) (v := ?_) rfl (by kernel_rfl) (by kernel_rfl) (by kernel_rfl) (fun _ _ _ h => h) (Or.inl ⟨by rfl, ?_⟩) hH ?_; rotate_left
  · (intro w hSw; go_simp; try with_reducible rfl)
  try simp only [Act.put, List.setIfInBounds_toArray, List.set_cons_zero, List.set_cons_succ]
  refine wpAnyH_done (by kernel_rfl) ?_ _
  go_wp2_with fail
  go_ret
  exact ⟨rfl, hH.2.2.1⟩
theorem head9 (w : World) (hR : TRow w 0 128 rt) : Calls Tryd.prog 9 #[] w fun e w' => e = .returned (.bool true) ∧ Below w.heap.size w w' :=
  head9g P0 rfl P0_bd P0_0 N0_0 N0_1 N0_254 w hR
set_option maxRecDepth 20000 in
set_option maxHeartbeats 2000000 in
theorem back3 (a : Nat → Int) (w : World) (ha : I64 a) (hR : TRow w 0 128 rt) (hH : ∀ w, TRow w 0 128 rt → Calls Tryd.prog 9 #[] w fun e w' => e = .returned (.bool true) ∧ Below w.heap.size w w') : Calls Tryd.prog 3 #[.agg (arr 256 a)] w fun e w' => e = .returned (.bool true) ∧ Below w.heap.size w w' := by
  have hz := zero23
  have hlt := hR.lt
  have r1 := Row.new w 23 256 a
  have hb0 := (Below.refl w.heap.size w).alloc (Nat.le_refl _) (.cells (arr 256 a) 23)
  have R1 := hR.below hb0 hlt
  have HH := Lib.hid hH; clear hH
  have hs0 : (w.alloc (.cells (arr 256 a) 23)).heap.size = w.heap.size + 1 := by simp
  have HS0 := Lib.hid hs0; clear hs0
  go_enter Tryd.func3, Tryd.ntmps3
  go_wp2_with fail
  refine (HH.out _ R1).mono ?_
  rintro e w1 ⟨rfl, k1⟩
  rw [HS0.out] at k1
  have r1 := r1.below k1 (by omega)
  have R1 := R1.below k1 (by omega)
  have hb0 := hb0.trans (k1.mono (by omega))
  have hs1 := k1.size
  rw [HS0.out] at hs1
  clear k1 HS0 hz
  go_wp2_with (first | (with_reducible refine load23 rfl (.tmp 1) rfl w.heap.size rfl r1 ?_))
  refine (mod10 a _ ha).mono ?_
  rintro e w2 ⟨rfl, k1⟩
  have r1 := r1.below k1 (by omega)
  have R1 := R1.below k1 (by omega)
  have hb0 := hb0.trans (k1.mono (by omega))
  have hs2 := k1.size
  have hz := zero23
  have r2 := Row.new w2 23 256 (fun _ => 0)
  have r1 := (r1.alloc (.cells (arr 256 fun _ => 0) 23)).setRow_other (c := w2.heap.size) (arr 256 fun i => emod (a i)) (by omega)
  have R1 := (R1.alloc (.cells (arr 256 fun _ => 0) 23)).setRow_other (c := w2.heap.size) (arr 256 fun i => emod (a i)) (by omega)
  have hb0 := below_setRow (hb0.alloc (by omega) (.cells (arr 256 fun _ => 0) 23)) (g := w2.heap.size) (by omega) (arr 256 fun i => emod (a i))
  have r3 := r2.setRow (m := 256) (fun i => emod (a i))
  clear k1
  go_wp2_with (first | (with_reducible refine store23 rfl (.tmp 4) (.tmp 7) rfl w2.heap.size _ rfl rfl r2 ?_))
  clear r2 hz
  have hs3 : ((w2.alloc (.cells (arr 256 fun _ => 0) 23)).setRow w2.heap.size (arr 256 fun i => emod (a i))).heap.size = w2.heap.size + 1 := by simp
  generalize (w2.alloc (.cells (arr 256 fun _ => 0) 23)).setRow w2.heap.size (arr 256 fun i => emod (a i)) = w3 at *
  have hs4 : w2.heap.size + 1 ≤ w3.heap.size := by omega
  clear hs3
  have hq := eql23
  have q1 : eqA 256 (inv (ntt a)) (fun i => emod (a i)) = true := eqA_of (fun i hi => inv_ntt a i hi)
  have q2 : eqA 256 (ntt (inv a)) (fun i => emod (a i)) = true := eqA_of (fun i hi => ntt_inv a i hi)
  have q3 : eqA 256 (fun i => emod (emod (a i))) (fun i => emod (a i)) = true := eqA_of (fun i hi => emod_emod _)
  simp only [Act.put]
  refine wp_region_held_drew (S := (fun w' => Row w' w.heap.size 23 256 a ∧ Row w' w2.heap.size 23 256 (fun i => emod (a i)) ∧ Below w.heap.size w w' ∧ TRow w' 0 128 rt ∧ w2.heap.size + 1 ≤ w'.heap.size)) (by kernel_rfl) ⟨r1.drew, r3.drew, hb0.drew, R1.drew, hs4⟩ (fun hH => ?_)
  clear r1 r3 hb0 R1 hs4 hs2 hs1
  refine wpAnyH_take (i := 0) (oi := { dst := some 8, op := Op.move (Operand.tmp 3), type := 4, pos := "law.go:29", after := #[], guard := none }) (v := ?_) rfl (by kernel_rfl) (by kernel_rfl) (by kernel_rfl) (fun _ _ _ h => h) (Or.inl ⟨by rfl, ?_⟩) hH ?_; rotate_left
  · (intro w hSw; go_simp; try with_reducible rfl)
  try simp only [Act.put, List.setIfInBounds_toArray, List.set_cons_zero, List.set_cons_succ]
  refine wpAnyH_take (i := 1) (oi := { dst := some 9, op := Op.move (Operand.tmp 8), type := 4, pos := "law.go:29", after := #[{ on := 0, ground := Ground.data }], guard := none }) (v := ?_) rfl (by kernel_rfl) (by kernel_rfl) (by kernel_rfl) (fun _ _ _ h => h) (Or.inl ⟨by rfl, ?_⟩) hH ?_; rotate_left
  · (intro w hSw; go_simp; try with_reducible rfl)
  try simp only [Act.put, List.setIfInBounds_toArray, List.set_cons_zero, List.set_cons_succ]
  refine wpAnyH_take (i := 2) (oi := { dst := some 10, op := Op.load 23 (Operand.tmp 1), type := 23, pos := "law.go:29", after := #[{ on := 1, ground := Ground.guard }], guard := some (1, true) }) rfl (by kernel_rfl) (by kernel_rfl) (by kernel_rfl) (fun _ _ _ h => h) (yields23 (by rfl) _ rfl w.heap.size rfl a (fun _ h => h.1)) hH ?_
  try simp only [Act.put, List.setIfInBounds_toArray, List.set_cons_zero, List.set_cons_succ]
  refine wpAnyH_take (i := 5) (oi := { dst := some 13, op := Op.load 23 (Operand.tmp 4), type := 23, pos := "law.go:29", after := #[{ on := 1, ground := Ground.guard }], guard := some (1, true) }) rfl (by kernel_rfl) (by kernel_rfl) (by kernel_rfl) (fun _ _ _ h => h) (yields23 (by rfl) _ rfl w2.heap.size rfl (fun i => emod (a i)) (fun _ h => h.2.1)) hH ?_
  try simp only [Act.put, List.setIfInBounds_toArray, List.set_cons_zero, List.set_cons_succ]
  refine wpAnyH_ready (rs := [3]) (by kernel_rfl) (by simp) ?_
  refine AllReadyH.cons (o := { dst := some 11, op := Op.call { callee := Callee.value (Operand.func 12), args := #[Operand.tmp 10], argTypes := #[23] }, type := 23, pos := "law.go:29", after := #[{ on := 2, ground := Ground.data }, { on := 1, ground := Ground.chain }, { on := 1, ground := Ground.guard }], guard := some (1, true) }) rfl (fun K hK => ?_) AllReadyH.nil
  rw [if_pos (by rfl)]
  go_simp
  refine (ntt12' a _ ha hH.2.2.2.1).mono ?_
  rintro e w9 ⟨rfl, kk⟩
  refine hK.out _ _ ⟨hH.1.below kk hH.1.lt, hH.2.1.below kk hH.2.1.lt, hH.2.2.1.trans (kk.mono (by have := hH.1.lt; omega)), hH.2.2.2.1.below kk hH.2.2.2.1.lt, Nat.le_trans hH.2.2.2.2 kk.size⟩ (fun hH => ?_)
  clear hK K
  refine wpAnyH_ready (rs := [4]) (by kernel_rfl) (by simp) ?_
  refine AllReadyH.cons (o := { dst := some 12, op := Op.call { callee := Callee.value (Operand.func 11), args := #[Operand.tmp 11], argTypes := #[23] }, type := 23, pos := "law.go:29", after := #[{ on := 3, ground := Ground.data }, { on := 3, ground := Ground.chain }, { on := 1, ground := Ground.guard }], guard := some (1, true) }) rfl (fun K hK => ?_) AllReadyH.nil
  rw [if_pos (by rfl)]
  go_simp
  refine (inv11' (ntt a) _ (I64.of (ntt_bd a)) hH.2.2.2.1).mono ?_
  rintro e w9 ⟨rfl, kk⟩
  refine hK.out _ _ ⟨hH.1.below kk hH.1.lt, hH.2.1.below kk hH.2.1.lt, hH.2.2.1.trans (kk.mono (by have := hH.1.lt; omega)), hH.2.2.2.1.below kk hH.2.2.2.1.lt, Nat.le_trans hH.2.2.2.2 kk.size⟩ (fun hH => ?_)
  clear hK K
  refine wpAnyH_take (i := 6) (oi := { dst := some 14, op := Op.binOp BinOp.eql 23 (Operand.tmp 12) (Operand.tmp 13) 23, type := 4, pos := "law.go:29", after := #[{ on := 4, ground := Ground.data }, { on := 5, ground := Ground.data }, { on := 1, ground := Ground.guard }], guard := some (1, true) }) (v := ?_) rfl (by kernel_rfl) (by kernel_rfl) (by kernel_rfl) (fun _ _ _ h => h) (Or.inl ⟨by rfl, ?_⟩) hH ?_; rotate_left
  · (intro w hSw; go_simp; try with_reducible rfl)
  try simp only [Act.put, List.setIfInBounds_toArray, List.set_cons_zero, List.set_cons_succ]
  refine wpAnyH_take (i := 7) (oi := { dst := some 15, op := Op.pick (Operand.tmp 9) (Operand.tmp 14) (Operand.const (Value.bool false)), type := 4, pos := "law.go:29", after := #[{ on := 1, ground := Ground.data }, { on := 6, ground := Ground.data }], guard := none }) (v := ?_) rfl (by kernel_rfl) (by kernel_rfl) (by kernel_rfl) (fun _ _ _ h => h) (Or.inl ⟨by rfl, ?_⟩) hH ?_; rotate_left
  · (intro w hSw; go_simp; try with_reducible rfl)
  try simp only [Act.put, List.setIfInBounds_toArray, List.set_cons_zero, List.set_cons_succ]
  refine wpAnyH_take (i := 8) (oi := { dst := some 16, op := Op.move (Operand.tmp 15), type := 4, pos := "law.go:29", after := #[{ on := 7, ground := Ground.data }, { on := 4, ground := Ground.chain }], guard := none }) (v := ?_) rfl (by kernel_rfl) (by kernel_rfl) (by kernel_rfl) (fun _ _ _ h => h) (Or.inl ⟨by rfl, ?_⟩) hH ?_; rotate_left
  · (intro w hSw; go_simp; try with_reducible rfl)
  try simp only [Act.put, List.setIfInBounds_toArray, List.set_cons_zero, List.set_cons_succ]
  refine wpAnyH_take (i := 9) (oi := { dst := some 17, op := Op.load 23 (Operand.tmp 1), type := 23, pos := "law.go:29", after := #[{ on := 8, ground := Ground.guard }], guard := some (8, true) }) rfl (by kernel_rfl) (by kernel_rfl) (by kernel_rfl) (fun _ _ _ h => h) (yields23 (by rfl) _ rfl w.heap.size rfl a (fun _ h => h.1)) hH ?_
  try simp only [Act.put, List.setIfInBounds_toArray, List.set_cons_zero, List.set_cons_succ]
  refine wpAnyH_take (i := 12) (oi := { dst := some 20, op := Op.load 23 (Operand.tmp 4), type := 23, pos := "law.go:29", after := #[{ on := 8, ground := Ground.guard }], guard := some (8, true) }) rfl (by kernel_rfl) (by kernel_rfl) (by kernel_rfl) (fun _ _ _ h => h) (yields23 (by rfl) _ rfl w2.heap.size rfl (fun i => emod (a i)) (fun _ h => h.2.1)) hH ?_
  try simp only [Act.put, List.setIfInBounds_toArray, List.set_cons_zero, List.set_cons_succ]
  refine wpAnyH_ready (rs := [10]) (by kernel_rfl) (by simp) ?_
  refine AllReadyH.cons (o := { dst := some 18, op := Op.call { callee := Callee.value (Operand.func 11), args := #[Operand.tmp 17], argTypes := #[23] }, type := 23, pos := "law.go:29", after := #[{ on := 9, ground := Ground.data }, { on := 8, ground := Ground.chain }, { on := 8, ground := Ground.guard }], guard := some (8, true) }) rfl (fun K hK => ?_) AllReadyH.nil
  rw [if_pos (by rfl)]
  go_simp
  refine (inv11' a _ ha hH.2.2.2.1).mono ?_
  rintro e w9 ⟨rfl, kk⟩
  refine hK.out _ _ ⟨hH.1.below kk hH.1.lt, hH.2.1.below kk hH.2.1.lt, hH.2.2.1.trans (kk.mono (by have := hH.1.lt; omega)), hH.2.2.2.1.below kk hH.2.2.2.1.lt, Nat.le_trans hH.2.2.2.2 kk.size⟩ (fun hH => ?_)
  clear hK K
  refine wpAnyH_ready (rs := [11]) (by kernel_rfl) (by simp) ?_
  refine AllReadyH.cons (o := { dst := some 19, op := Op.call { callee := Callee.value (Operand.func 12), args := #[Operand.tmp 18], argTypes := #[23] }, type := 23, pos := "law.go:29", after := #[{ on := 10, ground := Ground.data }, { on := 10, ground := Ground.chain }, { on := 8, ground := Ground.guard }], guard := some (8, true) }) rfl (fun K hK => ?_) AllReadyH.nil
  rw [if_pos (by rfl)]
  go_simp
  refine (ntt12' (inv a) _ (I64.of (inv_bd a)) hH.2.2.2.1).mono ?_
  rintro e w9 ⟨rfl, kk⟩
  refine hK.out _ _ ⟨hH.1.below kk hH.1.lt, hH.2.1.below kk hH.2.1.lt, hH.2.2.1.trans (kk.mono (by have := hH.1.lt; omega)), hH.2.2.2.1.below kk hH.2.2.2.1.lt, Nat.le_trans hH.2.2.2.2 kk.size⟩ (fun hH => ?_)
  clear hK K
  refine wpAnyH_take (i := 13) (oi := { dst := some 21, op := Op.binOp BinOp.eql 23 (Operand.tmp 19) (Operand.tmp 20) 23, type := 4, pos := "law.go:29", after := #[{ on := 11, ground := Ground.data }, { on := 12, ground := Ground.data }, { on := 8, ground := Ground.guard }], guard := some (8, true) }) (v := ?_) rfl (by kernel_rfl) (by kernel_rfl) (by kernel_rfl) (fun _ _ _ h => h) (Or.inl ⟨by rfl, ?_⟩) hH ?_; rotate_left
  · (intro w hSw; go_simp; try with_reducible rfl)
  try simp only [Act.put, List.setIfInBounds_toArray, List.set_cons_zero, List.set_cons_succ]
  refine wpAnyH_take (i := 14) (oi := { dst := some 22, op := Op.pick (Operand.tmp 16) (Operand.tmp 21) (Operand.const (Value.bool false)), type := 4, pos := "law.go:29", after := #[{ on := 8, ground := Ground.data }, { on := 13, ground := Ground.data }], guard := none }) (v := ?_) rfl (by kernel_rfl) (by kernel_rfl) (by kernel_rfl) (fun _ _ _ h => h) (Or.inl ⟨by rfl, ?_⟩) hH ?_; rotate_left
  · (intro w hSw; go_simp; try with_reducible rfl)
  try simp only [Act.put, List.setIfInBounds_toArray, List.set_cons_zero, List.set_cons_succ]
  refine wpAnyH_take (i := 15) (oi := { dst := some 23, op := Op.move (Operand.tmp 22), type := 4, pos := "law.go:29", after := #[{ on := 14, ground := Ground.data }, { on := 11, ground := Ground.chain }], guard := none }) (v := ?_) rfl (by kernel_rfl) (by kernel_rfl) (by kernel_rfl) (fun _ _ _ h => h) (Or.inl ⟨by rfl, ?_⟩) hH ?_; rotate_left
  · (intro w hSw; go_simp; try with_reducible rfl)
  try simp only [Act.put, List.setIfInBounds_toArray, List.set_cons_zero, List.set_cons_succ]
  refine wpAnyH_take (i := 16) (oi := { dst := some 24, op := Op.load 23 (Operand.tmp 4), type := 23, pos := "law.go:29", after := #[{ on := 15, ground := Ground.guard }], guard := some (15, true) }) rfl (by kernel_rfl) (by kernel_rfl) (by kernel_rfl) (fun _ _ _ h => h) (yields23 (by rfl) _ rfl w2.heap.size rfl (fun i => emod (a i)) (fun _ h => h.2.1)) hH ?_
  try simp only [Act.put, List.setIfInBounds_toArray, List.set_cons_zero, List.set_cons_succ]
  refine wpAnyH_take (i := 18) (oi := { dst := some 26, op := Op.load 23 (Operand.tmp 4), type := 23, pos := "law.go:29", after := #[{ on := 15, ground := Ground.guard }], guard := some (15, true) }) rfl (by kernel_rfl) (by kernel_rfl) (by kernel_rfl) (fun _ _ _ h => h) (yields23 (by rfl) _ rfl w2.heap.size rfl (fun i => emod (a i)) (fun _ h => h.2.1)) hH ?_
  try simp only [Act.put, List.setIfInBounds_toArray, List.set_cons_zero, List.set_cons_succ]
  refine wpAnyH_ready (rs := [17]) (by kernel_rfl) (by simp) ?_
  refine AllReadyH.cons (o := { dst := some 25, op := Op.call { callee := Callee.value (Operand.func 10), args := #[Operand.tmp 24], argTypes := #[23] }, type := 23, pos := "law.go:29", after := #[{ on := 16, ground := Ground.data }, { on := 15, ground := Ground.chain }, { on := 15, ground := Ground.guard }], guard := some (15, true) }) rfl (fun K hK => ?_) AllReadyH.nil
  rw [if_pos (by rfl)]
  go_simp
  refine (mod10 (fun i => emod (a i)) _ (I64.mod a)).mono ?_
  rintro e w9 ⟨rfl, kk⟩
  refine hK.out _ _ ⟨hH.1.below kk hH.1.lt, hH.2.1.below kk hH.2.1.lt, hH.2.2.1.trans (kk.mono (by have := hH.1.lt; omega)), hH.2.2.2.1.below kk hH.2.2.2.1.lt, Nat.le_trans hH.2.2.2.2 kk.size⟩ (fun hH => ?_)
  clear hK K
  refine wpAnyH_take (i := 19) (oi := { dst := some 27, op := Op.binOp BinOp.eql 23 (Operand.tmp 25) (Operand.tmp 26) 23, type := 4, pos := "law.go:29", after := #[{ on := 17, ground := Ground.data }, { on := 18, ground := Ground.data }, { on := 15, ground := Ground.guard }], guard := some (15, true) }) (v := ?_) rfl (by kernel_rfl) (by kernel_rfl) (by kernel_rfl) (fun _ _ _ h => h) (Or.inl ⟨by rfl, ?_⟩) hH ?_; rotate_left
  · (intro w hSw; go_simp; try with_reducible rfl)
  try simp only [Act.put, List.setIfInBounds_toArray, List.set_cons_zero, List.set_cons_succ]
  refine wpAnyH_take (i := 20) (oi := { dst := some 28, op := Op.pick (Operand.tmp 23) (Operand.tmp 27) (Operand.const (Value.bool false)), type := 4, pos := "law.go:29", after := #[{ on := 15, ground := Ground.data }, { on := 19, ground := Ground.data }], guard := none }) (v := ?_) rfl (by kernel_rfl) (by kernel_rfl) (by kernel_rfl) (fun _ _ _ h => h) (Or.inl ⟨by rfl, ?_⟩) hH ?_; rotate_left
  · (intro w hSw; go_simp; try with_reducible rfl)
  try simp only [Act.put, List.setIfInBounds_toArray, List.set_cons_zero, List.set_cons_succ]
  refine wpAnyH_take (i := 21) (oi := { dst := some 2, op := Op.assign (Operand.tmp 28), type := 4, pos := "law.go:29", after := #[{ on := 20, ground := Ground.data }, { on := 17, ground := Ground.chain }, { on := 0, ground := Ground.phase }, { on := 1, ground := Ground.phase }, { on := 2, ground := Ground.phase }, { on := 3, ground := Ground.phase }, { on := 4, ground := Ground.phase }, { on := 5, ground := Ground.phase }, { on := 6, ground := Ground.phase }, { on := 7, ground := Ground.phase }, { on := 8, ground := Ground.phase }, { on := 9, ground := Ground.phase }, { on := 10, ground := Ground.phase }, { on := 11, ground := Ground.phase }, { on := 12, ground := Ground.phase }, { on := 13, ground := Ground.phase }, { on := 14, ground := Ground.phase }, { on := 15, ground := Ground.phase }, { on := 16, ground := Ground.phase }, { on := 17, ground := Ground.phase }, { on := 18, ground := Ground.phase }, { on := 19, ground := Ground.phase }, { on := 20, ground := Ground.phase }], guard := none }) (v := ?_) rfl (by kernel_rfl) (by kernel_rfl) (by kernel_rfl) (fun _ _ _ h => h) (Or.inl ⟨by rfl, ?_⟩) hH ?_; rotate_left
  · (intro w hSw; go_simp; try with_reducible rfl)
  try simp only [Act.put, List.setIfInBounds_toArray, List.set_cons_zero, List.set_cons_succ]
  refine wpAnyH_done (by kernel_rfl) ?_ _
  go_wp2_with fail
  go_ret
  exact ⟨rfl, hH.2.2.1⟩

end Go.Proofs.YtopkmkkohmkceaaDoor
