/- The document's turns and constants, walked. -/
import Derived.Test.YtgjcofneecebjaaDoorG
import Derived.Test.YtgjcofneecebjaaDoorF
namespace Go.Proofs.YtgjcofneecebjaaDoor
open Go.ChangeShapes Go.WideShapes Go.ChangeAt Go.RowKit
set_option linter.unusedSimpArgs false
set_option linter.unusedVariables false

theorem zero55 (w : World) : (zeroValue 55).run Tryd.prog w = .ok (.agg (arr .i64 25 fun _ => 0)) w := by kernel_rfl
theorem info55 : (Tryd.prog.info? 55).map (·.size) = some 25 := by kernel_rfl
theorem loadr55 {ops : Array Oper} {rest : List Oper} {o : Oper} {a : Act} {w : World} {Q : Exit → Act → World → Prop} (hgd : o.guard = none) (x : Operand) (ho : o.op = .load 55 x)
    (b : Nat) (hx : a.eval x = .pointer (some ⟨b, 0, none⟩)) {u : TypeId} {f : Nat → Int} (r : Row w b u .i64 25 f #[])
    (h : wpList Tryd.prog ops Q rest (a.put o.dst (.agg (arr .i64 25 f))) w) : wpList Tryd.prog ops Q (o :: rest) a w :=
  wpList_load_row hgd 55 x ho b hx u _ _ _ (by simpa using r.at_) Tryd.underlying55 rfl (by rw [arr_size]; exact info55) h
theorem storer55 {ops : Array Oper} {rest : List Oper} {o : Oper} {a : Act} {w : World} {Q : Exit → Act → World → Prop} (hgd : o.guard = none) (x y : Operand) (ho : o.op = .store 55 x y)
    (b : Nat) (g : Nat → Int) (hx : a.eval x = .pointer (some ⟨b, 0, none⟩)) (hy : a.eval y = .agg (arr .i64 25 g)) {u : TypeId} {f : Nat → Int} (r : Row w b u .i64 25 f #[])
    (h : wpList Tryd.prog ops Q rest (a.put o.dst undef) (w.setRow b (arr .i64 25 g))) : wpList Tryd.prog ops Q (o :: rest) a w :=
  wpList_store_row hgd 55 x y ho b _ hx hy u _ (by simpa using r.at_) (by rw [arr_size]; exact info55) (by simp [arr_size]) (arr_one _ _ _) h
theorem retr55 {fn : Func} {p : Tmp} (h : fn.results = #[.cell p 55]) {R : Ending → World → Prop} {a : Act} {w : World} (b : Nat) {u : TypeId} {f : Nat → Int} (hp : a.tmps.getD p undef = .pointer (some ⟨b, 0, none⟩)) (r : Row w b u .i64 25 f #[])
    (hd : a.defers = []) (hR : R (.returned (.agg (arr .i64 25 f))) w) : bodyPost Tryd.prog fn R .ret a w :=
  bodyPost_ret (results_cell_row h _ _ b u _ _ _ hp (by simpa using r.at_) Tryd.underlying55 rfl (by rw [arr_size]; exact info55)) hd hR

theorem zero57 (w : World) : (zeroValue 57).run Tryd.prog w = .ok (.agg (arr .u64 24 fun _ => 0)) w := by kernel_rfl
theorem loadr57 {ops : Array Oper} {rest : List Oper} {o : Oper} {a : Act} {w : World} {Q : Exit → Act → World → Prop} (hgd : o.guard = none) (x : Operand) (ho : o.op = .load 57 x)
    (b : Nat) (hx : a.eval x = .pointer (some ⟨b, 0, none⟩)) {u : TypeId} {f : Nat → Int} (r : Row w b u .u64 24 f #[])
    (h : wpList Tryd.prog ops Q rest (a.put o.dst (.agg (arr .u64 24 f))) w) : wpList Tryd.prog ops Q (o :: rest) a w :=
  wpList_load_row hgd 57 x ho b hx u _ _ _ (by simpa using r.at_) Tryd.underlying57 rfl (by rw [arr_size]; exact info57) h
theorem storer57 {ops : Array Oper} {rest : List Oper} {o : Oper} {a : Act} {w : World} {Q : Exit → Act → World → Prop} (hgd : o.guard = none) (x y : Operand) (ho : o.op = .store 57 x y)
    (b : Nat) (g : Nat → Int) (hx : a.eval x = .pointer (some ⟨b, 0, none⟩)) (hy : a.eval y = .agg (arr .u64 24 g)) {u : TypeId} {f : Nat → Int} (r : Row w b u .u64 24 f #[])
    (h : wpList Tryd.prog ops Q rest (a.put o.dst undef) (w.setRow b (arr .u64 24 g))) : wpList Tryd.prog ops Q (o :: rest) a w :=
  wpList_store_row hgd 57 x y ho b _ hx hy u _ (by simpa using r.at_) (by rw [arr_size]; exact info57) (by simp [arr_size]) (arr_one _ _ _) h
theorem retr57 {fn : Func} {p : Tmp} (h : fn.results = #[.cell p 57]) {R : Ending → World → Prop} {a : Act} {w : World} (b : Nat) {u : TypeId} {f : Nat → Int} (hp : a.tmps.getD p undef = .pointer (some ⟨b, 0, none⟩)) (r : Row w b u .u64 24 f #[])
    (hd : a.defers = []) (hR : R (.returned (.agg (arr .u64 24 f))) w) : bodyPost Tryd.prog fn R .ret a w :=
  bodyPost_ret (results_cell_row h _ _ b u _ _ _ hp (by simpa using r.at_) Tryd.underlying57 rfl (by rw [arr_size]; exact info57)) hd hR

theorem zero47 (w : World) : (zeroValue 47).run Tryd.prog w = .ok (.agg (arr .u64 25 fun _ => 0)) w := by kernel_rfl
theorem info47 : (Tryd.prog.info? 47).map (·.size) = some 25 := by kernel_rfl
theorem loadr47 {ops : Array Oper} {rest : List Oper} {o : Oper} {a : Act} {w : World} {Q : Exit → Act → World → Prop} (hgd : o.guard = none) (x : Operand) (ho : o.op = .load 47 x)
    (b : Nat) (hx : a.eval x = .pointer (some ⟨b, 0, none⟩)) {u : TypeId} {f : Nat → Int} (r : Row w b u .u64 25 f #[])
    (h : wpList Tryd.prog ops Q rest (a.put o.dst (.agg (arr .u64 25 f))) w) : wpList Tryd.prog ops Q (o :: rest) a w :=
  wpList_load_row hgd 47 x ho b hx u _ _ _ (by simpa using r.at_) Tryd.underlying47 rfl (by rw [arr_size]; exact info47) h
theorem storer47 {ops : Array Oper} {rest : List Oper} {o : Oper} {a : Act} {w : World} {Q : Exit → Act → World → Prop} (hgd : o.guard = none) (x y : Operand) (ho : o.op = .store 47 x y)
    (b : Nat) (g : Nat → Int) (hx : a.eval x = .pointer (some ⟨b, 0, none⟩)) (hy : a.eval y = .agg (arr .u64 25 g)) {u : TypeId} {f : Nat → Int} (r : Row w b u .u64 25 f #[])
    (h : wpList Tryd.prog ops Q rest (a.put o.dst undef) (w.setRow b (arr .u64 25 g))) : wpList Tryd.prog ops Q (o :: rest) a w :=
  wpList_store_row hgd 47 x y ho b _ hx hy u _ (by simpa using r.at_) (by rw [arr_size]; exact info47) (by simp [arr_size]) (arr_one _ _ _) h
theorem retr47 {fn : Func} {p : Tmp} (h : fn.results = #[.cell p 47]) {R : Ending → World → Prop} {a : Act} {w : World} (b : Nat) {u : TypeId} {f : Nat → Int} (hp : a.tmps.getD p undef = .pointer (some ⟨b, 0, none⟩)) (r : Row w b u .u64 25 f #[])
    (hd : a.defers = []) (hR : R (.returned (.agg (arr .u64 25 f))) w) : bodyPost Tryd.prog fn R .ret a w :=
  bodyPost_ret (results_cell_row h _ _ b u _ _ _ hp (by simpa using r.at_) Tryd.underlying47 rfl (by rw [arr_size]; exact info47)) hd hR

theorem turned33s (a : Int) (n s : Nat) (hn : n + s = 64) (ha : n < 64) (w : World) : Calls Tryd.prog 33 #[.int .u64 a, .int .i64 (n : Int)] w fun e w' => e = .returned (.int .u64 (rol n a)) ∧ w' = w.drew := by
  have ER := Lib.hid (show rol n a = bits .or .u64 (IntKind.u64.wrap (a * 2 ^ n)) (a / 2 ^ s) by unfold rol; rw [show 64 - n = s by omega])
  have e3 : 64 - (n : Int) = (s : Int) := by omega
  have e4 : 0 ≤ (n : Int) := by omega
  have e5 : 0 ≤ (s : Int) := by omega
  have e6 : IntKind.i64.wrap (s : Int) = (s : Int) := IntWalk.i64_in _ (by omega)
  go_enter Tryd.func33, Tryd.ntmps33
  go_wp2
  go_still (by kernel_rfl)
  change Exit.then _ _ _ _ w.drew
  obtain ⟨w1, hw1⟩ : ∃ w1 : World, w.drew = w1 := ⟨_, rfl⟩
  rw [hw1]
  have HW := Lib.hid hw1
  clear hw1
  go_wp2
  go_ret
  exact ⟨congrArg (fun v => Ending.returned (.int .u64 v)) ER.out.symm, HW.out.symm⟩
theorem turned33 (a : Int) (n : Nat) (hn : n < 64) (w : World) : Calls Tryd.prog 33 #[.int .u64 a, .int .i64 (n : Int)] w fun e w' => e = .returned (.int .u64 (rol n a)) ∧ w' = w.drew :=
  turned33s a n (64 - n) (by omega) hn w
def xl : List Nat := [1, 0, 2, 1, 2, 3, 3, 0, 1, 3, 1, 4, 4, 0, 3, 4, 3, 2, 2, 0, 4, 2, 4, 1, 1]
def yl : List Nat := [0, 2, 1, 2, 3, 3, 0, 1, 3, 1, 4, 4, 0, 3, 4, 3, 2, 2, 0, 4, 2, 4, 1, 1, 0]
theorem xy_lt : ∀ i, i < 25 → xl.getD i 0 < 5 ∧ yl.getD i 0 < 5 := by decide
theorem xy_next : ∀ i, i < 24 → xl.getD (i + 1) 0 = yl.getD i 0 ∧ yl.getD (i + 1) 0 = (2 * xl.getD i 0 + 3 * yl.getD i 0) % 5 := by decide
def tarr : Nat → (Nat → Int)
  | 0 => fun _ => 0
  | i + 1 => upd (tarr i) (xl.getD i 0 * 5 + yl.getD i 0) (((i + 1) * (i + 2) / 2 % 64 : Nat) : Int)
set_option maxRecDepth 20000 in
set_option maxHeartbeats 4000000 in
theorem turns31 (w : World) : Calls Tryd.prog 31 #[] w fun e w' => e = .returned (.agg (arr .i64 25 (tarr 24))) ∧ Below w.heap.size w w' := by
  have hz := zero55
  have r0 := Row.new w 55 .i64 25 (fun _ => 0)
  obtain ⟨w0, hw0⟩ : ∃ w0 : World, w0 = (w.alloc (.cells (arr .i64 25 fun _ => 0) 55)).alloc (.cells (arr .i64 25 fun _ => 0) 55) := ⟨_, rfl⟩
  have q0 : Row w0 w.heap.size 55 .i64 25 (fun _ => 0) #[] := by rw [hw0]; exact r0.alloc _
  have r1 : Row w0 (w.heap.size + 1) 55 .i64 25 (fun _ => 0) #[] := by
    have := Row.new (w.alloc (.cells (arr .i64 25 fun _ => 0) 55)) 55 .i64 25 (fun _ => 0)
    rw [hw0]; simpa using this
  have k0 : Below w.heap.size w w0 := by rw [hw0]; exact ((Below.refl _ _).alloc (Nat.le_refl _) _).alloc (by simp) _
  have HW := Lib.hid hw0
  go_enter Tryd.func31, Tryd.ntmps31
  go_upto_region 2 with fail
  rw [← HW.out]
  clear hw0 HW hz r0
  obtain ⟨b0, hb0⟩ : ∃ b0, b0 = w.heap.size := ⟨_, rfl⟩
  obtain ⟨b1, hb1⟩ : ∃ b1, b1 = w.heap.size + 1 := ⟨_, rfl⟩
  rw [← hb1] at r1
  rw [← hb0] at q0
  have hb01 : b0 < b1 := by omega
  rw [← hb1, ← hb0]
  have HB := Lib.hid (And.intro hb0 hb1)
  clear hb0 hb1
  go_wp2_with fail
  go_loopg [2, 3, 4] 24 (fun k v2 v3 v4 wr => ∃ (i x y : Nat), v4 = .int .i64 i ∧ v2 = .int .i64 x ∧ v3 = .int .i64 y ∧ x = xl.getD i 0 ∧ y = yl.getD i 0 ∧ i + k = 24 ∧ Row wr b1 55 .i64 25 (tarr i) #[] ∧ Row wr b0 55 .i64 25 (fun _ => 0) #[] ∧ Below w.heap.size w wr)
  case atStart => exact ⟨0, 1, 0, rfl, rfl, rfl, rfl, rfl, rfl, r1, q0, k0⟩
  case round =>
    clear r1 q0 k0
    obtain ⟨i, x, y, rfl, rfl, rfl, hx, hy, hi, r1, q1, k1⟩ := hrel
    by_cases hlt : i < 24
    · obtain ⟨hx5, hy5⟩ := xy_lt i (by omega)
      obtain ⟨hnx, hny⟩ := xy_next i hlt
      rw [← hx] at hx5 hny
      rw [← hy] at hy5 hnx hny
      obtain ⟨y2, hy2⟩ : ∃ y2, (2 * x + 3 * y) % 5 = y2 := ⟨_, rfl⟩
      obtain ⟨tv, htv⟩ : ∃ tv, (i + 1) * (i + 2) / 2 % 64 = tv := ⟨_, rfl⟩
      obtain ⟨pr, hpr⟩ : ∃ pr, (i + 1) * (i + 2) = pr := ⟨_, rfl⟩
      obtain ⟨hf, hhf⟩ : ∃ hf, pr / 2 = hf := ⟨_, rfl⟩
      have hprb : pr ≤ 650 := by
        rw [← hpr]
        exact Nat.le_trans (Nat.mul_le_mul (show i + 1 ≤ 25 by omega) (show i + 2 ≤ 26 by omega)) (by decide)
      have hT := Lib.hid (show upd (tarr i) (x * 5 + y) (tv : Int) = tarr (i + 1) by rw [hx, hy, ← htv]; rfl)
      rw [hpr, hhf] at htv
      have e1 : ((i : Int) + 1) * ((i : Int) + 2) = (pr : Int) := by rw [← hpr]; push_cast; rfl
      have e2 : IntKind.i64.wrap ((i : Int) + 1) = (i : Int) + 1 := IntWalk.i64_in _ (by omega)
      have e3 : IntKind.i64.wrap ((i : Int) + 2) = (i : Int) + 2 := IntWalk.i64_in _ (by omega)
      have e4 : IntKind.i64.wrap (pr : Int) = (pr : Int) := IntWalk.i64_in _ (by omega)
      have e5 : (pr : Int) / 2 = (hf : Int) := by omega
      have e6 : (pr : Int).tdiv 2 = (hf : Int) := by rw [Int.tdiv_eq_ediv_of_nonneg (by omega)]; omega
      have e7 : IntKind.i64.wrap (hf : Int) = (hf : Int) := IntWalk.i64_in _ (by omega)
      have e8 : (hf : Int) % 64 = (tv : Int) := by omega
      have e9 : (hf : Int).tmod 64 = (tv : Int) := by rw [Int.tmod_eq_emod_of_nonneg (by omega)]; omega
      have f1 : IntKind.i64.wrap (2 * (x : Int)) = 2 * (x : Int) := IntWalk.i64_in _ (by omega)
      have f2 : IntKind.i64.wrap (3 * (y : Int)) = 3 * (y : Int) := IntWalk.i64_in _ (by omega)
      have f3 : IntKind.i64.wrap (2 * (x : Int) + 3 * (y : Int)) = 2 * (x : Int) + 3 * (y : Int) := IntWalk.i64_in _ (by omega)
      have f4 : (2 * (x : Int) + 3 * (y : Int)) % 5 = (y2 : Int) := by omega
      have f5 : (2 * (x : Int) + 3 * (y : Int)).tmod 5 = (y2 : Int) := by rw [Int.tmod_eq_emod_of_nonneg (by omega)]; omega
      have z0 : (0 : Int) ≤ (x : Int) := by omega
      have z1 : (x : Int) < 5 := by omega
      have z2 : (0 : Int) ≤ (y : Int) := by omega
      have z3 : (y : Int) < 5 := by omega
      have hxy : x * 5 + y < 25 := by omega
      have hcl := r1.cell (x * 5 + y) hxy
      have hfr := r1.frozen (x * 5 + y)
      have r2 := r1.set (x * 5 + y) (tv : Int) hxy
      rw [hT.out] at r2
      have q2 := q1.other ⟨b1, x * 5 + y, none⟩ (.int .i64 tv) (by show b0 ≠ b1; omega)
      have hge : w.heap.size ≤ b1 := by have := HB.out; omega
      have k2 := Below.setCell k1 (p := ⟨b1, x * 5 + y, none⟩) hge (.int .i64 tv)
      have HX := Lib.hid (And.intro hnx (And.intro hny (And.intro hy2 hi)))
      clear hnx hny hy2 hx hy hpr hhf htv hi r1 q1 k1 hge
      go_wp2_with fail
      go_roundg (gk - 1)
      case measure => have := HX.out; omega
      case rel => exact ⟨i + 1, y, y2, by simp, rfl, rfl, HX.out.1.symm, by rw [HX.out.2.1, HX.out.2.2.1], by have := HX.out; omega, r2, q2, k2⟩
    · have hdn : decide (i < 24) = false := by simp; omega
      obtain rfl : i = 24 := by omega
      clear hi hx hy
      go_wp2_with (first
        | (with_reducible refine loadr55 rfl (.tmp 1) rfl b1 rfl r1 ?_)
        | (with_reducible refine storer55 rfl (.tmp 0) (.tmp 29) rfl b0 _ rfl rfl q1 ?_))
      exact retr55 rfl b0 rfl (q1.setRow _) rfl ⟨rfl, below_setRow k1 (by have := HB.out; omega) _⟩
/-- The shift register. -/
def rl : List Nat := [1, 2, 4, 8, 16, 32, 64, 128, 113, 226, 181, 27, 54, 108, 216, 193, 243, 151, 95, 190, 13, 26, 52, 104, 208, 209, 211, 215, 223, 207, 239, 175, 47, 94, 188, 9, 18, 36, 72, 144, 81, 162, 53, 106, 212, 217, 195, 247, 159, 79, 158, 77, 154, 69, 138, 101, 202, 229, 187, 7, 14, 28, 56, 112, 224, 177, 19, 38, 76, 152, 65, 130, 117, 234, 165, 59, 118, 236, 169, 35, 70, 140, 105, 210, 213, 219, 199, 255, 143, 111, 222, 205, 235, 167, 63, 126, 252, 137, 99, 198, 253, 139, 103, 206, 237, 171, 39, 78, 156, 73, 146, 85, 170, 37, 74, 148, 89, 178, 21, 42, 84, 168, 33, 66, 132, 121, 242, 149, 91, 182, 29, 58, 116, 232, 161, 51, 102, 204, 233, 163, 55, 110, 220, 201, 227, 183, 31, 62, 124, 248, 129, 115, 230, 189, 11, 22, 44, 88, 176, 17, 34, 68, 136, 97, 194, 245, 155, 71, 142]
def rnx (r : Nat) : Nat := if 256 ≤ r * 2 then (r * 2) ^^^ 369 else r * 2
theorem rl_next : ∀ t, t < 168 → rl.getD (t + 1) 0 = rnx (rl.getD t 0) := by decide +kernel
theorem rl_lt : ∀ t, t < 169 → rl.getD t 0 < 256 := by decide +kernel
theorem xor369 : ∀ r : Nat, r < 512 → bits BinOp.xor IntKind.i64 (r : Int) 369 = ((r ^^^ 369 : Nat) : Int) := by decide +kernel
def mj (j : Nat) : Int := 2 ^ (2 ^ j - 1)
def lc (i : Nat) : Nat → Int
  | 0 => 0
  | j + 1 => if rl.getD (7 * i + j) 0 % 2 = 1 then bits .or .u64 (lc i j) (mj j) else lc i j
def cst (i j : Nat) : Nat → Int := fun k => if k < i then lc k 7 else if k = i then lc i j else 0
def Vc10 (b1 i j k2 : Nat) (a m s1 : Int) : Nat → Value → World → Prop
  | 0, v, w => v = .int .i64 i
  | 1, v, w => v = .int .i64 i
  | 2, v, w => v = .pointer (some ⟨b1, i, none⟩)
  | 3, v, w => v = .int .u64 a
  | 4, v, w => v = .int .i64 j
  | 5, v, w => v = .int .u64 s1
  | 6, v, w => v = .int .u64 (k2 : Int)
  | 7, v, w => v = .int .u64 m
  | 8, v, w => v = .int .u64 (bits .or .u64 a m)
  | 9, v, w => v = .pointer (some ⟨b1, i, none⟩)
  | _, _, _ => True
theorem Vc10_keep (b1 i j k2 : Nat) (a m s1 : Int) (i1 : Nat) (v : Value) (w w' : World) (h : Vc10 b1 i j k2 a m s1 i1 v w) (r : (fun w w' => Below w.heap.size w w') w w') : Vc10 b1 i j k2 a m s1 i1 v w' := by
  rcases i1 with _ | _ | _ | _ | _ | _ | _ | _ | _ | _ | _
  · exact h
  · exact h
  · exact h
  · exact h
  · exact h
  · exact h
  · exact h
  · exact h
  · exact h
  · exact h
  · trivial
theorem mj_at : ∀ j : Nat, j < 7 → ∃ (s1 : Int) (k2 : Nat), IntKind.u64.wrap ((2 : Int) ^ j) = s1 ∧ IntKind.u64.wrap (s1 - 1) = (k2 : Int) ∧ IntKind.u64.wrap ((2 : Int) ^ k2) = mj j ∧ k2 < 64 := by
  intro j hj
  refine ⟨_, 2 ^ j - 1, rfl, ?_⟩
  rcases (by omega : j = 0 ∨ j = 1 ∨ j = 2 ∨ j = 3 ∨ j = 4 ∨ j = 5 ∨ j = 6) with rfl | rfl | rfl | rfl | rfl | rfl | rfl <;> decide +kernel
theorem cst_odd (i j : Nat) (h : rl.getD (7 * i + j) 0 % 2 = 1) : upd (cst i j) i (bits .or .u64 (cst i j i) (mj j)) = cst i (j + 1) := by
  funext k
  unfold upd cst
  by_cases e : k = i
  · subst e
    simp only [if_true, Nat.lt_irrefl, if_false]
    show _ = lc k (j + 1)
    unfold lc
    rw [if_pos h]
    cases j <;> rfl
  · rw [if_neg e, if_neg e, if_neg e]
theorem cst_even (i j : Nat) (h : ¬ rl.getD (7 * i + j) 0 % 2 = 1) : cst i j = cst i (j + 1) := by
  funext k
  unfold cst
  by_cases e : k = i
  · subst e
    simp only [Nat.lt_irrefl, if_false, if_true]
    show _ = lc k (j + 1)
    conv => rhs; unfold lc
    rw [if_neg h]
  · rw [if_neg e, if_neg e]
theorem cst_row (i : Nat) : cst i 7 = cst (i + 1) 0 := by
  funext k
  unfold cst
  rcases Nat.lt_trichotomy k i with h | h | h
  · rw [if_pos h, if_pos (by omega)]
  · subst h; rw [if_neg (Nat.lt_irrefl _), if_pos rfl, if_pos (by omega)]
  · rw [if_neg (by omega), if_neg (by omega), if_neg (by omega)]
    split <;> rfl
set_option maxRecDepth 20000 in
set_option maxHeartbeats 4000000 in
theorem constants32 (w : World) : Calls Tryd.prog 32 #[] w fun e w' => e = .returned (.agg (arr .u64 24 (cst 24 0))) ∧ Below w.heap.size w w' := by
  have hz := zero57
  have r0 := Row.new w 57 .u64 24 (fun _ => 0)
  obtain ⟨w0, hw0⟩ : ∃ w0 : World, w0 = (w.alloc (.cells (arr .u64 24 fun _ => 0) 57)).alloc (.cells (arr .u64 24 fun _ => 0) 57) := ⟨_, rfl⟩
  have q0 : Row w0 w.heap.size 57 .u64 24 (fun _ => 0) #[] := by rw [hw0]; exact r0.alloc _
  have r1 : Row w0 (w.heap.size + 1) 57 .u64 24 (fun _ => 0) #[] := by
    have := Row.new (w.alloc (.cells (arr .u64 24 fun _ => 0) 57)) 57 .u64 24 (fun _ => 0)
    rw [hw0]; simpa using this
  have k0 : Below w.heap.size w w0 := by rw [hw0]; exact ((Below.refl _ _).alloc (Nat.le_refl _) _).alloc (by simp) _
  have HW := Lib.hid hw0
  go_enter Tryd.func32, Tryd.ntmps32
  go_upto_region 2 with fail
  rw [← HW.out]
  clear hw0 HW hz r0
  obtain ⟨b0, hb0⟩ : ∃ b0, b0 = w.heap.size := ⟨_, rfl⟩
  obtain ⟨b1, hb1⟩ : ∃ b1, b1 = w.heap.size + 1 := ⟨_, rfl⟩
  rw [← hb1] at r1
  rw [← hb0] at q0
  have hb01 : b0 < b1 := by omega
  rw [← hb1, ← hb0]
  have HB := Lib.hid (And.intro hb0 hb1)
  clear hb0 hb1
  go_wp2_with fail
  go_loopg [2, 3] 24 (fun k v2 v3 wr => ∃ (i r : Nat), v3 = .int .i64 i ∧ v2 = .int .i64 r ∧ r = rl.getD (7 * i) 0 ∧ i + k = 24 ∧ Row wr b1 57 .u64 24 (cst i 0) #[] ∧ Row wr b0 57 .u64 24 (fun _ => 0) #[] ∧ Below w.heap.size w wr)
  case atStart => exact ⟨0, 1, rfl, rfl, rfl, rfl, r1.congr (fun i _ => by unfold cst; simp [lc]), q0, k0⟩
  case round =>
    clear r1 q0 k0
    obtain ⟨i, r, rfl, rfl, hr, hi, r1, q1, k1⟩ := hrel
    by_cases hlt : i < 24
    · have hi24 := hlt
      have zi0 : (0 : Int) ≤ (i : Int) := by omega
      have zi1 : (i : Int) < 24 := by omega
      obtain ⟨ko, hko⟩ : ∃ ko, ko = gk := ⟨_, rfl⟩
      have HI : Hid (i + ko = 24 ∧ ko = gk) := Lib.hid ⟨by omega, hko⟩
      clear hko hi
      go_wp2_with fail
      go_loopg [2, 4] 7 (fun k v2 v4 wr => ∃ (j r : Nat), v4 = .int .i64 j ∧ v2 = .int .i64 r ∧ r = rl.getD (7 * i + j) 0 ∧ j + k = 7 ∧ Row wr b1 57 .u64 24 (cst i j) #[] ∧ Row wr b0 57 .u64 24 (fun _ => 0) #[] ∧ Below w.heap.size w wr)
      case atStart => exact ⟨0, r, rfl, rfl, hr, rfl, r1, q1, k1⟩
      case round =>
        clear r1 q1 k1 hr
        obtain ⟨j, r, rfl, rfl, hr, hj, r1, q1, k1⟩ := hrel
        by_cases hl7 : j < 7
        · obtain ⟨s1, k2, es1, ek2, em, hk2⟩ := mj_at j hl7
          obtain ⟨m, hm⟩ : ∃ m, mj j = m := ⟨_, rfl⟩
          rw [hm] at em
          have hrb : r < 256 := by rw [hr]; exact rl_lt _ (by omega)
          obtain ⟨rn, hrn⟩ : ∃ rn, rn = rnx r := ⟨_, rfl⟩
          have HRN : Hid (rn = rl.getD (7 * i + (j + 1)) 0) := Lib.hid (by rw [hrn, hr, ← rl_next _ (by omega)]; rfl)
          obtain ⟨r2x, hr2x⟩ : ∃ x, r * 2 = x := ⟨_, rfl⟩
          have e1 : (r : Int) * 2 = (r2x : Int) := by omega
          have e2 : IntKind.i64.wrap (r2x : Int) = (r2x : Int) := IntWalk.i64_in _ (by omega)
          have e3 : IntKind.i64.wrap ((j : Int) + 1) = (j : Int) + 1 := IntWalk.i64_in _ (by omega)
          have z0 : (0 : Int) ≤ (j : Int) := by omega
          have z1 : (j : Int) < 7 := by omega
          have HJ := Lib.hid hj
          obtain ⟨ro, hro⟩ : ∃ ro, r % 2 = ro := ⟨_, rfl⟩
          have e4 : (r : Int) % 2 = (ro : Int) := by omega
          have e5 : (r : Int).tmod 2 = (ro : Int) := by rw [Int.tmod_eq_emod_of_nonneg (by omega)]; omega
          have hro2 : ro = 0 ∨ ro = 1 := by omega
          have HO : Hid (rl.getD (7 * i + j) 0 % 2 = ro) := Lib.hid (by rw [← hr]; exact hro)
          have hge : w.heap.size ≤ b1 := by have := HB.out; omega
          obtain ⟨xb, hxb⟩ : ∃ xb : Bool, decide (256 ≤ r2x) = xb := ⟨_, rfl⟩
          have e6 : decide ((r2x : Int) ≥ 256) = xb := by rw [← hxb]; exact decide_eq_decide.2 (by omega)
          have e6' : decide ((256 : Int) ≤ (r2x : Int)) = xb := by rw [← hxb]; exact decide_eq_decide.2 (by omega)
          have e7 : xb = true → bits BinOp.xor IntKind.i64 (r2x : Int) 369 = (rn : Int) := fun h => by
            rw [xor369 _ (by omega), hrn]; unfold rnx
            rw [hr2x, if_pos (of_decide_eq_true (hxb.trans h))]
          have e8 : xb = false → rn = r2x := fun h => by
            rw [hrn]; unfold rnx
            rw [hr2x, if_neg (of_decide_eq_false (hxb.trans h))]
          have HM := Lib.hid hm
          clear hr hro hj hm hrn hr2x hxb hrb
          rcases hro2 with rfl | rfl
          · have hc := cst_even i j (by rw [HO.out]; decide)
            rw [hc] at r1
            clear hc
            cases xb with
            | true =>
              have e9 := e7 rfl
              clear e7 e8
              go_wp2_with fail
              go_roundg (gk - 1)
              case measure => have := HJ.out; omega
              case rel => exact ⟨j + 1, rn, by simp, rfl, HRN.out, by have := HJ.out; omega, r1, q1, k1⟩
            | false =>
              have e9 := e8 rfl
              subst e9
              clear e7 e8
              go_wp2_with fail
              go_roundg (gk - 1)
              case measure => have := HJ.out; omega
              case rel => exact ⟨j + 1, _, by simp, rfl, HRN.out, by have := HJ.out; omega, r1, q1, k1⟩
          · obtain ⟨L, hL⟩ : ∃ L, L = cst i j := ⟨_, rfl⟩
            obtain ⟨a, ha⟩ : ∃ a, L i = a := ⟨_, rfl⟩
            have HC : Hid (upd L i (bits .or .u64 a m) = cst i (j + 1)) := Lib.hid (by rw [← ha, ← HM.out, hL]; exact cst_odd i j HO.out)
            have HA : Hid (some (Value.int .u64 (L i)) = some (.int .u64 a)) := Lib.hid (by rw [ha])
            rw [← hL] at r1
            clear hL ha
            go_upto_region 10 with fail
            have r2 := r1.drew
            have q2 := q1.drew
            have k2' := k1.trans (((Below.refl wr.heap.size wr).drew).mono k1.size)
            clear r1 q1 k1
            refine region_monoT 10 (fun x => Row x b1 57 .u64 24 L #[] ∧ Row x b0 57 .u64 24 (fun _ => 0) #[] ∧ Below w.heap.size w x) (fun w w' => Below w.heap.size w w') (Vc10 b1 i j k2 a m s1) [(0, some 16), (1, some 17), (2, some 18), (3, some 19), (4, some 20), (5, some 21), (6, some 22), (7, some 23), (8, some 24), (9, some 25)] (by kernel_rfl) (by kernel_rfl) (by kernel_rfl) (by kernel_rfl) (fun _ _ h r => ⟨h.1.below r h.1.lt, h.2.1.below r h.2.1.lt, h.2.2.trans (r.mono h.2.2.size)⟩) (fun i1 v1 w1 w2 _ h1 r1 => Vc10_keep b1 i j k2 a m s1 i1 v1 w1 w2 h1 r1) (⟨r2, q2, k2'⟩) ?_ (fun vs w' hS hV => ?_)
            · refine StepsL.cons0  (by kernel_rfl)  ?_ ?_
              · rintro w1 hS  K hK
                (try simp only [Act.put, List.setIfInBounds_toArray, List.set_cons_zero, List.set_cons_succ])
                go_simp
                exact hK.out _ _ rfl (Below.refl _ _)
              refine StepsL.cons0  (by kernel_rfl)  ?_ ?_
              · rintro w1 hS  K hK
                (try simp only [Act.put, List.setIfInBounds_toArray, List.set_cons_zero, List.set_cons_succ])
                go_simp
                exact hK.out _ _ rfl (Below.refl _ _)
              refine StepsL.cons1 1 (some 17) (by kernel_rfl) rfl ?_ ?_
              · rintro w1 hS _ rfl K hK
                (try simp only [Act.put, List.setIfInBounds_toArray, List.set_cons_zero, List.set_cons_succ])
                go_simp
                exact hK.out _ _ rfl (Below.refl _ _)
              refine StepsL.cons1 2 (some 18) (by kernel_rfl) rfl ?_ ?_
              · rintro w1 hS _ rfl K hK
                (try simp only [Act.put, List.setIfInBounds_toArray, List.set_cons_zero, List.set_cons_succ])
                have hcl := hS.1.cell i hi24 |>.trans HA.out
                go_simp
                exact hK.out _ _ rfl (Below.refl _ _)
              refine StepsL.cons0  (by kernel_rfl)  ?_ ?_
              · rintro w1 hS  K hK
                (try simp only [Act.put, List.setIfInBounds_toArray, List.set_cons_zero, List.set_cons_succ])
                go_simp
                exact hK.out _ _ rfl (Below.refl _ _)
              refine StepsL.cons1 4 (some 20) (by kernel_rfl) rfl ?_ ?_
              · rintro w1 hS _ rfl K hK
                (try simp only [Act.put, List.setIfInBounds_toArray, List.set_cons_zero, List.set_cons_succ])
                go_simp
                exact hK.out _ _ rfl (Below.refl _ _)
              refine StepsL.cons1 5 (some 21) (by kernel_rfl) rfl ?_ ?_
              · rintro w1 hS _ rfl K hK
                (try simp only [Act.put, List.setIfInBounds_toArray, List.set_cons_zero, List.set_cons_succ])
                go_simp
                exact hK.out _ _ rfl (Below.refl _ _)
              refine StepsL.cons1 6 (some 22) (by kernel_rfl) rfl ?_ ?_
              · rintro w1 hS _ rfl K hK
                (try simp only [Act.put, List.setIfInBounds_toArray, List.set_cons_zero, List.set_cons_succ])
                go_simp
                exact hK.out _ _ rfl (Below.refl _ _)
              refine StepsL.cons2 3 (some 19) 7 (some 23) (by kernel_rfl) rfl rfl ?_ ?_
              · rintro w1 hS _ rfl _ rfl K hK
                (try simp only [Act.put, List.setIfInBounds_toArray, List.set_cons_zero, List.set_cons_succ])
                go_simp
                exact hK.out _ _ rfl (Below.refl _ _)
              refine StepsL.cons1 0 (some 16) (by kernel_rfl) rfl ?_ ?_
              · rintro w1 hS _ rfl K hK
                (try simp only [Act.put, List.setIfInBounds_toArray, List.set_cons_zero, List.set_cons_succ])
                go_simp
                exact hK.out _ _ rfl (Below.refl _ _)
              exact StepsL.nil
            · have e8' : vs 8 = .int .u64 (bits .or .u64 a m) := hV 8 (by omega)
              have e9' : vs 9 = .pointer (some ⟨b1, i, none⟩) := hV 9 (by omega)
              simp only [putl, List.foldl_cons, List.foldl_nil, Act.put, List.setIfInBounds_toArray, List.set_cons_zero, List.set_cons_succ, e8', e9']
              simp only [List.drop_succ_cons, List.drop_zero]
              obtain ⟨r3, q3, k3⟩ := hS
              have hcl := r3.cell i hi24
              have hff := r3.frozen i
              have r4 := r3.set i (bits .or .u64 a m) hi24
              rw [HC.out] at r4
              have q4 := q3.other ⟨b1, i, none⟩ (.int .u64 (bits .or .u64 a m)) (by show b0 ≠ b1; omega)
              have k4 := Below.setCell k3 (p := ⟨b1, i, none⟩) hge (.int .u64 (bits .or .u64 a m))
              clear hV e8' e9' r3 q3 k3 r2 q2 k2'
              cases xb with
              | true =>
                have e9 := e7 rfl
                clear e7 e8
                go_wp2_with fail
                go_roundg (gk - 1)
                case measure => have := HJ.out; omega
                case rel => exact ⟨j + 1, rn, by simp, rfl, HRN.out, by have := HJ.out; omega, r4, q4, k4⟩
              | false =>
                have e9 := e8 rfl
                subst e9
                clear e7 e8
                go_wp2_with fail
                go_roundg (gk - 1)
                case measure => have := HJ.out; omega
                case rel => exact ⟨j + 1, _, by simp, rfl, HRN.out, by have := HJ.out; omega, r4, q4, k4⟩
        · have hd7 : decide (j < 7) = false := by simp; omega
          have hd7' : decide ((j : Int) < 7) = false := by simp; omega
          obtain rfl : j = 7 := by omega
          rw [cst_row] at r1
          clear hj hl7
          have HR := Lib.hid hr
          clear hr
          have e3 : IntKind.i64.wrap ((i : Int) + 1) = (i : Int) + 1 := IntWalk.i64_in _ (by omega)
          go_wp2_with fail
          go_roundg (ko - 1)
          case measure => have := HI.out; omega
          case rel => exact ⟨i + 1, r, by simp, rfl, HR.out, by have := HI.out; omega, r1, q1, k1⟩
    · have hdn : decide (i < 24) = false := by simp; omega
      obtain rfl : i = 24 := by omega
      clear hi hr
      go_wp2_with (first
        | (with_reducible refine loadr57 rfl (.tmp 1) rfl b1 rfl r1 ?_)
        | (with_reducible refine storer57 rfl (.tmp 0) (.tmp 32) rfl b0 _ rfl rfl q1 ?_))
      exact retr57 rfl b0 rfl (q1.setRow _) rfl ⟨rfl, below_setRow k1 (by have := HB.out; omega) _⟩
theorem cst_table : ∀ i, i < 24 → cst 24 0 i = co i := by decide +kernel
end Go.Proofs.YtgjcofneecebjaaDoor
