/- The reference's block, walked. -/
import Derived.Test.YtinmmenjlhlpmaaDoorD
import Derived.Test.YtinmmenjlhlpmaaDoorQ
import Derived.Outline
import Derived.Deep.LoopGhost
namespace Go.Proofs.YtinmmenjlhlpmaaDoor
open Go.ChangeShapes Go.WideShapes Go.ChangeAt Go.RowKit
set_option linter.unusedSimpArgs false
set_option linter.unusedVariables false

theorem zero36 (w : World) : (zeroValue 36).run Tryd.prog w = .ok (.agg (arr .u32 8 fun _ => 0)) w := by kernel_rfl
theorem info36 : (Tryd.prog.info? 36).map (·.size) = some 8 := by kernel_rfl
theorem load36 {ops : Array Oper} {rest : List Oper} {o : Oper} {a : Act} {w : World} {Q : Exit → Act → World → Prop} (hgd : o.guard = none) (x : Operand) (ho : o.op = .load 36 x)
    (b : Nat) (hx : a.eval x = .pointer (some ⟨b, 0, none⟩)) {u : TypeId} {f : Nat → Int} (r : Row w b u .u32 8 f #[])
    (h : wpList Tryd.prog ops Q rest (a.put o.dst (.agg (arr .u32 8 f))) w) : wpList Tryd.prog ops Q (o :: rest) a w :=
  wpList_load_row hgd 36 x ho b hx u _ _ _ (by simpa using r.at_) Tryd.underlying36 rfl (by rw [arr_size]; exact info36) h
theorem store36 {ops : Array Oper} {rest : List Oper} {o : Oper} {a : Act} {w : World} {Q : Exit → Act → World → Prop} (hgd : o.guard = none) (x y : Operand) (ho : o.op = .store 36 x y)
    (b : Nat) (g : Nat → Int) (hx : a.eval x = .pointer (some ⟨b, 0, none⟩)) (hy : a.eval y = .agg (arr .u32 8 g)) {u : TypeId} {f : Nat → Int} (r : Row w b u .u32 8 f #[])
    (h : wpList Tryd.prog ops Q rest (a.put o.dst undef) (w.setRow b (arr .u32 8 g))) : wpList Tryd.prog ops Q (o :: rest) a w :=
  wpList_store_row hgd 36 x y ho b _ hx hy u _ (by simpa using r.at_) (by rw [arr_size]; exact info36) (by simp [arr_size]) (arr_one _ _ _) h
theorem ret36 {fn : Func} {p : Tmp} (h : fn.results = #[.cell p 36]) {R : Ending → World → Prop} {a : Act} {w : World} (b : Nat) {u : TypeId} {f : Nat → Int} (hp : a.tmps.getD p undef = .pointer (some ⟨b, 0, none⟩)) (r : Row w b u .u32 8 f #[])
    (hd : a.defers = []) (hR : R (.returned (.agg (arr .u32 8 f))) w) : bodyPost Tryd.prog fn R .ret a w :=
  bodyPost_ret (results_cell_row h _ _ b u _ _ _ hp (by simpa using r.at_) Tryd.underlying36 rfl (by rw [arr_size]; exact info36)) hd hR
theorem arr8 (f : Nat → Int) : arr .u32 8 f = #[.int .u32 (f 0), .int .u32 (f 1), .int .u32 (f 2), .int .u32 (f 3), .int .u32 (f 4), .int .u32 (f 5), .int .u32 (f 6), .int .u32 (f 7)] := rfl
theorem kl_eq : (#[.int .u32 1116352408, .int .u32 1899447441, .int .u32 3049323471, .int .u32 3921009573, .int .u32 961987163, .int .u32 1508970993, .int .u32 2453635748, .int .u32 2870763221, .int .u32 3624381080, .int .u32 310598401, .int .u32 607225278, .int .u32 1426881987, .int .u32 1925078388, .int .u32 2162078206, .int .u32 2614888103, .int .u32 3248222580, .int .u32 3835390401, .int .u32 4022224774, .int .u32 264347078, .int .u32 604807628, .int .u32 770255983, .int .u32 1249150122, .int .u32 1555081692, .int .u32 1996064986, .int .u32 2554220882, .int .u32 2821834349, .int .u32 2952996808, .int .u32 3210313671, .int .u32 3336571891, .int .u32 3584528711, .int .u32 113926993, .int .u32 338241895, .int .u32 666307205, .int .u32 773529912, .int .u32 1294757372, .int .u32 1396182291, .int .u32 1695183700, .int .u32 1986661051, .int .u32 2177026350, .int .u32 2456956037, .int .u32 2730485921, .int .u32 2820302411, .int .u32 3259730800, .int .u32 3345764771, .int .u32 3516065817, .int .u32 3600352804, .int .u32 4094571909, .int .u32 275423344, .int .u32 430227734, .int .u32 506948616, .int .u32 659060556, .int .u32 883997877, .int .u32 958139571, .int .u32 1322822218, .int .u32 1537002063, .int .u32 1747873779, .int .u32 1955562222, .int .u32 2024104815, .int .u32 2227730452, .int .u32 2361852424, .int .u32 2428436474, .int .u32 2756734187, .int .u32 3204031479, .int .u32 3329325298] : Array Value) = arr .u32 64 fun i => wd (kk i) := by kernel_rfl
set_option maxRecDepth 20000 in
set_option maxHeartbeats 1000000 in
theorem kk_arr (w : World) : Calls Tryd.prog 17 #[] w fun e w' => e = .returned (.agg (arr .u32 64 fun i => wd (kk i))) ∧ Below w.heap.size w w' := by
  have hz := zero43
  have r0 := Row.new w 43 .u32 64 (fun _ => 0)
  have r1 := r0.setRow (m := 64) (fun i => wd (kk i))
  go_enter Tryd.func17, Tryd.ntmps17
  go_wp2_with (first | (with_reducible refine store43 rfl (.tmp 0) (.tmp 1) rfl w.heap.size (fun i => wd (kk i)) rfl ?hy r0 ?_))
  case hy => exact congrArg Value.agg kl_eq
  exact ret43 rfl w.heap.size rfl r1 rfl ⟨rfl, below_setRow ((Below.refl _ _).alloc (Nat.le_refl _) _) (Nat.le_refl _) _⟩
end Go.Proofs.YtinmmenjlhlpmaaDoor
