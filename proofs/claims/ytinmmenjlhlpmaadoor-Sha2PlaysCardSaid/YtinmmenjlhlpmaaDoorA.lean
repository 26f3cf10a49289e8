/- Rows of numbers in memory, of any kind of integer, with what lies behind them; and a word turned to the right. -/
import Derived.Test.YtinmmenjlhlpmaaDoorRows
import Derived.WalkKit
import Derived.ProofKit
import Derived.OpenShut
import Derived.Lib.Hide
import Derived.Lib.EndianBits
import Derived.Deep.QuietTactic
import Derived.BigQuiet
import Derived.StillTailTactics
import Derived.Deep.RegionWith
import Derived.Deep.LoopGhost
import Derived.Laws.AppendOwn
namespace Go.Proofs.YtinmmenjlhlpmaaDoor
open Go.ChangeShapes Go.WideShapes Go.ChangeAt Go.RowKit
set_option linter.unusedSimpArgs false
set_option linter.unusedVariables false

/-- n numbers as the cells of an array. -/
def arr (k : IntKind) (n : Nat) (f : Nat → Int) : Array Value := ((List.range n).map fun i => Value.int k (f i)).toArray
theorem arr_size (k : IntKind) (n : Nat) (f : Nat → Int) : (arr k n f).size = n := by simp [arr]
theorem arr_get (k : IntKind) (n : Nat) (f : Nat → Int) (i : Nat) (h : i < n) : (arr k n f)[i]? = some (.int k (f i)) := by
  simp [arr, h]
theorem arr_congr {k : IntKind} {n : Nat} {f g : Nat → Int} (h : ∀ i, i < n → f i = g i) : arr k n f = arr k n g := by
  unfold arr; congr 1; apply List.map_congr_left; intro i hi; rw [h i (List.mem_range.1 hi)]
def upd (f : Nat → Int) (k : Nat) (v : Int) : Nat → Int := fun i => if i = k then v else f i
theorem arr_set (k : IntKind) (n : Nat) (f : Nat → Int) (i : Nat) (v : Int) : (arr k n f).setIfInBounds i (.int k v) = arr k n (upd f i v) := by
  apply Array.ext
  · simp [arr]
  · intro j h1 h2
    by_cases h : i = j
    · subst h; simp [arr, upd]
    · have h' : j ≠ i := fun e => h e.symm
      simp [arr, upd, h, h']
theorem tail_set (a tl : Array Value) (i : Nat) (v : Value) (hi : i < a.size) : (a ++ tl).setIfInBounds i v = a.setIfInBounds i v ++ tl := by
  rw [Array.setIfInBounds_append, if_pos hi]
theorem arr_one (k : IntKind) (n : Nat) (f : Nat → Int) : (arr k n f).all (·.oneCell') = true :=
  Array.all_eq_true_iff_forall_mem.2 (fun v hv => by simp [arr] at hv; obtain ⟨i, _, rfl⟩ := hv; rfl)

/-- Block b: n numbers, and behind them what tl says. -/
structure Row (w : World) (b : Nat) (t : TypeId) (k : IntKind) (n : Nat) (f : Nat → Int) (tl : Array Value) : Prop where
  at_ : w.heap[b]? = some (.cells (arr k n f ++ tl) t (0, 0))
section
variable {w w' : World} {b n : Nat} {t : TypeId} {k : IntKind} {f : Nat → Int} {tl : Array Value}
theorem Row.lt (h : Row w b t k n f tl) : b < w.heap.size := by
  rcases Nat.lt_or_ge b w.heap.size with g | g
  · exact g
  · have := h.at_; rw [Array.getElem?_eq_none g] at this; cases this
theorem Row.cell (h : Row w b t k n f tl) (i : Nat) (hi : i < n) : w.cell? ⟨b, i, none⟩ = some (.int k (f i)) := by
  rw [cell_of_row w b i _ t _ h.at_, Array.getElem?_append_left (by rw [arr_size]; exact hi), arr_get k n f i hi]
theorem Row.cellTl (h : Row w b t k n f tl) (i : Nat) : w.cell? ⟨b, n + i, none⟩ = tl[i]? := by
  rw [cell_of_row w b _ _ t _ h.at_, Array.getElem?_append_right (by rw [arr_size]; omega), arr_size]
  congr 1; omega
theorem Row.frozen (h : Row w b t k n f tl) (i : Nat) : w.frozen? ⟨b, i, none⟩ = false := frozen_of_row w b i _ t h.at_
theorem Row.set (h : Row w b t k n f tl) (i : Nat) (v : Int) (hi : i < n) : Row (w.setCell ⟨b, i, none⟩ (.int k v)) b t k n (upd f i v) tl :=
  ⟨by rw [heap_setCell_same w b i _ t _ h.at_, tail_set _ _ _ _ (by rw [arr_size]; exact hi), arr_set]⟩
theorem Row.setTl (h : Row w b t k n f tl) (i : Nat) (v : Value) : Row (w.setCell ⟨b, n + i, none⟩ v) b t k n f (tl.setIfInBounds i v) :=
  ⟨by
    rw [heap_setCell_same w b _ _ t _ h.at_]
    rw [Array.setIfInBounds_append, if_neg (by rw [arr_size]; omega), arr_size, Nat.add_sub_cancel_left]⟩
theorem Row.other (h : Row w b t k n f tl) (a : Addr) (v : Value) (hb : b ≠ a.block) : Row (w.setCell a v) b t k n f tl :=
  ⟨by rw [heap_setCell_other w a b v hb]; exact h.at_⟩
theorem Row.alloc (h : Row w b t k n f tl) (o : Obj) : Row (w.alloc o) b t k n f tl :=
  ⟨(Below.heap_alloc w o b h.lt).trans h.at_⟩
theorem Row.new (w : World) (t : TypeId) (k : IntKind) (n : Nat) (f : Nat → Int) : Row (w.alloc (.cells (arr k n f) t)) w.heap.size t k n f #[] := ⟨by simpa using heap_alloc_new w _⟩
theorem Row.drew (h : Row w b t k n f tl) : Row w.drew b t k n f tl := ⟨h.at_⟩
theorem Row.below {B : Nat} (h : Row w b t k n f tl) (j : Below B w w') (hb : b < B) : Row w' b t k n f tl :=
  ⟨by rw [j.block b hb]; exact h.at_⟩
theorem Row.grown {r : Option Nat} (h : Row w b t k n f tl) (j : w.grownBy w' r) (hb : some b ≠ r) : Row w' b t k n f tl :=
  ⟨by rw [j.block b h.lt hb]; exact h.at_⟩
theorem Row.congr {g : Nat → Int} (h : Row w b t k n f tl) (e : ∀ i, i < n → f i = g i) : Row w b t k n g tl :=
  ⟨by rw [← arr_congr e]; exact h.at_⟩
theorem Row.setRow {m : Nat} (h : Row w b t k n f tl) (g : Nat → Int) : Row (w.setRow b (arr k m g)) b t k m g #[] :=
  ⟨by rw [setRow_heap w b _ _ t _ h.at_]; simp⟩
theorem Row.setRow_other {c : Nat} (h : Row w b t k n f tl) (cs : Array Value) (hb : b ≠ c) : Row (w.setRow c cs) b t k n f tl :=
  ⟨(_root_.Go.setRow_other w c b cs hb).trans h.at_⟩
end
theorem below_setRow {B : Nat} {a w : World} (h : Below B a w) {g : Nat} (hg : B ≤ g) (cs : Array Value) : Below B a (w.setRow g cs) :=
  h.trans ⟨rfl, rfl, rfl, by simp, fun k hk => setRow_other w g k cs (by omega)⟩
/-- A table that came in: its block's type and frozen range are not looked at. -/
structure TRow (w : World) (b : Nat) (k : IntKind) (n : Nat) (f : Nat → Int) : Prop where
  at_ : ∃ t fz, w.heap[b]? = some (.cells (arr k n f) t fz)
section
variable {w w' : World} {b n : Nat} {k : IntKind} {f : Nat → Int}
theorem TRow.lt (h : TRow w b k n f) : b < w.heap.size := by
  obtain ⟨t, fz, h⟩ := h.at_
  rcases Nat.lt_or_ge b w.heap.size with g | g
  · exact g
  · rw [Array.getElem?_eq_none g] at h; cases h
theorem TRow.cell (h : TRow w b k n f) (i : Nat) (hi : i < n) : w.cell? ⟨b, i, none⟩ = some (.int k (f i)) := by
  obtain ⟨t, fz, h⟩ := h.at_
  rw [cell_of_row w b i _ t _ h, arr_get k n f i hi]
theorem TRow.drew (h : TRow w b k n f) : TRow w.drew b k n f := ⟨h.at_⟩
theorem TRow.other (h : TRow w b k n f) (a : Addr) (v : Value) (hb : b ≠ a.block) : TRow (w.setCell a v) b k n f := by
  obtain ⟨t, fz, h⟩ := h.at_
  exact ⟨t, fz, by rw [heap_setCell_other w a b v hb]; exact h⟩
theorem TRow.alloc (h : TRow w b k n f) (o : Obj) : TRow (w.alloc o) b k n f := by
  have hl := h.lt
  obtain ⟨t, fz, h⟩ := h.at_
  exact ⟨t, fz, (Below.heap_alloc w o b hl).trans h⟩
theorem TRow.below {B : Nat} (h : TRow w b k n f) (j : Below B w w') (hb : b < B) : TRow w' b k n f := by
  obtain ⟨t, fz, h⟩ := h.at_
  exact ⟨t, fz, by rw [j.block b hb]; exact h⟩
theorem TRow.grown {r : Option Nat} (h : TRow w b k n f) (j : w.grownBy w' r) (hb : some b ≠ r) : TRow w' b k n f := by
  have hl := h.lt
  obtain ⟨t, fz, h⟩ := h.at_
  exact ⟨t, fz, by rw [j.block b hl hb]; exact h⟩
theorem TRow.setRow_other {c : Nat} (h : TRow w b k n f) (cs : Array Value) (hb : b ≠ c) : TRow (w.setRow c cs) b k n f := by
  obtain ⟨t, fz, h⟩ := h.at_
  exact ⟨t, fz, (_root_.Go.setRow_other w c b cs hb).trans h⟩
end

theorem zero39 (w : World) : (zeroValue 39).run Tryd.prog w = .ok (.agg (arr .u32 8 fun _ => 0)) w := by kernel_rfl
theorem info39 : (Tryd.prog.info? 39).map (·.size) = some 8 := by kernel_rfl
theorem load39 {ops : Array Oper} {rest : List Oper} {o : Oper} {a : Act} {w : World} {Q : Exit → Act → World → Prop} (hgd : o.guard = none) (x : Operand) (ho : o.op = .load 39 x)
    (b : Nat) (hx : a.eval x = .pointer (some ⟨b, 0, none⟩)) {u : TypeId} {f : Nat → Int} (r : Row w b u .u32 8 f #[])
    (h : wpList Tryd.prog ops Q rest (a.put o.dst (.agg (arr .u32 8 f))) w) : wpList Tryd.prog ops Q (o :: rest) a w :=
  wpList_load_row hgd 39 x ho b hx u _ _ _ (by simpa using r.at_) Tryd.underlying39 rfl (by rw [arr_size]; exact info39) h
theorem store39 {ops : Array Oper} {rest : List Oper} {o : Oper} {a : Act} {w : World} {Q : Exit → Act → World → Prop} (hgd : o.guard = none) (x y : Operand) (ho : o.op = .store 39 x y)
    (b : Nat) (g : Nat → Int) (hx : a.eval x = .pointer (some ⟨b, 0, none⟩)) (hy : a.eval y = .agg (arr .u32 8 g)) {u : TypeId} {f : Nat → Int} (r : Row w b u .u32 8 f #[])
    (h : wpList Tryd.prog ops Q rest (a.put o.dst undef) (w.setRow b (arr .u32 8 g))) : wpList Tryd.prog ops Q (o :: rest) a w :=
  wpList_store_row hgd 39 x y ho b _ hx hy u _ (by simpa using r.at_) (by rw [arr_size]; exact info39) (by simp [arr_size]) (arr_one _ _ _) h
theorem ret39 {fn : Func} {p : Tmp} (h : fn.results = #[.cell p 39]) {R : Ending → World → Prop} {a : Act} {w : World} (b : Nat) {u : TypeId} {f : Nat → Int} (hp : a.tmps.getD p undef = .pointer (some ⟨b, 0, none⟩)) (r : Row w b u .u32 8 f #[])
    (hd : a.defers = []) (hR : R (.returned (.agg (arr .u32 8 f))) w) : bodyPost Tryd.prog fn R .ret a w :=
  bodyPost_ret (results_cell_row h _ _ b u _ _ _ hp (by simpa using r.at_) Tryd.underlying39 rfl (by rw [arr_size]; exact info39)) hd hR

theorem zero43 (w : World) : (zeroValue 43).run Tryd.prog w = .ok (.agg (arr .u32 64 fun _ => 0)) w := by kernel_rfl
theorem info43 : (Tryd.prog.info? 43).map (·.size) = some 64 := by kernel_rfl
theorem load43 {ops : Array Oper} {rest : List Oper} {o : Oper} {a : Act} {w : World} {Q : Exit → Act → World → Prop} (hgd : o.guard = none) (x : Operand) (ho : o.op = .load 43 x)
    (b : Nat) (hx : a.eval x = .pointer (some ⟨b, 0, none⟩)) {u : TypeId} {f : Nat → Int} (r : Row w b u .u32 64 f #[])
    (h : wpList Tryd.prog ops Q rest (a.put o.dst (.agg (arr .u32 64 f))) w) : wpList Tryd.prog ops Q (o :: rest) a w :=
  wpList_load_row hgd 43 x ho b hx u _ _ _ (by simpa using r.at_) Tryd.underlying43 rfl (by rw [arr_size]; exact info43) h
theorem store43 {ops : Array Oper} {rest : List Oper} {o : Oper} {a : Act} {w : World} {Q : Exit → Act → World → Prop} (hgd : o.guard = none) (x y : Operand) (ho : o.op = .store 43 x y)
    (b : Nat) (g : Nat → Int) (hx : a.eval x = .pointer (some ⟨b, 0, none⟩)) (hy : a.eval y = .agg (arr .u32 64 g)) {u : TypeId} {f : Nat → Int} (r : Row w b u .u32 64 f #[])
    (h : wpList Tryd.prog ops Q rest (a.put o.dst undef) (w.setRow b (arr .u32 64 g))) : wpList Tryd.prog ops Q (o :: rest) a w :=
  wpList_store_row hgd 43 x y ho b _ hx hy u _ (by simpa using r.at_) (by rw [arr_size]; exact info43) (by simp [arr_size]) (arr_one _ _ _) h
theorem ret43 {fn : Func} {p : Tmp} (h : fn.results = #[.cell p 43]) {R : Ending → World → Prop} {a : Act} {w : World} (b : Nat) {u : TypeId} {f : Nat → Int} (hp : a.tmps.getD p undef = .pointer (some ⟨b, 0, none⟩)) (r : Row w b u .u32 64 f #[])
    (hd : a.defers = []) (hR : R (.returned (.agg (arr .u32 64 f))) w) : bodyPost Tryd.prog fn R .ret a w :=
  bodyPost_ret (results_cell_row h _ _ b u _ _ _ hp (by simpa using r.at_) Tryd.underlying43 rfl (by rw [arr_size]; exact info43)) hd hR
end Go.Proofs.YtinmmenjlhlpmaaDoor
