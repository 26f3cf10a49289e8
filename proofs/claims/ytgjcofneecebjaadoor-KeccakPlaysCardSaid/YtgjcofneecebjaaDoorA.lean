/- Rows of numbers in memory, of any kind of integer, with what lies behind them; a sponge in memory. -/
import Derived.Test.YtgjcofneecebjaaDoorRows
import Derived.WalkKit
import Derived.ProofKit
import Derived.OpenShut
import Derived.Lib.Hide
import Derived.Lib.EndianBits
import Derived.Deep.QuietTactic
import Derived.BigQuiet
import Derived.StillTailTactics
import Derived.Deep.RegionWith
import Derived.Deep.LoopGhost
import Derived.Laws.AppendOwn
import Derived.Deep.MidRow
namespace Go.Proofs.YtgjcofneecebjaaDoor
open Go.ChangeShapes Go.WideShapes Go.ChangeAt Go.RowKit
set_option linter.unusedSimpArgs false
set_option linter.unusedVariables false

/-- n numbers as the cells of an array. -/
def arr (k : IntKind) (n : Nat) (f : Nat → Int) : Array Value := ((List.range n).map fun i => Value.int k (f i)).toArray
theorem arr_size (k : IntKind) (n : Nat) (f : Nat → Int) : (arr k n f).size = n := by simp [arr]
theorem arr_get (k : IntKind) (n : Nat) (f : Nat → Int) (i : Nat) (h : i < n) : (arr k n f)[i]? = some (.int k (f i)) := by
  simp [arr, h]
theorem arr_at (k : IntKind) (n : Nat) (f : Nat → Int) (i : Nat) (h : i < (arr k n f).size) : (arr k n f)[i] = .int k (f i) := by simp [arr]
theorem arr_congr {k : IntKind} {n : Nat} {f g : Nat → Int} (h : ∀ i, i < n → f i = g i) : arr k n f = arr k n g := by
  unfold arr; congr 1; apply List.map_congr_left; intro i hi; rw [h i (List.mem_range.1 hi)]
def upd (f : Nat → Int) (k : Nat) (v : Int) : Nat → Int := fun i => if i = k then v else f i
theorem arr_set (k : IntKind) (n : Nat) (f : Nat → Int) (i : Nat) (v : Int) : (arr k n f).setIfInBounds i (.int k v) = arr k n (upd f i v) := by
  apply Array.ext
  · simp [arr]
  · intro j h1 h2
    by_cases h : i = j
    · subst h; simp [arr, upd]
    · have h' : j ≠ i := fun e => h e.symm
      simp [arr, upd, h, h']
theorem tail_set (a tl : Array Value) (i : Nat) (v : Value) (hi : i < a.size) : (a ++ tl).setIfInBounds i v = a.setIfInBounds i v ++ tl := by
  rw [Array.setIfInBounds_append, if_pos hi]
theorem arr_one (k : IntKind) (n : Nat) (f : Nat → Int) : (arr k n f).all (·.oneCell') = true :=
  Array.all_eq_true_iff_forall_mem.2 (fun v hv => by simp [arr] at hv; obtain ⟨i, _, rfl⟩ := hv; rfl)

/-- Block b: n numbers, and behind them what tl says. -/
structure Row (w : World) (b : Nat) (t : TypeId) (k : IntKind) (n : Nat) (f : Nat → Int) (tl : Array Value) : Prop where
  at_ : w.heap[b]? = some (.cells (arr k n f ++ tl) t (0, 0))
section
variable {w w' : World} {b n : Nat} {t : TypeId} {k : IntKind} {f : Nat → Int} {tl : Array Value}
theorem Row.lt (h : Row w b t k n f tl) : b < w.heap.size := by
  rcases Nat.lt_or_ge b w.heap.size with g | g
  · exact g
  · have := h.at_; rw [Array.getElem?_eq_none g] at this; cases this
theorem Row.cell (h : Row w b t k n f tl) (i : Nat) (hi : i < n) : w.cell? ⟨b, i, none⟩ = some (.int k (f i)) := by
  rw [cell_of_row w b i _ t _ h.at_, Array.getElem?_append_left (by rw [arr_size]; exact hi), arr_get k n f i hi]
theorem Row.cellTl (h : Row w b t k n f tl) (i : Nat) : w.cell? ⟨b, n + i, none⟩ = tl[i]? := by
  rw [cell_of_row w b _ _ t _ h.at_, Array.getElem?_append_right (by rw [arr_size]; omega), arr_size]
  congr 1; omega
theorem Row.frozen (h : Row w b t k n f tl) (i : Nat) : w.frozen? ⟨b, i, none⟩ = false := frozen_of_row w b i _ t h.at_
theorem Row.set (h : Row w b t k n f tl) (i : Nat) (v : Int) (hi : i < n) : Row (w.setCell ⟨b, i, none⟩ (.int k v)) b t k n (upd f i v) tl :=
  ⟨by rw [heap_setCell_same w b i _ t _ h.at_, tail_set _ _ _ _ (by rw [arr_size]; exact hi), arr_set]⟩
theorem Row.setTl (h : Row w b t k n f tl) (i : Nat) (v : Value) : Row (w.setCell ⟨b, n + i, none⟩ v) b t k n f (tl.setIfInBounds i v) :=
  ⟨by
    rw [heap_setCell_same w b _ _ t _ h.at_]
    rw [Array.setIfInBounds_append, if_neg (by rw [arr_size]; omega), arr_size, Nat.add_sub_cancel_left]⟩
theorem Row.other (h : Row w b t k n f tl) (a : Addr) (v : Value) (hb : b ≠ a.block) : Row (w.setCell a v) b t k n f tl :=
  ⟨by rw [heap_setCell_other w a b v hb]; exact h.at_⟩
theorem Row.alloc (h : Row w b t k n f tl) (o : Obj) : Row (w.alloc o) b t k n f tl :=
  ⟨(Below.heap_alloc w o b h.lt).trans h.at_⟩
theorem Row.new (w : World) (t : TypeId) (k : IntKind) (n : Nat) (f : Nat → Int) : Row (w.alloc (.cells (arr k n f) t)) w.heap.size t k n f #[] := ⟨by simpa using heap_alloc_new w _⟩
theorem Row.drew (h : Row w b t k n f tl) : Row w.drew b t k n f tl := ⟨h.at_⟩
theorem Row.below {B : Nat} (h : Row w b t k n f tl) (j : Below B w w') (hb : b < B) : Row w' b t k n f tl :=
  ⟨by rw [j.block b hb]; exact h.at_⟩
theorem Row.grown {r : Option Nat} (h : Row w b t k n f tl) (j : w.grownBy w' r) (hb : some b ≠ r) : Row w' b t k n f tl :=
  ⟨by rw [j.block b h.lt hb]; exact h.at_⟩
theorem Row.congr {g : Nat → Int} (h : Row w b t k n f tl) (e : ∀ i, i < n → f i = g i) : Row w b t k n g tl :=
  ⟨by rw [← arr_congr e]; exact h.at_⟩
theorem Row.setRow {m : Nat} (h : Row w b t k n f tl) (g : Nat → Int) : Row (w.setRow b (arr k m g)) b t k m g #[] :=
  ⟨by rw [setRow_heap w b _ _ t _ h.at_]; simp⟩
theorem Row.setRow_other {c : Nat} (h : Row w b t k n f tl) (cs : Array Value) (hb : b ≠ c) : Row (w.setRow c cs) b t k n f tl :=
  ⟨(_root_.Go.setRow_other w c b cs hb).trans h.at_⟩
end
theorem below_setRow {B : Nat} {a w : World} (h : Below B a w) {g : Nat} (hg : B ≤ g) (cs : Array Value) : Below B a (w.setRow g cs) :=
  h.trans ⟨rfl, rfl, rfl, by simp, fun k hk => setRow_other w g k cs (by omega)⟩
/-- A table that came in: its block's type and frozen range are not looked at. -/
structure TRow (w : World) (b : Nat) (k : IntKind) (n : Nat) (f : Nat → Int) : Prop where
  at_ : ∃ t fz, w.heap[b]? = some (.cells (arr k n f) t fz)
section
variable {w w' : World} {b n : Nat} {k : IntKind} {f : Nat → Int}
theorem TRow.lt (h : TRow w b k n f) : b < w.heap.size := by
  obtain ⟨t, fz, h⟩ := h.at_
  rcases Nat.lt_or_ge b w.heap.size with g | g
  · exact g
  · rw [Array.getElem?_eq_none g] at h; cases h
theorem TRow.cell (h : TRow w b k n f) (i : Nat) (hi : i < n) : w.cell? ⟨b, i, none⟩ = some (.int k (f i)) := by
  obtain ⟨t, fz, h⟩ := h.at_
  rw [cell_of_row w b i _ t _ h, arr_get k n f i hi]
theorem TRow.drew (h : TRow w b k n f) : TRow w.drew b k n f := ⟨h.at_⟩
theorem TRow.other (h : TRow w b k n f) (a : Addr) (v : Value) (hb : b ≠ a.block) : TRow (w.setCell a v) b k n f := by
  obtain ⟨t, fz, h⟩ := h.at_
  exact ⟨t, fz, by rw [heap_setCell_other w a b v hb]; exact h⟩
theorem TRow.alloc (h : TRow w b k n f) (o : Obj) : TRow (w.alloc o) b k n f := by
  have hl := h.lt
  obtain ⟨t, fz, h⟩ := h.at_
  exact ⟨t, fz, (Below.heap_alloc w o b hl).trans h⟩
theorem TRow.below {B : Nat} (h : TRow w b k n f) (j : Below B w w') (hb : b < B) : TRow w' b k n f := by
  obtain ⟨t, fz, h⟩ := h.at_
  exact ⟨t, fz, by rw [j.block b hb]; exact h⟩
theorem TRow.grown {r : Option Nat} (h : TRow w b k n f) (j : w.grownBy w' r) (hb : some b ≠ r) : TRow w' b k n f := by
  have hl := h.lt
  obtain ⟨t, fz, h⟩ := h.at_
  exact ⟨t, fz, by rw [j.block b hl hb]; exact h⟩
theorem TRow.setRow_other {c : Nat} (h : TRow w b k n f) (cs : Array Value) (hb : b ≠ c) : TRow (w.setRow c cs) b k n f := by
  obtain ⟨t, fz, h⟩ := h.at_
  exact ⟨t, fz, (_root_.Go.setRow_other w c b cs hb).trans h⟩
end


/-- Block g: a sponge with rate rt, end en, the words W, so many bytes since its last change, and whether it gives. -/
structure Spg (w : World) (g : Nat) (rt en : Int) (W : Nat → Int) (at_ : Int) (gv : Bool) : Prop where
  is : w.heap[g]? = some (.cells (#[.int .i64 rt, .int .u8 en] ++ (arr .u64 25 W ++ #[.int .i64 at_, .bool gv])) 45 (0, 0))
theorem pre_set (a b tl : Array Value) (i : Nat) (v : Value) (hi : i < b.size) : (a ++ (b ++ tl)).setIfInBounds (a.size + i) v = a ++ (b.setIfInBounds i v ++ tl) := by
  rw [Array.setIfInBounds_append, if_neg (by omega), Nat.add_sub_cancel_left, Array.setIfInBounds_append, if_pos hi]
theorem pre_setTl (a b tl : Array Value) (i : Nat) (v : Value) : (a ++ (b ++ tl)).setIfInBounds (a.size + (b.size + i)) v = a ++ (b ++ tl.setIfInBounds i v) := by
  rw [Array.setIfInBounds_append, if_neg (by omega), Nat.add_sub_cancel_left, Array.setIfInBounds_append, if_neg (by omega), Nat.add_sub_cancel_left]
section
variable {w w' : World} {g : Nat} {rt en at_ : Int} {W : Nat → Int} {gv : Bool}
theorem Spg.lt (h : Spg w g rt en W at_ gv) : g < w.heap.size := by
  rcases Nat.lt_or_ge g w.heap.size with k | k
  · exact k
  · have := h.is; rw [Array.getElem?_eq_none k] at this; cases this
theorem Spg.rate (h : Spg w g rt en W at_ gv) : w.cell? ⟨g, 0, none⟩ = some (.int .i64 rt) := by
  rw [cell_of_row w g 0 _ 45 _ h.is, Array.getElem?_append_left (by simp)]; rfl
theorem Spg.end_ (h : Spg w g rt en W at_ gv) : w.cell? ⟨g, 1, none⟩ = some (.int .u8 en) := by
  rw [cell_of_row w g 1 _ 45 _ h.is, Array.getElem?_append_left (by simp)]; rfl
theorem Spg.cell (h : Spg w g rt en W at_ gv) (i : Nat) (hi : i < 25) : w.cell? ⟨g, 2 + i, none⟩ = some (.int .u64 (W i)) := by
  rw [cell_of_row w g (2 + i) _ 45 _ h.is, Array.getElem?_append_right (by simp), Array.getElem?_append_left (by rw [arr_size]; simp; omega)]
  have : 2 + i - (#[Value.int .i64 rt, .int .u8 en] : Array Value).size = i := by simp
  rw [this, arr_get _ _ _ _ hi]
theorem Spg.cellA (h : Spg w g rt en W at_ gv) (i : Nat) (hi : i < 25) : w.cell? ((⟨g, 2, none⟩ : Addr).add i) = some (.int .u64 (W i)) := by
  rw [Addr.add_mid]; exact h.cell i hi
theorem Spg.at27 (h : Spg w g rt en W at_ gv) : w.cell? ⟨g, 27, none⟩ = some (.int .i64 at_) := by
  rw [cell_of_row w g 27 _ 45 _ h.is, Array.getElem?_append_right (by simp), Array.getElem?_append_right (by rw [arr_size]; simp)]
  simp [arr_size]
theorem Spg.gives (h : Spg w g rt en W at_ gv) : w.cell? ⟨g, 28, none⟩ = some (.bool gv) := by
  rw [cell_of_row w g 28 _ 45 _ h.is, Array.getElem?_append_right (by simp), Array.getElem?_append_right (by rw [arr_size]; simp)]
  simp [arr_size]
theorem Spg.frozen (h : Spg w g rt en W at_ gv) (i : Nat) : w.frozen? ⟨g, i, none⟩ = false := frozen_of_row w g i _ 45 h.is
theorem Spg.frozenA (h : Spg w g rt en W at_ gv) (i : Nat) : w.frozen? ((⟨g, 2, none⟩ : Addr).add i) = false := by rw [Addr.add_mid]; exact h.frozen _
theorem Spg.set (h : Spg w g rt en W at_ gv) (i : Nat) (v : Int) (hi : i < 25) : Spg (w.setCell ⟨g, 2 + i, none⟩ (.int .u64 v)) g rt en (upd W i v) at_ gv :=
  ⟨by rw [heap_setCell_same w g (2 + i) _ 45 _ h.is, ← arr_set]
      have := pre_set #[.int .i64 rt, .int .u8 en] (arr .u64 25 W) #[.int .i64 at_, .bool gv] i (.int .u64 v) (by rw [arr_size]; exact hi)
      exact congrArg (fun a => some (Obj.cells a 45 (0, 0))) this⟩
theorem Spg.setA (h : Spg w g rt en W at_ gv) (i : Nat) (v : Int) (hi : i < 25) : Spg (w.setCell ((⟨g, 2, none⟩ : Addr).add i) (.int .u64 v)) g rt en (upd W i v) at_ gv := by
  rw [Addr.add_mid]; exact h.set i v hi
theorem Spg.setAt (h : Spg w g rt en W at_ gv) (v : Int) : Spg (w.setCell ⟨g, 27, none⟩ (.int .i64 v)) g rt en W v gv :=
  ⟨by rw [heap_setCell_same w g 27 _ 45 _ h.is]
      have := pre_setTl #[.int .i64 rt, .int .u8 en] (arr .u64 25 W) #[.int .i64 at_, .bool gv] 0 (.int .i64 v)
      rw [arr_size] at this
      exact congrArg (fun a => some (Obj.cells a 45 (0, 0))) this⟩
theorem Spg.setGives (h : Spg w g rt en W at_ gv) (v : Bool) : Spg (w.setCell ⟨g, 28, none⟩ (.bool v)) g rt en W at_ v :=
  ⟨by rw [heap_setCell_same w g 28 _ 45 _ h.is]
      have := pre_setTl #[.int .i64 rt, .int .u8 en] (arr .u64 25 W) #[.int .i64 at_, .bool gv] 1 (.bool v)
      rw [arr_size] at this
      exact congrArg (fun a => some (Obj.cells a 45 (0, 0))) this⟩
theorem Spg.keep (h : Spg w g rt en W at_ gv) (k : w'.heap[g]? = w.heap[g]?) : Spg w' g rt en W at_ gv := ⟨k.trans h.is⟩
theorem Spg.other (h : Spg w g rt en W at_ gv) (a : Addr) (v : Value) (hb : g ≠ a.block) : Spg (w.setCell a v) g rt en W at_ gv := h.keep (heap_setCell_other w a g v hb)
theorem Spg.alloc (h : Spg w g rt en W at_ gv) (o : Obj) : Spg (w.alloc o) g rt en W at_ gv := h.keep (Below.heap_alloc w o g h.lt)
theorem Spg.drew (h : Spg w g rt en W at_ gv) : Spg w.drew g rt en W at_ gv := ⟨h.is⟩
theorem Spg.below {B : Nat} (h : Spg w g rt en W at_ gv) (j : Below B w w') (hb : g < B) : Spg w' g rt en W at_ gv := h.keep (j.block g hb)
theorem Spg.grown {r : Option Nat} (h : Spg w g rt en W at_ gv) (j : w.grownBy w' r) (hb : some g ≠ r) : Spg w' g rt en W at_ gv := h.keep (j.block g h.lt hb)
theorem Spg.congr {V : Nat → Int} (h : Spg w g rt en W at_ gv) (e : ∀ i, i < 25 → W i = V i) : Spg w g rt en V at_ gv := ⟨by rw [← arr_congr e]; exact h.is⟩
end

theorem info57 : (Tryd.prog.info? 57).map (·.size) = some 24 := by kernel_rfl
/-- A row of 24, loaded whole. -/
theorem load57 {ops : Array Oper} {rest : List Oper} {o : Oper} {a : Act} {w : World} {Q : Exit → Act → World → Prop} (hgd : o.guard = none) (x : Operand) (ho : o.op = .load 57 x)
    (b off : Nat) (hx : a.eval x = .pointer (some ⟨b, off, none⟩)) {f : Nat → Int} (r : ∀ i, i < 24 → w.cell? ⟨b, off + i, none⟩ = some (.int .u64 (f i)))
    (h : wpList Tryd.prog ops Q rest (a.put o.dst (.agg (arr .u64 24 f))) w) : wpList Tryd.prog ops Q (o :: rest) a w :=
  wpList_load_mid hgd 57 x ho b off hx (arr .u64 24 f).toList _ (fun j v hv => by
    have hj : j < 24 := by
      have := (List.getElem?_eq_some_iff.1 hv).1
      simpa [arr_size] using this
    have : (arr .u64 24 f)[j]? = some v := by simpa using hv
    rw [arr_get .u64 24 f j hj] at this
    rw [r j hj, ← this]) Tryd.underlying57 rfl (by simp [arr_size, info57]) (by simpa using h)
theorem index57 (f : Nat → Int) (w : World) (k : Nat) (hk : k < 24) : (Instr.index 57 (.agg (arr .u64 24 f)) (.int .i64 k)).run Tryd.prog w = .ok (.int .u64 (f k)) w := by
  have h1 : (k : Int) < (24 : Int) := by omega
  have h0 : (0 : Int) ≤ (k : Int) := by omega
  have h2 : (arr .u64 24 f)[k]? = some (.int .u64 (f k)) := arr_get _ _ _ _ hk
  simp [Instr.index, run_underlying Tryd.underlying57, asIntOf, Go.part, Sem.run_bind, h0, h1, arr_at, arr_size, hk]

theorem info61 : (Tryd.prog.info? 61).map (·.size) = some 24 := by kernel_rfl
/-- A row of 24, loaded whole. -/
theorem load61 {ops : Array Oper} {rest : List Oper} {o : Oper} {a : Act} {w : World} {Q : Exit → Act → World → Prop} (hgd : o.guard = none) (x : Operand) (ho : o.op = .load 61 x)
    (b off : Nat) (hx : a.eval x = .pointer (some ⟨b, off, none⟩)) {f : Nat → Int} (r : ∀ i, i < 24 → w.cell? ⟨b, off + i, none⟩ = some (.int .i64 (f i)))
    (h : wpList Tryd.prog ops Q rest (a.put o.dst (.agg (arr .i64 24 f))) w) : wpList Tryd.prog ops Q (o :: rest) a w :=
  wpList_load_mid hgd 61 x ho b off hx (arr .i64 24 f).toList _ (fun j v hv => by
    have hj : j < 24 := by
      have := (List.getElem?_eq_some_iff.1 hv).1
      simpa [arr_size] using this
    have : (arr .i64 24 f)[j]? = some v := by simpa using hv
    rw [arr_get .i64 24 f j hj] at this
    rw [r j hj, ← this]) Tryd.underlying61 rfl (by simp [arr_size, info61]) (by simpa using h)
theorem index61 (f : Nat → Int) (w : World) (k : Nat) (hk : k < 24) : (Instr.index 61 (.agg (arr .i64 24 f)) (.int .i64 k)).run Tryd.prog w = .ok (.int .i64 (f k)) w := by
  have h1 : (k : Int) < (24 : Int) := by omega
  have h0 : (0 : Int) ≤ (k : Int) := by omega
  have h2 : (arr .i64 24 f)[k]? = some (.int .i64 (f k)) := arr_get _ _ _ _ hk
  simp [Instr.index, run_underlying Tryd.underlying61, asIntOf, Go.part, Sem.run_bind, h0, h1, arr_at, arr_size, hk]

theorem info46 : (Tryd.prog.info? 46).map (·.size) = some 5 := by kernel_rfl
/-- A row of 5, loaded whole. -/
theorem load46 {ops : Array Oper} {rest : List Oper} {o : Oper} {a : Act} {w : World} {Q : Exit → Act → World → Prop} (hgd : o.guard = none) (x : Operand) (ho : o.op = .load 46 x)
    (b off : Nat) (hx : a.eval x = .pointer (some ⟨b, off, none⟩)) {f : Nat → Int} (r : ∀ i, i < 5 → w.cell? ⟨b, off + i, none⟩ = some (.int .u64 (f i)))
    (h : wpList Tryd.prog ops Q rest (a.put o.dst (.agg (arr .u64 5 f))) w) : wpList Tryd.prog ops Q (o :: rest) a w :=
  wpList_load_mid hgd 46 x ho b off hx (arr .u64 5 f).toList _ (fun j v hv => by
    have hj : j < 5 := by
      have := (List.getElem?_eq_some_iff.1 hv).1
      simpa [arr_size] using this
    have : (arr .u64 5 f)[j]? = some v := by simpa using hv
    rw [arr_get .u64 5 f j hj] at this
    rw [r j hj, ← this]) Tryd.underlying46 rfl (by simp [arr_size, info46]) (by simpa using h)
theorem index46 (f : Nat → Int) (w : World) (k : Nat) (hk : k < 5) : (Instr.index 46 (.agg (arr .u64 5 f)) (.int .i64 k)).run Tryd.prog w = .ok (.int .u64 (f k)) w := by
  have h1 : (k : Int) < (5 : Int) := by omega
  have h0 : (0 : Int) ≤ (k : Int) := by omega
  have h2 : (arr .u64 5 f)[k]? = some (.int .u64 (f k)) := arr_get _ _ _ _ hk
  simp [Instr.index, run_underlying Tryd.underlying46, asIntOf, Go.part, Sem.run_bind, h0, h1, arr_at, arr_size, hk]

theorem zero46 (w : World) : (zeroValue 46).run Tryd.prog w = .ok (.agg (arr .u64 5 fun _ => 0)) w := by kernel_rfl
theorem store46 {ops : Array Oper} {rest : List Oper} {o : Oper} {a : Act} {w : World} {Q : Exit → Act → World → Prop} (hgd : o.guard = none) (x y : Operand) (ho : o.op = .store 46 x y)
    (b : Nat) (g : Nat → Int) (hx : a.eval x = .pointer (some ⟨b, 0, none⟩)) (hy : a.eval y = .agg (arr .u64 5 g)) {u : TypeId} {f : Nat → Int} (r : Row w b u .u64 5 f #[])
    (h : wpList Tryd.prog ops Q rest (a.put o.dst undef) (w.setRow b (arr .u64 5 g))) : wpList Tryd.prog ops Q (o :: rest) a w :=
  wpList_store_row hgd 46 x y ho b _ hx hy u _ (by simpa using r.at_) (by rw [arr_size]; exact info46) (by simp [arr_size]) (arr_one _ _ _) h
end Go.Proofs.YtgjcofneecebjaaDoor
