/- Bytes in memory, and what is appended to them. -/
import Derived.Test.YtjabkfccfecmgaaRows
import Derived.WalkKit
import Derived.ProofKit
import Derived.OpenShut
import Derived.Lib.Hide
import Derived.Lib.EndianBits
import Derived.Deep.QuietTactic
import Derived.BigQuiet
import Derived.StillTailTactics
import Derived.Deep.RegionWith
import Derived.Deep.LoopGhost
import Derived.Laws.AppendOwn
import Derived.Deep.MidRow
import Derived.ArgAppend
import Derived.OwnWalk
import Derived.Deep.AppendLies
import Derived.Maps.AppendAt
import Derived.Lib.SlBytesConst
import Derived.Laws.IdiomStrings
import Derived.Laws.OwnMore
import Derived.Laws.IdiomCopy
import Derived.Deep.Upon
namespace Go.Proofs.Ytjabkfccfecmgaa
open Go.ChangeShapes Go.WideShapes Go.ChangeAt Go.RowKit
set_option linter.unusedSimpArgs false
set_option linter.unusedVariables false
/-- n numbers as the cells of an array. -/
def arr (k : IntKind) (n : Nat) (f : Nat → Int) : Array Value := ((List.range n).map fun i => Value.int k (f i)).toArray
theorem arr_size (k : IntKind) (n : Nat) (f : Nat → Int) : (arr k n f).size = n := by simp [arr]
theorem arr_get (k : IntKind) (n : Nat) (f : Nat → Int) (i : Nat) (h : i < n) : (arr k n f)[i]? = some (.int k (f i)) := by
  simp [arr, h]
theorem arr_at (k : IntKind) (n : Nat) (f : Nat → Int) (i : Nat) (h : i < (arr k n f).size) : (arr k n f)[i] = .int k (f i) := by simp [arr]
theorem arr_congr {k : IntKind} {n : Nat} {f g : Nat → Int} (h : ∀ i, i < n → f i = g i) : arr k n f = arr k n g := by
  unfold arr; congr 1; apply List.map_congr_left; intro i hi; rw [h i (List.mem_range.1 hi)]
def upd (f : Nat → Int) (k : Nat) (v : Int) : Nat → Int := fun i => if i = k then v else f i
theorem arr_set (k : IntKind) (n : Nat) (f : Nat → Int) (i : Nat) (v : Int) : (arr k n f).setIfInBounds i (.int k v) = arr k n (upd f i v) := by
  apply Array.ext
  · simp [arr]
  · intro j h1 h2
    by_cases h : i = j
    · subst h; simp [arr, upd]
    · have h' : j ≠ i := fun e => h e.symm
      simp [arr, upd, h, h']
theorem tail_set (a tl : Array Value) (i : Nat) (v : Value) (hi : i < a.size) : (a ++ tl).setIfInBounds i v = a.setIfInBounds i v ++ tl := by
  rw [Array.setIfInBounds_append, if_pos hi]
theorem arr_one (k : IntKind) (n : Nat) (f : Nat → Int) : (arr k n f).all (·.oneCell') = true :=
  Array.all_eq_true_iff_forall_mem.2 (fun v hv => by simp [arr] at hv; obtain ⟨i, _, rfl⟩ := hv; rfl)

def bt (A : BitVec 8) : Int := A.toNat
theorem bt_bd (A : BitVec 8) : 0 ≤ bt A ∧ bt A < 256 := ⟨Int.natCast_nonneg _, by have := A.isLt; unfold bt; omega⟩
theorem add_block (a : Addr) (n : Nat) : (a.add n).block = a.block := by unfold Addr.add; split <;> rfl
def c8 (x : BitVec 8) : Value := .int .u8 (bt x)
/-- A slice's address that holds these bytes, in no cell of block g. -/
structure Byt (w : World) (g : Nat) (ao : Option Addr) (D : List (BitVec 8)) : Prop where
  nil : ao = none → D = []
  cells : ∀ a, ao = some a → a.block < w.heap.size ∧ a.block ≠ g ∧ ∀ j x, D[j]? = some x → w.cell? (a.add j) = some (c8 x)
section
variable {w w' : World} {g g' : Nat} {ao : Option Addr} {D : List (BitVec 8)}
theorem Byt.none_ (w : World) (g : Nat) : Byt w g none [] := ⟨fun _ => rfl, fun _ h => by cases h⟩
theorem Byt.keep (h : Byt w g ao D) (hs : w.heap.size ≤ w'.heap.size) (hk : ∀ k, k < w.heap.size → k ≠ g → w'.heap[k]? = w.heap[k]?) : Byt w' g ao D :=
  ⟨h.nil, fun a ha => by
    obtain ⟨h1, h2, h3⟩ := h.cells a ha
    exact ⟨by omega, h2, fun j x hx => (World.cell?_of_block (by rw [add_block]; exact hk _ h1 h2)).trans (h3 j x hx)⟩⟩
theorem Byt.drew (h : Byt w g ao D) : Byt w.drew g ao D := ⟨h.nil, h.cells⟩
theorem Byt.drewN (h : Byt w g ao D) (n : Nat) : Byt (w.drewN n) g ao D := ⟨h.nil, h.cells⟩
theorem Byt.grown (h : Byt w g ao D) (k : w.grownBy w' (some g)) : Byt w' g ao D := h.keep k.size fun i hi hne => k.block i hi (fun e => hne (by injection e))
theorem Byt.grown0 (h : Byt w g ao D) (k : w.grownBy w' none) : Byt w' g ao D := h.keep k.size fun i hi hne => k.block i hi (by simp)
theorem Byt.below (h : Byt w g ao D) (k : Below w.heap.size w w') : Byt w' g ao D := h.keep k.size fun i hi _ => k.block i hi
theorem Byt.set (h : Byt w g ao D) (i : Nat) (v : Value) : Byt (w.setCell ⟨g, i, none⟩ v) g ao D :=
  h.keep (by simp) fun k hk hne => heap_setCell_other w ⟨g, i, none⟩ k v hne
theorem Byt.alloc (h : Byt w g ao D) (o : Obj) : Byt (w.alloc o) g ao D := h.keep (by simp) fun k hk _ => Below.heap_alloc w o k hk
theorem Byt.mono (h : Byt w g ao D) (hne : ∀ a, ao = some a → a.block ≠ g') : Byt w g' ao D := ⟨h.nil, fun a ha => ⟨(h.cells a ha).1, hne a ha, (h.cells a ha).2.2⟩⟩
theorem add_add (a : Addr) (i j : Nat) : (a.add i).add j = a.add (i + j) := by
  unfold Addr.add
  by_cases hi : i = 0 <;> by_cases hj : j = 0 <;> simp [hi, hj, Nat.add_assoc]
theorem Byt.drop (h : Byt w g ao D) (k c : Nat) (hc : D.length ≤ c) (hk : k ≤ D.length) : Byt w g (if c = k then ao else ao.map (·.add k)) (D.drop k) := by
  by_cases e : c = k
  · rw [if_pos e, List.drop_eq_nil_of_le (by omega)]
    exact ⟨fun _ => rfl, fun a ha => ⟨(h.cells a ha).1, (h.cells a ha).2.1, fun j x hx => by simp at hx⟩⟩
  · rw [if_neg e]
    cases ao with
    | none => exact ⟨fun _ => by rw [h.nil rfl]; simp, fun a ha => by simp at ha⟩
    | some a =>
      refine ⟨fun h => by simp at h, fun b hb => ?_⟩
      simp at hb; subst hb
      obtain ⟨h1, h2, h3⟩ := h.cells a rfl
      rw [add_block]
      refine ⟨h1, h2, fun j x hx => ?_⟩
      rw [add_add]
      exact h3 _ x (by rwa [List.getElem?_drop] at hx)
theorem Byt.take (h : Byt w g ao D) (k : Nat) : Byt w g ao (D.take k) :=
  ⟨fun e => by rw [h.nil e]; simp, fun a ha => ⟨(h.cells a ha).1, (h.cells a ha).2.1, fun j x hx => (h.cells a ha).2.2 j x (by
    rw [List.getElem?_take] at hx
    split at hx
    · exact hx
    · cases hx)⟩⟩
end
theorem c8_one (D : List (BitVec 8)) : ∀ u ∈ D.map c8, u.oneCell' = true := fun u hu => by
  obtain ⟨x, _, rfl⟩ := List.mem_map.1 hu
  rfl
theorem c8_at {D : List (BitVec 8)} {j : Nat} {u : Value} (h : (D.map c8)[j]? = some u) : ∃ x, D[j]? = some x ∧ u = c8 x := by
  rw [List.getElem?_map] at h
  cases hx : D[j]? with
  | none => rw [hx] at h; cases h
  | some x => rw [hx] at h; exact ⟨x, rfl, (Option.some.inj h).symm⟩
/-- A slice of the call's own that holds these bytes. -/
abbrev Own (w : World) (base : Nat) (v : Value) (n : Nat) (T : List (BitVec 8)) : Prop := w.ownsRow base 5 1 v n (T.map c8)
theorem info5 : (Try.prog.info? 5).map (fun i => (i.zero, i.size, i.bytes)) = some (some (.int .u8 0), 1, 1) := by kernel_rfl
/-- An own slice, read as bytes. -/
theorem own_byt {w : World} {base n g : Nat} {v : Value} {T : List (BitVec 8)} (h : Own w base v n T) (hg : g < base) : ∃ ao c, v = .slice ao n c ∧ n = T.length ∧ n ≤ c ∧ Byt w g ao T := by
  have hl : n = T.length := by have := h.1; simp at this; omega
  rcases h.2 with ⟨rfl, rfl⟩ | ⟨b, cap, cur, rfl, hb, hh, hnc, hrest⟩
  · exact ⟨none, 0, rfl, hl, Nat.le_refl _, ⟨fun _ => List.eq_nil_of_length_eq_zero hl.symm, (fun _ h => by cases h)⟩⟩
  · refine ⟨some ⟨b, 0, none⟩, cap, rfl, hl, hnc, ⟨(fun h => by cases h), fun a ha => ?_⟩⟩
    injection ha with ha; subst ha
    exact ⟨(Array.getElem?_eq_some_iff.1 hh).1, by show b ≠ g; omega, fun j x hx => h.cells (g := b) rfl j (c8 x) (by rw [List.getElem?_map, hx]; rfl)⟩
section
variable {P : Program}
theorem run_app_own (w : World) (base : Nat) (ty : TypeId) (v : Value) (n : Nat) (T : List (BitVec 8)) (hown : Own w base v n T) (g : Nat) (ao : Option Addr) (m c : Nat) (D : List (BitVec 8)) (hm : m = D.length) (hD : Byt w g ao D)
    (h47 : n + m ≤ 140737488355328) (hbase : base ≤ w.heap.size) :
    ∃ v' w', (Builtin.append_ #[23, 23] ty #[v, .slice ao m c]).run Try.prog w = .ok v' w' ∧ Own w' base v' (n + m) (T ++ D) ∧ w.grownBy w' v.ownBlock := by
  obtain ⟨i0, hi, hz0, hz1, hz2⟩ := info_parts info5
  cases ao with
  | none =>
    obtain rfl := hD.nil rfl
    obtain rfl : m = 0 := hm
    refine ⟨v, w, ?_, by simpa using hown, World.grownBy.refl _ _⟩
    rcases hown.2 with ⟨rfl, rfl⟩ | ⟨b, cap, cur, rfl, _, _, hnc, _⟩
    · simp [Builtin.append_, run_underlying Try.underlying23, sizeOf, typeInfo, hi, Builtin.lenOf, Builtin.firstCells]
    · simp [Builtin.append_, run_underlying Try.underlying23, sizeOf, typeInfo, hi, Builtin.lenOf, Builtin.firstCells, hnc, storeCells]
  | some a =>
    obtain ⟨h1, h2, h3⟩ := hD.cells a rfl
    obtain ⟨v', w', hr, k1, k2, _⟩ := run_append_own (P := Try.prog) w base 23 ty 5 i0 (.int .u8 0) 1 1 Try.underlying23 hi hz0 hz1 hz2 rfl (by decide) v n (T.map c8) hown a m c (D.map c8) (by simp [hm])
      (fun j u hu => by obtain ⟨x, hx, rfl⟩ := c8_at hu; exact h3 j x hx) (c8_one D) (by unfold maxLen; omega) (by omega) hbase
    exact ⟨v', w', hr, by simpa [Own] using k1, k2⟩
theorem wp_app_own {o : Oper} {a : Act} {w : World} {K : Act → World → Prop} {Q : Exit → Act → World → Prop} (s x : Operand)
    (ho : o.op = .call { callee := .builtin .append, args := #[s, x], argTypes := #[23, 23] })
    (base : Nat) (v : Value) (n : Nat) (T : List (BitVec 8)) (hs : a.eval s = v) (hown : Own w base v n T) (g : Nat) (ao : Option Addr) (m c : Nat) (D : List (BitVec 8)) (hx : a.eval x = .slice ao m c) (hm : m = D.length) (hD : Byt w g ao D)
    (h47 : n + m ≤ 140737488355328) (hbase : base ≤ w.heap.size)
    (h : ∀ v' w', Own w' base v' (n + m) (T ++ D) → w.grownBy w' v.ownBlock → K (a.put o.dst v') w') : o.wp Try.prog a w K Q := by
  obtain ⟨v', w', hr, h2, h3⟩ := run_app_own w base o.type v n T hown g ao m c D hm hD h47 hbase
  unfold Oper.wp execOp
  simp only [ho, resolve, invoke, builtin, Sem.run_bind, Sem.run_pure, Result.andThen_ok, List.map_toArray, List.map_cons, List.map_nil, hs, hx, hr]
  exact h v' w' h2 h3
theorem app_own {ops : Array Oper} {rest : List Oper} {o : Oper} {a : Act} {w : World} {Q : Exit → Act → World → Prop} (hgd : o.guard = none) (s x : Operand)
    (ho : o.op = .call { callee := .builtin .append, args := #[s, x], argTypes := #[23, 23] })
    (base : Nat) (v : Value) (n : Nat) (T : List (BitVec 8)) (hs : a.eval s = v) (hown : Own w base v n T) (g : Nat) (ao : Option Addr) (m c : Nat) (D : List (BitVec 8)) (hx : a.eval x = .slice ao m c) (hm : m = D.length) (hD : Byt w g ao D)
    (h47 : n + m ≤ 140737488355328) (hbase : base ≤ w.heap.size)
    (h : ∀ v' w', Own w' base v' (n + m) (T ++ D) → w.grownBy w' v.ownBlock → wpList Try.prog ops Q rest (a.put o.dst v') w') : wpList Try.prog ops Q (o :: rest) a w :=
  wpList_plain hgd fun _ hK => wp_app_own s x ho base v n T hs hown g ao m c D hx hm hD h47 hbase fun v' w' h2 h3 => hK _ _ (h v' w' h2 h3)
/-- An append onto a slice that is full. -/
theorem run_app_full (w : World) (ty : TypeId) (g : Nat) (bo : Option Addr) (n : Nat) (T : List (BitVec 8)) (hn : n = T.length) (hT : Byt w g bo T) (ao : Option Addr) (m c : Nat) (D : List (BitVec 8)) (hm : m = D.length) (hD : Byt w g ao D)
    (hg : g < w.heap.size) (h47 : n + m ≤ 140737488355328) :
    ∃ bo' c' w', (Builtin.append_ #[23, 23] ty #[.slice bo n n, .slice ao m c]).run Try.prog w = .ok (.slice bo' (n + m) c') w' ∧ n + m ≤ c' ∧ Byt w' g bo' (T ++ D) ∧ w.grownBy w' none := by
  obtain ⟨i0, hi, hz0, hz1, hz2⟩ := info_parts info5
  by_cases h0 : m = 0
  · subst h0
    obtain rfl : D = [] := List.eq_nil_of_length_eq_zero hm.symm
    refine ⟨bo, n, w, ?_, Nat.le_refl _, by simpa using hT, World.grownBy.refl _ _⟩
    cases bo with
    | none =>
      obtain rfl := hT.nil rfl
      obtain rfl : n = 0 := hn
      cases ao <;> simp [Builtin.append_, run_underlying Try.underlying23, sizeOf, typeInfo, hi, Builtin.lenOf, Builtin.firstCells, loadCells, loadCellsFrom]
    | some b =>
      cases ao <;> simp [Builtin.append_, run_underlying Try.underlying23, sizeOf, typeInfo, hi, Builtin.lenOf, Builtin.firstCells, storeCells, loadCells, loadCellsFrom]
  · cases ao with
    | none => rw [hD.nil rfl] at hm; exact absurd hm h0
    | some a =>
      obtain ⟨h1, h2, h3⟩ := hD.cells a rfl
      have hc : ∀ j u, (D.map c8)[j]? = some u → w.cell? (a.add j) = some u := fun j u hu => by obtain ⟨x, hx, rfl⟩ := c8_at hu; exact h3 j x hx
      have fin : ∀ v' w', w'.ownsRow w.heap.size 5 1 v' (n + m) (T.map c8 ++ D.map c8) → ∃ bo' c', v' = .slice bo' (n + m) c' ∧ n + m ≤ c' ∧ Byt w' g bo' (T ++ D) := fun v' w' ho => by
        rw [← List.map_append] at ho
        obtain ⟨ao, c, e, _, hc, hb⟩ := own_byt (T := T ++ D) ho hg
        exact ⟨ao, c, e, hc, hb⟩
      cases bo with
      | none =>
        obtain rfl := hT.nil rfl
        obtain rfl : n = 0 := hn
        obtain ⟨v', w', hr, k1, k2, _⟩ := run_append_own (P := Try.prog) w w.heap.size 23 ty 5 i0 (.int .u8 0) 1 1 Try.underlying23 hi hz0 hz1 hz2 rfl (by decide) (.slice none 0 0) 0 [] (World.ownsRow_nil _ _ _ _) a m c (D.map c8) (by simp [hm]) hc (c8_one D)
          (by unfold maxLen; omega) (by omega) (Nat.le_refl _)
        obtain ⟨bo', c', rfl, e2, e3⟩ := fin v' w' (by simpa using k1)
        exact ⟨bo', c', w', hr, e2, e3, k2⟩
      | some b =>
        obtain ⟨t1, t2, t3⟩ := hT.cells b rfl
        obtain ⟨v', w', hr, k1, k2⟩ := run_append_arg_grows (P := Try.prog) w 23 ty 5 i0 (.int .u8 0) 1 1 Try.underlying23 hi hz0 hz1 hz2 rfl (by decide) b n n (T.map c8) (by simp [hn])
          (fun j u hu => by obtain ⟨x, hx, rfl⟩ := c8_at hu; exact t3 j x hx) a m c (D.map c8) (by simp [hm]) hc (by omega) (by unfold maxLen; omega) (by omega)
        obtain ⟨bo', c', rfl, e2, e3⟩ := fin v' w' k1
        exact ⟨bo', c', w', hr, e2, e3, k2⟩
theorem step_app_full {ops : Array Oper} {o : Oper} {a : Act} {w : World} {K : Act → World → Prop} {Q : Exit → Act → World → Prop} {E : Prop} (hgd : o.guard = none) (s x : Operand)
    (ho : o.op = .call { callee := .builtin .append, args := #[s, x], argTypes := #[23, 23] })
    (g : Nat) (bo : Option Addr) (n : Nat) (T : List (BitVec 8)) (hs : a.eval s = .slice bo n n) (hn : n = T.length) (hT : Byt w g bo T) (ao : Option Addr) (m c : Nat) (D : List (BitVec 8)) (hx : a.eval x = .slice ao m c) (hm : m = D.length) (hD : Byt w g ao D)
    (hg : g < w.heap.size) (h47 : n + m ≤ 140737488355328)
    (h : ∀ bo' c' w', n + m ≤ c' → Byt w' g bo' (T ++ D) → w.grownBy w' none → K (a.put o.dst (.slice bo' (n + m) c')) w') :
    if Region.wanted o (yielded ops a.tmps) = true then Oper.wp Try.prog o a w K Q else E := by
  have hw : Region.wanted o (yielded ops a.tmps) = true := by simp [Region.wanted, hgd]
  rw [if_pos hw]
  obtain ⟨bo', c', w', hr, h2, h3, h4⟩ := run_app_full w o.type g bo n T hn hT ao m c D hm hD hg h47
  unfold Oper.wp execOp
  simp only [ho, resolve, invoke, builtin, Sem.run_bind, Sem.run_pure, Result.andThen_ok, List.map_toArray, List.map_cons, List.map_nil, hs, hx, hr]
  exact h bo' c' w' h2 h3 h4
end

/-- One byte in a block of its own. -/
theorem byt_one (w : World) (g : Nat) (x : BitVec 8) (t : TypeId) (hg : g < w.heap.size) : Byt (w.alloc (.cells #[c8 x] t)) g (some ⟨w.heap.size, 0, none⟩) [x] :=
  ⟨(fun h => by cases h), fun a ha => by
    injection ha with ha; subst ha
    refine ⟨by simp, by show w.heap.size ≠ g; omega, fun j y hy => ?_⟩
    cases j with
    | zero =>
      simp at hy; subst hy
      rw [show (⟨w.heap.size, 0, none⟩ : Addr).add 0 = ⟨w.heap.size, 0, none⟩ from rfl, cell_of_row _ _ 0 _ t (0, 0) (heap_alloc_new w _)]
      rfl
    | succ j => simp at hy⟩
/-- One byte in a block of its own, spelled as it may be. -/
theorem byt_one' (w : World) (g : Nat) (v : Value) (x : BitVec 8) (t : TypeId) (hg : g < w.heap.size) (hv : v = c8 x) : Byt (w.alloc (.cells #[v] t)) g (some ⟨w.heap.size, 0, none⟩) [x] := by
  subst hv; exact byt_one w g x t hg
theorem own_mono {w : World} {base base' n : Nat} {v : Value} {T : List (BitVec 8)} (h : Own w base v n T) (hb : base' ≤ base) : Own w base' v n T :=
  ⟨h.1, h.2.imp id fun ⟨g, cap, cur, h1, h2, h3⟩ => ⟨g, cap, cur, h1, by omega, h3⟩⟩
theorem own_alloc {w : World} {base n : Nat} {v : Value} {T : List (BitVec 8)} (h : Own w base v n T) (o : Obj) : Own (w.alloc o) base v n T := h.alloc o
def strOf (D : List (BitVec 8)) : ByteArray := ⟨(D.map UInt8.ofBitVec).toArray⟩
theorem conv_byt {w : World} {g n c : Nat} {ad : Addr} {D : List (BitVec 8)} (hn : n = D.length) (h : Byt w g (some ad) D) : (convert 23 9 (.slice (some ad) n c)).run Try.prog w = .ok (.string (strOf D)) w := by
  obtain ⟨_, _, h3⟩ := h.cells ad rfl
  have := run_convert_bytes_back (P := Try.prog) w 23 9 5 ad c (D.map UInt8.ofBitVec) Try.underlying23 Try.underlying5 Try.underlying9 (fun j hj => by
    have hj' : j < D.length := by simpa using hj
    rw [h3 j D[j] (List.getElem?_eq_getElem hj')]
    simp [c8, bt])
  rw [List.length_map, ← hn] at this
  exact this
/-- Bytes in a block of their own, whatever its mark. -/
theorem byt_lit (w : World) (g : Nat) (D : List (BitVec 8)) (cs : Array Value) (t : TypeId) (fz : Nat × Nat) (hg : g < w.heap.size) (hc : cs = (D.map c8).toArray) : Byt (w.alloc (.cells cs t fz)) g (some ⟨w.heap.size, 0, none⟩) D := by
  subst hc
  refine ⟨(fun h => by cases h), fun a ha => ?_⟩
  injection ha with ha; subst ha
  refine ⟨by simp, by show w.heap.size ≠ g; omega, fun j y hy => ?_⟩
  have : (⟨w.heap.size, 0, none⟩ : Addr).add j = ⟨w.heap.size, j, none⟩ := by
    unfold Addr.add; split
    · rename_i h; subst h; rfl
    · simp
  rw [this, World.cell?_alloc_mark]
  simp [List.getElem?_map, hy]
theorem own_str {w : World} {base n : Nat} {v : Value} {T : List (BitVec 8)} (h : Own w base v n T) (hb : 0 < base) (hn : 0 < n) : ∃ ad c, v = .slice (some ad) n c ∧ n ≤ c ∧ n = T.length ∧ Byt w 0 (some ad) T := by
  obtain ⟨ao, c, hv, h1, h2, h3⟩ := own_byt (g := 0) h hb
  cases ao with
  | none => have := h3.nil rfl; subst this; simp at h1; omega
  | some ad => exact ⟨ad, c, hv, h2, h1, h3⟩
/-- A slice's address that holds these bytes, in blocks below n. -/
structure Old (n : Nat) (w : World) (ao : Option Addr) (D : List (BitVec 8)) : Prop where
  nil : ao = none → D = []
  size : n ≤ w.heap.size
  cells : ∀ a, ao = some a → a.block < n ∧ ∀ j x, D[j]? = some x → w.cell? (a.add j) = some (c8 x)
section
variable {n m g : Nat} {w w' : World} {ao : Option Addr} {D : List (BitVec 8)}
theorem Old.keep (h : Old n w ao D) (hs : w.heap.size ≤ w'.heap.size) (hk : ∀ k, k < n → w'.heap[k]? = w.heap[k]?) : Old n w' ao D :=
  ⟨h.nil, by have := h.size; omega, fun a ha => by
    obtain ⟨h1, h3⟩ := h.cells a ha
    exact ⟨h1, fun j x hx => (World.cell?_of_block (by rw [add_block]; exact hk _ h1)).trans (h3 j x hx)⟩⟩
theorem Old.below (h : Old n w ao D) (k : Below m w w') (hm : n ≤ m) : Old n w' ao D := h.keep k.size fun i hi => k.block i (by omega)
theorem Old.grown {r : Option Nat} (h : Old n w ao D) (k : w.grownBy w' r) (hr : ∀ b, r = some b → n ≤ b) : Old n w' ao D :=
  h.keep k.size fun i hi => k.block i (by have := h.size; omega) (fun e => by have := hr _ e.symm; omega)
theorem Old.alloc (h : Old n w ao D) (o : Obj) : Old n (w.alloc o) ao D := h.keep (by simp) fun k hk => Below.heap_alloc w o k (by have := h.size; omega)
theorem Old.drew (h : Old n w ao D) : Old n w.drew ao D := ⟨h.nil, h.size, h.cells⟩
theorem Old.byt (h : Old n w ao D) (hg : n ≤ g) : Byt w g ao D := ⟨h.nil, fun a ha => by
  obtain ⟨h1, h3⟩ := h.cells a ha
  exact ⟨by have := h.size; omega, by omega, h3⟩⟩
theorem Old.of (h : Byt w g ao D) : Old w.heap.size w ao D := ⟨h.nil, Nat.le_refl _, fun a ha => ⟨(h.cells a ha).1, (h.cells a ha).2.2⟩⟩
theorem Old.mono (h : Old n w ao D) (hn : n ≤ m) (hm : m ≤ w.heap.size) : Old m w ao D := ⟨h.nil, hm, fun a ha => ⟨by have := (h.cells a ha).1; omega, (h.cells a ha).2⟩⟩
theorem Old.drop (h : Old n w ao D) (k c : Nat) (hc : D.length ≤ c) (hk : k ≤ D.length) : Old n w (if c = k then ao else ao.map (·.add k)) (D.drop k) := by
  have hb := (h.byt (Nat.le_refl n)).drop k c hc hk
  refine ⟨hb.nil, h.size, fun a ha => ⟨?_, (hb.cells a ha).2.2⟩⟩
  split at ha
  · exact (h.cells a ha).1
  · cases ao with
    | none => cases ha
    | some b => injection ha with ha; subst ha; rw [add_block]; exact (h.cells b rfl).1
theorem Old.take (h : Old n w ao D) (k : Nat) : Old n w ao (D.take k) := by
  have hb := (h.byt (Nat.le_refl n)).take k
  exact ⟨hb.nil, h.size, fun a ha => ⟨(h.cells a ha).1, (hb.cells a ha).2.2⟩⟩
end
theorem own_keep {w w' : World} {base n : Nat} {v : Value} {T : List (BitVec 8)} (h : Own w base v n T) (r : Below w.heap.size w w') : Own w' base v n T :=
  h.kept (row := none) ⟨r.os, r.tape, r.output, r.size, fun k hk _ => r.block k hk⟩ (by cases v.ownBlock <;> simp)
theorem own_new (w : World) : Own (w.alloc (.cells #[] 5)) w.heap.size (.slice (some ⟨w.heap.size, 0, none⟩) 0 0) 0 [] := World.ownsRow_made w #[] 0 (Nat.le_refl _) (by unfold maxLen; omega) (by simp)
/-- An own slice that has been appended to: the rest is as it was. -/
theorem own_below {w1 w w' : World} {n : Nat} {v : Value} {T : List (BitVec 8)} (h : Own w w1.heap.size v n T) (k : Below w1.heap.size w1 w) (j : w.grownBy w' v.ownBlock) : Below w1.heap.size w1 w' :=
  k.grown j k.size (fun b e => (h.lt b e).1)
end Go.Proofs.Ytjabkfccfecmgaa
