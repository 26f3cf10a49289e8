/- The disk's Write. -/
import Derived.Test.YtjabkfccfecmgaaD
import Derived.Great.FillDense
namespace Go.Proofs.Ytjabkfccfecmgaa
open Go.ChangeShapes Go.WideShapes Go.ChangeAt Go.RowKit
set_option linter.unusedSimpArgs false
set_option linter.unusedVariables false
/-- A slice's address that holds these bytes. -/
structure Bys (w : World) (ao : Option Addr) (D : List (BitVec 8)) : Prop where
  nil : ao = none → D = []
  cells : ∀ a, ao = some a → ∀ (j : Nat) x, D[j]? = some x → w.cell? (a.add j) = some (c8 x)
theorem info5' : (Try.prog.info? 5).map (·.size) = some 1 := by kernel_rfl
theorem run_copy28 (w : World) (ty : TypeId) (b off n cap : Nat) (ao : Option Addr) (m c : Nat) (D : List (BitVec 8)) (hm : m = D.length) (hmn : m ≤ n) (hD : Bys w ao D) (ht : w.there b off m) :
    (Builtin.copy_ #[23, 23] ty #[.slice (some ⟨b, off, none⟩) n cap, .slice ao m c]).run Try.prog w = .ok (goInt m) (w.setCells b off (D.map c8)) := by
  cases ao with
  | none =>
    have := hD.nil rfl
    subst this
    subst hm
    exact run_copy_none w 23 23 ty 5 _ _ _ _ _ _ Try.underlying23 info5' (by simp)
  | some a =>
    have hl : (D.map c8).length = m := by rw [List.length_map]; exact hm.symm
    have := run_copy_cells (P := Try.prog) w 23 23 ty 5 b off n cap a m c (D.map c8) Try.underlying23 info5' (by rw [hl]; exact (Nat.min_eq_left hmn).symm)
      (fun j v hv => by obtain ⟨x, hx, rfl⟩ := c8_at hv; exact hD.cells a rfl j x hx) (fun j hj => (ht j (by omega)).1) (fun j hj => (ht j (by omega)).2) (c8_one D)
    rw [hl] at this
    exact this
theorem copy28 {ops : Array Oper} {rest : List Oper} {o : Oper} {a : Act} {w : World} {Q : Exit → Act → World → Prop} (hgd : o.guard = none) (s x : Operand)
    (ho : o.op = .call { callee := .builtin .copy, args := #[s, x], argTypes := #[23, 23] })
    (b off n cap : Nat) (hs : a.eval s = .slice (some ⟨b, off, none⟩) n cap) (ao : Option Addr) (m c : Nat) (D : List (BitVec 8)) (hx : a.eval x = .slice ao m c) (hm : m = D.length) (hmn : m ≤ n) (hD : Bys w ao D) (ht : w.there b off m)
    (h : wpList Try.prog ops Q rest (a.put o.dst (goInt m)) (w.setCells b off (D.map c8))) : wpList Try.prog ops Q (o :: rest) a w :=
  wpList_plain hgd fun _ hK => by
    unfold Oper.wp execOp
    simp only [ho, resolve, invoke, builtin, Sem.run_bind, Sem.run_pure, Result.andThen_ok, List.map_toArray, List.map_cons, List.map_nil, hs, hx, run_copy28 w o.type b off n cap ao m c D hm hmn hD ht]
    exact hK _ _ h
theorem zero60c (w : World) : (zeroValue 76).run Try.prog w = .ok (.agg (wc (0, zs)).toArray) w := by kernel_rfl
theorem wc_set (k : Nat) : (wc (0, zs)).set 0 (.int .i64 (k : Int)) = wc (k, zs) := rfl
def padd (B : Sct) : Sct := B ++ List.replicate (512 - B.length) 0#8
theorem padd_len {B : Sct} (h : B.length ≤ 512) : (padd B).length = 512 := by unfold padd; rw [List.length_append, List.length_replicate]; omega
/-- What Write leaves. -/
def wrote (n : Nat) (d : DS) (i : Int) (B : Sct) : Int × DS :=
  if Mayc n d i ≠ 0 then (Mayc n d i, d) else if 512 < B.length then (1, d) else if d.fuse = 0 then (201, crashed d d.W.length) else (0, { d with W := d.W ++ [(i.toNat, padd B)], fuse := if 0 < d.fuse then d.fuse - 1 else d.fuse })
theorem fill_one (v : Value) (cells : Array Value) (hv : v.cells.size = 513) (hc : cells.size = 513) : Instr.fill (fun i => some (i * 513, 513)) cells [(0, v)] = some v.cells := by
  obtain ⟨r, hr, hs, hk⟩ := Great.fill_dense (s := 513) (by omega) [v] 0 cells (fun u hu => by rw [List.mem_singleton] at hu; rw [hu]; exact hv) (by rw [hc]; simp)
  have e : ([v].zipIdx 0).map (fun x => (x.2, x.1)) = [(0, v)] := rfl
  rw [e] at hr
  rw [hr]
  congr 1
  apply Array.ext_getElem?
  intro k
  rw [hk k]
  by_cases h : k < 513
  · rw [if_pos (by simp; omega)]
    have e1 : k / 513 = 0 := by omega
    have e2 : k % 513 = k := by omega
    rw [e1, e2]; rfl
  · rw [if_neg (by simp; omega), Array.getElem?_eq_none (by omega), Array.getElem?_eq_none (by omega)]
theorem run_bs60 (w : World) (p : Wt) (hp : p.2.length = 512) : (Instr.buildSlice 42 1 #[(0, .agg (wc p).toArray)]).run Try.prog w = .ok (.slice (some ⟨w.heap.size, 0, none⟩) 1 1) (w.alloc (.cells (wc p).toArray 76)) := by
  obtain ⟨i0, hi, hz0, hz1, hz2⟩ := info_parts info60
  have hv : (Value.agg (wc p).toArray).cells.size = 513 := by rw [show (Value.agg (wc p).toArray).cells = (wc p).toArray from rfl, List.size_toArray, wc_len hp]
  unfold Instr.buildSlice
  have hsz : ∀ w : World, (Go.sizeOf 76).run Try.prog w = .ok 513 w := fun w => by simp [Go.sizeOf, typeInfo, hi, hz1]
  simp only [Sem.run_bind, run_underlying Try.underlying42, Result.andThen_ok, hsz]
  have hf : ∀ cells : Array Value, cells.size = 513 → Instr.fill (fun i => some (i * 513, 513)) cells [(0, .agg (wc p).toArray)] = some (wc p).toArray := fun cells hc => fill_one _ _ hv hc
  have hz := zero60c
  simp only [Nat.one_mul]
  rw [if_neg (by decide), if_neg (by decide)]
  simp only [Sem.run_bind, Sem.run_pure, hz, Result.andThen_ok]
  rw [hf _ (by rw [Array.size_map, Array.size_range])]
  simp only [newRow, Sem.run_bind, Sem.run_pure, Result.andThen_ok]
  rfl
theorem wp_bs60 {o : Oper} {a : Act} {w : World} {K : Act → World → Prop} {Q : Exit → Act → World → Prop} (x : Operand) (ho : o.op = .buildSlice 42 1 #[(0, x)])
    (p : Wt) (hx : a.eval x = .agg (wc p).toArray) (hp : p.2.length = 512) (h : K (a.put o.dst (.slice (some ⟨w.heap.size, 0, none⟩) 1 1)) (w.alloc (.cells (wc p).toArray 76))) : o.wp Try.prog a w K Q := by
  have hb := run_bs60 w p hp
  unfold Oper.wp execOp
  simp only [ho, List.map_toArray, List.map_cons, List.map_nil, hx, Sem.run_bind, hb, Result.andThen_ok]
  exact h
theorem row_form {w : World} {base e size n : Nat} {v : Value} {xs : List Value} (h : w.ownsRow base e size v n xs) : ∃ a c, v = .slice a n c := by
  rcases h.2 with ⟨rfl, rfl⟩ | ⟨q, cap, cur, rfl, _⟩
  · exact ⟨_, _, rfl⟩
  · exact ⟨_, _, rfl⟩
theorem range_new (w : World) (cs : List Value) (t : TypeId) : (w.alloc (.cells cs.toArray t)).rangeAt w.heap.size 0 cs := fun j v hv => by
  rw [Nat.zero_add, cell_of_row _ _ j _ t _ (heap_alloc_new w _), List.getElem?_toArray]; exact hv
/-- Bytes in no cell of block g. -/
structure Byg (g : Nat) (w : World) (ao : Option Addr) (D : List (BitVec 8)) : Prop where
  nil : ao = none → D = []
  cells : ∀ a, ao = some a → ∀ (j : Nat) x, D[j]? = some x → a.block ≠ g ∧ w.cell? (a.add j) = some (c8 x)
theorem Byg.bys {g : Nat} {w : World} {ao : Option Addr} {D : List (BitVec 8)} (h : Byg g w ao D) : Bys w ao D := ⟨h.nil, fun a ha j x hx => (h.cells a ha j x hx).2⟩
theorem Byg.keep {g : Nat} {w w' : World} {ao : Option Addr} {D : List (BitVec 8)} (h : Byg g w ao D) (hk : ∀ k, k < w.heap.size → k ≠ g → w'.heap[k]? = w.heap[k]?) : Byg g w' ao D :=
  ⟨h.nil, fun a ha j x hx => by
    obtain ⟨h1, h2⟩ := h.cells a ha j x hx
    have hb := World.block_lt_of_cell? w _ h2
    rw [add_block] at hb
    exact ⟨h1, (World.cell?_of_block (by rw [add_block]; exact hk _ hb h1)).trans h2⟩⟩
theorem Byg.below {g : Nat} {w w' : World} {ao : Option Addr} {D : List (BitVec 8)} (h : Byg g w ao D) (j : Below w.heap.size w w') : Byg g w' ao D := h.keep fun k hk _ => j.block k hk
theorem fill_pad (x : World) (X : Nat) (ht : x.there X 0 513) (k : Nat) (B : Sct) (hB : B.length ≤ 512) : ((x.setCells X 0 (wc (k, zs))).setCells X 1 (B.map c8)).rangeAt X 0 (wc (k, padd B)) := by
  have hl : (wc (k, zs)).length = 513 := wc_len zs_len
  have h1 := World.rangeAt_setCells_same x X 0 (wc (k, zs)) (by rw [hl]; exact ht)
  have ht2 := World.there_setCells ht X 0 (wc (k, zs))
  intro j v hv
  cases j with
  | zero =>
    rw [World.cell?_setCells_out X (B.map c8) 1 _ _ (fun _ _ => .inl (by simp))]
    exact h1 0 v hv
  | succ j =>
    have hv2 : ((padd B).map c8)[j]? = some v := by unfold wc at hv; simpa using hv
    by_cases hj : j < B.length
    · have := World.cell?_setCells_in X (B.map c8) 1 (x.setCells X 0 (wc (k, zs))) (fun i hi => by
        rw [List.length_map] at hi
        have := (ht2 (1 + i) (by omega)).1
        rwa [Nat.zero_add] at this) j (by rw [List.length_map]; exact hj)
      rw [show 0 + (j + 1) = 1 + j by omega, this]
      unfold padd at hv2
      rw [List.map_append, List.getElem?_append_left (by rw [List.length_map]; exact hj), List.getElem?_eq_getElem (by rw [List.length_map]; exact hj)] at hv2
      exact hv2
    · rw [World.cell?_setCells_out X (B.map c8) 1 _ _ (fun _ _ => .inr (by rw [List.length_map]; show 1 + B.length ≤ 0 + (j + 1); omega))]
      refine h1 (j + 1) v ?_
      unfold padd at hv2
      rw [List.map_append, List.getElem?_append_right (by rw [List.length_map]; omega)] at hv2
      have hj5 : j < 512 := by
        have := (List.getElem?_eq_some_iff.1 hv).1
        rw [wc_len (padd_len hB)] at this
        omega
      have e : v = c8 0#8 := by
        obtain ⟨y, hy, rfl⟩ := c8_at hv2
        rw [List.getElem?_replicate] at hy
        split at hy
        · injection hy with hy; rw [hy]
        · cases hy
      subst e
      show (zs.map c8)[j]? = _
      unfold zs
      rw [List.map_replicate, List.getElem?_replicate, if_pos hj5]
theorem wp_load60 {o : Oper} {a : Act} {w : World} {K : Act → World → Prop} {Q : Exit → Act → World → Prop} (x : Operand) (ho : o.op = .load 76 x)
    (b off : Nat) (p : Wt) (hx : a.eval x = .pointer (some ⟨b, off, none⟩)) (hp : p.2.length = 512) (r : w.rangeAt b off (wc p))
    (h : K (a.put o.dst (.agg (wc p).toArray)) w) : o.wp Try.prog a w K Q :=
  wp_load_mid 76 x ho b off hx (wc p) _ r Try.underlying76 rfl (by rw [wc_len hp]; exact info60') h
theorem wp_app60 {o : Oper} {a : Act} {w : World} {K : Act → World → Prop} {Q : Exit → Act → World → Prop} (s x : Operand)
    (ho : o.op = .call { callee := .builtin .append, args := #[s, x], argTypes := #[42, 42] })
    (base : Nat) (v : Value) (n : Nat) (xs : List Value) (hs : a.eval s = v) (hown : w.ownsRow base 76 513 v n xs) (y : Nat) (p : Wt) (hx : a.eval x = .slice (some ⟨y, 0, none⟩) 1 1) (hp : p.2.length = 512) (hr : w.rangeAt y 0 (wc p))
    (hn : n ≤ 1000000) (hbase : base ≤ w.heap.size)
    (h : ∀ v' w', w'.ownsRow base 76 513 v' (n + 1) (xs ++ wc p) → w.grownBy w' v.ownBlock → (v'.ownBlock = v.ownBlock ∨ ∃ q, v'.ownBlock = some q ∧ w.heap.size ≤ q) → K (a.put o.dst v') w') : o.wp Try.prog a w K Q := by
  obtain ⟨i0, hi, hz0, hz1, hz2⟩ := info_parts info60
  have hcell : ∀ (j : Nat) u, (wc p)[j]? = some u → w.cell? ((⟨y, 0, none⟩ : Addr).add j) = some u := fun j u hu => by rw [Addr.add_mid]; exact hr j u hu
  have hone : ∀ u ∈ wc p, u.oneCell' = true := fun u hu => by
    have := Array.all_eq_true_iff_forall_mem.1 (one_wc p) u (by simpa using hu)
    exact this
  obtain ⟨v', w', hrun, h2, h3, _⟩ := run_append_own (P := Try.prog) w base 42 o.type 76 i0 _ 513 520 Try.underlying42 hi hz0 hz1 hz2 (by rw [show (Value.agg (Value.int .i64 0 :: List.replicate 512 (.int .u8 0)).toArray).cells = (Value.int .i64 0 :: List.replicate 512 (.int .u8 0)).toArray from rfl, List.size_toArray, List.length_cons, List.length_replicate]) (by omega) v n xs hown ⟨y, 0, none⟩ 1 1 (wc p) (by rw [wc_len hp]) hcell hone (by unfold maxLen; omega) (by omega) hbase
  have hl : (wc p).length = 1 * i0.size := by rw [wc_len hp, hz1]
  have hw : v'.ownBlock = v.ownBlock ∨ ∃ q, v'.ownBlock = some q ∧ w.heap.size ≤ q := by
    rcases hown.2 with ⟨rfl, rfl⟩ | ⟨b, cap, cur, rfl, hb, hg, hnc, hcm, hcs, htake⟩
    · right
      have := run_append_nil (P := Try.prog) (w := w) 42 o.type 76 i0 _ Try.underlying42 hi hz0 ⟨y, 0, none⟩ 1 1 (wc p) hl hcell (by omega) (by omega) (by rw [hz2]; omega)
      rw [this] at hrun
      injection hrun with e1 _
      rw [← e1]; exact ⟨_, rfl, Nat.le_refl _⟩
    · by_cases hroom : n + 1 ≤ cap
      · left
        have := run_append_room (P := Try.prog) (w := w) 42 o.type 76 i0 Try.underlying42 hi b n cap cur hg ⟨y, 0, none⟩ 1 1 (wc p) hl hcell hone hroom (by rw [hz1, hcs, wc_len hp]; omega)
        rw [this] at hrun
        injection hrun with e1 _
        rw [← e1]; rfl
      · right
        have := run_append_grow (P := Try.prog) (w := w) 42 o.type 76 i0 _ Try.underlying42 hi hz0 ⟨b, 0, none⟩ n cap xs (by rw [hz1]; exact hown.1) (hown.cells (g := b) rfl) ⟨y, 0, none⟩ 1 1 (wc p) hl hcell (by omega) (by omega) (growslice_fits (by omega) (by rw [hz2]; omega))
        rw [this] at hrun
        injection hrun with e1 _
        rw [← e1]; exact ⟨_, rfl, Nat.le_refl _⟩
  unfold Oper.wp execOp
  simp only [ho, resolve, invoke, builtin, Sem.run_bind, Sem.run_pure, Result.andThen_ok, List.map_toArray, List.map_cons, List.map_nil, hs, hx, hrun]
  exact h v' w' h2 h3 hw
theorem below_fill2 (w : World) (cs : Array Value) (t : TypeId) (off off2 : Nat) (vs vs2 : List Value) : Below w.heap.size w (((w.alloc (.cells cs t)).setCells w.heap.size off vs).setCells w.heap.size off2 vs2) := by
  have h := below_fill w cs t off vs
  exact ⟨(World.os_setCells _ _ _ _).trans h.os, (tape_setCells _ _ _ _).trans h.tape, (World.output_setCells _ _ _ _).trans h.output, by rw [sz_setCells]; exact h.size, fun k hk => (World.heap_setCells_other _ _ _ _ (by have := h.size; omega) (by omega)).trans (h.block k hk)⟩
theorem Frm.of_grownO {A : Nat → Prop} {g b : Nat} {w w' : World} {r : Option Nat} (j : w.grownBy w' r) (hq : ∀ q, r = some q → A q) : Frm A g b w w' := ⟨j.os, j.tape, j.output, j.size, fun k hk h1 h2 h3 => j.block k hk (fun e => h3 (hq k e.symm))⟩
theorem rowKeep {w w' : World} {base e size n : Nat} {v : Value} {xs : List Value} (h : w.ownsRow base e size v n xs) (hk : ∀ q, v.ownBlock = some q → w'.heap[q]? = w.heap[q]?) : w'.ownsRow base e size v n xs := by
  refine ⟨h.1, ?_⟩
  rcases h.2 with hn | ⟨q, cap, cur, rfl, hb, hq, rest⟩
  · exact .inl hn
  · exact .inr ⟨q, cap, cur, rfl, hb, (hk q rfl).trans hq, rest⟩
/-- How the region's operations change the world. -/
structure Rk (g : Nat) (ob : Option Nat) (k : Nat) (w w' : World) : Prop where
  ap : k = 7 → w.grownBy w' ob
  st : k = 10 → w.grownBy w' (some g)
  el : k ≠ 7 → k ≠ 10 → Below w.heap.size w w'
theorem Rk.below {g : Nat} {ob : Option Nat} {k : Nat} {w w' : World} (h7 : k ≠ 7) (h10 : k ≠ 10) (j : Below w.heap.size w w') : Rk g ob k w w' := ⟨fun e => absurd e h7, fun e => absurd e h10, fun _ _ => j⟩
theorem Rk.toGrown {g : Nat} {ob : Option Nat} {k : Nat} {w w' : World} (h : Rk g ob k w w') : ∃ r, w.grownBy w' r ∧ (r = none ∨ (r = ob ∧ k = 7) ∨ (r = some g ∧ k = 10)) := by
  by_cases h7 : k = 7
  · exact ⟨ob, h.ap h7, .inr (.inl ⟨rfl, h7⟩)⟩
  · by_cases h10 : k = 10
    · exact ⟨some g, h.st h10, .inr (.inr ⟨rfl, h10⟩)⟩
    · have j := h.el h7 h10
      exact ⟨none, ⟨j.os, j.tape, j.output, j.size, fun k hk _ => j.block k hk⟩, .inl rfl⟩
/-- What holds of the world while the region runs, from the world x on. -/
structure SW (A : Nat → Prop) (g b n : Nat) (x : World) (X : Nat) (ob : Option Nat) (d2 : DS) (L : Nat → Bool) (w : World) : Prop where
  f : Frm A g b x w
  l : w.heap[X]? = x.heap[X]?
  h : L 10 = false → w.heap[g]? = x.heap[g]? ∧ w.heap[b]? = x.heap[b]?
  o : L 7 = false → ∀ q, ob = some q → w.heap[q]? = x.heap[q]?
  d : L 10 = true → Dk A w g b n d2
theorem SW.step {A : Nat → Prop} {g b n : Nat} {x : World} {X : Nat} {ob : Option Nat} {d2 : DS} {L : Nat → Bool} {w : World} (h : SW A g b n x X ob d2 L w) (i : Nat) (h7 : i ≠ 7) (h10 : i ≠ 10) : SW A g b n x X ob d2 (fun j => j == i || L j) w := by
  have e7 : (7 == i || L 7) = L 7 := by simp [Ne.symm h7]
  have e10 : (10 == i || L 10) = L 10 := by simp [Ne.symm h10]
  exact ⟨h.f, h.l, fun e => h.h (e10 ▸ e), fun e => h.o (e7 ▸ e), fun e => h.d (e10 ▸ e)⟩
theorem Dk.push {A : Nat → Prop} {g b n : Nat} {x w : World} {d : DS} (h : Dk A x g b n d) (hs : x.heap.size ≤ w.heap.size) (hg : w.heap[g]? = x.heap[g]?) (hb : w.heap[b]? = x.heap[b]?) (v : Value) (W : List Wt)
    (ho : w.ownsRow (g + 1) 76 513 v W.length (W.flatMap wc)) (hA : ∀ k, v.ownBlock = some k → A k) (hw : ∀ p ∈ W, p.1 < n ∧ p.2.length = 512) : Dk A (w.setCell ⟨g, 1, none⟩ v) g b n { d with W := W } := by
  obtain ⟨wv, h1, h2, h3⟩ := h.at_
  have hj : w.grownBy (w.setCell ⟨g, 1, none⟩ v) (some g) := ⟨rfl, rfl, rfl, by simp, fun k hk hne => heap_setCell_other w _ k _ (fun e => hne (by rw [e]))⟩
  have h1' := hg.trans h1
  have hsec := h.sec.keep hs hb
  exact ⟨⟨v, by rw [heap_setCell_same w g 1 _ 44 _ h1']; rfl, ho.kept hj (.inr (fun e => by have := (ho.lt g e).1; omega)), hA⟩, hsec.keep (by simp) (heap_setCell_other w _ b _ (fun e => by have := h.bg; have e2 : b = g := e; omega)), h.bg, hw, h.nb, h.fb⟩
theorem Dk.push1 {A : Nat → Prop} {g b n : Nat} {x w : World} {d : DS} (h : Dk A x g b n d) (hg : w.heap[g]? = x.heap[g]?) : (w.cell? ⟨g, 1, none⟩).isSome = true ∧ w.frozen? ⟨g, 1, none⟩ = false := by
  obtain ⟨wv, h1, _⟩ := h.at_
  have h1' := hg.trans h1
  exact ⟨by rw [cell_of_row w g 1 _ 44 _ h1']; rfl, frozen_of_row w g 1 _ 44 h1'⟩
def V13 (A : Nat → Prop) (g l c s : Nat) (ao : Option Addr) (p : Wt) (F : List Value) : Nat → Value → World → Prop
  | 0, v, w => v = .pointer (some ⟨g, 0, none⟩)
  | 1, v, w => v = .pointer (some ⟨g, 0, none⟩)
  | 2, v, w => v = .pointer (some ⟨g, 0, none⟩)
  | 3, v, w => v = .pointer (some ⟨g, 1, none⟩)
  | 4, v, w => v = .slice ao l c
  | 5, v, w => v = .agg (wc p).toArray
  | 6, v, w => ∃ y, v = .slice (some ⟨y, 0, none⟩) 1 1 ∧ s ≤ y ∧ y < w.heap.size ∧ w.rangeAt y 0 (wc p)
  | 7, v, w => ∃ a c, v = .slice a (l + 1) c ∧ w.ownsRow (g + 1) 76 513 v (l + 1) (F ++ wc p) ∧ ∀ k, v.ownBlock = some k → A k
  | 8, v, w => v = .pointer (some ⟨g, 0, none⟩)
  | 9, v, w => v = .pointer (some ⟨g, 1, none⟩)
  | 10, v, w => True
  | _, _, _ => True
theorem V13_keep (A : Nat → Prop) (g l c s : Nat) (ao : Option Addr) (p : Wt) (F : List Value) (ob : Option Nat) (hob : ∀ q, ob = some q → q < s ∧ g < q) (hgs : g < s) (k i : Nat) (v : Value) (w w' : World) (hki : k ≠ i) (h : V13 A g l c s ao p F i v w) (r : Rk g ob k w w') : V13 A g l c s ao p F i v w' := by
  obtain ⟨r, j, hr⟩ := r.toGrown
  rcases i with _ | _ | _ | _ | _ | _ | _ | _ | _ | _ | _ | _
  · exact h
  · exact h
  · exact h
  · exact h
  · exact h
  · exact h
  · obtain ⟨y, e, hs, ht, hy⟩ := h
    have hne : some y ≠ r := by
      rcases hr with e | ⟨e, _⟩ | ⟨e, _⟩
      · rw [e]; simp
      · rw [e]; intro e2; have := (hob y e2.symm).1; omega
      · rw [e]; intro e2; injection e2 with e2; omega
    exact ⟨y, e, hs, Nat.lt_of_lt_of_le ht j.size, fun i u hu => (World.cell?_of_block (a := ⟨y, _, none⟩) (j.block y ht hne)).trans (hy i u hu)⟩
  · obtain ⟨a, c, e0, ho, ha⟩ := h
    refine ⟨a, c, e0, ho.kept j ?_, ha⟩
    rcases hr with e | ⟨e, e7⟩ | ⟨e, _⟩
    · cases hv : v.ownBlock with
      | none => exact .inl rfl
      | some q => right; rw [e]; simp
    · exact absurd e7 hki
    · right; intro e2; rw [e] at e2; have := (ho.lt g e2).1; omega
  · exact h
  · exact h
  · trivial
  · trivial

set_option maxRecDepth 4000 in
set_option maxHeartbeats 4000000 in
theorem write10 (A : Nat → Prop) (w : World) (g b n : Nat) (d : DS) (hD : Dk A w g b n d) (hA : ∀ k, w.heap.size ≤ k → A k) (i : Int) (ao : Option Addr) (m c : Nat) (B : Sct) (hm : m = B.length) (hB : Byg g w ao B) (hW : d.W.length ≤ 1000000) :
    Calls Try.prog 27 #[.pointer (some ⟨g, 0, none⟩), .int .i64 i, .slice ao m c] w fun e w' => e = .returned (.int .i64 (wrote n d i B).1) ∧ Dk A w' g b n (wrote n d i B).2 ∧ Frm A g b w w' := by
  have M25 := Lib.hid (may25 hD i)
  have C16 := Lib.hid (crash16 A w g b n d hD hA d.W.length)
  have c2 := hD.c2
  have f2 := hD.frozen 2
  obtain ⟨ao1, k1, c1, -⟩ := hD.c1
  unfold wrote
  by_cases hmay : Mayc n d i = 0
  · rw [if_neg (by simpa using hmay)]
    rw [hmay] at M25
    by_cases hl : 512 < B.length
    · rw [if_pos hl]
      have d1 : decide ((m : Int) > 512) = true := by simp; omega
      have HM := Lib.hid hm
      clear hm
      go_enter Try.func27, Try.ntmps27
      go_wp2_with (first | (go_at_call 37; (with_reducible refine M25.out.mono ?_); rintro e w2 ⟨rfl, rfl⟩))
      go_ret
      exact ⟨rfl, hD, Frm.refl _ _ _ _⟩
    · rw [if_neg hl]
      have d1 : decide ((m : Int) > 512) = false := by simp; omega
      by_cases hf : d.fuse = 0
      · rw [if_pos hf]
        rw [hf] at c2
        have HM := Lib.hid hm
        clear hm
        go_enter Try.func27, Try.ntmps27
        go_wp2_with (first | (go_at_call 37; (with_reducible refine M25.out.mono ?_); rintro e w2 ⟨rfl, rfl⟩) | (go_at_call 13; (with_reducible refine C16.out.mono ?_); rintro e w3 ⟨rfl, hD3, hF3⟩))
        go_ret
        exact ⟨rfl, hD3, hF3⟩
      · rw [if_neg hf]
        have hi0 : 0 ≤ i ∧ i < n := by
          unfold Mayc at hmay
          split at hmay
          · omega
          · split at hmay <;> omega
        obtain ⟨k, rfl⟩ : ∃ k : Nat, i = k := ⟨i.toNat, by omega⟩
        have hm512 : m ≤ 512 := by omega
        have HM := Lib.hid hm
        clear hm
        have d2 : (d.fuse == 0) = false := by simpa using hf
        have hz60 := zero60c
        by_cases hfp : 0 < d.fuse
        · have d3 : decide (d.fuse > 0) = true := by simp; omega
          have ew : IntKind.i64.wrap (d.fuse - 1) = d.fuse - 1 := IntWalk.i64_in _ (by have := hD.fb; omega)
          go_enter Try.func27, Try.ntmps27
          go_upto_region 11 with (first | (go_at_call 37; (with_reducible refine M25.out.mono ?_); rintro e w2 ⟨rfl, rfl⟩))
          obtain ⟨x1, hx1⟩ : ∃ x1, w2.setCell ⟨g, 2, none⟩ (.int .i64 (d.fuse - 1)) = x1 := ⟨_, rfl⟩
          have hD1 : Dk A x1 g b n { d with fuse := d.fuse - 1 } := by rw [← hx1]; exact hD.setFuse _ (by have := hD.fb; omega)
          have hF1 : Frm A g b w2 x1 := by rw [← hx1]; exact (Frm.refl A g b w2).setCell _ _ (.inl rfl)
          have hB1 : Byg g x1 ao B := by rw [← hx1]; exact hB.keep fun k hk hne => heap_setCell_other w2 _ k _ hne
          rw [hx1]
          clear hx1 hD hB c1 c2 f2 M25 C16
          have hwn : ¬ wc (0, zs) = [] := by unfold wc; simp
          have ZL : (k, zs).2.length = 512 := zs_len
          have hwl : (wc (0, zs)).length = 513 := wc_len zs_len
          have ht := there_new x1 (wc (0, zs)).toArray 76 513 (by rw [List.size_toArray, hwl]; omega)
          have ht2 := World.there_setCells ht x1.heap.size 0 (wc (k, zs))
          have hbf := below_fill x1 (wc (0, zs)).toArray 76 0 (wc (k, zs))
          have hb2 := hB1.below hbf
          have ht3 : ((x1.alloc (.cells (wc (0, zs)).toArray 76)).setCells x1.heap.size 0 (wc (k, zs))).there x1.heap.size 1 m := fun j hj => by
            have := ht2 (1 + j) (by omega)
            rwa [Nat.zero_add] at this
          have hcopy := run_copy28 _ 3 x1.heap.size 1 512 512 ao m c B HM.out hm512 hb2.bys ht3
          go_upto_region 13 with (first
            | ((with_reducible refine store60m rfl (.tmp 8) (.tmp 47) rfl x1.heap.size 0 (k, zs) rfl ?hy ZL ht ?_); (case hy => exact congrArg (fun l => Value.agg (List.toArray l)) (wc_set k))))
          have hXr := fill_pad (x1.alloc (.cells (wc (0, zs)).toArray 76)) x1.heap.size ht k B (by omega)
          have hbx := below_fill2 x1 (wc (0, zs)).toArray 76 0 1 (wc (k, zs)) (B.map c8)
          have hXs : x1.heap.size < (((x1.alloc (.cells (wc (0, zs)).toArray 76)).setCells x1.heap.size 0 (wc (k, zs))).setCells x1.heap.size 1 (B.map c8)).heap.size := by rw [sz_setCells, sz_setCells]; simp
          obtain ⟨x, hx⟩ : ∃ x, (((x1.alloc (.cells (wc (0, zs)).toArray 76)).setCells x1.heap.size 0 (wc (k, zs))).setCells x1.heap.size 1 (B.map c8)) = x := ⟨_, rfl⟩
          rw [hx] at hXr hbx hXs ⊢
          clear hx ht ht2 ht3 hb2 hbf hcopy hB1
          obtain ⟨ao1, k1, c1y, own1, hoA, -⟩ := hD1.c1
          have hg1 := hD1.lt
          have c1x : x.cell? ⟨g, 1, none⟩ = some (.slice ao1 d.W.length k1) := (World.cell?_of_block (a := ⟨g, 1, none⟩) (hbx.block g hg1)).trans c1y
          have hob1 : ∀ q, (Value.slice ao1 d.W.length k1).ownBlock = some q → q < x1.heap.size ∧ g < q := fun q e => by have := own1.lt q e; omega
          have own : x.ownsRow (g + 1) 76 513 (.slice ao1 d.W.length k1) d.W.length (d.W.flatMap wc) := rowKeep own1 fun q e => hbx.block q (hob1 q e).1
          have hDx := hD1.below hbx
          have hFx := hF1.trans (Frm.of_below hbx)
          have hgx : g < x.heap.size := hDx.lt
          have hsx := hbx.size
          have hpl := padd_len (B := B) (by omega)
          obtain ⟨X, hX⟩ : ∃ X, x1.heap.size = X := ⟨_, rfl⟩
          rw [hX] at hXr hXs hg1 hob1 hsx ⊢
          have HOB := Lib.hid (fun (q : Nat) (e : (Value.slice ao1 d.W.length k1).ownBlock = some q) => (⟨Nat.lt_trans (hob1 q e).1 hXs, (hob1 q e).2⟩ : q < x.heap.size ∧ g < q))
          have HOWN : Hid (∀ w1 : World, x.heap.size ≤ w1.heap.size → (∀ q, (Value.slice ao1 d.W.length k1).ownBlock = some q → w1.heap[q]? = x.heap[q]?) → w1.ownsRow (g + 1) 76 513 (.slice ao1 d.W.length k1) d.W.length (d.W.flatMap wc)) := Lib.hid (fun w1 _ h => rowKeep own h)
          have HAPP : Hid (∀ (L : Nat → Bool) (w1 w2 : World), SW A g b n x X (Value.slice ao1 d.W.length k1).ownBlock { d with W := d.W ++ [(k, padd B)], fuse := d.fuse - 1 } L w1 → L 10 = false → w1.grownBy w2 (Value.slice ao1 d.W.length k1).ownBlock → SW A g b n x X (Value.slice ao1 d.W.length k1).ownBlock { d with W := d.W ++ [(k, padd B)], fuse := d.fuse - 1 } (fun j => j == 7 || L j) w2) := Lib.hid (fun L w1 w3 hS h10 j => by
            have hs := hS.f.size
            have hbg := hDx.bg
            refine ⟨hS.f.trans (Frm.of_grownO j hoA), (j.block X (by omega) (fun e => by have := (hob1 X e.symm).1; omega)).trans hS.l, fun _ => ⟨(j.block g (by omega) (fun e => by have := (hob1 g e.symm).2; omega)).trans (hS.h h10).1, (j.block b (by omega) (fun e => by have := (hob1 b e.symm).2; omega)).trans (hS.h h10).2⟩, (fun e => by simp at e), (fun e => by simp [h10] at e)⟩)
          have HST : Hid (∀ (L : Nat → Bool) (w1 : World) (v : Value), SW A g b n x X (Value.slice ao1 d.W.length k1).ownBlock { d with W := d.W ++ [(k, padd B)], fuse := d.fuse - 1 } L w1 → L 10 = false → w1.ownsRow (g + 1) 76 513 v (d.W.length + 1) (d.W.flatMap wc ++ wc (k, padd B)) → (∀ q, v.ownBlock = some q → A q) → SW A g b n x X (Value.slice ao1 d.W.length k1).ownBlock { d with W := d.W ++ [(k, padd B)], fuse := d.fuse - 1 } (fun j => j == 10 || L j) (w1.setCell ⟨g, 1, none⟩ v)) := Lib.hid (fun L w1 v hS h10 ho ha => by
            refine ⟨hS.f.setCell _ _ (.inl rfl), (heap_setCell_other w1 _ X v (fun e => by have e2 : X = g := e; omega)).trans hS.l, (fun e => by simp at e), fun e q hq => ?_, fun _ => ?_⟩
            · have e7 : L 7 = false := by simpa using e
              exact (heap_setCell_other w1 _ q v (fun e => by have e2 : q = g := e; have := (hob1 q hq).2; omega)).trans (hS.o e7 q hq)
            · exact hDx.push hS.f.size (hS.h h10).1 (hS.h h10).2 v (d.W ++ [(k, padd B)]) (by simpa using ho) ha (fun p hp => by
                rcases List.mem_append.1 hp with h | h
                · exact hDx.wl p h
                · rw [List.mem_singleton] at h; subst h; exact ⟨by show k < n; omega, hpl⟩))
          have HAL : Hid (∀ (L : Nat → Bool) (w1 : World) (o : Obj) (i : Nat), i ≠ 7 → i ≠ 10 → SW A g b n x X (Value.slice ao1 d.W.length k1).ownBlock { d with W := d.W ++ [(k, padd B)], fuse := d.fuse - 1 } L w1 → SW A g b n x X (Value.slice ao1 d.W.length k1).ownBlock { d with W := d.W ++ [(k, padd B)], fuse := d.fuse - 1 } (fun j => j == i || L j) (w1.alloc o)) := Lib.hid (fun L w1 o i h7 h10 hS => by
            have h2 := hS.step i h7 h10
            have hs := hS.f.size
            have hbg := hDx.bg
            exact ⟨h2.f.alloc _, (Below.heap_alloc w1 o X (by omega)).trans h2.l, fun e => ⟨(Below.heap_alloc w1 o g (by omega)).trans (h2.h e).1, (Below.heap_alloc w1 o b (by omega)).trans (h2.h e).2⟩, fun e q hq => (Below.heap_alloc w1 o q (by have := (hob1 q hq).1; omega)).trans (h2.o e q hq), fun e => (h2.d e).alloc o⟩)
          have p13 : SW A g b n x X (Value.slice ao1 d.W.length k1).ownBlock { d with W := d.W ++ [(k, padd B)], fuse := d.fuse - 1 } (fun _ => false) x.drew := ⟨⟨rfl, rfl, rfl, Nat.le_refl _, fun _ _ _ _ _ => rfl⟩, rfl, fun _ => ⟨rfl, rfl⟩, fun _ _ _ => rfl, fun e => by cases e⟩
          clear hob1 own1 own c1y hbx hF1 hX
          refine region_monoN (SW A g b n x X (Value.slice ao1 d.W.length k1).ownBlock { d with W := d.W ++ [(k, padd B)], fuse := d.fuse - 1 }) (Rk g (Value.slice ao1 d.W.length k1).ownBlock) (V13 A g d.W.length k1 x.heap.size ao1 (k, padd B) (d.W.flatMap wc)) [(0, some 52), (1, some 53), (2, some 54), (3, some 55), (4, some 56), (5, some 57), (6, some 58), (7, some 59), (8, some 60), (9, some 61), (10, none)] (by kernel_rfl) (by kernel_rfl) (by kernel_rfl) (fun k1 i1 v1 w1 w2 hk1 h1 r1 => V13_keep A g _ _ _ _ _ _ _ HOB.out hgx k1 i1 v1 w1 w2 hk1 h1 r1) (p13) ?_ (fun vs w' L hS hLL hV => ?_)
          · refine StepsN.cons0  (by kernel_rfl)  ?_ ?_
            · rintro L hC hL w1 hS  K hK
              (try simp only [Act.put, List.setIfInBounds_toArray, List.set_cons_zero, List.set_cons_succ])
              go_simp
              exact hK.out _ _ rfl ⟨hS.step _ (by decide) (by decide), Rk.below (by decide) (by decide) (Below.refl _ _)⟩
            refine StepsN.cons0  (by kernel_rfl)  ?_ ?_
            · rintro L hC hL w1 hS  K hK
              (try simp only [Act.put, List.setIfInBounds_toArray, List.set_cons_zero, List.set_cons_succ])
              go_simp
              exact hK.out _ _ rfl ⟨hS.step _ (by decide) (by decide), Rk.below (by decide) (by decide) (Below.refl _ _)⟩
            refine StepsN.cons1 1 (some 53) (by kernel_rfl) rfl ?_ ?_
            · rintro L hC hL w1 hS _ rfl K hK
              (try simp only [Act.put, List.setIfInBounds_toArray, List.set_cons_zero, List.set_cons_succ])
              go_simp
              exact hK.out _ _ rfl ⟨hS.step _ (by decide) (by decide), Rk.below (by decide) (by decide) (Below.refl _ _)⟩
            refine StepsN.cons1 2 (some 54) (by kernel_rfl) rfl ?_ ?_
            · rintro L hC hL w1 hS _ rfl K hK
              (try simp only [Act.put, List.setIfInBounds_toArray, List.set_cons_zero, List.set_cons_succ])
              go_simp
              exact hK.out _ _ rfl ⟨hS.step _ (by decide) (by decide), Rk.below (by decide) (by decide) (Below.refl _ _)⟩
            refine StepsN.cons1 3 (some 55) (by kernel_rfl) rfl ?_ ?_
            · rintro L hC hL w1 hS _ rfl K hK
              (try simp only [Act.put, List.setIfInBounds_toArray, List.set_cons_zero, List.set_cons_succ])
              have h4 : L 4 = false := hL
              have h7 := hC.no h4 (j := 7) rfl (by kernel_rfl)
              have h10 := hC.no h7 (j := 10) rfl (by kernel_rfl)
              have hc1 : w1.cell? ⟨g, 1, none⟩ = some (.slice ao1 d.W.length k1) := (World.cell?_of_block (a := ⟨g, 1, none⟩) (hS.h h10).1).trans c1x
              go_simp
              exact hK.out _ _ rfl ⟨hS.step _ (by decide) (by decide), Rk.below (by decide) (by decide) (Below.refl _ _)⟩
            refine StepsN.cons0  (by kernel_rfl)  ?_ ?_
            · rintro L hC hL w1 hS  K hK
              (try simp only [Act.put, List.setIfInBounds_toArray, List.set_cons_zero, List.set_cons_succ])
              rw [if_pos (by rfl)]
              refine wp_load60 (.tmp 8) rfl X 0 (k, padd B) rfl hpl (fun i u hu => (World.cell?_of_block (a := ⟨X, _, none⟩) hS.l).trans (hXr i u hu)) ?_
              exact hK.out _ _ rfl ⟨hS.step _ (by decide) (by decide), Rk.below (by decide) (by decide) (Below.refl _ _)⟩
            refine StepsN.cons1 5 (some 57) (by kernel_rfl) rfl ?_ ?_
            · rintro L hC hL w1 hS _ rfl K hK
              (try simp only [Act.put, List.setIfInBounds_toArray, List.set_cons_zero, List.set_cons_succ])
              rw [if_pos (by rfl)]
              refine wp_bs60 (.tmp 57) rfl (k, padd B) rfl hpl ?_
              exact hK.out _ _ ⟨w1.heap.size, rfl, hS.f.size, by simp, range_new w1 _ 76⟩ ⟨HAL.out L w1 _ 6 (by decide) (by decide) hS, Rk.below (by decide) (by decide) ((Below.refl _ _).alloc (Nat.le_refl _) _)⟩
            refine StepsN.cons2 4 (some 56) 6 (some 58) (by kernel_rfl) rfl rfl ?_ ?_
            · rintro L hC hL w1 hS _ rfl _ ⟨y6, rfl, s6, t6, r6⟩ K hK
              (try simp only [Act.put, List.setIfInBounds_toArray, List.set_cons_zero, List.set_cons_succ])
              have h7 : L 7 = false := hL
              have h10 := hC.no h7 (j := 10) rfl (by kernel_rfl)
              rw [if_pos (by rfl)]
              refine wp_app60 (.tmp 56) (.tmp 58) rfl (g + 1) (.slice ao1 d.W.length k1) d.W.length (d.W.flatMap wc) rfl (HOWN.out w1 hS.f.size (hS.o h7)) y6 (k, padd B) rfl hpl r6 hW (Nat.le_trans hgx hS.f.size) ?_
              intro v' w2 ho hj hv
              obtain ⟨a9, c9, rfl⟩ := row_form ho
              exact hK.out _ _ ⟨a9, c9, rfl, ho, fun q e => hv.elim (fun e2 => hoA q (e2.symm.trans e)) (fun ⟨q2, e2, h2⟩ => hA q (by rw [e2] at e; injection e with e; subst e; have := hS.f.size; have := hFx.size; omega))⟩ ⟨HAPP.out L w1 w2 hS h10 hj, ⟨fun _ => hj, fun e => absurd e (by decide), fun e => absurd rfl e⟩⟩
            refine StepsN.cons1 0 (some 52) (by kernel_rfl) rfl ?_ ?_
            · rintro L hC hL w1 hS _ rfl K hK
              (try simp only [Act.put, List.setIfInBounds_toArray, List.set_cons_zero, List.set_cons_succ])
              go_simp
              exact hK.out _ _ rfl ⟨hS.step _ (by decide) (by decide), Rk.below (by decide) (by decide) (Below.refl _ _)⟩
            refine StepsN.cons1 8 (some 60) (by kernel_rfl) rfl ?_ ?_
            · rintro L hC hL w1 hS _ rfl K hK
              (try simp only [Act.put, List.setIfInBounds_toArray, List.set_cons_zero, List.set_cons_succ])
              go_simp
              exact hK.out _ _ rfl ⟨hS.step _ (by decide) (by decide), Rk.below (by decide) (by decide) (Below.refl _ _)⟩
            refine StepsN.cons2 7 (some 59) 9 (some 61) (by kernel_rfl) rfl rfl ?_ ?_
            · rintro L hC hL w1 hS _ ⟨p7, q7, rfl, o7, a7⟩ _ rfl K hK
              (try simp only [Act.put, List.setIfInBounds_toArray, List.set_cons_zero, List.set_cons_succ])
              have h10 : L 10 = false := hL
              obtain ⟨hu, hf⟩ := hDx.push1 (hS.h h10).1
              obtain ⟨u, hu⟩ := Option.isSome_iff_exists.1 hu
              go_simp
              exact hK.out undef _ trivial ⟨HST.out L w1 _ hS h10 o7 a7, ⟨fun e => absurd e (by decide), fun _ => ⟨rfl, rfl, rfl, by simp, fun k hk hne => heap_setCell_other w1 _ k _ (fun e => hne (by rw [e]))⟩, fun _ e => absurd rfl e⟩⟩
            exact StepsN.nil
          · have hDf := hS.d (hLL 10 (by simp))
            have hFf := hFx.trans hS.f
            simp only [putl, List.foldl_cons, List.foldl_nil, Act.put, List.setIfInBounds_toArray, List.set_cons_zero, List.set_cons_succ]
            clear hV hS hLL p13 hDx hFx
            go_wp2_with fail
            go_ret
            exact ⟨rfl, by simpa using hDf, hFf⟩
        · have d3 : decide (d.fuse > 0) = false := by simp; omega
          go_enter Try.func27, Try.ntmps27
          go_upto_region 11 with (first | (go_at_call 37; (with_reducible refine M25.out.mono ?_); rintro e w2 ⟨rfl, rfl⟩))
          obtain ⟨x1, hx1⟩ : ∃ x1, w2 = x1 := ⟨_, rfl⟩
          have hD1 : Dk A x1 g b n d := by rw [← hx1]; exact hD
          have hF1 : Frm A g b w2 x1 := by rw [← hx1]; exact Frm.refl A g b w2
          have hB1 : Byg g x1 ao B := by rw [← hx1]; exact hB
          rw [hx1]
          clear hx1 hD hB c1 c2 f2 M25 C16
          have hwn : ¬ wc (0, zs) = [] := by unfold wc; simp
          have ZL : (k, zs).2.length = 512 := zs_len
          have hwl : (wc (0, zs)).length = 513 := wc_len zs_len
          have ht := there_new x1 (wc (0, zs)).toArray 76 513 (by rw [List.size_toArray, hwl]; omega)
          have ht2 := World.there_setCells ht x1.heap.size 0 (wc (k, zs))
          have hbf := below_fill x1 (wc (0, zs)).toArray 76 0 (wc (k, zs))
          have hb2 := hB1.below hbf
          have ht3 : ((x1.alloc (.cells (wc (0, zs)).toArray 76)).setCells x1.heap.size 0 (wc (k, zs))).there x1.heap.size 1 m := fun j hj => by
            have := ht2 (1 + j) (by omega)
            rwa [Nat.zero_add] at this
          have hcopy := run_copy28 _ 3 x1.heap.size 1 512 512 ao m c B HM.out hm512 hb2.bys ht3
          go_upto_region 13 with (first
            | ((with_reducible refine store60m rfl (.tmp 8) (.tmp 47) rfl x1.heap.size 0 (k, zs) rfl ?hy ZL ht ?_); (case hy => exact congrArg (fun l => Value.agg (List.toArray l)) (wc_set k))))
          have hXr := fill_pad (x1.alloc (.cells (wc (0, zs)).toArray 76)) x1.heap.size ht k B (by omega)
          have hbx := below_fill2 x1 (wc (0, zs)).toArray 76 0 1 (wc (k, zs)) (B.map c8)
          have hXs : x1.heap.size < (((x1.alloc (.cells (wc (0, zs)).toArray 76)).setCells x1.heap.size 0 (wc (k, zs))).setCells x1.heap.size 1 (B.map c8)).heap.size := by rw [sz_setCells, sz_setCells]; simp
          obtain ⟨x, hx⟩ : ∃ x, (((x1.alloc (.cells (wc (0, zs)).toArray 76)).setCells x1.heap.size 0 (wc (k, zs))).setCells x1.heap.size 1 (B.map c8)) = x := ⟨_, rfl⟩
          rw [hx] at hXr hbx hXs ⊢
          clear hx ht ht2 ht3 hb2 hbf hcopy hB1
          obtain ⟨ao1, k1, c1y, own1, hoA, -⟩ := hD1.c1
          have hg1 := hD1.lt
          have c1x : x.cell? ⟨g, 1, none⟩ = some (.slice ao1 d.W.length k1) := (World.cell?_of_block (a := ⟨g, 1, none⟩) (hbx.block g hg1)).trans c1y
          have hob1 : ∀ q, (Value.slice ao1 d.W.length k1).ownBlock = some q → q < x1.heap.size ∧ g < q := fun q e => by have := own1.lt q e; omega
          have own : x.ownsRow (g + 1) 76 513 (.slice ao1 d.W.length k1) d.W.length (d.W.flatMap wc) := rowKeep own1 fun q e => hbx.block q (hob1 q e).1
          have hDx := hD1.below hbx
          have hFx := hF1.trans (Frm.of_below hbx)
          have hgx : g < x.heap.size := hDx.lt
          have hsx := hbx.size
          have hpl := padd_len (B := B) (by omega)
          obtain ⟨X, hX⟩ : ∃ X, x1.heap.size = X := ⟨_, rfl⟩
          rw [hX] at hXr hXs hg1 hob1 hsx ⊢
          have HOB := Lib.hid (fun (q : Nat) (e : (Value.slice ao1 d.W.length k1).ownBlock = some q) => (⟨Nat.lt_trans (hob1 q e).1 hXs, (hob1 q e).2⟩ : q < x.heap.size ∧ g < q))
          have HOWN : Hid (∀ w1 : World, x.heap.size ≤ w1.heap.size → (∀ q, (Value.slice ao1 d.W.length k1).ownBlock = some q → w1.heap[q]? = x.heap[q]?) → w1.ownsRow (g + 1) 76 513 (.slice ao1 d.W.length k1) d.W.length (d.W.flatMap wc)) := Lib.hid (fun w1 _ h => rowKeep own h)
          have HAPP : Hid (∀ (L : Nat → Bool) (w1 w2 : World), SW A g b n x X (Value.slice ao1 d.W.length k1).ownBlock { d with W := d.W ++ [(k, padd B)] } L w1 → L 10 = false → w1.grownBy w2 (Value.slice ao1 d.W.length k1).ownBlock → SW A g b n x X (Value.slice ao1 d.W.length k1).ownBlock { d with W := d.W ++ [(k, padd B)] } (fun j => j == 7 || L j) w2) := Lib.hid (fun L w1 w3 hS h10 j => by
            have hs := hS.f.size
            have hbg := hDx.bg
            refine ⟨hS.f.trans (Frm.of_grownO j hoA), (j.block X (by omega) (fun e => by have := (hob1 X e.symm).1; omega)).trans hS.l, fun _ => ⟨(j.block g (by omega) (fun e => by have := (hob1 g e.symm).2; omega)).trans (hS.h h10).1, (j.block b (by omega) (fun e => by have := (hob1 b e.symm).2; omega)).trans (hS.h h10).2⟩, (fun e => by simp at e), (fun e => by simp [h10] at e)⟩)
          have HST : Hid (∀ (L : Nat → Bool) (w1 : World) (v : Value), SW A g b n x X (Value.slice ao1 d.W.length k1).ownBlock { d with W := d.W ++ [(k, padd B)] } L w1 → L 10 = false → w1.ownsRow (g + 1) 76 513 v (d.W.length + 1) (d.W.flatMap wc ++ wc (k, padd B)) → (∀ q, v.ownBlock = some q → A q) → SW A g b n x X (Value.slice ao1 d.W.length k1).ownBlock { d with W := d.W ++ [(k, padd B)] } (fun j => j == 10 || L j) (w1.setCell ⟨g, 1, none⟩ v)) := Lib.hid (fun L w1 v hS h10 ho ha => by
            refine ⟨hS.f.setCell _ _ (.inl rfl), (heap_setCell_other w1 _ X v (fun e => by have e2 : X = g := e; omega)).trans hS.l, (fun e => by simp at e), fun e q hq => ?_, fun _ => ?_⟩
            · have e7 : L 7 = false := by simpa using e
              exact (heap_setCell_other w1 _ q v (fun e => by have e2 : q = g := e; have := (hob1 q hq).2; omega)).trans (hS.o e7 q hq)
            · exact hDx.push hS.f.size (hS.h h10).1 (hS.h h10).2 v (d.W ++ [(k, padd B)]) (by simpa using ho) ha (fun p hp => by
                rcases List.mem_append.1 hp with h | h
                · exact hDx.wl p h
                · rw [List.mem_singleton] at h; subst h; exact ⟨by show k < n; omega, hpl⟩))
          have HAL : Hid (∀ (L : Nat → Bool) (w1 : World) (o : Obj) (i : Nat), i ≠ 7 → i ≠ 10 → SW A g b n x X (Value.slice ao1 d.W.length k1).ownBlock { d with W := d.W ++ [(k, padd B)] } L w1 → SW A g b n x X (Value.slice ao1 d.W.length k1).ownBlock { d with W := d.W ++ [(k, padd B)] } (fun j => j == i || L j) (w1.alloc o)) := Lib.hid (fun L w1 o i h7 h10 hS => by
            have h2 := hS.step i h7 h10
            have hs := hS.f.size
            have hbg := hDx.bg
            exact ⟨h2.f.alloc _, (Below.heap_alloc w1 o X (by omega)).trans h2.l, fun e => ⟨(Below.heap_alloc w1 o g (by omega)).trans (h2.h e).1, (Below.heap_alloc w1 o b (by omega)).trans (h2.h e).2⟩, fun e q hq => (Below.heap_alloc w1 o q (by have := (hob1 q hq).1; omega)).trans (h2.o e q hq), fun e => (h2.d e).alloc o⟩)
          have p13 : SW A g b n x X (Value.slice ao1 d.W.length k1).ownBlock { d with W := d.W ++ [(k, padd B)] } (fun _ => false) x.drew := ⟨⟨rfl, rfl, rfl, Nat.le_refl _, fun _ _ _ _ _ => rfl⟩, rfl, fun _ => ⟨rfl, rfl⟩, fun _ _ _ => rfl, fun e => by cases e⟩
          clear hob1 own1 own c1y hbx hF1 hX
          refine region_monoN (SW A g b n x X (Value.slice ao1 d.W.length k1).ownBlock { d with W := d.W ++ [(k, padd B)] }) (Rk g (Value.slice ao1 d.W.length k1).ownBlock) (V13 A g d.W.length k1 x.heap.size ao1 (k, padd B) (d.W.flatMap wc)) [(0, some 52), (1, some 53), (2, some 54), (3, some 55), (4, some 56), (5, some 57), (6, some 58), (7, some 59), (8, some 60), (9, some 61), (10, none)] (by kernel_rfl) (by kernel_rfl) (by kernel_rfl) (fun k1 i1 v1 w1 w2 hk1 h1 r1 => V13_keep A g _ _ _ _ _ _ _ HOB.out hgx k1 i1 v1 w1 w2 hk1 h1 r1) (p13) ?_ (fun vs w' L hS hLL hV => ?_)
          · refine StepsN.cons0  (by kernel_rfl)  ?_ ?_
            · rintro L hC hL w1 hS  K hK
              (try simp only [Act.put, List.setIfInBounds_toArray, List.set_cons_zero, List.set_cons_succ])
              go_simp
              exact hK.out _ _ rfl ⟨hS.step _ (by decide) (by decide), Rk.below (by decide) (by decide) (Below.refl _ _)⟩
            refine StepsN.cons0  (by kernel_rfl)  ?_ ?_
            · rintro L hC hL w1 hS  K hK
              (try simp only [Act.put, List.setIfInBounds_toArray, List.set_cons_zero, List.set_cons_succ])
              go_simp
              exact hK.out _ _ rfl ⟨hS.step _ (by decide) (by decide), Rk.below (by decide) (by decide) (Below.refl _ _)⟩
            refine StepsN.cons1 1 (some 53) (by kernel_rfl) rfl ?_ ?_
            · rintro L hC hL w1 hS _ rfl K hK
              (try simp only [Act.put, List.setIfInBounds_toArray, List.set_cons_zero, List.set_cons_succ])
              go_simp
              exact hK.out _ _ rfl ⟨hS.step _ (by decide) (by decide), Rk.below (by decide) (by decide) (Below.refl _ _)⟩
            refine StepsN.cons1 2 (some 54) (by kernel_rfl) rfl ?_ ?_
            · rintro L hC hL w1 hS _ rfl K hK
              (try simp only [Act.put, List.setIfInBounds_toArray, List.set_cons_zero, List.set_cons_succ])
              go_simp
              exact hK.out _ _ rfl ⟨hS.step _ (by decide) (by decide), Rk.below (by decide) (by decide) (Below.refl _ _)⟩
            refine StepsN.cons1 3 (some 55) (by kernel_rfl) rfl ?_ ?_
            · rintro L hC hL w1 hS _ rfl K hK
              (try simp only [Act.put, List.setIfInBounds_toArray, List.set_cons_zero, List.set_cons_succ])
              have h4 : L 4 = false := hL
              have h7 := hC.no h4 (j := 7) rfl (by kernel_rfl)
              have h10 := hC.no h7 (j := 10) rfl (by kernel_rfl)
              have hc1 : w1.cell? ⟨g, 1, none⟩ = some (.slice ao1 d.W.length k1) := (World.cell?_of_block (a := ⟨g, 1, none⟩) (hS.h h10).1).trans c1x
              go_simp
              exact hK.out _ _ rfl ⟨hS.step _ (by decide) (by decide), Rk.below (by decide) (by decide) (Below.refl _ _)⟩
            refine StepsN.cons0  (by kernel_rfl)  ?_ ?_
            · rintro L hC hL w1 hS  K hK
              (try simp only [Act.put, List.setIfInBounds_toArray, List.set_cons_zero, List.set_cons_succ])
              rw [if_pos (by rfl)]
              refine wp_load60 (.tmp 8) rfl X 0 (k, padd B) rfl hpl (fun i u hu => (World.cell?_of_block (a := ⟨X, _, none⟩) hS.l).trans (hXr i u hu)) ?_
              exact hK.out _ _ rfl ⟨hS.step _ (by decide) (by decide), Rk.below (by decide) (by decide) (Below.refl _ _)⟩
            refine StepsN.cons1 5 (some 57) (by kernel_rfl) rfl ?_ ?_
            · rintro L hC hL w1 hS _ rfl K hK
              (try simp only [Act.put, List.setIfInBounds_toArray, List.set_cons_zero, List.set_cons_succ])
              rw [if_pos (by rfl)]
              refine wp_bs60 (.tmp 57) rfl (k, padd B) rfl hpl ?_
              exact hK.out _ _ ⟨w1.heap.size, rfl, hS.f.size, by simp, range_new w1 _ 76⟩ ⟨HAL.out L w1 _ 6 (by decide) (by decide) hS, Rk.below (by decide) (by decide) ((Below.refl _ _).alloc (Nat.le_refl _) _)⟩
            refine StepsN.cons2 4 (some 56) 6 (some 58) (by kernel_rfl) rfl rfl ?_ ?_
            · rintro L hC hL w1 hS _ rfl _ ⟨y6, rfl, s6, t6, r6⟩ K hK
              (try simp only [Act.put, List.setIfInBounds_toArray, List.set_cons_zero, List.set_cons_succ])
              have h7 : L 7 = false := hL
              have h10 := hC.no h7 (j := 10) rfl (by kernel_rfl)
              rw [if_pos (by rfl)]
              refine wp_app60 (.tmp 56) (.tmp 58) rfl (g + 1) (.slice ao1 d.W.length k1) d.W.length (d.W.flatMap wc) rfl (HOWN.out w1 hS.f.size (hS.o h7)) y6 (k, padd B) rfl hpl r6 hW (Nat.le_trans hgx hS.f.size) ?_
              intro v' w2 ho hj hv
              obtain ⟨a9, c9, rfl⟩ := row_form ho
              exact hK.out _ _ ⟨a9, c9, rfl, ho, fun q e => hv.elim (fun e2 => hoA q (e2.symm.trans e)) (fun ⟨q2, e2, h2⟩ => hA q (by rw [e2] at e; injection e with e; subst e; have := hS.f.size; have := hFx.size; omega))⟩ ⟨HAPP.out L w1 w2 hS h10 hj, ⟨fun _ => hj, fun e => absurd e (by decide), fun e => absurd rfl e⟩⟩
            refine StepsN.cons1 0 (some 52) (by kernel_rfl) rfl ?_ ?_
            · rintro L hC hL w1 hS _ rfl K hK
              (try simp only [Act.put, List.setIfInBounds_toArray, List.set_cons_zero, List.set_cons_succ])
              go_simp
              exact hK.out _ _ rfl ⟨hS.step _ (by decide) (by decide), Rk.below (by decide) (by decide) (Below.refl _ _)⟩
            refine StepsN.cons1 8 (some 60) (by kernel_rfl) rfl ?_ ?_
            · rintro L hC hL w1 hS _ rfl K hK
              (try simp only [Act.put, List.setIfInBounds_toArray, List.set_cons_zero, List.set_cons_succ])
              go_simp
              exact hK.out _ _ rfl ⟨hS.step _ (by decide) (by decide), Rk.below (by decide) (by decide) (Below.refl _ _)⟩
            refine StepsN.cons2 7 (some 59) 9 (some 61) (by kernel_rfl) rfl rfl ?_ ?_
            · rintro L hC hL w1 hS _ ⟨p7, q7, rfl, o7, a7⟩ _ rfl K hK
              (try simp only [Act.put, List.setIfInBounds_toArray, List.set_cons_zero, List.set_cons_succ])
              have h10 : L 10 = false := hL
              obtain ⟨hu, hf⟩ := hDx.push1 (hS.h h10).1
              obtain ⟨u, hu⟩ := Option.isSome_iff_exists.1 hu
              go_simp
              exact hK.out undef _ trivial ⟨HST.out L w1 _ hS h10 o7 a7, ⟨fun e => absurd e (by decide), fun _ => ⟨rfl, rfl, rfl, by simp, fun k hk hne => heap_setCell_other w1 _ k _ (fun e => hne (by rw [e]))⟩, fun _ e => absurd rfl e⟩⟩
            exact StepsN.nil
          · have hDf := hS.d (hLL 10 (by simp))
            have hFf := hFx.trans hS.f
            simp only [putl, List.foldl_cons, List.foldl_nil, Act.put, List.setIfInBounds_toArray, List.set_cons_zero, List.set_cons_succ]
            clear hV hS hLL p13 hDx hFx
            go_wp2_with fail
            go_ret
            exact ⟨rfl, by simpa using hDf, hFf⟩
  · rw [if_pos (by simpa using hmay)]
    have d1 : ((Mayc n d i) != 0) = true := by simpa using hmay
    generalize Mayc n d i = mm at *
    go_enter Try.func27, Try.ntmps27
    go_wp2_with (first | (go_at_call 37; (with_reducible refine M25.out.mono ?_); rintro e w2 ⟨rfl, rfl⟩))
    go_ret
    exact ⟨rfl, hD, Frm.refl _ _ _ _⟩
end Go.Proofs.Ytjabkfccfecmgaa
