/- A disk in memory. -/
import Derived.Test.YtjabkfccfecmgaaA
import Derived.Test.YtjabkfccfecmgaaN
namespace Go.Proofs.Ytjabkfccfecmgaa
open Go.ChangeShapes Go.WideShapes Go.ChangeAt Go.RowKit
set_option linter.unusedSimpArgs false
set_option linter.unusedVariables false
theorem info58 : (Try.prog.info? 63).map (fun i => (i.zero, i.size, i.bytes)) = some (some (.agg (List.replicate 512 (.int .u8 0)).toArray), 512, 512) := by kernel_rfl
theorem info60 : (Try.prog.info? 76).map (fun i => (i.zero, i.size, i.bytes)) = some (some (.agg (.int .i64 0 :: List.replicate 512 (.int .u8 0)).toArray), 513, 520) := by kernel_rfl
abbrev Byte := BitVec 8
abbrev Sct := List Byte
def updS (S : Nat → Sct) (i : Nat) (D : Sct) : Nat → Sct := fun k => if k = i then D else S k
theorem sz_setCells (b : Nat) : ∀ (vs : List Value) (o : Nat) (w : World), (w.setCells b o vs).heap.size = w.heap.size
  | [], _, _ => rfl
  | v :: r, o, w => by rw [World.setCells, sz_setCells b r]; simp
theorem tape_setCells (b : Nat) : ∀ (vs : List Value) (o : Nat) (w : World), (w.setCells b o vs).tape = w.tape
  | [], _, _ => rfl
  | v :: r, o, w => by rw [World.setCells, tape_setCells b r]; rfl
/-- Sectors in block b. -/
structure Sec (w : World) (b n : Nat) (S : Nat → Sct) : Prop where
  rng : ∀ i, i < n → w.rangeAt b (i * 512) ((S i).map c8)
  len : ∀ i, i < n → (S i).length = 512
  there : w.there b 0 (n * 512)
  lt : b < w.heap.size
section
variable {w w' : World} {b n : Nat} {S : Nat → Sct}
theorem Sec.keep (h : Sec w b n S) (hs : w.heap.size ≤ w'.heap.size) (hk : w'.heap[b]? = w.heap[b]?) : Sec w' b n S :=
  ⟨fun i hi j v hv => (World.cell?_of_block (a := ⟨b, _, none⟩) hk).trans (h.rng i hi j v hv), h.len, fun j hj => ⟨by rw [World.cell?_of_block (a := ⟨b, _, none⟩) hk]; exact (h.there j hj).1, by rw [World.frozen?_of_block (a := ⟨b, _, none⟩) hk]; exact (h.there j hj).2⟩, Nat.lt_of_lt_of_le h.lt hs⟩
theorem Sec.thereAt (h : Sec w b n S) (i : Nat) (hi : i < n) : w.there b (i * 512) 512 := fun j hj => by
  have := h.there (i * 512 + j) (by omega)
  rw [Nat.zero_add] at this
  exact this
theorem Sec.set (h : Sec w b n S) (i : Nat) (hi : i < n) (D : Sct) (hD : D.length = 512) : Sec (w.setCells b (i * 512) (D.map c8)) b n (updS S i D) := by
  have hl : (D.map c8).length = 512 := by simpa using hD
  refine ⟨fun k hk => ?_, fun k hk => ?_, World.there_setCells h.there _ _ _, by rw [sz_setCells]; exact h.lt⟩
  · unfold updS
    by_cases e : k = i
    · subst e
      rw [if_pos rfl]
      exact World.rangeAt_setCells_same _ _ _ _ (by rw [hl]; exact h.thereAt k hi)
    · rw [if_neg e]
      refine World.rangeAt_setCells_apart (h.rng k hk) _ _ _ (.inr ?_)
      have h2 : ((S k).map c8).length = 512 := by simpa using h.len k hk
      rw [hl, h2]
      omega
  · unfold updS
    by_cases e : k = i
    · rw [if_pos e]; exact hD
    · rw [if_neg e]; exact h.len k hk
theorem Sec.congr {T : Nat → Sct} (h : Sec w b n S) (e : ∀ i, i < n → S i = T i) : Sec w b n T :=
  ⟨fun i hi => by rw [← e i hi]; exact h.rng i hi, fun i hi => by rw [← e i hi]; exact h.len i hi, h.there, h.lt⟩
end
/-- A write that waits: its place, its bytes. -/
abbrev Wt := Nat × Sct
def wc (p : Wt) : List Value := .int .i64 p.1 :: p.2.map c8
theorem wc_len {p : Wt} (h : p.2.length = 512) : (wc p).length = 513 := by simp [wc, h]
theorem flat_len {W : List Wt} (h : ∀ p ∈ W, p.2.length = 512) : (W.flatMap wc).length = W.length * 513 := by
  induction W with
  | nil => rfl
  | cons p W ih =>
    rw [List.flatMap_cons, List.length_append, wc_len (h p (by simp)), ih (fun q hq => h q (by simp [hq])), List.length_cons]
    omega
theorem flat_at {W : List Wt} (h : ∀ p ∈ W, p.2.length = 512) : ∀ (k : Nat) (p : Wt), W[k]? = some p → ∀ (j : Nat) (v : Value), (wc p)[j]? = some v → (W.flatMap wc)[k * 513 + j]? = some v := by
  induction W with
  | nil => intro k p hk; simp at hk
  | cons q W ih =>
    intro k p hk j v hj
    rw [List.flatMap_cons]
    have hq := wc_len (h q (by simp))
    cases k with
    | zero =>
      simp at hk; subst hk
      rw [Nat.zero_mul, Nat.zero_add, List.getElem?_append_left (List.getElem?_eq_some_iff.1 hj).1]
      exact hj
    | succ k =>
      rw [List.getElem?_append_right (by omega), hq, show (k + 1) * 513 + j - 513 = k * 513 + j by omega]
      exact ih (fun q hq => h q (by simp [hq])) k p (by simpa using hk) j v hj
/-- A disk. -/
structure DS where
  S : Nat → Sct
  W : List Wt
  fuse : Int
  down : Bool
/-- A disk of n sectors: its block is g, its sectors' block b; what waits lies in a block of A. -/
structure Dk (A : Nat → Prop) (w : World) (g b n : Nat) (d : DS) : Prop where
  at_ : ∃ wv, w.heap[g]? = some (.cells #[.slice (some ⟨b, 0, none⟩) n n, wv, .int .i64 d.fuse, .bool d.down] 44 (0, 0)) ∧ w.ownsRow (g + 1) 76 513 wv d.W.length (d.W.flatMap wc) ∧ (∀ k, wv.ownBlock = some k → A k)
  sec : Sec w b n d.S
  bg : b < g
  wl : ∀ p ∈ d.W, p.1 < n ∧ p.2.length = 512
  nb : 1 ≤ n ∧ n ≤ 4096
  fb : -1 ≤ d.fuse ∧ d.fuse < 9223372036854775808
/-- What an operation of a disk may change. -/
structure Frm (A : Nat → Prop) (g b : Nat) (w w' : World) : Prop where
  os : w'.os = w.os
  tape : w'.tape = w.tape
  output : w'.output = w.output
  size : w.heap.size ≤ w'.heap.size
  block : ∀ k, k < w.heap.size → k ≠ g → k ≠ b → ¬ A k → w'.heap[k]? = w.heap[k]?
section
variable {A : Nat → Prop} {w w' w'' : World} {g b n : Nat} {d : DS}
theorem Frm.refl (A : Nat → Prop) (g b : Nat) (w : World) : Frm A g b w w := ⟨rfl, rfl, rfl, Nat.le_refl _, fun _ _ _ _ _ => rfl⟩
theorem Frm.trans (h : Frm A g b w w') (k : Frm A g b w' w'') : Frm A g b w w'' :=
  ⟨k.os.trans h.os, k.tape.trans h.tape, k.output.trans h.output, Nat.le_trans h.size k.size, fun i hi h1 h2 h3 => (k.block i (Nat.lt_of_lt_of_le hi h.size) h1 h2 h3).trans (h.block i hi h1 h2 h3)⟩
theorem Frm.of_below (j : Below w.heap.size w w') : Frm A g b w w' := ⟨j.os, j.tape, j.output, j.size, fun k hk _ _ _ => j.block k hk⟩
theorem Frm.of_grown {q : Nat} (j : w.grownBy w' (some q)) (hq : q = g ∨ q = b ∨ A q) : Frm A g b w w' := ⟨j.os, j.tape, j.output, j.size, fun k hk h1 h2 h3 => j.block k hk (fun e => by
  injection e with e
  subst e
  rcases hq with e | e | e
  · exact h1 e
  · exact h2 e
  · exact h3 e)⟩
theorem Frm.setCell (h : Frm A g b w w') (a : Addr) (v : Value) (ha : a.block = g ∨ a.block = b ∨ A a.block) : Frm A g b w (w'.setCell a v) :=
  ⟨h.os, h.tape, h.output, by simp; exact h.size, fun k hk h1 h2 h3 => (heap_setCell_other w' a k v (fun e => by
    rcases ha with e2 | e2 | e2
    · exact h1 (e.trans e2)
    · exact h2 (e.trans e2)
    · rw [← e] at e2; exact h3 e2)).trans (h.block k hk h1 h2 h3)⟩
theorem Frm.setCells (h : Frm A g b w w') (c : Nat) (hc : c = g ∨ c = b ∨ A c) : ∀ (vs : List Value) (o : Nat) (x : World), Frm A g b w x → Frm A g b w (x.setCells c o vs)
  | [], _, _, hx => hx
  | v :: r, o, x, hx => Frm.setCells h c hc r (o + 1) _ (hx.setCell ⟨c, o, none⟩ v hc)
theorem Frm.alloc (h : Frm A g b w w') (o : Obj) : Frm A g b w (w'.alloc o) :=
  ⟨h.os, h.tape, h.output, by simp; have := h.size; omega, fun k hk h1 h2 h3 => (Below.heap_alloc w' o k (Nat.lt_of_lt_of_le hk h.size)).trans (h.block k hk h1 h2 h3)⟩
theorem Frm.toBelow (h : Frm A g b w w') {B : Nat} (hB : B ≤ w.heap.size) (hg : B ≤ g) (hb : B ≤ b) (hA : ∀ k, k < B → ¬ A k) : Below B w w' :=
  ⟨h.os, h.tape, h.output, h.size, fun k hk => h.block k (by omega) (by omega) (by omega) (hA k hk)⟩
theorem Dk.lt (h : Dk A w g b n d) : g < w.heap.size := by
  obtain ⟨wv, h1, _⟩ := h.at_
  exact (Array.getElem?_eq_some_iff.1 h1).1
theorem Dk.frozen (h : Dk A w g b n d) (i : Nat) : w.frozen? ⟨g, i, none⟩ = false := by
  obtain ⟨wv, h1, _⟩ := h.at_
  exact frozen_of_row w g i _ 44 h1
theorem Dk.c0 (h : Dk A w g b n d) : w.cell? ⟨g, 0, none⟩ = some (.slice (some ⟨b, 0, none⟩) n n) := by
  obtain ⟨wv, h1, _⟩ := h.at_
  rw [cell_of_row w g 0 _ 44 _ h1]; rfl
theorem Dk.c2 (h : Dk A w g b n d) : w.cell? ⟨g, 2, none⟩ = some (.int .i64 d.fuse) := by
  obtain ⟨wv, h1, _⟩ := h.at_
  rw [cell_of_row w g 2 _ 44 _ h1]; rfl
theorem Dk.c3 (h : Dk A w g b n d) : w.cell? ⟨g, 3, none⟩ = some (.bool d.down) := by
  obtain ⟨wv, h1, _⟩ := h.at_
  rw [cell_of_row w g 3 _ 44 _ h1]; rfl
/-- What waits, as a slice. -/
theorem Dk.c1 (h : Dk A w g b n d) : ∃ ao c, w.cell? ⟨g, 1, none⟩ = some (.slice ao d.W.length c) ∧ w.ownsRow (g + 1) 76 513 (.slice ao d.W.length c) d.W.length (d.W.flatMap wc) ∧ (∀ k, (Value.slice ao d.W.length c).ownBlock = some k → A k) ∧ d.W.length ≤ c := by
  obtain ⟨wv, h1, h2, h3⟩ := h.at_
  have e : ∃ ao c, wv = .slice ao d.W.length c ∧ d.W.length ≤ c := by
    rcases h2.2 with ⟨rfl, e⟩ | ⟨q, cap, cur, rfl, _, _, hc, _⟩
    · exact ⟨none, 0, by rw [e], by omega⟩
    · exact ⟨_, _, rfl, hc⟩
  obtain ⟨ao, c, rfl, hc⟩ := e
  exact ⟨ao, c, by rw [cell_of_row w g 1 _ 44 _ h1]; rfl, h2, h3, hc⟩
theorem Dk.keep (h : Dk A w g b n d) (hs : w.heap.size ≤ w'.heap.size) (hk : ∀ k, k < w.heap.size → (k = g ∨ k = b ∨ A k) → w'.heap[k]? = w.heap[k]?) : Dk A w' g b n d := by
  have hl := h.lt
  obtain ⟨wv, h1, h2, h3⟩ := h.at_
  refine ⟨⟨wv, (hk g hl (.inl rfl)).trans h1, ⟨h2.1, ?_⟩, h3⟩, h.sec.keep hs (hk b h.sec.lt (.inr (.inl rfl))), h.bg, h.wl, h.nb, h.fb⟩
  rcases h2.2 with hn | ⟨q, cap, cur, rfl, hb, hq, rest⟩
  · exact .inl hn
  · exact .inr ⟨q, cap, cur, rfl, hb, (hk q (Array.getElem?_eq_some_iff.1 hq).1 (.inr (.inr (h3 q rfl)))).trans hq, rest⟩
theorem Dk.below (h : Dk A w g b n d) (j : Below w.heap.size w w') : Dk A w' g b n d := h.keep j.size fun k hk _ => j.block k hk
theorem Dk.alloc (h : Dk A w g b n d) (o : Obj) : Dk A (w.alloc o) g b n d := h.keep (by simp) fun k hk _ => Below.heap_alloc w o k hk
theorem Dk.drew (h : Dk A w g b n d) : Dk A w.drew g b n d := ⟨h.at_, ⟨h.sec.rng, h.sec.len, h.sec.there, h.sec.lt⟩, h.bg, h.wl, h.nb, h.fb⟩
theorem Dk.grown {r : Option Nat} (h : Dk A w g b n d) (j : w.grownBy w' r) (hr : ∀ q, r = some q → q ≠ g ∧ q ≠ b ∧ ¬ A q) : Dk A w' g b n d := h.keep j.size fun k hk hh => j.block k hk (fun e => by
  obtain ⟨h1, h2, h3⟩ := hr k e.symm
  rcases hh with e | e | e
  · exact h1 e
  · exact h2 e
  · exact h3 e)
/-- The disk's own cells, set. -/
theorem Dk.setFuse (h : Dk A w g b n d) (z : Int) (hz : -1 ≤ z ∧ z < 9223372036854775808) : Dk A (w.setCell ⟨g, 2, none⟩ (.int .i64 z)) g b n { d with fuse := z } := by
  obtain ⟨wv, h1, h2, h3⟩ := h.at_
  have hj : w.grownBy (w.setCell ⟨g, 2, none⟩ (.int .i64 z)) (some g) := ⟨rfl, rfl, rfl, by simp, fun k hk hne => heap_setCell_other w _ k _ (fun e => hne (by rw [e]))⟩
  refine ⟨⟨wv, by rw [heap_setCell_same w g 2 _ 44 _ h1]; rfl, h2.kept hj (.inr (fun e => by have := (h2.lt g e).1; omega)), h3⟩, h.sec.keep (by simp) (heap_setCell_other w _ b _ (fun e => by have := h.bg; have e2 : b = g := e; omega)), h.bg, h.wl, h.nb, hz⟩
theorem Dk.setDown (h : Dk A w g b n d) (z : Bool) : Dk A (w.setCell ⟨g, 3, none⟩ (.bool z)) g b n { d with down := z } := by
  obtain ⟨wv, h1, h2, h3⟩ := h.at_
  have hj : w.grownBy (w.setCell ⟨g, 3, none⟩ (.bool z)) (some g) := ⟨rfl, rfl, rfl, by simp, fun k hk hne => heap_setCell_other w _ k _ (fun e => hne (by rw [e]))⟩
  refine ⟨⟨wv, by rw [heap_setCell_same w g 3 _ 44 _ h1]; rfl, h2.kept hj (.inr (fun e => by have := (h2.lt g e).1; omega)), h3⟩, h.sec.keep (by simp) (heap_setCell_other w _ b _ (fun e => by have := h.bg; have e2 : b = g := e; omega)), h.bg, h.wl, h.nb, h.fb⟩
/-- Another row that waits. -/
theorem Dk.setWait (h : Dk A w g b n d) (v : Value) (W : List Wt) (ho : w.ownsRow (g + 1) 76 513 v W.length (W.flatMap wc)) (hA : ∀ k, v.ownBlock = some k → A k) (hw : ∀ p ∈ W, p.1 < n ∧ p.2.length = 512) : Dk A (w.setCell ⟨g, 1, none⟩ v) g b n { d with W := W } := by
  obtain ⟨wv, h1, h2, h3⟩ := h.at_
  have hj : w.grownBy (w.setCell ⟨g, 1, none⟩ v) (some g) := ⟨rfl, rfl, rfl, by simp, fun k hk hne => heap_setCell_other w _ k _ (fun e => hne (by rw [e]))⟩
  refine ⟨⟨v, by rw [heap_setCell_same w g 1 _ 44 _ h1]; rfl, ho.kept hj (.inr (fun e => by have := (ho.lt g e).1; omega)), hA⟩, h.sec.keep (by simp) (heap_setCell_other w _ b _ (fun e => by have := h.bg; have e2 : b = g := e; omega)), h.bg, hw, h.nb, h.fb⟩
/-- A sector, set. -/
theorem Dk.setSec (h : Dk A w g b n d) (i : Nat) (hi : i < n) (D : Sct) (hD : D.length = 512) : Dk A (w.setCells b (i * 512) (D.map c8)) g b n { d with S := updS d.S i D } := by
  obtain ⟨wv, h1, h2, h3⟩ := h.at_
  have hbg := h.bg
  have hlt := h.lt
  have ho : ∀ k, k < w.heap.size → k ≠ b → (w.setCells b (i * 512) (D.map c8)).heap[k]? = w.heap[k]? := fun k hk hne => World.heap_setCells_other w b _ _ hk hne
  refine ⟨⟨wv, (ho g hlt (by omega)).trans h1, ⟨h2.1, ?_⟩, h3⟩, h.sec.set i hi D hD, h.bg, h.wl, h.nb, h.fb⟩
  rcases h2.2 with hn | ⟨q, cap, cur, rfl, hb, hq, rest⟩
  · exact .inl hn
  · exact .inr ⟨q, cap, cur, rfl, hb, (ho q (Array.getElem?_eq_some_iff.1 hq).1 (by omega)).trans hq, rest⟩
end
end Go.Proofs.Ytjabkfccfecmgaa
