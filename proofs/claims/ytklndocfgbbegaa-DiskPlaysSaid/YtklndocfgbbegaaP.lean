/- The document's disk in memory. -/
import Derived.Test.YtklndocfgbbegaaL
import Derived.Deep.DeepCutAuto
namespace Go.Proofs.Ytklndocfgbbegaa
open Go.ChangeShapes Go.WideShapes Go.ChangeAt Go.RowKit
set_option linter.unusedSimpArgs false
set_option linter.unusedVariables false
/-- Block k holds cells of type e. -/
def TP (w : World) (k : Nat) (e : TypeId) : Prop := ∃ cs fz, w.heap[k]? = some (.cells cs e fz)
theorem TP.lt {w : World} {k : Nat} {e : TypeId} (h : TP w k e) : k < w.heap.size := by
  obtain ⟨cs, fz, h⟩ := h
  exact (Array.getElem?_eq_some_iff.1 h).1
theorem TP.ne {w : World} {k j : Nat} {e f : TypeId} (h : TP w k e) (h' : TP w j f) (hef : e ≠ f) : k ≠ j := fun x => by
  subst x
  obtain ⟨cs, fz, h⟩ := h
  obtain ⟨cs', fz', h'⟩ := h'
  rw [h] at h'
  injection h' with h'
  injection h' with _ h2
  exact hef h2
theorem TP.same {w w' : World} {k : Nat} {e : TypeId} (h : TP w k e) (j : w'.heap[k]? = w.heap[k]?) : TP w' k e := by
  obtain ⟨cs, fz, h⟩ := h
  exact ⟨cs, fz, j.trans h⟩
theorem row_tp {w : World} {base e size n : Nat} {v : Value} {xs : List Value} (h : w.ownsRow base e size v n xs) : ∀ k, v.ownBlock = some k → TP w k e := fun k hk => by
  rcases h.2 with ⟨rfl, _⟩ | ⟨q, cap, cur, rfl, hb, hq, _⟩
  · cases hk
  · injection hk with hk
    subst hk
    exact ⟨cur, (0, 0), hq⟩
/-- All blocks but those of X are as they were. -/
structure Ft (X : Nat → Prop) (w w' : World) : Prop where
  os : w'.os = w.os
  tape : w'.tape = w.tape
  output : w'.output = w.output
  size : w.heap.size ≤ w'.heap.size
  block : ∀ k, k < w.heap.size → ¬ X k → w'.heap[k]? = w.heap[k]?
theorem Ft.refl (X : Nat → Prop) (w : World) : Ft X w w := ⟨rfl, rfl, rfl, Nat.le_refl _, fun _ _ _ => rfl⟩
theorem Ft.drew {X : Nat → Prop} {w w' : World} (h : Ft X w w') : Ft X w w'.drew := ⟨h.os, h.tape, h.output, h.size, h.block⟩
theorem Ft.of_below {X : Nat → Prop} {w w' : World} (j : Below w.heap.size w w') : Ft X w w' := ⟨j.os, j.tape, j.output, j.size, fun k hk _ => j.block k hk⟩
/-- What the document's disk may change. -/
def XR (gt : Nat) (w : World) (k : Nat) : Prop := k = gt ∨ (gt < k ∧ (TP w k 28 ∨ TP w k 66))
theorem Ft.trans {gt : Nat} {w w' w'' : World} (h : Ft (XR gt w) w w') (j : Ft (XR gt w') w' w'') : Ft (XR gt w) w w'' :=
  ⟨j.os.trans h.os, j.tape.trans h.tape, j.output.trans h.output, Nat.le_trans h.size j.size, fun k hk hX => by
    have e := h.block k hk hX
    refine (j.block k (Nat.lt_of_lt_of_le hk h.size) (fun hX' => hX ?_)).trans e
    rcases hX' with h1 | ⟨h1, h2 | h2⟩
    · exact .inl h1
    · exact .inr ⟨h1, .inl (h2.same e.symm)⟩
    · exact .inr ⟨h1, .inr (h2.same e.symm)⟩⟩
theorem Ft.grown {gt : Nat} {w w' : World} {r : Option Nat} (j : w.grownBy w' r) (hr : ∀ q, r = some q → XR gt w q) : Ft (XR gt w) w w' :=
  ⟨j.os, j.tape, j.output, j.size, fun k hk hX => j.block k hk (fun e => hX (hr k e.symm))⟩
theorem Ft.toBelow {gt : Nat} {w w' : World} (h : Ft (XR gt w) w w') {B : Nat} (hB : B ≤ w.heap.size) (hg : B ≤ gt) : Below B w w' :=
  ⟨h.os, h.tape, h.output, h.size, fun k hk => h.block k (by omega) (fun hX => by
    rcases hX with h1 | ⟨h1, _⟩ <;> omega)⟩
/-- A slice of a sector's bytes, behind block gt. -/
def Sl (gt : Nat) (w : World) (v : Value) (D : Sct) : Prop := ∃ k c, v = .slice (some ⟨k, 0, none⟩) 512 c ∧ D.length = 512 ∧ gt < k ∧ TP w k 5 ∧ w.rangeAt k 0 (D.map c8)
theorem Sl.keep {gt : Nat} {w w' : World} {v : Value} {D : Sct} (h : Sl gt w v D) (hk : ∀ k, gt < k → TP w k 5 → w'.heap[k]? = w.heap[k]?) : Sl gt w' v D := by
  obtain ⟨k, c, e, hD, hg, ht, hr⟩ := h
  exact ⟨k, c, e, hD, hg, ht.same (hk k hg ht), fun j u hu => (World.cell?_of_block (a := ⟨k, _, none⟩) (hk k hg ht)).trans (hr j u hu)⟩
/-- A write that waits, as the document keeps it. -/
def wq (e : Wt × Value) : List Value := [.int .i64 e.1.1, e.2]
structure Rf (w : World) (gt n : Nat) (d : DS) : Prop where
  at_ : ∃ (Lv Wv : Value) (LL : List Value) (WL : List (Wt × Value)), w.heap[gt]? = some (.cells #[Lv, Wv, .int .i64 d.fuse, .bool d.down] 51 (0, 0)) ∧ w.ownsRow (gt + 1) 28 1 Lv n LL ∧ w.ownsRow (gt + 1) 66 2 Wv d.W.length (WL.flatMap wq) ∧
    WL.map (·.1) = d.W ∧ (∀ i v, LL[i]? = some v → Sl gt w v (d.S i)) ∧ (∀ e ∈ WL, Sl gt w e.2 e.1.2)
  wl : ∀ p ∈ d.W, p.1 < n ∧ p.2.length = 512
  fb : -1 ≤ d.fuse ∧ d.fuse < 9223372036854775808
section
variable {w w' : World} {gt n : Nat} {d : DS}
theorem Rf.lt (h : Rf w gt n d) : gt < w.heap.size := by
  obtain ⟨Lv, Wv, LL, WL, h1, _⟩ := h.at_
  exact (Array.getElem?_eq_some_iff.1 h1).1
theorem Rf.tp (h : Rf w gt n d) : TP w gt 51 := by
  obtain ⟨Lv, Wv, LL, WL, h1, _⟩ := h.at_
  exact ⟨_, _, h1⟩
theorem Rf.frozen (h : Rf w gt n d) (i : Nat) : w.frozen? ⟨gt, i, none⟩ = false := by
  obtain ⟨Lv, Wv, LL, WL, h1, _⟩ := h.at_
  exact frozen_of_row w gt i _ 51 h1
theorem Rf.c2 (h : Rf w gt n d) : w.cell? ⟨gt, 2, none⟩ = some (.int .i64 d.fuse) := by
  obtain ⟨Lv, Wv, LL, WL, h1, _⟩ := h.at_
  rw [cell_of_row w gt 2 _ 51 _ h1]; rfl
theorem Rf.c3 (h : Rf w gt n d) : w.cell? ⟨gt, 3, none⟩ = some (.bool d.down) := by
  obtain ⟨Lv, Wv, LL, WL, h1, _⟩ := h.at_
  rw [cell_of_row w gt 3 _ 51 _ h1]; rfl
theorem Rf.keep (h : Rf w gt n d) (hs : w.heap.size ≤ w'.heap.size) (hk : ∀ k, k < w.heap.size → (k = gt ∨ (gt < k ∧ (TP w k 28 ∨ TP w k 66 ∨ TP w k 5))) → w'.heap[k]? = w.heap[k]?) : Rf w' gt n d := by
  have hl := h.lt
  obtain ⟨Lv, Wv, LL, WL, h1, h2, h3, h4, h5, h6⟩ := h.at_
  have hS : ∀ {v D}, Sl gt w v D → Sl gt w' v D := fun hs => hs.keep fun k hg ht => hk k ht.lt (.inr ⟨hg, .inr (.inr ht)⟩)
  exact ⟨⟨Lv, Wv, LL, WL, (hk gt hl (.inl rfl)).trans h1, rowKeep h2 fun q e => hk q (h2.lt q e).2 (.inr ⟨(h2.lt q e).1, .inl (row_tp h2 q e)⟩), rowKeep h3 fun q e => hk q (h3.lt q e).2 (.inr ⟨(h3.lt q e).1, .inr (.inl (row_tp h3 q e))⟩), h4, fun i v hv => hS (h5 i v hv), fun e he => hS (h6 e he)⟩, h.wl, h.fb⟩
theorem Rf.below (h : Rf w gt n d) (j : Below w.heap.size w w') : Rf w' gt n d := h.keep j.size fun k hk _ => j.block k hk
theorem Rf.drew (h : Rf w gt n d) : Rf w.drew gt n d := h.below ((Below.refl _ _).drew)
/-- The disk's own numbers, set. -/
theorem Rf.set23 (h : Rf w gt n d) (i : Nat) (v : Value) (d' : DS) (hS : d'.S = d.S) (hW : d'.W = d.W) (hf : -1 ≤ d'.fuse ∧ d'.fuse < 9223372036854775808)
    (hv : ∀ Lv Wv : Value, (#[Lv, Wv, .int .i64 d.fuse, .bool d.down] : Array Value).setIfInBounds i v = #[Lv, Wv, .int .i64 d'.fuse, .bool d'.down]) : Rf (w.setCell ⟨gt, i, none⟩ v) gt n d' := by
  obtain ⟨Lv, Wv, LL, WL, h1, h2, h3, h4, h5, h6⟩ := h.at_
  have hj : w.grownBy (w.setCell ⟨gt, i, none⟩ v) (some gt) := ⟨rfl, rfl, rfl, by simp, fun k hk hne => heap_setCell_other w _ k _ (fun e => hne (by rw [e]))⟩
  have hne : ∀ k, gt < k → (w.setCell ⟨gt, i, none⟩ v).heap[k]? = w.heap[k]? := fun k hk => heap_setCell_other w _ k v (fun e => by have e2 : k = gt := e; omega)
  refine ⟨⟨Lv, Wv, LL, WL, by rw [heap_setCell_same w gt i _ 51 _ h1, hv], rowKeep h2 fun q e => hne q (h2.lt q e).1, by rw [hW]; exact rowKeep h3 fun q e => hne q (h3.lt q e).1, by rw [hW]; exact h4, fun i v hv => by rw [hS]; exact (h5 i v hv).keep fun k hg _ => hne k hg, fun e he => (h6 e he).keep fun k hg _ => hne k hg⟩, by rw [hW]; exact h.wl, hf⟩
theorem Ft.setCell {X : Nat → Prop} (h : Ft X w w') (a : Addr) (v : Value) (ha : X a.block) : Ft X w (w'.setCell a v) :=
  ⟨h.os, h.tape, h.output, by simp; exact h.size, fun k hk hX => (heap_setCell_other w' a k v (fun e => hX (e ▸ ha))).trans (h.block k hk hX)⟩
theorem rarm30 (hD : Rf w gt n d) (z : Int) (hz : z < 9223372036854775808) : Calls Try.prog 30 #[.pointer (some ⟨gt, 0, none⟩), .int .i64 z] w fun e w' => e = .returned (.tuple #[]) ∧ Rf w' gt n { d with fuse := if z < -1 then -1 else z } ∧ Ft (XR gt w) w w' := by
  have c2 := hD.c2
  have f2 := hD.frozen 2
  have key : ∀ y : Int, -1 ≤ y → y < 9223372036854775808 → Rf (w.setCell ⟨gt, 2, none⟩ (.int .i64 y)) gt n { d with fuse := y } := fun y h1 h2 => hD.set23 2 _ _ rfl rfl ⟨h1, h2⟩ (fun _ _ => rfl)
  have HKY := Lib.hid key
  clear key
  go_enter Try.func30, Try.ntmps30
  by_cases h1 : z < -1
  · have d1 : decide (z > -1) = false := by simp; omega
    go_wp2_with fail
    go_end0
    exact ⟨rfl, by simpa [h1] using HKY.out (-1) (by omega) (by omega), (Ft.refl _ w).setCell _ _ (.inl rfl)⟩
  · by_cases h3 : z = -1
    · subst h3
      go_wp2_with fail
      go_end0
      exact ⟨rfl, by simpa using HKY.out (-1) (by omega) (by omega), (Ft.refl _ w).setCell _ _ (.inl rfl)⟩
    have d1 : decide (z > -1) = true := by simp; omega
    have d2 : decide (-1 < z) = true := by simp; omega
    go_wp2_with fail
    go_end0
    have h2 : ¬ z < -1 := by omega
    exact ⟨rfl, by simpa [h2] using HKY.out z (by omega) (by omega), (Ft.refl _ w).setCell _ _ (.inl rfl)⟩
theorem rup32 (hD : Rf w gt n d) : Calls Try.prog 32 #[.pointer (some ⟨gt, 0, none⟩)] w fun e w' => e = .returned (.tuple #[]) ∧ Rf w' gt n { d with down := false } ∧ Ft (XR gt w) w w' := by
  have c3 := hD.c3
  have f3 := hD.frozen 3
  have key : Rf (w.setCell ⟨gt, 3, none⟩ (.bool false)) gt n { d with down := false } := hD.set23 3 _ _ rfl rfl hD.fb (fun _ _ => rfl)
  have HKY := Lib.hid key
  clear key
  go_enter Try.func32, Try.ntmps32
  go_wp2_with fail
  go_end0
  exact ⟨rfl, HKY.out, (Ft.refl _ w).setCell _ _ (.inl rfl)⟩
end
end Go.Proofs.Ytklndocfgbbegaa
