/- Bytes below a mark; two hashes side by side. -/
import Derived.Test.YtinmmenjlhlpmaaDoorK
namespace Go.Proofs.YtinmmenjlhlpmaaDoor
open Go.ChangeShapes Go.WideShapes Go.ChangeAt Go.RowKit
set_option linter.unusedSimpArgs false
set_option linter.unusedVariables false
/-- A slice's address that holds these bytes, in blocks below n. -/
structure Old (n : Nat) (w : World) (ao : Option Addr) (D : List (BitVec 8)) : Prop where
  nil : ao = none → D = []
  size : n ≤ w.heap.size
  cells : ∀ a, ao = some a → a.block < n ∧ ∀ j x, D[j]? = some x → w.cell? (a.add j) = some (c8 x)
section
variable {n m g : Nat} {w w' : World} {ao : Option Addr} {D : List (BitVec 8)}
theorem Old.keep (h : Old n w ao D) (hs : w.heap.size ≤ w'.heap.size) (hk : ∀ k, k < n → w'.heap[k]? = w.heap[k]?) : Old n w' ao D :=
  ⟨h.nil, by have := h.size; omega, fun a ha => by
    obtain ⟨h1, h3⟩ := h.cells a ha
    exact ⟨h1, fun j x hx => (World.cell?_of_block (by rw [add_block]; exact hk _ h1)).trans (h3 j x hx)⟩⟩
theorem Old.below (h : Old n w ao D) (k : Below m w w') (hm : n ≤ m) : Old n w' ao D := h.keep k.size fun i hi => k.block i (by omega)
theorem Old.grown {r : Option Nat} (h : Old n w ao D) (k : w.grownBy w' r) (hr : ∀ b, r = some b → n ≤ b) : Old n w' ao D :=
  h.keep k.size fun i hi => k.block i (by have := h.size; omega) (fun e => by have := hr _ e.symm; omega)
theorem Old.alloc (h : Old n w ao D) (o : Obj) : Old n (w.alloc o) ao D := h.keep (by simp) fun k hk => Below.heap_alloc w o k (by have := h.size; omega)
theorem Old.drew (h : Old n w ao D) : Old n w.drew ao D := ⟨h.nil, h.size, h.cells⟩
theorem Old.byt (h : Old n w ao D) (hg : n ≤ g) : Byt w g ao D := ⟨h.nil, fun a ha => by
  obtain ⟨h1, h3⟩ := h.cells a ha
  exact ⟨by have := h.size; omega, by omega, h3⟩⟩
theorem Old.of (h : Byt w g ao D) : Old w.heap.size w ao D := ⟨h.nil, Nat.le_refl _, fun a ha => ⟨(h.cells a ha).1, (h.cells a ha).2.2⟩⟩
theorem Old.mono (h : Old n w ao D) (hn : n ≤ m) (hm : m ≤ w.heap.size) : Old m w ao D := ⟨h.nil, hm, fun a ha => ⟨by have := (h.cells a ha).1; omega, (h.cells a ha).2⟩⟩
theorem Old.drop (h : Old n w ao D) (k c : Nat) (hc : D.length ≤ c) (hk : k ≤ D.length) : Old n w (if c = k then ao else ao.map (·.add k)) (D.drop k) := by
  have hb := (h.byt (Nat.le_refl n)).drop k c hc hk
  refine ⟨hb.nil, h.size, fun a ha => ⟨?_, (hb.cells a ha).2.2⟩⟩
  split at ha
  · exact (h.cells a ha).1
  · cases ao with
    | none => cases ha
    | some b => injection ha with ha; subst ha; rw [add_block]; exact (h.cells b rfl).1
theorem Old.take (h : Old n w ao D) (k : Nat) : Old n w ao (D.take k) := by
  have hb := (h.byt (Nat.le_refl n)).take k
  exact ⟨hb.nil, h.size, fun a ha => ⟨(h.cells a ha).1, (hb.cells a ha).2.2⟩⟩
end
/-- No cell of a hash's block is a byte. -/
theorem no_byte {w : World} {g n c L : Nat} {ao : Option Addr} {f : Nat → Int} (r : Row w g 42 .u32 8 f #[.slice ao n c, .int .u64 L]) (a : Addr) (ha : a.block = g) (x : BitVec 8) : w.cell? a ≠ some (c8 x) := by
  intro h
  unfold World.cell? at h
  rw [ha, r.at_] at h
  simp only at h
  split at h
  · cases h
  · rcases Nat.lt_or_ge a.off 8 with g1 | g1
    · rw [Array.getElem?_append_left (by rw [arr_size]; exact g1), arr_get _ _ _ _ g1] at h
      simp [c8] at h
    · rw [Array.getElem?_append_right (by rw [arr_size]; exact g1), arr_size] at h
      rcases Nat.lt_or_ge (a.off - 8) 2 with g2 | g2
      · rcases (by omega : a.off - 8 = 0 ∨ a.off - 8 = 1) with e | e <;> rw [e] at h <;> simp [c8] at h
      · rw [Array.getElem?_eq_none (by simpa using g2)] at h; cases h
theorem Byt.beside {w w' : World} {gx gy : Nat} {ao : Option Addr} {D : List (BitVec 8)} (h : Byt w gx ao D) {T' : List (BitVec 8)} {k' : Nat} (hy : HashK w gy T' k') (k : w.grownBy w' (some gy)) : Byt w' gx ao D := by
  obtain ⟨_, ao', c', _, ry, _⟩ := hy
  refine ⟨h.nil, fun a ha => ?_⟩
  obtain ⟨h1, h2, h3⟩ := h.cells a ha
  refine ⟨Nat.lt_of_lt_of_le h1 k.size, h2, fun j x hx => ?_⟩
  have h4 := h3 j x hx
  have hne : a.block ≠ gy := fun e => no_byte ry (a.add j) (by rw [add_block]; exact e) x h4
  exact (World.cell?_of_block (by rw [add_block]; exact k.block _ h1 (fun e => by injection e with e; exact hne e))).trans h4
/-- A hash beside one that is written to. -/
theorem HashK.beside {w w' : World} {gx gy k k' : Nat} {T T' : List (BitVec 8)} (h : HashK w gx T k) (hy : HashK w gy T' k') (hne : gx ≠ gy) (j : w.grownBy w' (some gy)) : HashK w' gx T k := by
  obtain ⟨h0, ao, c, hc, r, hb⟩ := h
  exact ⟨h0, ao, c, hc, r.grown j (fun e => hne (by injection e)), hb.beside hy j⟩
end Go.Proofs.YtinmmenjlhlpmaaDoor
