/- Bytes and texts that came in. -/
import Derived.Test.YtjabkfccfecmgaaH7
import Derived.Deep.Strs
import Derived.ChangeSlices
namespace Go.Proofs.Ytjabkfccfecmgaa
open Go.ChangeShapes Go.WideShapes Go.ChangeAt Go.RowKit
set_option linter.unusedSimpArgs false
set_option linter.unusedVariables false
theorem c8_of {z : Int} (h : 0 ≤ z ∧ z ≤ 255) : c8 (BitVec.ofInt 8 z) = .int .u8 z := by
  unfold c8 bt
  congr 1
  rw [BitVec.toNat_ofInt]
  omega
theorem open_bytes0 {H : Type} {enc : TypeId × Value → H} {W : World} {cs : List Value} {y : DataW H × List MemPlace} {fuel : Nat}
    (hf : DataW.trod enc Try.prog W 0 (fun _ => true) true fuel 23 cs = some y) : ∃ ao c B, cs = [.slice ao B.length c] ∧ B.length ≤ c ∧ Bys W ao B := by
  rcases open_ints Try.underlying23 Try.underlying5 (by kernel_rfl) hf with ⟨hcs, _⟩ | ⟨x, l, c, zs, hcs, _, hl, hm, hz, _, hcell, hwz⟩
  · exact ⟨none, 0, [], hcs, Nat.le_refl _, fun _ => rfl, fun a ha => by cases ha⟩
  · simp only [if_true] at hz
    have hlen : ((zs.take l).map (BitVec.ofInt 8)).length = l := by simp; omega
    refine ⟨some x, c, (zs.take l).map (BitVec.ofInt 8), by rw [hlen]; exact hcs, by rw [hlen]; exact hl, (fun e => by cases e), fun b hb j y hy => ?_⟩
    injection hb with hb
    subst hb
    rw [List.getElem?_map, List.getElem?_take] at hy
    split at hy
    · rename_i hj
      have hj2 : j < zs.length := by omega
      rw [List.getElem?_eq_getElem hj2] at hy
      simp only [Option.map_some, Option.some.injEq] at hy
      subst hy
      have h1 := hcell j hj2
      rw [c8_of (bounds_u8 (hwz _ (List.getElem_mem hj2))), h1]
      simp [List.getD_eq_getElem?_getD, List.getElem?_eq_getElem hj2]
    · cases hy
theorem own_pos {w : World} {base n : Nat} {v : Value} {T : List (BitVec 8)} (h : Own w base v n T) (hn : 0 < n) : ∃ q c, v = .slice (some ⟨q, 0, none⟩) n c ∧ base ≤ q ∧ q < w.heap.size ∧ n ≤ c ∧ ∀ (j : Nat) x, T[j]? = some x → w.cell? ⟨q, j, none⟩ = some (c8 x) := by
  rcases h.2 with ⟨_, e0⟩ | ⟨b, cap, cur, rfl, hb, hh, hnc, hrest⟩
  · omega
  · refine ⟨b, cap, rfl, hb, (Array.getElem?_eq_some_iff.1 hh).1, hnc, fun j x hx => ?_⟩
    have := h.cells (g := b) rfl j (c8 x) (by rw [List.getElem?_map, hx]; rfl)
    rwa [Addr.add_mid, Nat.zero_add] at this
/-- Texts. -/
structure Txt (w : World) (lo : Option Addr) (Ls : List (List Byte)) : Prop where
  nil : lo = none → Ls = []
  cells : ∀ a, lo = some a → a.block < w.heap.size ∧ ∀ (j : Nat) D, Ls[j]? = some D → ∃ ao c, D.length ≤ c ∧ w.cell? (a.add j) = some (.slice ao D.length c) ∧ Bys w ao D
theorem cells23 : Try.prog.cellsOf 23 = 1 := by kernel_rfl
theorem open_texts {H : Type} {enc : TypeId × Value → H} {W : World} {base len cap : Nat} {a : Option Addr} {d : DataW H} {p : List MemPlace} (hv : Value.okWide Try.prog W .any base 22 (.slice a len cap))
    (h : ∃ fuel, DataW.trod enc Try.prog W 0 (fun _ => true) true fuel 22 (Value.slice a len cap).cells.toList = some (d, p)) : ∃ Ls, len = Ls.length ∧ Txt W a Ls := by
  obtain ⟨fuel, hf⟩ := h
  rcases DataW.trod_slice Try.underlying22 hf with ⟨hcs, _⟩ | ⟨x, l, c, elems, rest, n, _, hcs, _, _, hl, hm, hlen, hel, _, _⟩
  · simp [Value.cells] at hcs
    obtain ⟨rfl, rfl, rfl⟩ := hcs
    exact ⟨[], rfl, fun _ => rfl, fun a ha => by cases ha⟩
  · simp [Value.cells] at hcs
    obtain ⟨rfl, rfl, rfl⟩ := hcs
    have hblk : x.block < W.heap.size := by
      simp only [Value.okWide, Try.underlying22, Cell.okWide, Cell.ok, World.has, World.shape?] at hv
      obtain ⟨_, _, _, _, row, cells, hs, _⟩ := hv
      rcases Nat.lt_or_ge x.block W.heap.size with g | g
      · exact g
      · rw [Array.getElem?_eq_none g] at hs; cases hs
    have each : ∀ j, j < len → ∃ D ao c, D.length ≤ c ∧ W.cell? (x.add j) = some (.slice ao D.length c) ∧ Bys W ao D := fun j hj => by
      have h1 := hel j hj
      rw [cells23, Nat.mul_one, List.getElem?_eq_getElem (by omega), Option.bind_eq_some_iff] at h1
      obtain ⟨cs', hcs, hy'⟩ := h1
      obtain ⟨ao, c, B, rfl, hB, ho⟩ := open_bytes0 hy'
      exact ⟨B, ao, c, hB, cell_of_cells?_one hcs, ho⟩
    refine ⟨(List.range len).map fun j => if h : j < len then Classical.choose (each j h) else [], by simp, (fun e => by cases e), fun b hb => ?_⟩
    injection hb with hb
    subst hb
    refine ⟨hblk, fun j D hD => ?_⟩
    rw [List.getElem?_map] at hD
    have hj : j < len := by
      rcases Nat.lt_or_ge j len with h | h
      · exact h
      · rw [List.getElem?_eq_none (by simpa using h)] at hD; cases hD
    rw [List.getElem?_range hj] at hD
    simp only [Option.map_some, Option.some.injEq, dif_pos hj] at hD
    rw [← hD]
    exact Classical.choose_spec (each j hj)
end Go.Proofs.Ytjabkfccfecmgaa
