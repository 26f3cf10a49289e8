/- Texts that came in. -/
import Derived.Test.YtinmmenjlhlpmaaDoorH
import Derived.Test.YtinmmenjlhlpmaaDoorL4
namespace Go.Proofs.YtinmmenjlhlpmaaDoor
open Go.ChangeShapes Go.WideShapes Go.ChangeAt Go.RowKit
theorem open_bytes0 {H : Type} {enc : TypeId × Value → H} {W : World} {cs : List Value} {y : DataW H × List MemPlace} {fuel : Nat}
    (hf : DataW.trod enc Tryd.prog W 0 (fun _ => true) true fuel 22 cs = some y) : ∃ ao c B, cs = [.slice ao B.length c] ∧ B.length ≤ c ∧ Olz W.heap.size W ao B := by
  rcases open_ints Tryd.underlying22 Tryd.underlying5 (by kernel_rfl) hf with ⟨hcs, _⟩ | ⟨x, l, c, zs, hcs, _, hl, hm, hz, _, hcell, hwz⟩
  · exact ⟨none, 0, [], hcs, Nat.le_refl _, fun _ => rfl, fun a ha => by cases ha⟩
  · simp only [if_true] at hz
    have hlen : ((zs.take l).map (BitVec.ofInt 8)).length = l := by simp; omega
    refine ⟨some x, c, (zs.take l).map (BitVec.ofInt 8), by rw [hlen]; exact hcs, by rw [hlen]; exact hl, (fun e => by cases e), fun b hb j y hy => ?_⟩
    injection hb with hb
    subst hb
    rw [List.getElem?_map, List.getElem?_take] at hy
    split at hy
    · rename_i hj
      have hj2 : j < zs.length := by omega
      rw [List.getElem?_eq_getElem hj2] at hy
      simp only [Option.map_some, Option.some.injEq] at hy
      subst hy
      have h1 := hcell j hj2
      refine ⟨?_, ?_⟩
      · have := World.block_lt_of_cell? W _ h1
        rwa [add_block] at this
      · rw [c8_of (bounds_u8 (hwz _ (List.getElem_mem hj2))), h1]
        simp [List.getD_eq_getElem?_getD, List.getElem?_eq_getElem hj2]
    · cases hy
theorem cells22 : Tryd.prog.cellsOf 22 = 1 := by kernel_rfl
theorem open_texts {H : Type} {enc : TypeId × Value → H} {W : World} {base len cap : Nat} {a : Option Addr} {d : DataW H} {p : List MemPlace} (hv : Value.okWide Tryd.prog W .any base 26 (.slice a len cap))
    (h : ∃ fuel, DataW.trod enc Tryd.prog W 0 (fun _ => true) true fuel 26 (Value.slice a len cap).cells.toList = some (d, p)) : ∃ Ls, len = Ls.length ∧ Txt W.heap.size W a Ls := by
  obtain ⟨fuel, hf⟩ := h
  rcases DataW.trod_slice Tryd.underlying26 hf with ⟨hcs, _⟩ | ⟨x, l, c, elems, rest, n, _, hcs, _, _, hl, hm, hlen, hel, _, _⟩
  · simp [Value.cells] at hcs
    obtain ⟨rfl, rfl, rfl⟩ := hcs
    exact ⟨[], rfl, fun _ => rfl, Nat.le_refl _, fun a ha => by cases ha⟩
  · simp [Value.cells] at hcs
    obtain ⟨rfl, rfl, rfl⟩ := hcs
    have hblk : x.block < W.heap.size := by
      simp only [Value.okWide, Tryd.underlying26, Cell.okWide, Cell.ok, World.has, World.shape?] at hv
      obtain ⟨_, _, _, _, row, cells, hs, _⟩ := hv
      rcases Nat.lt_or_ge x.block W.heap.size with g | g
      · exact g
      · rw [Array.getElem?_eq_none g] at hs; cases hs
    have each : ∀ j, j < len → ∃ D ao c, D.length ≤ c ∧ W.cell? (x.add j) = some (.slice ao D.length c) ∧ Olz W.heap.size W ao D := fun j hj => by
      have h1 := hel j hj
      rw [cells22, Nat.mul_one, List.getElem?_eq_getElem (by omega), Option.bind_eq_some_iff] at h1
      obtain ⟨cs', hcs, hy'⟩ := h1
      obtain ⟨ao, c, B, rfl, hB, ho⟩ := open_bytes0 hy'
      exact ⟨B, ao, c, hB, cell_of_cells?_one hcs, ho⟩
    refine ⟨(List.range len).map fun j => if h : j < len then Classical.choose (each j h) else [], by simp, (fun e => by cases e), Nat.le_refl _, fun b hb => ?_⟩
    injection hb with hb
    subst hb
    refine ⟨hblk, fun j D hD => ?_⟩
    rw [List.getElem?_map] at hD
    have hj : j < len := by
      rcases Nat.lt_or_ge j len with h | h
      · exact h
      · rw [List.getElem?_eq_none (by simpa using h)] at hD; cases hD
    rw [List.getElem?_range hj] at hD
    simp only [Option.map_some, Option.some.injEq, dif_pos hj] at hD
    rw [← hD]
    exact Classical.choose_spec (each j hj)
end Go.Proofs.YtinmmenjlhlpmaaDoor
