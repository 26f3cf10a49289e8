/- Whole numbers and rules that came in. -/
import Derived.Test.YtllgdlfdmmdffaaE
import Derived.ChangeSame
namespace Go.Proofs.Ytllgdlfdmmdffaa
open Go.ChangeShapes Go.WideShapes Go.ChangeAt Go.RowKit
set_option linter.unusedSimpArgs false
set_option linter.unusedVariables false
theorem hmax : maxLen ≤ 9223372036854775807 := by decide
theorem wf64 {z : Int} (h : (Lit.int .i64 z).wf = true) : -9223372036854775808 ≤ z ∧ z < 9223372036854775808 := by
  have e : IntKind.i64.min = -9223372036854775808 := by decide
  simp [Lit.wf] at h
  rw [e] at h
  omega
theorem open_ints0 {H : Type} {enc : TypeId × Value → H} {W : World} {cs : List Value} {y : DataW H × List MemPlace} {fuel : Nat}
    (hf : DataW.trod enc Try.prog W 0 (fun _ => true) true fuel 22 cs = some y) : ∃ ao c B, cs = [.slice ao B.length c] ∧ B.length ≤ c ∧ c ≤ 9223372036854775807 ∧ Ilz W.heap.size W ao B ∧ ∀ x ∈ B, -9223372036854775808 ≤ x ∧ x < 9223372036854775808 := by
  rcases open_ints Try.underlying22 Try.underlying3 (by kernel_rfl) hf with ⟨hcs, _⟩ | ⟨x, l, c, zs, hcs, _, hl, hm, hz, _, hcell, hwz⟩
  · exact ⟨none, 0, [], hcs, Nat.le_refl _, by decide, ⟨fun _ => rfl, fun a ha => by cases ha⟩, by simp⟩
  · simp only [if_true] at hz
    have hlen : (zs.take l).length = l := by simp; omega
    refine ⟨some x, c, zs.take l, by rw [hlen]; exact hcs, by rw [hlen]; exact hl, Nat.le_trans hm hmax, ⟨(fun e => by cases e), fun b hb j y hy => ?_⟩, fun y hy => wf64 (hwz y (List.mem_of_mem_take hy))⟩
    injection hb with hb
    subst hb
    rw [List.getElem?_take] at hy
    split at hy
    · rename_i hj
      have hj2 : j < zs.length := by omega
      rw [List.getElem?_eq_getElem hj2] at hy
      have h1 := hcell j hj2
      refine ⟨?_, ?_⟩
      · have := World.block_lt_of_cell? W _ h1
        rwa [add_block] at this
      · rw [h1]
        simp [List.getD_eq_getElem?_getD, List.getElem?_eq_getElem hj2] at hy ⊢
        exact hy
    · cases hy
theorem cells32 : Try.prog.cellsOf 32 = 2 := by kernel_rfl
theorem cells22' : Try.prog.cellsOf 22 = 1 := by kernel_rfl
theorem cells3' : Try.prog.cellsOf 3 = 1 := by kernel_rfl
theorem two_arr {cs : Array Value} (h : cs.size = 2) : ∃ a b, cs = #[a, b] := by
  obtain ⟨l⟩ := cs
  match l, h with
  | [a, b], _ => exact ⟨a, b, rfl⟩
theorem two_at {w : World} {base : Nat} {a : Addr} {cs : List Value} (h : w.cells? base a 2 = some cs) : ∃ x y, cs = [x, y] ∧ w.cell? a = some x ∧ w.cell? (a.add 1) = some y := by
  obtain ⟨_, hl, hc⟩ := World.cells?_some h
  match cs, hl with
  | [x, y], _ => exact ⟨x, y, rfl, by simpa [Addr.add] using hc 0 (by omega), by simpa using hc 1 (by omega)⟩
theorem open_rule {H : Type} {enc : TypeId × Value → H} {W : World} {v0 v1 : Value} {y : DataW H × List MemPlace} {fuel : Nat}
    (hf : DataW.trod enc Try.prog W 0 (fun _ => true) true fuel 32 [v0, v1] = some y) : ∃ (r : Rl) (ao : Option Addr) (c : Nat), v0 = .slice ao r.needs.length c ∧ v1 = .int .i64 r.gives ∧ r.needs.length ≤ c ∧ c ≤ 9223372036854775807 ∧ Ilz W.heap.size W ao r.needs ∧ (∀ x ∈ r.needs, -9223372036854775808 ≤ x ∧ x < 9223372036854775808) ∧ -9223372036854775808 ≤ r.gives ∧ r.gives < 9223372036854775808 := by
  obtain ⟨y0, y1, n', _, _, t0, t1⟩ := trod_struct2 Try.underlying32 hf
  simp only [cells3', cells22', List.drop_zero, List.drop_succ_cons, List.take_succ_cons, List.take_zero] at t0 t1
  obtain ⟨z, e1, _, w1⟩ := DataW.trod_int Try.underlying3 t1
  obtain ⟨ao, c, B, e0, hB, hc, ho, hw⟩ := open_ints0 t0
  injection e0 with e0; injection e1 with e1
  exact ⟨⟨B, z⟩, ao, c, e0, e1, hB, hc, ho, hw, wf64 w1⟩
set_option maxRecDepth 20000 in
theorem open_rules {H : Type} {enc : TypeId × Value → H} {W : World} {base len cap : Nat} {a : Option Addr} {d : DataW H} {p : List MemPlace} (hv : Value.okWide Try.prog W .any base 23 (.slice a len cap))
    (h : ∃ fuel, DataW.trod enc Try.prog W 0 (fun _ => true) true fuel 23 (Value.slice a len cap).cells.toList = some (d, p)) : ∃ Rs, len = Rs.length ∧ len ≤ 9223372036854775807 ∧ Rlz W.heap.size W a Rs ∧ ∀ r ∈ Rs, (∀ x ∈ r.needs, -9223372036854775808 ≤ x ∧ x < 9223372036854775808) ∧ -9223372036854775808 ≤ r.gives ∧ r.gives < 9223372036854775808 := by
  obtain ⟨fuel, hf⟩ := h
  rcases DataW.trod_slice Try.underlying23 hf with ⟨hcs, _⟩ | ⟨x, l, c, elems, rest, n, _, hcs, _, _, hl, hm, hlen, hel, _, _⟩
  · simp [Value.cells] at hcs
    obtain ⟨rfl, rfl, rfl⟩ := hcs
    exact ⟨[], rfl, by decide, ⟨fun _ => rfl, by simp, fun a ha => by cases ha⟩, by simp⟩
  · simp [Value.cells] at hcs
    obtain ⟨rfl, rfl, rfl⟩ := hcs
    have hblk : x.block < W.heap.size := by
      simp only [Value.okWide, Try.underlying23, Cell.okWide, Cell.ok, World.has, World.shape?] at hv
      obtain ⟨_, _, _, _, row, cells, hs, _⟩ := hv
      rcases Nat.lt_or_ge x.block W.heap.size with g | g
      · exact g
      · rw [Array.getElem?_eq_none g] at hs; cases hs
    have each : ∀ j, j < len → ∃ o : Rl, ((∃ ao c, o.needs.length ≤ c ∧ W.cell? (x.add (j * 2)) = some (.slice ao o.needs.length c) ∧ Ilz W.heap.size W ao o.needs) ∧ W.cell? ((x.add (j * 2)).add 1) = some (.int .i64 o.gives)) ∧ o.needs.length ≤ 9223372036854775807 ∧
        (∀ x ∈ o.needs, -9223372036854775808 ≤ x ∧ x < 9223372036854775808) ∧ -9223372036854775808 ≤ o.gives ∧ o.gives < 9223372036854775808 := fun j hj => by
      have h1 := hel j hj
      rw [cells32, List.getElem?_eq_getElem (by omega), Option.bind_eq_some_iff] at h1
      obtain ⟨cs', hcs, hy'⟩ := h1
      obtain ⟨v0, v1, rfl, c0, c1⟩ := two_at hcs
      obtain ⟨r, ao, c, rfl, rfl, hB, hc, ho, hw⟩ := open_rule hy'
      exact ⟨r, ⟨⟨ao, c, hB, c0, ho⟩, c1⟩, Nat.le_trans hB hc, hw⟩
    have key : ∀ (j : Nat) r, ((List.range len).map fun j => if h : j < len then Classical.choose (each j h) else ⟨[], 0⟩)[j]? = some r → ∃ h : j < len, r = Classical.choose (each j h) := fun j r hr => by
      rw [List.getElem?_map] at hr
      have hj : j < len := by
        rcases Nat.lt_or_ge j len with h | h
        · exact h
        · rw [List.getElem?_eq_none (by simpa using h)] at hr; cases hr
      rw [List.getElem?_range hj] at hr
      simp only [Option.map_some, Option.some.injEq, dif_pos hj] at hr
      exact ⟨hj, hr.symm⟩
    have hlm : len ≤ 9223372036854775807 := by have := hmax; omega
    refine ⟨(List.range len).map fun j => if h : j < len then Classical.choose (each j h) else ⟨[], 0⟩, by simp, hlm, ⟨(fun e => by cases e), fun r hr => ?_, fun b hb j r hr => ?_⟩, fun r hr => ?_⟩
    · obtain ⟨j, hj⟩ := List.getElem?_of_mem hr
      obtain ⟨h, rfl⟩ := key j r hj
      exact (Classical.choose_spec (each j h)).2.1
    · obtain rfl : x = b := Option.some.inj hb
      obtain ⟨h, rfl⟩ := key j r hr
      exact ⟨hblk, (Classical.choose_spec (each j h)).1.1, (Classical.choose_spec (each j h)).1.2⟩
    · obtain ⟨j, hj⟩ := List.getElem?_of_mem hr
      obtain ⟨h, rfl⟩ := key j r hj
      exact (Classical.choose_spec (each j h)).2.2
end Go.Proofs.Ytllgdlfdmmdffaa
