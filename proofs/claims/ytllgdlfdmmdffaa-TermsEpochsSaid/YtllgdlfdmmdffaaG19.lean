/- The acts that came in: a list of structs of three numbers. -/
import Derived.Test.YtllgdlfdmmdffaaG18
import Derived.Test.YtllgdlfdmmdffaaH
import Derived.Deep.Strs
import Derived.ChangeSlices
namespace Go.Proofs.Ytllgdlfdmmdffaa
open Go.ChangeShapes Go.WideShapes Go.ChangeAt Go.RowKit
set_option linter.unusedSimpArgs false
set_option linter.unusedVariables false
theorem cells42 : Try.prog.cellsOf 42 = 3 := by kernel_rfl
theorem cells3a : Try.prog.cellsOf 3 = 1 := by kernel_rfl
theorem three {w : World} {base : Nat} {a : Addr} {cs : List Value} (h : w.cells? base a 3 = some cs) : ∃ x y z, cs = [x, y, z] ∧ w.cell? a = some x ∧ w.cell? (a.add 1) = some y ∧ w.cell? (a.add 2) = some z := by
  obtain ⟨_, hl, hc⟩ := World.cells?_some h
  match cs, hl with
  | [x, y, z], _ => exact ⟨x, y, z, rfl, by simpa [Addr.add] using hc 0 (by omega), by simpa using hc 1 (by omega), by simpa using hc 2 (by omega)⟩
set_option maxRecDepth 20000 in
theorem open_acts {H : Type} {enc : TypeId × Value → H} {W : World} {base len cap : Nat} {a : Option Addr} {d : DataW H} {p : List MemPlace} (hv : Value.okWide Try.prog W .any base 34 (.slice a len cap))
    (h : ∃ fuel, DataW.trod enc Try.prog W 0 (fun _ => true) true fuel 34 (Value.slice a len cap).cells.toList = some (d, p)) : ∃ As, len = As.length ∧ Acz W.heap.size W a As ∧ len ≤ 9223372036854775807 := by
  obtain ⟨fuel, hf⟩ := h
  rcases DataW.trod_slice Try.underlying34 hf with ⟨hcs, _⟩ | ⟨x, l, c, elems, rest, n, _, hcs, _, _, hl, hm, hlen, hel, _, _⟩
  · simp [Value.cells] at hcs
    obtain ⟨rfl, rfl, rfl⟩ := hcs
    exact ⟨[], rfl, ⟨fun _ => rfl, fun a ha => by cases ha⟩, by decide⟩
  · simp [Value.cells] at hcs
    obtain ⟨rfl, rfl, rfl⟩ := hcs
    have hblk : x.block < W.heap.size := by
      simp only [Value.okWide, Try.underlying34, Cell.okWide, Cell.ok, World.has, World.shape?] at hv
      obtain ⟨_, _, _, _, row, cells, hs, _⟩ := hv
      rcases Nat.lt_or_ge x.block W.heap.size with g | g
      · exact g
      · rw [Array.getElem?_eq_none g] at hs; cases hs
    have each : ∀ j, j < len → ∃ o : Ac, W.cell? (x.add (j * 3)) = some (.int .i64 o.kind) ∧ W.cell? ((x.add (j * 3)).add 1) = some (.int .i64 o.leaf) ∧ W.cell? ((x.add (j * 3)).add 2) = some (.int .i64 o.other) := fun j hj => by
      have h1 := hel j hj
      rw [cells42, List.getElem?_eq_getElem (by omega), Option.bind_eq_some_iff] at h1
      obtain ⟨cs', hcs, hy'⟩ := h1
      obtain ⟨v0, v1, v2, rfl, c0, c1, c2⟩ := three hcs
      obtain ⟨y0, y1, y2, n', _, _, t0, t1, t2⟩ := Go.Deep.trod_struct3 Try.underlying42 hy'
      simp only [cells3a, List.drop_zero, List.drop_succ_cons, List.take_succ_cons, List.take_zero] at t0 t1 t2
      obtain ⟨z0, e0, _, w0⟩ := DataW.trod_int Try.underlying3 t0
      obtain ⟨z1, e1, _, w1⟩ := DataW.trod_int Try.underlying3 t1
      obtain ⟨z2, e2, _, w2⟩ := DataW.trod_int Try.underlying3 t2
      have e0 := (List.cons.inj e0).1
      have e1 := (List.cons.inj e1).1
      have e2 := (List.cons.inj e2).1
      subst e0; subst e1; subst e2
      exact ⟨⟨z0, z1, z2⟩, c0, c1, c2⟩
    refine ⟨(List.range len).map fun j => if h : j < len then Classical.choose (each j h) else ⟨0, 0, 0⟩, by simp, ⟨(fun e => by cases e), fun b hb j o ho => ?_⟩, by have := hmax; omega⟩
    obtain rfl : x = b := Option.some.inj hb
    refine ⟨hblk, ?_⟩
    rw [List.getElem?_map] at ho
    have hj : j < len := by
      rcases Nat.lt_or_ge j len with h | h
      · exact h
      · rw [List.getElem?_eq_none (by simpa using h)] at ho; cases ho
    rw [List.getElem?_range hj] at ho
    simp only [Option.map_some, Option.some.injEq, dif_pos hj] at ho
    rw [← ho]
    exact Classical.choose_spec (each j hj)
end Go.Proofs.Ytllgdlfdmmdffaa
