/- The calls that came in: a list of structs of three fields; whether there are too many. -/
import Derived.Test.YtklndocfgbbegaaH
import Derived.Deep.Strs
import Derived.ChangeSlices
namespace Go.Proofs.Ytklndocfgbbegaa
open Go.ChangeShapes Go.WideShapes Go.ChangeAt Go.RowKit
set_option linter.unusedSimpArgs false
set_option linter.unusedVariables false
/-- Bytes below a mark; of none nothing is said. -/
structure Olz (n : Nat) (w : World) (ao : Option Addr) (D : List (BitVec 8)) : Prop where
  nil : ao = none → D = []
  cells : ∀ a, ao = some a → ∀ (j : Nat) x, D[j]? = some x → a.block < n ∧ w.cell? (a.add j) = some (c8 x)
theorem Olz.keep {n : Nat} {w w' : World} {ao : Option Addr} {D : List (BitVec 8)} (h : Olz n w ao D) (hk : ∀ k, k < n → w'.heap[k]? = w.heap[k]?) : Olz n w' ao D :=
  ⟨h.nil, fun a ha j x hx => by
    obtain ⟨h1, h2⟩ := h.cells a ha j x hx
    exact ⟨h1, (World.cell?_of_block (by rw [add_block]; exact hk _ h1)).trans h2⟩⟩
theorem Olz.byg {n g : Nat} {w : World} {ao : Option Addr} {D : List (BitVec 8)} (h : Olz n w ao D) (hg : n ≤ g) : Byg g w ao D :=
  ⟨h.nil, fun a ha j x hx => ⟨by have := (h.cells a ha j x hx).1; omega, (h.cells a ha j x hx).2⟩⟩
/-- A call. -/
structure Opn where
  what : Int
  I : Int
  D : List (BitVec 8)
/-- Calls below a mark. -/
structure Opl (n : Nat) (w : World) (lo : Option Addr) (Os : List Opn) : Prop where
  nil : lo = none → Os = []
  size : n ≤ w.heap.size
  cells : ∀ a, lo = some a → a.block < n ∧ ∀ (j : Nat) o, Os[j]? = some o → w.cell? (a.add (j * 3)) = some (.int .i64 o.what) ∧ w.cell? ((a.add (j * 3)).add 1) = some (.int .i64 o.I) ∧ (∃ ao c, o.D.length ≤ c ∧ w.cell? ((a.add (j * 3)).add 2) = some (.slice ao o.D.length c) ∧ Olz n w ao o.D) ∧
    (-9223372036854775808 ≤ o.what ∧ o.what < 9223372036854775808) ∧ (-9223372036854775808 ≤ o.I ∧ o.I < 9223372036854775808)
section
variable {n m : Nat} {w w' : World} {lo : Option Addr} {Os : List Opn}
theorem Opl.keep (h : Opl n w lo Os) (hs : w.heap.size ≤ w'.heap.size) (hk : ∀ k, k < n → w'.heap[k]? = w.heap[k]?) : Opl n w' lo Os :=
  ⟨h.nil, Nat.le_trans h.size hs, fun a ha => by
    obtain ⟨h1, h2⟩ := h.cells a ha
    refine ⟨h1, fun j o ho => ?_⟩
    obtain ⟨e0, e2, ⟨ao, c, h3, h4, h5⟩, e3, e4⟩ := h2 j o ho
    exact ⟨(World.cell?_of_block (by rw [add_block]; exact hk _ h1)).trans e0, (World.cell?_of_block (by rw [add_block, add_block]; exact hk _ h1)).trans e2, ⟨ao, c, h3, (World.cell?_of_block (by rw [add_block, add_block]; exact hk _ h1)).trans h4, h5.keep hk⟩, e3, e4⟩⟩
theorem Opl.below (h : Opl n w lo Os) (k : Below m w w') (hm : n ≤ m) : Opl n w' lo Os := h.keep k.size fun i hi => k.block i (by omega)
theorem Opl.grown {r : Option Nat} (h : Opl n w lo Os) (k : w.grownBy w' r) (hr : ∀ b, r = some b → n ≤ b) : Opl n w' lo Os :=
  h.keep k.size fun i hi => k.block i (by have := h.size; omega) (fun e => by have := hr _ e.symm; omega)
end
theorem nat_of {z : Int} (h : 0 ≤ z) : ∃ n : Nat, z = n := ⟨z.toNat, by omega⟩
theorem c8_of {z : Int} (h : 0 ≤ z ∧ z ≤ 255) : c8 (BitVec.ofInt 8 z) = .int .u8 z := by
  unfold c8 bt
  congr 1
  rw [BitVec.toNat_ofInt]
  omega
theorem open_bytes0 {H : Type} {enc : TypeId × Value → H} {W : World} {cs : List Value} {y : DataW H × List MemPlace} {fuel : Nat}
    (hf : DataW.trod enc Try.prog W 0 (fun _ => true) true fuel 28 cs = some y) : ∃ ao c B, cs = [.slice ao B.length c] ∧ B.length ≤ c ∧ Olz W.heap.size W ao B := by
  rcases open_ints Try.underlying28 Try.underlying5 (by kernel_rfl) hf with ⟨hcs, _⟩ | ⟨x, l, c, zs, hcs, _, hl, hm, hz, _, hcell, hwz⟩
  · exact ⟨none, 0, [], hcs, Nat.le_refl _, fun _ => rfl, fun a ha => by cases ha⟩
  · simp only [if_true] at hz
    have hlen : ((zs.take l).map (BitVec.ofInt 8)).length = l := by simp; omega
    refine ⟨some x, c, (zs.take l).map (BitVec.ofInt 8), by rw [hlen]; exact hcs, by rw [hlen]; exact hl, (fun e => by cases e), fun b hb j y hy => ?_⟩
    injection hb with hb
    subst hb
    rw [List.getElem?_map, List.getElem?_take] at hy
    split at hy
    · rename_i hj
      have hj2 : j < zs.length := by omega
      rw [List.getElem?_eq_getElem hj2] at hy
      simp only [Option.map_some, Option.some.injEq] at hy
      subst hy
      have h1 := hcell j hj2
      refine ⟨?_, ?_⟩
      · have := World.block_lt_of_cell? W _ h1
        rwa [add_block] at this
      · rw [c8_of (bounds_u8 (hwz _ (List.getElem_mem hj2))), h1]
        simp [List.getD_eq_getElem?_getD, List.getElem?_eq_getElem hj2]
    · cases hy
theorem cells35 : Try.prog.cellsOf 35 = 3 := by kernel_rfl
theorem cells28 : Try.prog.cellsOf 28 = 1 := by kernel_rfl
theorem cells3' : Try.prog.cellsOf 3 = 1 := by kernel_rfl
theorem wf64 {z : Int} (h : (Lit.int .i64 z).wf = true) : -9223372036854775808 ≤ z ∧ z < 9223372036854775808 := by
  have e : IntKind.i64.min = -9223372036854775808 := by decide
  simp [Lit.wf] at h
  rw [e] at h
  omega
theorem three {w : World} {base : Nat} {a : Addr} {cs : List Value} (h : w.cells? base a 3 = some cs) : ∃ x y z, cs = [x, y, z] ∧ w.cell? a = some x ∧ w.cell? (a.add 1) = some y ∧ w.cell? (a.add 2) = some z := by
  obtain ⟨_, hl, hc⟩ := World.cells?_some h
  match cs, hl with
  | [x, y, z], _ => exact ⟨x, y, z, rfl, by simpa [Addr.add] using hc 0 (by omega), by simpa using hc 1 (by omega), by simpa using hc 2 (by omega)⟩
theorem open_ops {H : Type} {enc : TypeId × Value → H} {W : World} {base len cap : Nat} {a : Option Addr} {d : DataW H} {p : List MemPlace} (hv : Value.okWide Try.prog W .any base 31 (.slice a len cap))
    (h : ∃ fuel, DataW.trod enc Try.prog W 0 (fun _ => true) true fuel 31 (Value.slice a len cap).cells.toList = some (d, p)) : ∃ Os, len = Os.length ∧ Opl W.heap.size W a Os := by
  obtain ⟨fuel, hf⟩ := h
  rcases DataW.trod_slice Try.underlying31 hf with ⟨hcs, _⟩ | ⟨x, l, c, elems, rest, n, _, hcs, _, _, hl, hm, hlen, hel, _, _⟩
  · simp [Value.cells] at hcs
    obtain ⟨rfl, rfl, rfl⟩ := hcs
    exact ⟨[], rfl, fun _ => rfl, Nat.le_refl _, fun a ha => by cases ha⟩
  · simp [Value.cells] at hcs
    obtain ⟨rfl, rfl, rfl⟩ := hcs
    have hblk : x.block < W.heap.size := by
      simp only [Value.okWide, Try.underlying31, Cell.okWide, Cell.ok, World.has, World.shape?] at hv
      obtain ⟨_, _, _, _, row, cells, hs, _⟩ := hv
      rcases Nat.lt_or_ge x.block W.heap.size with g | g
      · exact g
      · rw [Array.getElem?_eq_none g] at hs; cases hs
    have each : ∀ j, j < len → ∃ o : Opn, W.cell? (x.add (j * 3)) = some (.int .i64 o.what) ∧ W.cell? ((x.add (j * 3)).add 1) = some (.int .i64 o.I) ∧ (∃ ao c, o.D.length ≤ c ∧ W.cell? ((x.add (j * 3)).add 2) = some (.slice ao o.D.length c) ∧ Olz W.heap.size W ao o.D) ∧
        (-9223372036854775808 ≤ o.what ∧ o.what < 9223372036854775808) ∧ (-9223372036854775808 ≤ o.I ∧ o.I < 9223372036854775808) := fun j hj => by
      have h1 := hel j hj
      rw [cells35, List.getElem?_eq_getElem (by omega), Option.bind_eq_some_iff] at h1
      obtain ⟨cs', hcs, hy'⟩ := h1
      obtain ⟨v0, v1, v2, rfl, c0, c1, c2⟩ := three hcs
      obtain ⟨y0, y1, y2, n', _, _, t0, t1, t2⟩ := Go.Deep.trod_struct3 Try.underlying35 hy'
      simp only [cells3', cells28, List.drop_zero, List.drop_succ_cons, List.take_succ_cons, List.take_zero] at t0 t1 t2
      obtain ⟨z0, e0, _, w0⟩ := DataW.trod_int Try.underlying3 t0
      obtain ⟨z2, e2, _, w2⟩ := DataW.trod_int Try.underlying3 t1
      obtain ⟨ao, c, B, e1, hB, ho⟩ := open_bytes0 t2
      injection e0 with e0; injection e1 with e1; injection e2 with e2
      subst e0; subst e1; subst e2
      exact ⟨⟨z0, z2, B⟩, c0, c1, ⟨ao, c, hB, c2, ho⟩, wf64 w0, wf64 w2⟩
    refine ⟨(List.range len).map fun j => if h : j < len then Classical.choose (each j h) else ⟨0, 0, []⟩, by simp, (fun e => by cases e), Nat.le_refl _, fun b hb => ?_⟩
    injection hb with hb
    subst hb
    refine ⟨hblk, fun j o ho => ?_⟩
    rw [List.getElem?_map] at ho
    have hj : j < len := by
      rcases Nat.lt_or_ge j len with h | h
      · exact h
      · rw [List.getElem?_eq_none (by simpa using h)] at ho; cases ho
    rw [List.getElem?_range hj] at ho
    simp only [Option.map_some, Option.some.injEq, dif_pos hj] at ho
    rw [← ho]
    exact Classical.choose_spec (each j hj)
end Go.Proofs.Ytklndocfgbbegaa
