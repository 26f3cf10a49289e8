/- From the row's reading to the walk's words: the tables as the program lays them; bytes that came in. -/
import Derived.Test.YtgjcofneecebjaaDoorT
import Derived.Test.YtgjcofneecebjaaDoorCards
import Derived.Test.YtgjcofneecebjaaDoorTie
import Derived.LaidMore
import Derived.Lib.LaidTab
import Derived.SevenTiedAt
import Derived.Stop.Joined
import Derived.ShutString
import Derived.ChangeOld
namespace Go.Proofs.YtgjcofneecebjaaDoor
open Go.ChangeShapes Go.WideShapes Go.ChangeAt Go.RowKit

theorem own : ownKnob Tryd.prog.godebug = none := by kernel_rfl
theorem laidOut : laidOutB Tryd.prog = true := by kernel_rfl
theorem g0 : Tryd.prog.globalNamed "sodality/keccak.constants" = some 0 := by kernel_rfl
theorem g1 : Tryd.prog.globalNamed "sodality/keccak.turns" = some 2 := by kernel_rfl
theorem g2 : Tryd.prog.globalNamed "sodality/keccak.places" = some 1 := by kernel_rfl
theorem t0 : (Tryd.prog.globals[0]?).map (·.type) = some 57 := by kernel_rfl
theorem t1 : (Tryd.prog.globals[2]?).map (·.type) = some 61 := by kernel_rfl
theorem t2 : (Tryd.prog.globals[1]?).map (·.type) = some 61 := by kernel_rfl
theorem cells41 : Tryd.prog.cellsOf 41 = 1 := by kernel_rfl
theorem cells3 : Tryd.prog.cellsOf 3 = 1 := by kernel_rfl
theorem cells57 : Tryd.prog.cellsOf 57 = 24 := by kernel_rfl
theorem cells61 : Tryd.prog.cellsOf 61 = 24 := by kernel_rfl
theorem laid_constants : (Rows.laid_sodality_keccak_constants : DataW Unit) = Lib.tabData .u64 ((List.range 24).map co) := by kernel_rfl
theorem laid_turns : (Rows.laid_sodality_keccak_turns : DataW Unit) = Lib.tabData .i64 ((List.range 24).map (fun i => (tu i : Int))) := by kernel_rfl
theorem laid_places : (Rows.laid_sodality_keccak_places : DataW Unit) = Lib.tabData .i64 ((List.range 24).map (fun i => (pl i : Int))) := by kernel_rfl

theorem row_constants {W : World} {cs : Array Value} {g : Nat} {name : String} (hg : Tryd.prog.globalNamed name = some g) (hvar : W.var? Tryd.prog name = some cs) (hc : cs.toList = ((List.range 24).map co).map fun z => Value.int .u64 z) : TRow W g .u64 24 co := by
  simp only [World.var?, hg, Option.bind_some] at hvar
  split at hvar
  · rename_i cs' t fz heq
    have e := Option.some.inj hvar
    refine ⟨t, fz, ?_⟩
    rw [heq]
    congr 2
    apply Array.toList_inj.1
    rw [e, hc]
    simp [arr]
  · cases hvar

theorem row_turns {W : World} {cs : Array Value} {g : Nat} {name : String} (hg : Tryd.prog.globalNamed name = some g) (hvar : W.var? Tryd.prog name = some cs) (hc : cs.toList = ((List.range 24).map (fun i => (tu i : Int))).map fun z => Value.int .i64 z) : TRow W g .i64 24 (fun i => (tu i : Int)) := by
  simp only [World.var?, hg, Option.bind_some] at hvar
  split at hvar
  · rename_i cs' t fz heq
    have e := Option.some.inj hvar
    refine ⟨t, fz, ?_⟩
    rw [heq]
    congr 2
    apply Array.toList_inj.1
    rw [e, hc]
    simp [arr]
  · cases hvar

theorem row_places {W : World} {cs : Array Value} {g : Nat} {name : String} (hg : Tryd.prog.globalNamed name = some g) (hvar : W.var? Tryd.prog name = some cs) (hc : cs.toList = ((List.range 24).map (fun i => (pl i : Int))).map fun z => Value.int .i64 z) : TRow W g .i64 24 (fun i => (pl i : Int)) := by
  simp only [World.var?, hg, Option.bind_some] at hvar
  split at hvar
  · rename_i cs' t fz heq
    have e := Option.some.inj hvar
    refine ⟨t, fz, ?_⟩
    rw [heq]
    congr 2
    apply Array.toList_inj.1
    rw [e, hc]
    simp [arr]
  · cases hvar

theorem of_laid {W : World} (h : laidMetH Tryd.prog [("sodality/keccak.constants", Rows.laid_sodality_keccak_constants), ("sodality/keccak.turns", Rows.laid_sodality_keccak_turns), ("sodality/keccak.places", Rows.laid_sodality_keccak_places)] W) : TK W := by
  rw [MakeChecks.laidMetH_plain _ _ _ (by kernel_rfl), laid_constants, laid_turns, laid_places] at h
  obtain ⟨ps, ⟨ga, ta, ca, fa, pa, qa, hga, hta, hva, hda, ⟨gb, tb', cb, fb, pb, qb, hgb, htb, hvb, hdb, ⟨gc, tc, cc, fc, pc, qc, hgc, htc, hvc, hdc, _, _⟩, _⟩, _⟩, _⟩ := h
  obtain rfl := Option.some.inj (g0.symm.trans hga)
  obtain rfl := Option.some.inj (t0.symm.trans hta)
  obtain rfl := Option.some.inj (g1.symm.trans hgb)
  obtain rfl := Option.some.inj (t1.symm.trans htb)
  obtain rfl := Option.some.inj (g2.symm.trans hgc)
  obtain rfl := Option.some.inj (t2.symm.trans htc)
  exact ⟨row_constants g0 hva (Lib.cells_of_tab Tryd.underlying57 Tryd.underlying41 cells41 cells57 hda), row_places g2 hvc (Lib.cells_of_tab Tryd.underlying61 Tryd.underlying3 cells3 cells61 hdc), row_turns g1 hvb (Lib.cells_of_tab Tryd.underlying61 Tryd.underlying3 cells3 cells61 hdb)⟩
theorem door_met (os : Os) (args : Array Value) : laidMetH Tryd.prog [("sodality/keccak.constants", Rows.laid_sodality_keccak_constants), ("sodality/keccak.turns", Rows.laid_sodality_keccak_turns), ("sodality/keccak.places", Rows.laid_sodality_keccak_places)] ((World.doorLaid Tryd.prog 24 os).forCall (fun _ _ => 0) ⟨#[], args, []⟩).memory :=
  laidMetH_of_parts3 (fuel := 8) (laidMet_of_run' 8 (by kernel_rfl) (by kernel_rfl)) (by kernel_rfl) (by kernel_rfl)
theorem nat_of {z : Int} (h : 0 ≤ z) : ∃ n : Nat, z = n := ⟨z.toNat, by omega⟩
theorem c8_of {z : Int} (h : 0 ≤ z ∧ z ≤ 255) : c8 (BitVec.ofInt 8 z) = .int .u8 z := by
  unfold c8 bt
  congr 1
  rw [BitVec.toNat_ofInt]
  omega
theorem open_bytes {H : Type} {enc : TypeId × Value → H} {W : World} {base len cap : Nat} {a : Option Addr} {d : DataW H} {p : List MemPlace} (hv : Value.okWide Tryd.prog W .any base 29 (.slice a len cap))
    (h : ∃ fuel, DataW.trod enc Tryd.prog W 0 (fun _ => true) true fuel 29 (Value.slice a len cap).cells.toList = some (d, p)) : ∃ B, len = B.length ∧ len ≤ cap ∧ Old W.heap.size W a B := by
  obtain ⟨fuel, hf⟩ := h
  rcases open_ints Tryd.underlying29 Tryd.underlying5 (by kernel_rfl) hf with ⟨hcs, _⟩ | ⟨x, l, c, zs, hcs, _, hl, hm, hz, _, hcell, hwz⟩
  · simp [Value.cells] at hcs
    obtain ⟨rfl, rfl, rfl⟩ := hcs
    exact ⟨[], rfl, Nat.le_refl _, fun _ => rfl, Nat.le_refl _, fun a ha => by cases ha⟩
  · simp [Value.cells] at hcs
    obtain ⟨rfl, rfl, rfl⟩ := hcs
    simp only [if_true] at hz
    have hblk : x.block < W.heap.size := by
      simp only [Value.okWide, Tryd.underlying29, Cell.okWide, Cell.ok, World.has, World.shape?] at hv
      obtain ⟨_, _, _, _, row, cells, hs, _⟩ := hv
      rcases Nat.lt_or_ge x.block W.heap.size with g | g
      · exact g
      · rw [Array.getElem?_eq_none g] at hs; cases hs
    refine ⟨(zs.take len).map (BitVec.ofInt 8), by simp; omega, hl, (fun e => by cases e), Nat.le_refl _, fun b hb => ?_⟩
    injection hb with hb
    subst hb
    refine ⟨hblk, fun j y hy => ?_⟩
    rw [List.getElem?_map, List.getElem?_take] at hy
    split at hy
    · rename_i hj
      have hj2 : j < zs.length := by omega
      rw [List.getElem?_eq_getElem hj2] at hy
      simp only [Option.map_some, Option.some.injEq] at hy
      subst hy
      rw [c8_of (bounds_u8 (hwz _ (List.getElem_mem hj2))), hcell j hj2]
      simp [List.getD_eq_getElem?_getD, List.getElem?_eq_getElem hj2]
    · cases hy
end Go.Proofs.YtgjcofneecebjaaDoor
