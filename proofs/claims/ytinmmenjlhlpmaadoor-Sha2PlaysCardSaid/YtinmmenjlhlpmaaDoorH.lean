/- From the row's reading to the walk's words: the constants as the program lays them; bytes that came in. -/
import Derived.Test.YtinmmenjlhlpmaaDoorL
import Derived.Test.YtinmmenjlhlpmaaDoorCards
import Derived.Test.YtinmmenjlhlpmaaDoorTie
import Derived.LaidMore
import Derived.Lib.LaidTab
import Derived.SevenTiedAt
import Derived.Stop.Joined
import Derived.ShutString
import Derived.ChangeOld
namespace Go.Proofs.YtinmmenjlhlpmaaDoor
open Go.ChangeShapes Go.WideShapes Go.ChangeAt Go.RowKit

theorem own : ownKnob Tryd.prog.godebug = none := by kernel_rfl
theorem laidOut : laidOutB Tryd.prog = true := by kernel_rfl
theorem gTab : Tryd.prog.globalNamed "sodality/sha2.constants" = some 0 := by kernel_rfl
theorem tTab : (Tryd.prog.globals[0]?).map (·.type) = some 43 := by kernel_rfl
theorem cells35 : Tryd.prog.cellsOf 35 = 1 := by kernel_rfl
theorem cells43 : Tryd.prog.cellsOf 43 = 64 := by kernel_rfl
theorem laid_eq : (Rows.laid_sodality_sha2_constants : DataW Unit) = Lib.tabData .u32 ((List.range 64).map fun i => wd (kk i)) := by kernel_rfl

theorem of_laid {W : World} (h : laidMetH Tryd.prog [("sodality/sha2.constants", Rows.laid_sodality_sha2_constants)] W) : TRow W 0 .u32 64 (fun i => wd (kk i)) := by
  rw [MakeChecks.laidMetH_plain _ _ _ (by kernel_rfl), laid_eq] at h
  obtain ⟨ps, ⟨g', t', cs, fuel, p, q, hg', ht', hvar, hd, _, _⟩, _⟩ := h
  obtain rfl := Option.some.inj (gTab.symm.trans hg')
  obtain rfl := Option.some.inj (tTab.symm.trans ht')
  have hc := Lib.cells_of_tab Tryd.underlying43 Tryd.underlying35 cells35 cells43 hd
  simp only [World.var?, gTab, Option.bind_some] at hvar
  split at hvar
  · rename_i cs' t fz heq
    have e := Option.some.inj hvar
    refine ⟨t, fz, ?_⟩
    rw [heq]
    congr 2
    apply Array.toList_inj.1
    rw [e, hc]
    simp [arr]
  · cases hvar
theorem door_met (os : Os) (args : Array Value) : laidMetH Tryd.prog [("sodality/sha2.constants", Rows.laid_sodality_sha2_constants)] ((World.doorLaid Tryd.prog 14 os).forCall (fun _ _ => 0) ⟨#[], args, []⟩).memory :=
  laidMetH_of_parts3 (fuel := 8) (laidMet_of_run' 8 (by kernel_rfl) (by kernel_rfl)) (by kernel_rfl) (by kernel_rfl)
theorem nat_of {z : Int} (h : 0 ≤ z) : ∃ n : Nat, z = n := ⟨z.toNat, by omega⟩
theorem c8_of {z : Int} (h : 0 ≤ z ∧ z ≤ 255) : c8 (BitVec.ofInt 8 z) = .int .u8 z := by
  unfold c8 bt
  congr 1
  rw [BitVec.toNat_ofInt]
  omega
theorem open_bytes {H : Type} {enc : TypeId × Value → H} {W : World} {base len cap : Nat} {a : Option Addr} {d : DataW H} {p : List MemPlace} (hv : Value.okWide Tryd.prog W .any base 22 (.slice a len cap))
    (h : ∃ fuel, DataW.trod enc Tryd.prog W 0 (fun _ => true) true fuel 22 (Value.slice a len cap).cells.toList = some (d, p)) : ∃ B, len = B.length ∧ len ≤ cap ∧ Old W.heap.size W a B := by
  obtain ⟨fuel, hf⟩ := h
  rcases open_ints Tryd.underlying22 Tryd.underlying5 (by kernel_rfl) hf with ⟨hcs, _⟩ | ⟨x, l, c, zs, hcs, _, hl, hm, hz, _, hcell, hwz⟩
  · simp [Value.cells] at hcs
    obtain ⟨rfl, rfl, rfl⟩ := hcs
    exact ⟨[], rfl, Nat.le_refl _, fun _ => rfl, Nat.le_refl _, fun a ha => by cases ha⟩
  · simp [Value.cells] at hcs
    obtain ⟨rfl, rfl, rfl⟩ := hcs
    simp only [if_true] at hz
    have hblk : x.block < W.heap.size := by
      simp only [Value.okWide, Tryd.underlying22, Cell.okWide, Cell.ok, World.has, World.shape?] at hv
      obtain ⟨_, _, _, _, row, cells, hs, _⟩ := hv
      rcases Nat.lt_or_ge x.block W.heap.size with g | g
      · exact g
      · rw [Array.getElem?_eq_none g] at hs; cases hs
    refine ⟨(zs.take len).map (BitVec.ofInt 8), by simp; omega, hl, (fun e => by cases e), Nat.le_refl _, fun b hb => ?_⟩
    injection hb with hb
    subst hb
    refine ⟨hblk, fun j y hy => ?_⟩
    rw [List.getElem?_map, List.getElem?_take] at hy
    split at hy
    · rename_i hj
      have hj2 : j < zs.length := by omega
      rw [List.getElem?_eq_getElem hj2] at hy
      simp only [Option.map_some, Option.some.injEq] at hy
      subst hy
      rw [c8_of (bounds_u8 (hwz _ (List.getElem_mem hj2))), hcell j hj2]
      simp [List.getD_eq_getElem?_getD, List.getElem?_eq_getElem hj2]
    · cases hy
end Go.Proofs.YtinmmenjlhlpmaaDoor
