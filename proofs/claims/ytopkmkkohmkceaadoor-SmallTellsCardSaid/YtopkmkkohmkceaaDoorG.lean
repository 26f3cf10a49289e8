/- From the row's reading to the walk's words: an array of numbers that came in, the table as the program lays it. -/
import Derived.Test.YtopkmkkohmkceaaDoorF
import Derived.Test.YtopkmkkohmkceaaDoorCards
import Derived.Test.YtopkmkkohmkceaaDoorTie
import Derived.LaidMore
import Derived.Lib.LaidTab
import Derived.SevenTiedAt
import Derived.Stop.Joined
import Derived.ShutString
import Derived.ChangeOld
namespace Go.Proofs.YtopkmkkohmkceaaDoor
open Go.ChangeShapes Go.WideShapes Go.ChangeAt Go.RowKit

theorem own : ownKnob Tryd.prog.godebug = none := by kernel_rfl
theorem laidOut : laidOutB Tryd.prog = true := by kernel_rfl
theorem gRoots : Tryd.prog.globalNamed "sodality/small.roots" = some 0 := by kernel_rfl
theorem tRoots : (Tryd.prog.globals[0]?).map (·.type) = some 35 := by kernel_rfl
theorem cells3 : Tryd.prog.cellsOf 3 = 1 := by kernel_rfl
theorem cells23 : Tryd.prog.cellsOf 23 = 256 := by kernel_rfl
theorem cells35 : Tryd.prog.cellsOf 35 = 128 := by kernel_rfl
def rts : List Int := (List.range 128).map rt
theorem laid_eq : (Rows.laid_sodality_small_roots : DataW Unit) = Lib.tabData .i64 rts := by kernel_rfl

theorem of_laid {W : World} (h : laidMetH Tryd.prog [("sodality/small.roots", Rows.laid_sodality_small_roots)] W) : TRow W 0 128 rt := by
  rw [MakeChecks.laidMetH_plain _ _ _ (by kernel_rfl), laid_eq] at h
  have ht := Lib.tabIs_of_head gRoots tRoots Tryd.underlying35 Tryd.underlying3 cells3 cells35 h
  have e : (rts.map fun z => Value.int .i64 z).toArray = arr 128 rt := by simp [rts, arr]
  unfold Lib.TabIs at ht
  rw [e] at ht
  simp only [World.var?, gRoots, Option.bind_some] at ht
  split at ht
  · rename_i cs t fz heq
    obtain rfl := Option.some.inj ht
    exact ⟨t, fz, heq⟩
  · cases ht
theorem door_met (os : Os) (args : Array Value) : laidMetH Tryd.prog [("sodality/small.roots", Rows.laid_sodality_small_roots)] ((World.doorLaid Tryd.prog 14 os).forCall (fun _ _ => 0) ⟨#[], args, []⟩).memory :=
  laidMetH_of_parts3 (fuel := 8) (laidMet_of_run' 8 (by kernel_rfl) (by kernel_rfl)) (by kernel_rfl) (by kernel_rfl)

/-- An array of 256 numbers that came in by value. -/
theorem open_arr {H : Type} {enc : TypeId × Value → H} {W : World} {b0 base : Nat} {sp : Nat → Bool} {held : Bool} {v : Value} {d : DataW H} {p : List MemPlace}
    (hv : Value.okWide Tryd.prog W .any b0 23 v) (h : DataW.Trod enc Tryd.prog W base sp held 23 v d p) : ∃ f, v = .agg (arr 256 f) ∧ I64 f := by
  have hv2 : ∃ cs, v = .agg cs ∧ cs.size = 256 := by
    simp only [Value.okWide, Tryd.underlying23] at hv
    obtain ⟨cs, h1, h2, _⟩ := hv
    exact ⟨cs, h1, h2.trans cells23⟩
  obtain ⟨cs, rfl, hs⟩ := hv2
  obtain ⟨fuel, hf⟩ := h
  obtain ⟨xs, m, rfl, _, hl, hn, hel⟩ := DataW.trod_array Tryd.underlying23 hf
  have hcell : ∀ i : Nat, ∃ z : Int, (i < 256 → cs[i]? = some (.int .i64 z)) ∧ -9223372036854775808 ≤ z ∧ z ≤ 9223372036854775807 := fun i => by
    by_cases hi : i < 256
    · have h1 := hel i hi
      rw [cells3, List.getElem?_eq_getElem (by omega)] at h1
      obtain ⟨z, hc, _, hw⟩ := DataW.trod_int Tryd.underlying3 h1
      refine ⟨z, fun _ => ?_, bounds_i64 hw⟩
      have h0 := congrArg (·[0]?) hc
      simpa [List.getElem?_take, List.getElem?_drop, Value.cells] using h0
    · exact ⟨0, fun h => absurd h hi, by omega, by omega⟩
  obtain ⟨f, hf2⟩ := Classical.axiomOfChoice hcell
  refine ⟨f, ?_, fun i => (hf2 i).2⟩
  congr 1
  apply Array.ext_getElem?
  intro i
  by_cases hi : i < 256
  · rw [(hf2 i).1 hi, arr_get 256 f i hi]
  · rw [Array.getElem?_eq_none (by omega), Array.getElem?_eq_none (by rw [arr_size]; omega)]
end Go.Proofs.YtopkmkkohmkceaaDoor
