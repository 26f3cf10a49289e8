/- The head's answer. -/
import Derived.Test.YtllgdlfdmmdffaaZ3
namespace Go.Proofs.Ytllgdlfdmmdffaa
open Go.ChangeShapes Go.WideShapes Go.ChangeAt Go.RowKit Go.MapKept Go.ChangeMaps
set_option linter.unusedSimpArgs false
set_option linter.unusedVariables false
theorem zero42 (w : World) : (zeroValue 42).run Try.prog w = .ok (.agg #[.int .i64 0, .int .i64 0, .int .i64 0]) w := by kernel_rfl
theorem zero32 (w : World) : (zeroValue 32).run Try.prog w = .ok (.agg #[.slice none 0 0, .int .i64 0]) w := by kernel_rfl
theorem rlz_one {w : World} {b1 b2 : Nat} {x y : Int} (h2 : w.heap[b2]? = some (.cells #[.slice (some ⟨b1, 0, none⟩) 1 1, .int .i64 y] 32 (0, 0))) (h1 : NB w b1 [x]) : Rlz w.heap.size w (some ⟨b2, 0, none⟩) [⟨[x], y⟩] := by
  refine ⟨(fun h => by cases h), fun r hr => by simp at hr; subst hr; simp, fun a ha j r hj => ?_⟩
  injection ha with ha; subst ha
  cases j with
  | zero =>
    simp at hj
    subst hj
    refine ⟨(Array.getElem?_eq_some_iff.1 h2).1, ⟨some ⟨b1, 0, none⟩, 1, Nat.le_refl _, ?_, h1.ilz⟩, ?_⟩
    · rw [add_zero_mid, cell_of_row _ _ _ _ _ _ h2]; rfl
    · rw [add_add, add_zero_mid, cell_of_row _ _ _ _ _ _ h2]; rfl
  | succ j => simp at hj
theorem head_clo (w : World) : Calls Try.prog 10 #[.int .i64 3, .slice (some ⟨w.heap.size, 0, none⟩) 1 1, .slice (some ⟨w.heap.size + 1 + 1, 0, none⟩) 1 1] (((w.alloc (.cells #[.int .i64 0] 3)).alloc (.cells #[.int .i64 0] 3)).alloc (.cells #[.slice (some ⟨w.heap.size + 1, 0, none⟩) 1 1, .int .i64 2] 32))
    fun e w' => ∃ ao, e = .returned (.slice ao 3 3) ∧ Bz w' ao [true, false, true] ∧ Below w.heap.size w w' := by
  have b1 : NB (w.alloc (.cells #[.int .i64 0] 3)) w.heap.size [0] := nb_one w 0
  have b2 : NB ((w.alloc (.cells #[.int .i64 0] 3)).alloc (.cells #[.int .i64 0] 3)) (w.heap.size + 1) [0] := by
    have := nb_one (w.alloc (.cells #[.int .i64 0] 3)) 0
    rwa [World.size_alloc] at this
  have b1 := nb_below b1 ((Below.refl _ _).alloc (Nat.le_refl _) (.cells #[.int .i64 0] 3))
  have b1 := nb_below b1 ((Below.refl _ _).alloc (Nat.le_refl _) (.cells #[.slice (some ⟨w.heap.size + 1, 0, none⟩) 1 1, .int .i64 2] 32))
  have b2 := nb_below b2 ((Below.refl _ _).alloc (Nat.le_refl _) (.cells #[.slice (some ⟨w.heap.size + 1, 0, none⟩) 1 1, .int .i64 2] 32))
  have b3 := heap_alloc_new ((w.alloc (.cells #[.int .i64 0] 3)).alloc (.cells #[.int .i64 0] 3)) (.cells #[.slice (some ⟨w.heap.size + 1, 0, none⟩) 1 1, .int .i64 2] 32)
  rw [World.size_alloc, World.size_alloc] at b3
  have hbw : Below w.heap.size w (((w.alloc (.cells #[.int .i64 0] 3)).alloc (.cells #[.int .i64 0] 3)).alloc (.cells #[.slice (some ⟨w.heap.size + 1, 0, none⟩) 1 1, .int .i64 2] 32)) := (((Below.refl _ w).alloc (Nat.le_refl _) _).alloc (by simp) _).alloc (by simp; omega) _
  refine (clo10 (many := 3) (Ks := [0]) (Rs := [⟨[0], 2⟩]) rfl rfl (by simp) (by simp) b1.ilz (rlz_one b3 b2) (Nat.le_refl _) (by omega)).mono ?_
  rintro e w' ⟨ao, n, rfl, hn, -, hz, hb⟩
  have e1 : cloB 3 [0] [⟨[0], 2⟩] = [true, false, true] := by decide
  rw [e1] at hn hz
  obtain rfl : n = 3 := hn
  exact ⟨ao, rfl, hz, below_then hbw hb⟩
set_option maxRecDepth 20000 in
set_option maxHeartbeats 8000000 in
theorem head7 (w : World) : Calls Try.prog 7 #[] w fun e w' => e = .returned (.bool true) ∧ Below w.heap.size w w' := by
  have hz := zero42
  have hz2 := zero32
  have hz3 := zero37
  have H16 := found16 (w.alloc (.cells #[.int .i64 5, .int .i64 0, .int .i64 0, .int .i64 1, .int .i64 0, .int .i64 0] 42)) w.heap.size 2 (heap_alloc_new _ _)
  have k0 : Below w.heap.size w (w.alloc (.cells #[.int .i64 5, .int .i64 0, .int .i64 0, .int .i64 1, .int .i64 0, .int .i64 0] 42)) := (Below.refl _ w).alloc (Nat.le_refl _) _
  have HK := Lib.hid k0
  clear k0
  go_enter Try.func7, Try.ntmps7
  go_upto_region 2 with (first
    | (go_at_call 16; (with_reducible refine H16.mono ?_); rintro e w1 ⟨fa, fc, rfl, hfz, b1⟩; have HF := Lib.hid (And.intro hfz (below_then HK.out b1)); clear hfz b1 H16))
  have H10 := head_clo w1
  go_upto_region 3 with (first
    | (go_at_call 10; (with_reducible refine H10.mono ?_); rintro e w2 ⟨ca, rfl, hcz, b2⟩; have HC := Lib.hid (And.intro hcz b2); clear hcz b2 H10))
  have H15 := play15b (w2.alloc (.cells #[.int .i64 1, .int .i64 1, .int .i64 0] 42)) w2.heap.size 1 (heap_alloc_new _ _)
  have k2 : Below w2.heap.size w2 (w2.alloc (.cells #[.int .i64 1, .int .i64 1, .int .i64 0] 42)) := (Below.refl _ w2).alloc (Nat.le_refl _) _
  have HK2 := Lib.hid k2
  clear k2
  go_upto_region 4 with (first
    | (go_at_call 15; (with_reducible refine H15.mono ?_); rintro e w3 ⟨rfl, b3⟩; have HB32 := Lib.hid (below_then HK2.out b3); have HB3 := Lib.hid (below_then HC.out.2 HB32.out); clear b3 H15))
  have k4 : Below w3.heap.size w3 (w3.alloc (.cells #[.int .i64 0, .slice none 0 0, .slice none 0 0, .slice none 0 0, .bool false, .bool false, .bool false, .bool false, .bool false, .bool false, .bool false, .bool false] 37)) := (Below.refl _ w3).alloc (Nat.le_refl _) _
  change Code.wp Try.prog _ _ _ (w3.alloc (.cells #[.int .i64 0, .slice none 0 0, .slice none 0 0, .slice none 0 0, .bool false, .bool false, .bool false, .bool false, .bool false, .bool false, .bool false, .bool false] 37))
  generalize w3.alloc (.cells #[.int .i64 0, .slice none 0 0, .slice none 0 0, .slice none 0 0, .bool false, .bool false, .bool false, .bool false, .bool false, .bool false, .bool false, .bool false] 37) = w4 at k4 ⊢
  have HW := Lib.hid (below_then HB3.out k4)
  have hf4 := HF.out.1.below HW.out
  have hbc : Below w2.heap.size w2 w4 := by
    have : Below w2.heap.size w2 w3 := HB32.out
    exact below_then this k4
  have hc4 := HC.out.1.below hbc
  obtain ⟨fad, rfl⟩ : ∃ a, fa = some a := by
    cases fa with
    | none => have := hf4.nil rfl; cases this
    | some a => exact ⟨a, rfl⟩
  obtain ⟨cad, rfl⟩ : ∃ a, ca = some a := by
    cases ca with
    | none => have := hc4.nil rfl; cases this
    | some a => exact ⟨a, rfl⟩
  have f0 : w4.cell? fad = some (.bool true) := (hf4.cells fad rfl).2 0 true rfl
  have f1 : w4.cell? (fad.add 1) = some (.bool false) := (hf4.cells fad rfl).2 1 false rfl
  have c1 : w4.cell? (cad.add 1) = some (.bool false) := (hc4.cells cad rfl).2 1 false rfl
  have c2 : w4.cell? (cad.add 2) = some (.bool true) := (hc4.cells cad rfl).2 2 true rfl
  have f1' : w4.cell? ⟨fad.block, fad.off + 1, none⟩ = some (.bool false) := by
    have e := at_none f0
    have := f1
    rw [e] at this
    rwa [Addr.add_mid] at this
  have c0' := (hc4.cells cad rfl).2 0 true rfl
  have c1' : w4.cell? ⟨cad.block, cad.off + 1, none⟩ = some (.bool false) := by
    have e := at_none (a := cad) c0'
    have := c1
    rw [e] at this
    rwa [Addr.add_mid] at this
  have c2' : w4.cell? ⟨cad.block, cad.off + 2, none⟩ = some (.bool true) := by
    have e := at_none (a := cad) c0'
    have := c2
    rw [e] at this
    rwa [Addr.add_mid] at this
  have HFW := Lib.hid (below_then HF.out.2 HW.out)
  clear hf4 hc4 hbc k4 c0'
  go_wp2_with fail
  go_ret
  exact ⟨rfl, HFW.out⟩
end Go.Proofs.Ytllgdlfdmmdffaa
