/- Which epochs' secrets are found behind the head's two acts. -/
import Derived.Test.YtllgdlfdmmdffaaZ2
namespace Go.Proofs.Ytllgdlfdmmdffaa
open Go.ChangeShapes Go.WideShapes Go.ChangeAt Go.RowKit Go.MapKept Go.ChangeMaps
set_option linter.unusedSimpArgs false
set_option linter.unusedVariables false
theorem fits_pl2 : Fits 9 [0, 1] pl2 := ⟨by omega, by decide, fun x hx => by simp at hx; rcases hx with rfl | rfl <;> exact ⟨_, rfl, by decide⟩, fun r hr => by
  simp [pl2] at hr
  rcases hr with rfl | rfl | rfl | rfl | rfl | rfl <;> exact ⟨_, rfl, by decide⟩, fun r hr x hx => by
  simp [pl2] at hr
  rcases hr with rfl | rfl | rfl | rfl | rfl | rfl <;> simp at hx
  · exact ⟨1, hx, by decide⟩
  · exact ⟨3, hx, by decide⟩
  · exact ⟨3, hx, by decide⟩
  · rcases hx with rfl | rfl
    · exact ⟨2, rfl, by decide⟩
    · exact ⟨5, rfl, by decide⟩
  · exact ⟨6, hx, by decide⟩
  · exact ⟨7, hx, by decide⟩⟩
theorem fin_pl2 : (fin 9 [0, 1] pl2).1 = [true, true, true, false, false, false, false, false, false] := by decide
def Fd (w : World) (e : Ending) (w' : World) : Prop := ∃ ao c, e = .returned (.slice ao 2 c) ∧ Bz w' ao [true, false] ∧ Below w.heap.size w w'
theorem own_bz {w : World} {base n : Nat} {v : Value} {B : List Bool} (h : w.ownsRow base 4 1 v n (B.map Value.bool)) : ∃ ao c, v = .slice ao n c ∧ Bz w ao B := by
  have hl : n = B.length := by have := h.1; simp at this; omega
  rcases h.2 with ⟨rfl, rfl⟩ | ⟨q, cap, cur, rfl, hb, hh, hnc, hrest⟩
  · exact ⟨none, 0, rfl, fun _ => List.eq_nil_of_length_eq_zero hl.symm, fun _ h => by cases h⟩
  · refine ⟨some ⟨q, 0, none⟩, cap, rfl, (fun h => by cases h), fun a ha => ?_⟩
    injection ha with ha; subst ha
    exact ⟨(Array.getElem?_eq_some_iff.1 hh).1, fun j x hx => h.cells (g := q) rfl j (.bool x) (by rw [List.getElem?_map, hx]; rfl)⟩
set_option maxRecDepth 20000 in
set_option maxHeartbeats 8000000 in
theorem found16 (w : World) (b cc : Nat) (hb : w.heap[b]? = some (.cells #[.int .i64 5, .int .i64 0, .int .i64 0, .int .i64 1, .int .i64 0, .int .i64 0] 42 (0, 0))) :
    Calls Try.prog 16 #[.slice (some ⟨b, 0, none⟩) 2 cc] w (Fd w) := by
  obtain ⟨i0, hin, hz0, hz1, hz2⟩ := info_parts info4
  have hz := zero37
  have H15 := play15a w b cc hb
  clear hb
  go_enter Try.func16, Try.ntmps16
  go_upto_region 4 with (first
    | (go_at_call 15; (with_reducible refine H15.mono ?_); rintro e w2 ⟨V, rfl, ⟨lo, lc, ka, kc, ea, ec, j0, j1, j2, j3, j4, j5, j6, j7, rfl, hrl, hkl, hel⟩, b2⟩; have HS := Lib.hid (And.intro hrl (And.intro hkl (And.intro hel b2))); clear hrl hkl hel b2))
  have kA : Below w2.heap.size w2 (w2.alloc (.cells #[.int .i64 9, .slice lo pl2.length lc, .slice ka ([0, 1] : List Int).length kc, .slice ea ([1, 7] : List Int).length ec, .bool j0, .bool j1, .bool j2, .bool j3, .bool j4, .bool j5, .bool j6, .bool j7] 37)) := (Below.refl _ w2).alloc (Nat.le_refl _) _
  have hrow := heap_alloc_new w2 (.cells #[.int .i64 9, .slice lo pl2.length lc, .slice ka ([0, 1] : List Int).length kc, .slice ea ([1, 7] : List Int).length ec, .bool j0, .bool j1, .bool j2, .bool j3, .bool j4, .bool j5, .bool j6, .bool j7] 37)
  change Code.wp Try.prog _ _ _ (w2.alloc (.cells #[.int .i64 9, .slice lo pl2.length lc, .slice ka ([0, 1] : List Int).length kc, .slice ea ([1, 7] : List Int).length ec, .bool j0, .bool j1, .bool j2, .bool j3, .bool j4, .bool j5, .bool j6, .bool j7] 37))
  generalize w2.alloc (.cells #[.int .i64 9, .slice lo pl2.length lc, .slice ka ([0, 1] : List Int).length kc, .slice ea ([1, 7] : List Int).length ec, .bool j0, .bool j1, .bool j2, .bool j3, .bool j4, .bool j5, .bool j6, .bool j7] 37) = w3 at kA hrow ⊢
  have c0 : w3.cell? ⟨w2.heap.size, 0, none⟩ = some (.int .i64 9) := by rw [cell_of_row _ _ _ _ _ _ hrow]; rfl
  have c1 : w3.cell? ⟨w2.heap.size, 1, none⟩ = some (.slice lo 6 lc) := by rw [cell_of_row _ _ _ _ _ _ hrow]; rfl
  have c2 : w3.cell? ⟨w2.heap.size, 2, none⟩ = some (.slice ka 2 kc) := by rw [cell_of_row _ _ _ _ _ _ hrow]; rfl
  have c3 : w3.cell? ⟨w2.heap.size, 3, none⟩ = some (.slice ea 2 ec) := by rw [cell_of_row _ _ _ _ _ _ hrow]; rfl
  have H18 : Calls Try.prog 18 #[.int .i64 9, .slice ka 2 kc, .slice lo 6 lc] w3 (Fo w3 9 [0, 1] pl2) := found18 9 2 6 kc lc w2.heap.size ka lo [0, 1] pl2 w3 rfl rfl fits_pl2 (by omega) (HS.out.2.1.below kA (Nat.le_refl _)) (HS.out.1.below kA (Nat.le_refl _)) kA.size
  have hlt : w2.heap.size < w3.heap.size := (Array.getElem?_eq_some_iff.1 hrow).1
  have HK := Lib.hid (And.intro kA (And.intro c3 hlt))
  clear kA hrow hlt c3
  go_upto_region 5 with (first
    | (go_at_call 18; (with_reducible refine H18.mono ?_); rintro e w4 ⟨fb, fg, fbase, fv, rfl, hF⟩; have HF := Lib.hid hF; clear hF H18))
  have c3 := (HF.out.k.cell (p := ⟨w2.heap.size, 3, none⟩) HK.out.2.2).trans HK.out.2.1
  clear c0 c1 c2
  go_wp2_with fail
  have HE4 := Lib.hid ((HS.out.2.2.1.below (below_then HK.out.1 HF.out.k) (Nat.le_refl _)))
  have hl9 : (fin 9 [0, 1] pl2).1 = [true, true, true, false, false, false, false, false, false] := fin_pl2
  have HBL := Lib.hid (show Bl w4 fb [true, true, true, false, false, false, false, false, false] from hl9 ▸ HF.out.bl)
  clear hl9 c3
  go_loopg [7, 30] 2 (fun gk v7 v30 wr => ∃ k : Nat, v30 = .int .i64 k ∧ k + gk = 2 ∧ wr.ownsRow w4.heap.size 4 1 v7 k ((([true, false] : List Bool).take k).map Value.bool) ∧ Below w4.heap.size w4 wr)
  case atStart => exact ⟨0, rfl, by omega, World.ownsRow_nil _ _ _ _, Below.refl _ _⟩
  case round =>
    obtain ⟨k, rfl, hkg, hown, hkb⟩ := hrel
    have HG := Lib.hid hkg
    obtain ⟨a7, c7, rfl⟩ := row_form hown
    by_cases h1 : k < 2
    · have d1 : decide ((k : Int) < 2) = true := by simp; omega
      obtain ⟨ead, rfl⟩ := HE4.out.some_ (by simp)
      obtain ⟨x, q, hx, hx1, hx2, hq⟩ : ∃ (x : Nat) (q : Bool), ([1, 7] : List Int)[k]? = some (x : Int) ∧ x < 9 ∧ ([true, true, true, false, false, false, false, false, false] : List Bool)[x]? = some q ∧ ([true, false] : List Bool)[k]? = some q := by
        rcases (by omega : k = 0 ∨ k = 1) with rfl | rfl
        · exact ⟨1, true, rfl, by decide, rfl, rfl⟩
        · exact ⟨7, false, rfl, by decide, rfl, rfl⟩
      have hcx := ((HE4.out.below hkb (Nat.le_trans (Nat.le_of_lt HK.out.2.2) HF.out.k.size)).cells ead rfl k _ hx).2
      have hcq := (HBL.out.below hkb HBL.out.lt).cell hx2
      have HQ := Lib.hid hq
      have hbs := hkb.size
      have q0 : (0 : Int) ≤ (k : Int) := by omega
      have q1 : (k : Int) < 2 := by omega
      have q2 : (0 : Int) ≤ (x : Int) := by omega
      have q3 : (x : Int) < 9 := by omega
      clear hkg hx hx2 hq
      go_wp2_with (first
        | (at_builtin; refine wpList_append_own _ rfl _ _ 27 rfl w4.heap.size 4 i0 (.bool false) 1 1 Try.underlying27 hin hz0 hz1 hz2 rfl (by decide) _ _ _ rfl (hown.alloc _) ⟨wr.heap.size, 0, none⟩ 1 1 [.bool q] rfl rfl ?c1 ?c2 ?c3 ?c4 ?c5 ?_; (case c1 => exact cell_one_new _ _ _); (case c2 => simp [Value.oneCell']); (case c3 => unfold maxLen; omega); (case c4 => omega); (case c5 => simp; omega); intro v' w5 o5 g5 _))
      have hkb5 : Below w4.heap.size w4 w5 := (hkb.alloc hbs _).grown g5 (by simp; omega) (fun q hq => (hown.lt q hq).1)
      go_roundg (gk - 1)
      case measure => have := HG.out; omega
      case rel =>
        refine ⟨k + 1, by simp, by have := HG.out; omega, ?_, hkb5⟩
        rw [List.take_add_one, HQ.out, List.map_append]
        exact o5
    · have d1 : decide ((k : Int) < 2) = false := by simp; omega
      obtain rfl : k = 2 := by omega
      clear hkg
      have HO := Lib.hid (And.intro hown hkb)
      go_wp2_with fail
      go_ret
      obtain ⟨ao, c, hv, hbz⟩ := own_bz (B := [true, false]) HO.out.1
      injection hv with hv1 _ hv2
      subst hv1
      exact ⟨_, _, rfl, hbz, below_then HS.out.2.2.2 (below_then HK.out.1 (below_then HF.out.k HO.out.2))⟩
end Go.Proofs.Ytllgdlfdmmdffaa
