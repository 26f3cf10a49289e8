/- What the law's head asks. -/
import Derived.Test.YtllgdlfdmmdffaaZ
namespace Go.Proofs.Ytllgdlfdmmdffaa
open Go.ChangeShapes Go.WideShapes Go.ChangeAt Go.RowKit Go.MapKept Go.ChangeMaps
set_option linter.unusedSimpArgs false
set_option linter.unusedVariables false
def zs37 : List Value := [.int .i64 0, .slice none 0 0, .slice none 0 0, .slice none 0 0, .bool false, .bool false, .bool false, .bool false, .bool false, .bool false, .bool false, .bool false]
def Pl1 (w : World) (e : Ending) (w' : World) : Prop := e = .returned (.tuple #[.agg #[.int .i64 0, .slice none 0 0, .slice none 0 0, .slice none 0 0, .bool false, .bool false, .bool false, .bool false, .bool false, .bool false, .bool false, .bool false], .int .i64 1]) ∧ Below w.heap.size w w'
set_option maxRecDepth 20000 in
set_option maxHeartbeats 8000000 in
theorem play15b (w : World) (b cc : Nat) (hb : w.heap[b]? = some (.cells #[.int .i64 1, .int .i64 1, .int .i64 0] 42 (0, 0))) :
    Calls Try.prog 15 #[.slice (some ⟨b, 0, none⟩) 1 cc] w (Pl1 w) := by
  have hz := zero37
  have HST := Lib.hid (fun x => start21 x)
  have k1 : Below w.heap.size w (w.alloc (.cells #[.int .i64 0, .slice none 0 0, .slice none 0 0, .slice none 0 0, .bool false, .bool false, .bool false, .bool false, .bool false, .bool false, .bool false, .bool false] 37)) := (Below.refl _ w).alloc (Nat.le_refl _) _
  have hb1 := (k1.block b (Array.getElem?_eq_some_iff.1 hb).1).trans hb
  have hq1 := heap_alloc_new w (.cells #[.int .i64 0, .slice none 0 0, .slice none 0 0, .slice none 0 0, .bool false, .bool false, .bool false, .bool false, .bool false, .bool false, .bool false, .bool false] 37)
  have HB := Lib.hid (And.intro k1 (And.intro hb1 hq1))
  clear hb k1 hb1 hq1
  go_enter Try.func15, Try.ntmps15
  go_upto_region 1 with (fail)
  generalize w.alloc (.cells #[.int .i64 0, .slice none 0 0, .slice none 0 0, .slice none 0 0, .bool false, .bool false, .bool false, .bool false, .bool false, .bool false, .bool false, .bool false] 37) = w1 at HB ⊢
  have H21 := HST.out w1
  go_wp2_with (first
    | (go_at_call 21; (with_reducible refine H21.mono ?_); rintro e w2 ⟨p, t, h, m, c2, rfl, P2, M2, hlt, hlh, hlm⟩; have HP2 := Lib.hid P2; clear P2 M2 hlt hlh hlm))
  go_loopg [14] 1 (fun gk v14 wr => v14 = .int .i64 0 ∧ wr = w2)
  case atStart => exact ⟨rfl, rfl⟩
  case round =>
    obtain ⟨rfl, rfl⟩ := hrel
    have bR := HP2.out.bl
    have x0 : wr.cell? ⟨b, 0, none⟩ = some (.int .i64 1) := by rw [cell_of_row _ _ _ _ _ _ ((bR.block b (Array.getElem?_eq_some_iff.1 HB.out.2.1).1).trans HB.out.2.1)]; rfl
    have x1 : wr.cell? ⟨b, 1, none⟩ = some (.int .i64 1) := by rw [cell_of_row _ _ _ _ _ _ ((bR.block b (Array.getElem?_eq_some_iff.1 HB.out.2.1).1).trans HB.out.2.1)]; rfl
    have x2 : wr.cell? ⟨b, 2, none⟩ = some (.int .i64 0) := by rw [cell_of_row _ _ _ _ _ _ ((bR.block b (Array.getElem?_eq_some_iff.1 HB.out.2.1).1).trans HB.out.2.1)]; rfl
    have kA : Below wr.heap.size wr (wr.alloc (.cells #[.int .i64 1, .int .i64 1, .int .i64 0] 42)) := (Below.refl _ wr).alloc (Nat.le_refl _) _
    have HPA := Lib.hid (HP2.out.below kA)
    have H22 : Calls Try.prog 22 #[.pointer (some ⟨p, 0, none⟩), .agg #[.int .i64 1, .int .i64 1, .int .i64 0]] (wr.alloc (.cells #[.int .i64 1, .int .i64 1, .int .i64 0] 42)) _ := can22 HPA.out 1 1 false rfl (by decide) (by decide) 0
    have HKA := Lib.hid (below_then bR kA)
    clear bR kA
    go_wp2_with (first
      | (go_at_call 22; (with_reducible refine H22.mono ?_); rintro e w4 ⟨rfl, b4⟩; have HB4 := Lib.hid (below_then HKA.out b4); have hq4 := (HB4.out.block w.heap.size (Array.getElem?_eq_some_iff.1 HB.out.2.2).1).trans HB.out.2.2; have HQ4 := Lib.hid hq4; clear b4 hq4 H22)
      | ((with_reducible refine store37r rfl (.tmp 2) (.tmp 22) rfl w.heap.size zs37 rfl ?hy ?hl 37 zs37.toArray ?hg ?ho ?h1 ?_); (case hy => rfl); (case hg => exact HQ4.out); (case hl => rfl); (case ho => rfl); (case h1 => simp [zs37, Value.oneCell'])))
    refine bodyPost_ret (results_cell_tmp rfl _ _ w.heap.size 37 zs37.toArray (0, 0) _ rfl (setRow_heap _ _ _ _ _ _ HQ4.out) Try.underlying37 rfl info37') rfl ?_
    refine ⟨rfl, ?_⟩
    exact (HB.out.1.trans (HB4.out.mono HB.out.1.size)).trans ⟨rfl, rfl, rfl, by simp, fun k hk => setRow_other _ _ _ _ (by omega)⟩
end Go.Proofs.Ytllgdlfdmmdffaa
