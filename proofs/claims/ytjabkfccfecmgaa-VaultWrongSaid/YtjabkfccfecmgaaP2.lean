/- Open: no vault. -/
import Derived.Test.YtjabkfccfecmgaaP
namespace Go.Proofs.Ytjabkfccfecmgaa
open Go.ChangeShapes Go.WideShapes Go.ChangeAt Go.RowKit
set_option linter.unusedSimpArgs false
set_option linter.unusedVariables false
section
variable {A : Nat → Prop} {w w' : World} {g b n : Nat} {d : DS}
set_option maxRecDepth 20000 in
set_option maxHeartbeats 8000000 in
theorem open9x (hD : Dk A w g b n d) (hd0 : d.down = false) (hn : 4 ≤ n) (hn2 : n ≤ 100) (cs ls : Nat → Nat) (oks : Nat → Bool) (hH : Hds w g cs ls oks) (hbad : oks 0 = false ∨ oks 0 = true ∧ oks 1 = false) :
    Calls Try.prog 9 #[.pointer (some ⟨g, 0, none⟩)] w fun e w' => e = .returned (.tuple #[.pointer none, .slice none 0 0, .int .i64 212]) ∧ Below w.heap.size w w' := by
  have H17 := down17 hD
  have H18 := many24 hD
  rw [hd0] at H17
  have dn : decide ((n : Int) < 4) = false := by simp; omega
  obtain ⟨wa, hwa⟩ : ∃ wa, w.alloc (.cells #[.int .i64 0, .int .i64 0, .int .i64 0, .int .i64 0] 47) = wa := ⟨_, rfl⟩
  have ba : Below w.heap.size w wa := by rw [← hwa]; exact (Below.refl _ w).alloc (Nat.le_refl _) _
  have ha : wa.heap[w.heap.size]? = some (.cells (hcs cs ls 0) 47 (0, 0)) := by rw [← hwa]; exact heap_alloc_new w _
  have HB := Lib.hid (And.intro ba (And.intro ha (And.intro hH hbad)))
  have HD := Lib.hid (And.intro hD (And.intro hn hn2))
  clear hD hd0 hn hn2 hH hbad ba ha
  go_enter Try.func9, Try.ntmps9
  go_wp2_with (first
    | (go_at_call 17; (with_reducible refine H17.mono ?_); rintro e w1 ⟨rfl, hw⟩; obtain rfl : w = w1 := hw.symm)
    | (go_at_call 18; (with_reducible refine H18.mono ?_); rintro e w1 ⟨rfl, hw⟩; obtain rfl : w = w1 := hw.symm))
  obtain ⟨qh, hqh⟩ : ∃ qh, qh = w.heap.size := ⟨_, rfl⟩
  have HQ := Lib.hid hqh
  rw [← hqh] at HB ⊢
  clear hqh hwa H17 H18
  have hB0 := HB.out
  rw [HQ.out] at hB0
  go_loopg [6, 7, 27] 2 (fun gk v6 v7 v27 wr => ∃ i : Nat, v27 = .int .i64 i ∧ i + gk = 2 ∧ wr.heap[qh]? = some (.cells (hcs cs ls i) 47 (0, 0)) ∧ Below w.heap.size w wr ∧ (i = 0 ∨ i = 1 ∧ oks 0 = true ∧ oks 1 = false))
  case atStart => exact ⟨0, rfl, by omega, HB.out.2.1, hB0.1, .inl rfl⟩
  case round =>
    obtain ⟨i, rfl, hig, hh, hb, hio⟩ := hrel
    have HIG := Lib.hid hig
    rcases hio with rfl | ⟨rfl, ok0, ok1⟩
    · have H19 := HB.out.2.2.1 wr 0 (by omega) hb
      have HR := Lib.hid (And.intro hh hb)
      clear hig hh hb hB0
      rcases HB.out.2.2.2 with ok0 | ⟨ok0, ok1⟩
      · rw [ok0] at H19
        go_upto_region 12 with fail
        have H19 : Calls Try.prog 19 #[.pointer (some ⟨g, 0, none⟩), .int .i64 0] wr fun e w' => e = .returned (.tuple #[.agg #[.int .i64 (cs 0 : Int), .int .i64 (ls 0 : Int)], .bool false]) ∧ Below wr.heap.size wr w' := H19
        go_wp2_with (first
          | (go_at_call 19; (with_reducible refine H19.mono ?_); rintro e w3 ⟨rfl, b3⟩; have h3 := (b3.block qh (Array.getElem?_eq_some_iff.1 HR.out.1).1).trans HR.out.1; have c0 : w3.cell? ⟨qh, 0, none⟩ = some (.int .i64 0) := (by rw [cell_of_row _ _ _ _ _ _ h3]; rfl); have c1 : w3.cell? ⟨qh, 1, none⟩ = some (.int .i64 0) := (by rw [cell_of_row _ _ _ _ _ _ h3]; rfl); have f0 : w3.frozen? ⟨qh, 0, none⟩ = false := frozen_of_row _ _ _ _ _ h3; have f1 : w3.frozen? ⟨qh, 1, none⟩ = false := frozen_of_row _ _ _ _ _ h3; have H3 := Lib.hid (And.intro h3 b3); clear h3 b3 H19))
        go_ret3
        exact ⟨rfl, ((below_then HR.out.2 H3.out.2).setCell (p := ⟨qh, 0, none⟩) (by show w.heap.size ≤ qh; rw [HQ.out]; exact Nat.le_refl _) _).setCell (p := ⟨qh, 1, none⟩) (by show w.heap.size ≤ qh; rw [HQ.out]; exact Nat.le_refl _) _⟩
      · rw [ok0] at H19
        have HOK := Lib.hid (And.intro ok0 ok1)
        clear ok0 ok1
        go_upto_region 12 with fail
        have H19 : Calls Try.prog 19 #[.pointer (some ⟨g, 0, none⟩), .int .i64 0] wr fun e w' => e = .returned (.tuple #[.agg #[.int .i64 (cs 0 : Int), .int .i64 (ls 0 : Int)], .bool true]) ∧ Below wr.heap.size wr w' := H19
        go_wp2_with (first
          | (go_at_call 19; (with_reducible refine H19.mono ?_); rintro e w3 ⟨rfl, b3⟩; have h3 := (b3.block qh (Array.getElem?_eq_some_iff.1 HR.out.1).1).trans HR.out.1; have c0 : w3.cell? ⟨qh, 0, none⟩ = some (.int .i64 0) := (by rw [cell_of_row _ _ _ _ _ _ h3]; rfl); have c1 : w3.cell? ⟨qh, 1, none⟩ = some (.int .i64 0) := (by rw [cell_of_row _ _ _ _ _ _ h3]; rfl); have f0 : w3.frozen? ⟨qh, 0, none⟩ = false := frozen_of_row _ _ _ _ _ h3; have f1 : w3.frozen? ⟨qh, 1, none⟩ = false := frozen_of_row _ _ _ _ _ h3; have H3 := Lib.hid (And.intro h3 b3); clear h3 b3 H19))
        go_roundg (gk - 1)
        case measure => have := HIG.out; omega
        case rel =>
          refine ⟨1, by simp, by have := HIG.out; omega, ?_, ?_, .inr ⟨rfl, HOK.out.1, HOK.out.2⟩⟩
          · have e : (w3.setCell ⟨qh, 0, none⟩ (.int .i64 (cs 0 : Int))).heap[qh]? = some (.cells ((hcs cs ls 0).setIfInBounds 0 (.int .i64 (cs 0 : Int))) 47 (0, 0)) := by rw [heap_setCell_same w3 qh 0 _ 47 _ H3.out.1]
            rw [heap_setCell_same _ qh 1 _ 47 _ e]; rfl
          · exact ((below_then HR.out.2 H3.out.2).setCell (p := ⟨qh, 0, none⟩) (by show w.heap.size ≤ qh; rw [HQ.out]; exact Nat.le_refl _) _).setCell (p := ⟨qh, 1, none⟩) (by show w.heap.size ≤ qh; rw [HQ.out]; exact Nat.le_refl _) _
    · have H19 := HB.out.2.2.1 wr 1 (by omega) hb
      have HR := Lib.hid (And.intro hh hb)
      clear hig hh hb hB0
      rw [ok1] at H19
      clear ok0 ok1
      go_upto_region 12 with fail
      have H19 : Calls Try.prog 19 #[.pointer (some ⟨g, 0, none⟩), .int .i64 1] wr fun e w' => e = .returned (.tuple #[.agg #[.int .i64 (cs 1 : Int), .int .i64 (ls 1 : Int)], .bool false]) ∧ Below wr.heap.size wr w' := H19
      go_wp2_with (first
        | (go_at_call 19; (with_reducible refine H19.mono ?_); rintro e w3 ⟨rfl, b3⟩; have h3 := (b3.block qh (Array.getElem?_eq_some_iff.1 HR.out.1).1).trans HR.out.1; have c0 : w3.cell? ⟨qh, 2, none⟩ = some (.int .i64 0) := (by rw [cell_of_row _ _ _ _ _ _ h3]; rfl); have c1 : w3.cell? ⟨qh, 3, none⟩ = some (.int .i64 0) := (by rw [cell_of_row _ _ _ _ _ _ h3]; rfl); have f0 : w3.frozen? ⟨qh, 2, none⟩ = false := frozen_of_row _ _ _ _ _ h3; have f1 : w3.frozen? ⟨qh, 3, none⟩ = false := frozen_of_row _ _ _ _ _ h3; have H3 := Lib.hid (And.intro h3 b3); clear h3 b3 H19))
      go_ret3
      exact ⟨rfl, ((below_then HR.out.2 H3.out.2).setCell (p := ⟨qh, 2, none⟩) (by show w.heap.size ≤ qh; rw [HQ.out]; exact Nat.le_refl _) _).setCell (p := ⟨qh, 3, none⟩) (by show w.heap.size ≤ qh; rw [HQ.out]; exact Nat.le_refl _) _⟩
theorem open9s (hD : Dk A w g b n d) (hd0 : d.down = false) (hn : n < 4) :
    Calls Try.prog 9 #[.pointer (some ⟨g, 0, none⟩)] w fun e w' => e = .returned (.tuple #[.pointer none, .slice none 0 0, .int .i64 212]) ∧ Below w.heap.size w w' := by
  have H17 := down17 hD
  have H18 := many24 hD
  rw [hd0] at H17
  have dn : decide ((n : Int) < 4) = true := by simp; omega
  have dn2 : decide (n < 4) = true := by simp; omega
  clear hD hd0 hn
  go_enter Try.func9, Try.ntmps9
  go_wp2_with (first
    | (go_at_call 17; (with_reducible refine H17.mono ?_); rintro e w1 ⟨rfl, hw⟩; obtain rfl : w = w1 := hw.symm)
    | (go_at_call 18; (with_reducible refine H18.mono ?_); rintro e w1 ⟨rfl, hw⟩; obtain rfl : w = w1 := hw.symm))
  go_ret3
  exact ⟨rfl, Below.refl _ _⟩
end
end Go.Proofs.Ytjabkfccfecmgaa
