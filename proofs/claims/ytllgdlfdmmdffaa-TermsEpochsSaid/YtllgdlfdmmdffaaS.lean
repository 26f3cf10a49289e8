/- What stands for a spot of a party of one: nothing but its leaf. -/
import Derived.Test.YtllgdlfdmmdffaaR
namespace Go.Proofs.Ytllgdlfdmmdffaa
open Go.ChangeShapes Go.WideShapes Go.ChangeAt Go.RowKit Go.MapKept Go.ChangeMaps
set_option linter.unusedSimpArgs false
set_option linter.unusedVariables false
theorem idx_ne (l p : Nat) (hp : 1 ≤ p ∨ 1 ≤ l) : ((((2 * p + 1) * 2 ^ l - 1 : Nat)) : Int) ≠ 0 := by
  have h1 : 1 ≤ 2 ^ l := Nat.one_le_two_pow
  rcases hp with hp | hp
  · have : 3 * 1 ≤ (2 * p + 1) * 2 ^ l := Nat.mul_le_mul (by omega) h1
    omega
  · have h2 : 2 ≤ 2 ^ l := Nat.le_trans (by omega : 2 ≤ 2 ^ 1) (Nat.pow_le_pow_right (by omega) hp)
    have : 1 * 2 ≤ (2 * p + 1) * 2 ^ l := Nat.mul_le_mul (by omega) h2
    omega
theorem one_ne {z : Int} {v : Value} {n : Nat} (hz : z ≠ 0) : ∀ x ∈ (#[⟨.int .i64 0, v, n⟩] : Array MapEntry).toList, x.key ≠ .int .i64 z := fun x hx e => by
  simp at hx
  subst hx
  injection e with _ e
  exact hz e.symm
set_option maxRecDepth 20000 in
set_option maxHeartbeats 8000000 in
theorem resolve62 (pp t : Nat) (k1 : Int) : ∀ (l : Nat) (a b p : Nat), Sp a b l p → 1 ≤ p → ∀ (w : World), pp < w.heap.size → w.cell? ⟨pp, 12, none⟩ = some (.map (some t)) → w.heap[t]? = some (eT k1) →
    Calls Try.prog 62 #[.pointer (some ⟨pp, 0, none⟩), .complex .f64 a b] w fun e w' => e = .returned (.slice none 0 0) ∧ Below w.heap.size w w' := by
  intro l
  induction l with
  | zero =>
    intro a b p hs hp w hpp hc ht
    have HI := Lib.hid (index_yes hs)
    obtain ⟨i, hi⟩ : ∃ i : Int, i = (((2 * p + 1) * 2 ^ 0 - 1 : Nat) : Int) := ⟨_, rfl⟩
    rw [← hi] at HI
    have hne : i ≠ 0 := by rw [hi]; exact idx_ne 0 p (.inl hp)
    have hlk := run_look_miss (T := 51) (z := i) Try.underlying51 ht (iks_one 0 _ 0) (one_ne hne) (zero65 w) true
    have he := eq00 hs.re
    have hz := zero65
    clear hi hs
    go_enter Try.func62, Try.ntmps62
    go_wp2_with (go_at_call 46; (with_reducible refine (HI.out _).mono ?_); rintro e w' ⟨rfl, rfl⟩)
    go_ret
    exact ⟨rfl, (Below.refl _ w).alloc (Nat.le_refl _) _⟩
  | succ l ih =>
    intro a b p hs hp w hpp hc ht
    have HI := Lib.hid (index_yes hs)
    obtain ⟨i, hi⟩ : ∃ i : Int, i = (((2 * p + 1) * 2 ^ (l + 1) - 1 : Nat) : Int) := ⟨_, rfl⟩
    rw [← hi] at HI
    have hne : i ≠ 0 := by rw [hi]; exact idx_ne (l + 1) p (.inl hp)
    have hlk := run_look_miss (T := 51) (z := i) Try.underlying51 ht (iks_one 0 _ 0) (one_ne hne) (zero65 w) true
    have he := eq00 hs.re
    have he : (FloatKind.f64.format.order a 0 == some .eq) = false := by rw [he]; simp
    have hz := zero65
    obtain ⟨c1, d1, s1, o1⟩ := down_yes false hs (by omega)
    obtain ⟨c2, d2, s2, o2⟩ := down_yes true hs (by omega)
    have O1 := Lib.hid o1
    have O2 := Lib.hid o2
    have IH1 := Lib.hid (fun (x : World) (k : Below w.heap.size w x) => ih c1 d1 _ s1 (by omega) x (Nat.lt_of_lt_of_le hpp k.size) ((k.cell (p := ⟨pp, 12, none⟩) hpp).trans hc) ((k.block t (Array.getElem?_eq_some_iff.1 ht).1).trans ht))
    have IH2 := Lib.hid (fun (x : World) (k : Below w.heap.size w x) => ih c2 d2 _ s2 (by omega) x (Nat.lt_of_lt_of_le hpp k.size) ((k.cell (p := ⟨pp, 12, none⟩) hpp).trans hc) ((k.block t (Array.getElem?_eq_some_iff.1 ht).1).trans ht))
    have K0 := Lib.hid ((Below.refl _ w).alloc (Nat.le_refl _) (.cells #[.int .i64 0, .slice none 0 0] 65))
    clear hi hs ih s1 s2 o1 o2
    go_enter Try.func62, Try.ntmps62
    go_upto_region 13 with (first
      | (go_at_call 46; (with_reducible refine (HI.out _).mono ?_); rintro e w' ⟨rfl, rfl⟩))
    generalize w.alloc (.cells #[.int .i64 0, .slice none 0 0] 65) = w1 at K0 ⊢
    have hA := O1.out w1
    have hB := IH1.out w1 K0.out
    have HBB := Lib.hid (fun x => O2.out x)
    go_wp2_with (first
      | (go_at_call 69; (with_reducible refine hA.mono ?_); rintro e w' ⟨rfl, rfl⟩)
      | (go_at_call 62; (with_reducible refine hB.mono ?_); rintro e w2 ⟨rfl, b2⟩; have K2 := Lib.hid (below_then K0.out b2); clear hA hB)
      | (go_at_call 69; (with_reducible refine (HBB.out _).mono ?_); rintro e w' ⟨rfl, rfl⟩)
      | (go_at_call 62; (with_reducible refine (IH2.out _ K2.out).mono ?_); rintro e w3 ⟨rfl, b3⟩))
    go_ret
    exact ⟨rfl, below_then K2.out b3⟩
theorem row_cx {w1 : World} {base n c : Nat} {ax : Option Addr} {xs : List (Nat × Nat)} (hown : w1.ownsRow base 75 1 (.slice ax n c) n (xs.map cx)) (k : Nat) (x : Nat × Nat) (hx : xs[k]? = some x) (wx : World) (hb : Below w1.heap.size w1 wx) :
    ∃ ad, ax = some ad ∧ wx.cell? (ad.add k) = some (.complex .f64 x.1 x.2) := by
  have hk : k < xs.length := (List.getElem?_eq_some_iff.1 hx).1
  rcases hown.2 with ⟨e, e2⟩ | ⟨q, cap, cur, e, hq, hh, _⟩
  · have := hown.1
    simp at this
    omega
  · injection e with e1 _ _
    refine ⟨_, e1, ?_⟩
    have h1 := hown.cells (g := q) (by rw [e1]; rfl) k (cx x) (by rw [List.getElem?_map, hx]; rfl)
    exact (World.cell?_of_block (by rw [add_block]; exact hb.block q (Array.getElem?_eq_some_iff.1 hh).1)).trans h1
/-- No keys, and the secret as it was. -/
def Pa (w : World) (seed : Int) (e : Ending) (w' : World) : Prop := ∃ mk, e = .returned (.tuple #[.map (some mk), .int .i64 seed]) ∧ w'.heap[mk]? = some (.map #[] 0) ∧ w.heap.size ≤ mk ∧ Below w.heap.size w w'
set_option maxRecDepth 20000 in
set_option maxHeartbeats 8000000 in
theorem path49 (pp t : Nat) (k1 seed : Int) (w : World) (hpp : pp < w.heap.size) (hc : w.cell? ⟨pp, 12, none⟩ = some (.map (some t))) (ht : w.heap[t]? = some (eT k1)) :
    Calls Try.prog 49 #[.pointer (some ⟨pp, 0, none⟩), .int .i64 0, .int .i64 seed] w (Pa w seed) := by
  have hmk := run_mk 66
  have HP := Lib.hid (fun x => path12 0 3 (by omega) (by omega) x)
  have HB := Lib.hid (fun x => beside61 0 3 (by omega) (by omega) x)
  have K0 := Lib.hid ((Below.refl _ w).alloc (Nat.le_refl _) (.map #[] 0))
  have HR := Lib.hid (fun (a b l p : Nat) (s : Sp a b l p) (h1 : 1 ≤ p) (x : World) (k : Below w.heap.size w x) => resolve62 pp t k1 l a b p s h1 x (Nat.lt_of_lt_of_le hpp k.size) ((k.cell (p := ⟨pp, 12, none⟩) hpp).trans hc) ((k.block t (Array.getElem?_eq_some_iff.1 ht).1).trans ht))
  have hm0 : (w.alloc (.map #[] 0)).heap[w.heap.size]? = some (.map #[] 0) := heap_alloc_new _ _
  have HM0 := Lib.hid (And.intro hm0 (show w.heap.size < (w.alloc (.map #[] 0)).heap.size by simp))
  clear hm0
  go_enter Try.func49, Try.ntmps49
  go_upto_region 2 with (fail)
  generalize w.alloc (.map #[] 0) = w1 at K0 HM0 ⊢
  obtain ⟨mk, hmk2⟩ : ∃ mk, mk = w.heap.size := ⟨_, rfl⟩
  rw [← hmk2] at HM0 ⊢
  have HMK := Lib.hid hmk2
  clear hmk2 hmk
  have H1 : Calls Try.prog 61 #[.int .i64 0, .int .i64 3] w1 (Besides 0 3 w1) := HB.out w1
  go_wp2_with (first
    | (go_at_call 61; (with_reducible refine H1.mono ?_); rintro e w2 ⟨v, ys, rfl, hyl, hys, hyo, b2⟩; obtain ⟨ay, cy, rfl⟩ := row_form hyo; have HY := Lib.hid (And.intro hyl (And.intro hys (And.intro hyo b2))); have H2 : Calls Try.prog 45 #[.int .i64 0, .int .i64 3] w2 (Paths 0 3 w2) := HP.out w2; clear hyl hys hyo b2)
    | (go_at_call 45; (with_reducible refine H2.mono ?_); rintro e w3 ⟨v, xs, rfl, hxl, hxs, hxo, b3⟩; obtain ⟨ax, cx1, rfl⟩ := row_form hxo; have HX := Lib.hid (And.intro hxl (And.intro hxs (And.intro hxo b3))); clear hxl hxs hxo b3))
  go_loopg [9, 24] 3 (fun gk v9 v24 wr => ∃ k : Nat, v9 = .int .i64 seed ∧ v24 = .int .i64 k ∧ k + gk = 3 ∧ Below w3.heap.size w3 wr)
  case atStart => exact ⟨0, rfl, rfl, by omega, Below.refl _ _⟩
  case round =>
    obtain ⟨k, rfl, rfl, hkg, hkb⟩ := hrel
    have HG := Lib.hid hkg
    by_cases h1 : k < 3
    · have d1 : decide ((k : Int) < 3) = true := by simp; omega
      obtain ⟨x, hx⟩ : ∃ x, xs[k]? = some x := ⟨xs[k]'(by rw [HX.out.1]; exact h1), List.getElem?_eq_getElem _⟩
      obtain ⟨y, hy⟩ : ∃ y, ys[k]? = some y := ⟨ys[k]'(by rw [HY.out.1]; exact h1), List.getElem?_eq_getElem _⟩
      obtain ⟨adx, rfl, hcx⟩ := row_cx HX.out.2.2.1 k x hx wr hkb
      obtain ⟨ady, rfl, hcy⟩ := row_cx HY.out.2.2.1 k y hy wr (below_then HX.out.2.2.2 hkb)
      have hsp := HY.out.2.1 k y hy
      have e0 : sib (0 / 2 ^ k) = 1 := by rw [Nat.zero_div]; rfl
      rw [e0] at hsp
      have BW := Lib.hid (below_then K0.out (below_then HY.out.2.2.2 (below_then HX.out.2.2.2 hkb)))
      have HRES := HR.out y.1 y.2 k 1 hsp (by omega) wr BW.out
      obtain ⟨y1, y2⟩ := y
      obtain ⟨x1, x2⟩ := x
      have q0 : (0 : Int) ≤ (k : Int) := by omega
      have q1 : (k : Int) < 3 := by omega
      clear hkg hsp hx hy e0
      go_wp2_with (go_at_call 62; (with_reducible refine HRES.mono ?_); rintro e w4 ⟨rfl, b4⟩)
      go_roundg (gk - 1)
      case measure => have := HG.out; omega
      case rel => exact ⟨k + 1, rfl, by simp, by have := HG.out; omega, below_then hkb b4⟩
    · have d1 : decide ((k : Int) < 3) = false := by simp; omega
      obtain rfl : k = 3 := by omega
      clear hkg
      have BW := Lib.hid (below_then HY.out.2.2.2 (below_then HX.out.2.2.2 hkb))
      go_wp2_with fail
      go_ret2
      exact ⟨mk, rfl, (BW.out.block mk HM0.out.2).trans HM0.out.1, by rw [HMK.out]; exact Nat.le_refl _, below_then K0.out BW.out⟩
end Go.Proofs.Ytllgdlfdmmdffaa
