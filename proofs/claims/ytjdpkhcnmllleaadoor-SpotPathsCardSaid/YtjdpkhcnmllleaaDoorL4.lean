/- The law on paths, walked. -/
import Derived.Test.YtjdpkhcnmllleaaDoorL8
import Derived.Deep.QuietTactic
import Derived.BigQuiet
import Derived.StillTailTactics
import Derived.Deep.LoopGhost
namespace Go.Proofs.YtjdpkhcnmllleaaDoor
open Go.ChangeShapes Go.WideShapes Go.ChangeAt Go.RowKit
set_option linter.unusedSimpArgs false
set_option linter.unusedVariables false

/-- A row of spots in memory. -/
def Rw (w : World) (g : Nat) (xs : List (Nat × Nat)) : Prop := g < w.heap.size ∧ ∀ k x, xs[k]? = some x → w.cell? ⟨g, k, none⟩ = some (.complex .f64 x.1 x.2)
theorem Rw.below {w w' : World} {g B : Nat} {xs : List (Nat × Nat)} (h : Rw w g xs) (k : Below B w w') (hg : g < B) : Rw w' g xs :=
  ⟨by have := k.size; have := h.1; omega, fun j x hx => (k.cell (p := ⟨g, j, none⟩) hg).trans (h.2 j x hx)⟩
theorem Rw.drewN {w : World} {g n : Nat} {xs : List (Nat × Nat)} (h : Rw w g xs) : Rw (w.drewN n) g xs := ⟨h.1, h.2⟩
theorem below_drews {B n : Nat} {a w : World} (h : Below B a w) : Below B a (w.drewN n) := ⟨h.os, h.tape, h.output, h.size, h.block⟩
theorem Rw.drew {w : World} {g : Nat} {xs : List (Nat × Nat)} (h : Rw w g xs) : Rw w.drew g xs := ⟨h.1, h.2⟩
def PathPos (i deep : Nat) (w : World) (e : Ending) (w' : World) : Prop :=
  ∃ g c xs, e = .returned (.slice (some ⟨g, 0, none⟩) deep c) ∧ List.length xs = deep ∧ Above i xs ∧ Rw w' g xs ∧ Below w.heap.size w w'
theorem path_pos (i deep : Nat) (hd : deep ≤ 16) (hi : i < 2 ^ deep) (h0 : 0 < deep) (w : World) : Calls Tryd.prog 12 #[.int .i64 i, .int .i64 deep] w (PathPos i deep w) :=
  (path12 i deep hd hi w).mono fun e w' ⟨v, xs, he, hl, ha, ho, hb⟩ => by
    rcases ho.2 with ⟨_, h⟩ | ⟨g, cap, cur, rfl, _, hg, _⟩
    · omega
    · refine ⟨g, cap, xs, he, hl, ha, ⟨(Array.getElem?_eq_some_iff.1 hg).1, fun k x hx => ?_⟩, hb⟩
      have := ho.cells (g := g) rfl k (cx x) (by rw [List.getElem?_map, hx]; rfl)
      rw [Addr.add_lit] at this
      simpa [cx] using this
theorem path_zero (w : World) : Calls Tryd.prog 12 #[.int .i64 0, .int .i64 0] w fun e w' => ∃ a c, e = .returned (.slice a 0 c) ∧ Below w.heap.size w w' :=
  (path12 0 0 (by omega) (by omega) w).mono fun e w' ⟨v, xs, he, hl, ha, ho, hb⟩ => by
    rcases ho.2 with ⟨rfl, h⟩ | ⟨g, cap, cur, rfl, _⟩
    · exact ⟨none, 0, he, hb⟩
    · exact ⟨_, _, he, hb⟩
theorem bl_iff (x k : Nat) : x / 2 ^ k = 0 ↔ bl x ≤ k := by
  constructor
  · intro h
    unfold bl
    by_cases h0 : x = 0
    · rw [if_pos h0]; omega
    · rw [if_neg h0]
      have h1 : x < 2 ^ k := by
        rcases Nat.lt_or_ge x (2 ^ k) with h2 | h2
        · exact h2
        · have := Nat.div_pos h2 (Nat.two_pow_pos k); omega
      have := (Nat.log2_lt h0).2 h1
      omega
  · intro h
    have h1 := bl_lt x
    refine Nat.div_eq_of_lt ?_
    have h2 : x < 2 ^ bl x := by
      rcases Nat.lt_or_ge x (2 ^ bl x) with h2 | h2
      · exact h2
      · have := Nat.div_pos h2 (Nat.two_pow_pos (bl x)); omega
    exact Nat.lt_of_lt_of_le h2 (Nat.pow_le_pow_right (by omega) h)
theorem same_iff (x y k : Nat) : x / 2 ^ k = y / 2 ^ k ↔ bl (x ^^^ y) ≤ k := by
  rw [← bl_iff, xor_div]
  constructor
  · intro h; rw [h, Nat.xor_self]
  · exact xor_zero_eq
set_option maxHeartbeats 4000000 in
theorem paths4 (x y z : Nat) (hx : x < 65536) (hy : y < 65536) (hz : z < 256) (w : World) (hT : Tab w) : Calls Tryd.prog 4 #[.int .u16 x, .int .u16 y, .int .u8 z] w fun e w' => e = .returned (.bool true) ∧ Below w.heap.size w w' := by
  obtain ⟨d, hd⟩ : ∃ d, d = z % 17 := ⟨_, rfl⟩
  have e2 : (z : Int) % 17 = (d : Int) := by omega
  have hd16 : d ≤ 16 := by omega
  clear hd
  obtain ⟨M, p, m1, m2, m3, m4, hp, -⟩ := shl_mod x d hd16
  obtain ⟨M', q, n1, n2, n3, n4, hq, -⟩ := shl_mod y d hd16
  obtain rfl : M' = M := by have := n3.symm.trans m3; omega
  have hp2 : p < 65536 := Nat.lt_of_lt_of_le hp (pow16 d hd16).2
  have hq2 : q < 65536 := Nat.lt_of_lt_of_le hq (pow16 d hd16).2
  have hsp := meet_sp p q hp2 hq2
  have HM : ∀ w, Calls Tryd.prog 13 #[.int .i64 p, .int .i64 q] w fun e w' => e = .returned (.complex .f64 (fl (bl (p ^^^ q))) (fl (p / 2 ^ bl (p ^^^ q)))) ∧ w' = w := fun w => (meet_yes p q hp2 hq2 w).mono fun e w' ⟨h1, h2⟩ => ⟨h1, h2.symm⟩
  have HH := Lib.hid (head9 w hT)
  obtain ⟨L, hL⟩ : ∃ L, L = bl (p ^^^ q) := ⟨_, rfl⟩
  obtain ⟨B, hB⟩ : ∃ B, B = fl (p / 2 ^ bl (p ^^^ q)) := ⟨_, rfl⟩
  rw [← hB, ← hL] at HM
  have hcv := conv28 (is_fl (bl (p ^^^ q)) (by have := hsp.l16; omega)) (by have := hsp.l16; omega)
  have hL16 : L ≤ 16 := by rw [hL]; exact hsp.l16
  rw [← hL] at hcv
  have HL := Lib.hid hL
  have HM := Lib.hid HM
  have bx : x ≤ 65535 := by omega
  have by_ : y ≤ 65535 := by omega
  have bz : z ≤ 255 := by omega
  clear hT hB hL hsp hx hy hz n1 n2 n3 hp2 hq2
  by_cases hd0 : d = 0
  · subst hd0
    obtain rfl : p = 0 := by simpa using hp
    obtain rfl : q = 0 := by simpa using hq
    have HP := Lib.hid (path_zero)
    have HP2 := Lib.hid (path_zero)
    have HM0 : Hid (∀ w, Calls Tryd.prog 13 #[.int .i64 0, .int .i64 0] w fun e w' => e = .returned (.complex .f64 (fl L) B) ∧ w' = w) := Lib.hid HM.out
    obtain rfl : M' = 1 := by have : wrap64 (2 ^ 0) = 1 := by rw [Int.pow_zero]; unfold wrap64; omega
                              omega
    have z1 : (x : Int) % 1 = 0 := by omega
    have z2 : (y : Int) % 1 = 0 := by omega
    have z3 : (z : Int) % 17 = 0 := by omega
    clear hp hq HM m3 m4 n4 e2 m1 m2
    go_enter Tryd.func4, Tryd.ntmps4
    go_wp2_with (first | (go_at_call 9; (with_reducible refine (HH.out).mono ?_); rintro e w1 ⟨rfl, hb1⟩) | (go_at_call 12; (with_reducible refine (HP.out _).mono ?_); rintro e w2 ⟨a, c, rfl, hb2⟩; clear HP) | (go_at_call 12; (with_reducible refine (HP2.out _).mono ?_); rintro e w3 ⟨a', c', rfl, hb3⟩; clear HP2))
    go_quiet ((go_at_call 13; exact Calls.quiet_of_same (HM0.out _)))
    have kb : Below w.heap.size w (w3.drewN nq) := below_drews ((hb1.trans (hb2.mono hb1.size)).trans (hb3.mono (by have := hb1.size; have := hb2.size; omega)))
    clear hb1 hb2 hb3 HH HM0 HM z1 z2 z3
    generalize w3.drewN nq = w4 at *
    go_wp2_with fail
    go_loopw [12] (fun v wr => v = .int .i64 0 ∧ Below w.heap.size w wr) (fun v wr => 0)
    case atStart => exact ⟨rfl, kb⟩
    case round =>
      clear kb
      obtain ⟨rfl, kb⟩ := hrel
      go_wp2_with fail
      go_ret
      exact ⟨rfl, kb⟩
  · have HP := Lib.hid (path_pos p d hd16 hp (by omega))
    have HQ := Lib.hid (path_pos q d hd16 hq (by omega))
    clear hp hq
    go_enter Tryd.func4, Tryd.ntmps4
    go_wp2_with (first | (go_at_call 9; (with_reducible refine (HH.out).mono ?_); rintro e w1 ⟨rfl, hb1⟩) | (go_at_call 12; (with_reducible refine (HP.out _).mono ?_); rintro e w2 ⟨g, c, xs, rfl, hl1, ha1, hr1, hb2⟩; have HL1 := Lib.hid hl1; have HA1 := Lib.hid ha1; clear hl1 ha1) | (go_at_call 12; (with_reducible refine (HQ.out _).mono ?_); rintro e w3 ⟨g', c', ys, rfl, hl2, ha2, hr2, hb3⟩; have HL2 := Lib.hid hl2; have HA2 := Lib.hid ha2; clear hl2 ha2))
    go_quiet ((go_at_call 13; exact Calls.quiet_of_same (HM.out _)))
    have r1 : Rw (w3.drewN nq) g xs := (hr1.below hb3 hr1.1).drewN
    have r2 : Rw (w3.drewN nq) g' ys := hr2.drewN
    have kb : Below w.heap.size w (w3.drewN nq) := below_drews ((hb1.trans (hb2.mono hb1.size)).trans (hb3.mono (by have := hb1.size; have := hb2.size; omega)))
    clear hr1 hr2 hb1 hb2 hb3 HH HP HQ HM m1 m2 m3 m4 n4 e2
    generalize w3.drewN nq = w4 at *
    go_wp2_with fail
    go_loopw [12] (fun v wr => ∃ k : Nat, k ≤ d ∧ v = .int .i64 k ∧ Rw wr g xs ∧ Rw wr g' ys ∧ Below w.heap.size w wr) (fun v wr => d - (intOf v).toNat)
    case atStart => exact ⟨0, by omega, rfl, r1, r2, kb⟩
    case round =>
      clear r1 r2 kb
      obtain ⟨k, hk, rfl, r1, r2, kb⟩ := hrel
      by_cases hlt : k < d
      · obtain ⟨⟨a1, a2⟩, hxa⟩ : ∃ a, xs[k]? = some a := ⟨_, List.getElem?_eq_getElem (by rw [HL1.out]; exact hlt)⟩
        obtain ⟨⟨b1, b2⟩, hyb⟩ : ∃ a, ys[k]? = some a := ⟨_, List.getElem?_eq_getElem (by rw [HL2.out]; exact hlt)⟩
        have sa := HA1.out k _ hxa
        have sb := HA2.out k _ hyb
        have c1 := r1.2 k _ hxa
        have c2 := r2.2 k _ hyb
        have hsi := same_iff p q (k + 1)
        rw [← HL.out] at hsi
        have q1 := eq_is sa.re sb.re
        have e3 : floatOfInt .f64 ((k : Int) + 1) = fl (k + 1) := floatOfInt_fl (k + 1)
        have q3 : (FloatKind.f64.format.order a1 (fl (k + 1)) == some .eq) = true := eq_is sa.re (is_fl (k + 1) (by omega))
        have q3' : (FloatKind.f64.format.order a1 (fl (k + 1)) != some .eq) = false := by rw [bne, q3]; rfl
        have w0 : IntKind.i64.wrap ((k : Int) + 1) = (k : Int) + 1 := IntWalk.i64_in _ (by omega)
        simp only at c1 c2 q1
        by_cases he : p / 2 ^ (k + 1) = q / 2 ^ (k + 1)
        · have q2 : (FloatKind.f64.format.order a2 b2 == some .eq) = true := eq_is sa.im (by rw [he]; exact sb.im)
          have t0 := hsi.1 he
          have t1 : decide ((L : Int) ≤ (k : Int) + 1) = true := by simp; omega
          have t2 : decide (L ≤ k + 1) = true := by simp; omega
          clear hsi sa sb he hxa hyb
          go_wp2_with fail
          go_still (by kernel_rfl)
          change Exit.then _ _ _ _ wr.drew
          have r1 := r1.drew; have r2 := r2.drew; have kb := kb.drew
          clear c1 c2 w0
          generalize wr.drew = w5 at *
          go_wp2_with fail
          go_roundw
          case rel => exact ⟨k + 1, by omega, by go_num, r1, r2, kb⟩
          case measure => simp [intOf]; omega
        · have q2 : (FloatKind.f64.format.order a2 b2 == some .eq) = false := ne_is sa.im sb.im he
          have t0 : ¬ L ≤ k + 1 := fun h => he (hsi.2 h)
          have t1 : decide ((L : Int) ≤ (k : Int) + 1) = false := by simp; omega
          have t2 : decide (L ≤ k + 1) = false := by simp; omega
          clear hsi sa sb he hxa hyb
          go_wp2_with fail
          go_still (by kernel_rfl)
          change Exit.then _ _ _ _ wr.drew
          have r1 := r1.drew; have r2 := r2.drew; have kb := kb.drew
          clear c1 c2 w0
          generalize wr.drew = w5 at *
          go_wp2_with fail
          go_roundw
          case rel => exact ⟨k + 1, by omega, by go_num, r1, r2, kb⟩
          case measure => simp [intOf]; omega
      · have e1 : k = d := by omega
        subst e1
        have hd2 : decide ((k : Int) < (k : Int)) = false := by simp
        go_wp2_with fail
        go_ret
        exact ⟨rfl, kb⟩
end Go.Proofs.YtjdpkhcnmllleaaDoor
