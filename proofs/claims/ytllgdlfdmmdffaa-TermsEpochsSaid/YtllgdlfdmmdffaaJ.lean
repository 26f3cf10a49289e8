/- Whether arguments fit, as the document asks. -/
import Derived.Test.YtllgdlfdmmdffaaI
namespace Go.Proofs.Ytllgdlfdmmdffaa
open Go.ChangeShapes Go.WideShapes Go.ChangeAt Go.RowKit
set_option linter.unusedSimpArgs false
set_option linter.unusedVariables false
theorem inB_cases {many x : Int} : (x < 0 ∧ inB many x = false) ∨ (0 ≤ x ∧ many ≤ x ∧ inB many x = false) ∨ (0 ≤ x ∧ x < many ∧ inB many x = true) := by
  by_cases h : 0 ≤ x
  · by_cases g : x < many
    · exact .inr (.inr ⟨h, g, by simp [inB, h, g]⟩)
    · exact .inr (.inl ⟨h, by omega, by simp [inB, h, g]⟩)
  · exact .inl ⟨by omega, by simp [inB, h]⟩
set_option maxRecDepth 20000 in
set_option maxHeartbeats 8000000 in
theorem fits19 (many : Int) (ao lo : Option Addr) (n m c lc k : Nat) (Ks : List Int) (Rs : List Rl) (w : World) (hn : n = Ks.length) (hm : m = Rs.length) (n47 : n ≤ 9223372036854775807) (m47 : m ≤ 9223372036854775807)
    (hK : Ilz k w ao Ks) (hR : Rlz k w lo Rs) (hk : k ≤ w.heap.size) :
    Calls Try.prog 19 #[.int .i64 many, .slice ao n c, .slice lo m lc] w fun e w' => e = .returned (.bool (fitsB many Ks Rs)) ∧ Below w.heap.size w w' := by
  have HN := Lib.hid hn
  have HM := Lib.hid hm
  clear hn hm
  by_cases h0 : 0 ≤ many
  · have d0 : decide (many < 0) = false := by simp; omega
    have d0' : decide (0 ≤ many) = true := by simp; omega
    by_cases hM : many ≤ 4096
    · have d1 : decide (4096 < many) = false := by simp; omega
      have e1 : ¬ (4096 : Int) < many := by omega
      by_cases hL : m ≤ 4096
      · have d2 : decide (4096 < (m : Int)) = false := by simp; omega
        have e2 : ¬ (4096 : Int) < (m : Int) := by omega
        have HT := Lib.hid (show fitsB many Ks Rs = (Ks.all (inB many) && Rs.all (fitR many)) by
          have h3 : Rs.length ≤ 4096 := by rw [← HM.out]; exact hL
          simp [fitsB, d0', hM, h3])
        obtain ⟨res, hres⟩ : ∃ res, fitsB many Ks Rs = res := ⟨_, rfl⟩
        have HRES := Lib.hid hres
        rw [hres]
        clear hres hM h0
        go_enter Try.func19, Try.ntmps19
        go_wp2_with fail
        go_loopg [7] n (fun gk v7 wr => ∃ i : Nat, v7 = .int .i64 i ∧ i + gk = n ∧ wr = w ∧ Hid (∀ j x, j < i → Ks[j]? = some x → inB many x = true))
        case atStart => exact ⟨0, rfl, by omega, rfl, Lib.hid (fun j x hj => absurd hj (Nat.not_lt_zero _))⟩
        case round =>
          obtain ⟨i, rfl, hig, rfl, hall⟩ := hrel
          have HIG := Lib.hid hig
          by_cases h1 : i < n
          · have z1 : decide ((i : Int) < (n : Int)) = true := by simp; omega
            obtain ⟨a, rfl⟩ := hK.some_ (by have := HN.out; omega)
            obtain ⟨x, hx⟩ : ∃ x, Ks[i]? = some x := ⟨Ks[i]'(by rw [← HN.out]; exact h1), List.getElem?_eq_getElem _⟩
            have hcx := (hK.cells a rfl i x hx).2
            have HX := Lib.hid hx
            have q0 : (0 : Int) ≤ (i : Int) := by omega
            have q1 : (i : Int) < (n : Int) := by omega
            clear hig hx
            rcases inB_cases (many := many) (x := x) with ⟨x1, x2⟩ | ⟨x1, x2, x3⟩ | ⟨x1, x2, x3⟩
            · have y1 : decide (x < 0) = true := by simp; omega
              have HB := Lib.hid x2
              clear x2
              go_wp2_with fail
              go_ret
              exact ⟨by rw [← HRES.out, fits_no_k (List.mem_of_getElem? HX.out) HB.out]; rfl, Below.refl _ _⟩
            · have y1 : decide (x < 0) = false := by simp; omega
              have y2 : decide (many ≤ x) = true := by simp; omega
              have HB := Lib.hid x3
              clear x3
              go_wp2_with fail
              go_ret
              exact ⟨by rw [← HRES.out, fits_no_k (List.mem_of_getElem? HX.out) HB.out]; rfl, Below.refl _ _⟩
            · have y1 : decide (x < 0) = false := by simp; omega
              have y2 : decide (many ≤ x) = false := by simp; omega
              have y3 : ¬ many ≤ x := by omega
              have HB := Lib.hid x3
              clear x3
              go_wp2_with fail
              go_roundg (gk - 1)
              case measure => have := HIG.out; omega
              case rel =>
                refine ⟨i + 1, by simp, by have := HIG.out; omega, rfl, Lib.hid fun j y hj hy => ?_⟩
                by_cases e : j = i
                · subst e
                  rw [HX.out] at hy
                  injection hy with hy
                  rw [← hy]; exact HB.out
                · exact hall.out j y (by omega) hy
          · have z1 : decide ((i : Int) < (n : Int)) = false := by simp; omega
            obtain rfl : i = n := by omega
            have HKA := Lib.hid (show Ks.all (inB many) = true by
              rw [List.all_eq_true]
              intro x hx
              obtain ⟨j, hj, rfl⟩ := List.getElem_of_mem hx
              exact hall.out j _ (by rw [HN.out]; exact hj) (List.getElem?_eq_getElem _))
            clear hall hig HIG
            go_wp2_with fail
            go_loopg [6, 8, 9] m (fun gk v6 v8 v9 wx => ∃ i : Nat, v8 = .int .i64 i ∧ i + gk = m ∧ wx = wr ∧ Hid (∀ j x, j < i → Rs[j]? = some x → fitR many x = true))
            case atStart => exact ⟨0, rfl, by omega, rfl, Lib.hid (fun j x hj => absurd hj (Nat.not_lt_zero _))⟩
            case round =>
              obtain ⟨i2, rfl, hig, rfl, hall⟩ := hrel
              have HIG := Lib.hid hig
              by_cases h2 : i2 < m
              · have z2 : decide ((i2 : Int) < (m : Int)) = true := by simp; omega
                obtain ⟨a, rfl⟩ := hR.some_ (by have := HM.out; omega)
                obtain ⟨r, hx⟩ : ∃ r, Rs[i2]? = some r := ⟨Rs[i2]'(by rw [← HM.out]; exact h2), List.getElem?_eq_getElem _⟩
                obtain ⟨-, ⟨ro, rc, hrc, hc0, hIn⟩, hc1⟩ := hR.cells a rfl i2 r hx
                have hnl := hR.lens r (List.mem_of_getElem? hx)
                obtain ⟨pb, po, hpa, hc2, hc3⟩ := row2 hc0 hc1
                obtain ⟨x, hgv⟩ : ∃ x, r.gives = x := ⟨_, rfl⟩
                obtain ⟨nn, hnn⟩ : ∃ nn, r.needs.length = nn := ⟨_, rfl⟩
                have HFR := Lib.hid (show fitR many r = (inB many x && r.needs.all (inB many)) by rw [← hgv]; rfl)
                rw [hgv] at hc3
                rw [hnn] at hc2 hnl
                have HX := Lib.hid hx
                have HNN := Lib.hid hnn
                have q0 : (0 : Int) ≤ (i2 : Int) := by omega
                have q1 : (i2 : Int) < (m : Int) := by omega
                clear hig hx hc0 hc1 hgv hnn hrc
                rcases inB_cases (many := many) (x := x) with ⟨x1, x2⟩ | ⟨x1, x2, x3⟩ | ⟨x1, x2, x3⟩
                · have y1 : decide (x < 0) = true := by simp; omega
                  have HB := Lib.hid x2
                  clear x2
                  go_wp2_with fail
                  go_ret
                  exact ⟨by rw [← HRES.out, fits_no_r (List.mem_of_getElem? HX.out) (by rw [HFR.out, HB.out]; rfl)]; rfl, Below.refl _ _⟩
                · have y1 : decide (x < 0) = false := by simp; omega
                  have y2 : decide (many ≤ x) = true := by simp; omega
                  have HB := Lib.hid x3
                  clear x3
                  go_wp2_with fail
                  go_ret
                  exact ⟨by rw [← HRES.out, fits_no_r (List.mem_of_getElem? HX.out) (by rw [HFR.out, HB.out]; rfl)]; rfl, Below.refl _ _⟩
                · have y1 : decide (x < 0) = false := by simp; omega
                  have y2 : decide (many ≤ x) = false := by simp; omega
                  have y3 : ¬ many ≤ x := by omega
                  have HB := Lib.hid x3
                  clear x3
                  go_wp2_with fail
                  obtain ⟨gk0, hgk0⟩ : ∃ gk0, gk0 = gk := ⟨_, rfl⟩
                  rw [← hgk0] at HIG
                  have HGK := Lib.hid hgk0
                  clear hgk0
                  go_loopg [6, 9] nn (fun gk v6 v9 wx => ∃ i : Nat, v9 = .int .i64 i ∧ i + gk = nn ∧ wx = wr ∧ Hid (∀ j x, j < i → r.needs[j]? = some x → inB many x = true))
                  case atStart => exact ⟨0, rfl, by omega, rfl, Lib.hid (fun j x hj => absurd hj (Nat.not_lt_zero _))⟩
                  case round =>
                    obtain ⟨i3, rfl, hig3, rfl, hall3⟩ := hrel
                    have HIG3 := Lib.hid hig3
                    by_cases h3 : i3 < nn
                    · have z3 : decide ((i3 : Int) < (nn : Int)) = true := by simp; omega
                      obtain ⟨ra, rfl⟩ := hIn.some_ (by have := HNN.out; omega)
                      obtain ⟨z, hx⟩ : ∃ z, r.needs[i3]? = some z := ⟨r.needs[i3]'(by rw [HNN.out]; exact h3), List.getElem?_eq_getElem _⟩
                      have hcz := (hIn.cells ra rfl i3 z hx).2
                      have HZ := Lib.hid hx
                      have q3 : (0 : Int) ≤ (i3 : Int) := by omega
                      have q4 : (i3 : Int) < (nn : Int) := by omega
                      clear hig3 hx
                      rcases inB_cases (many := many) (x := z) with ⟨w1, w2⟩ | ⟨w1, w2, w3⟩ | ⟨w1, w2, w3⟩
                      · have y4 : decide (z < 0) = true := by simp; omega
                        have HW := Lib.hid w2
                        clear w2
                        go_wp2_with fail
                        go_ret
                        exact ⟨by rw [← HRES.out, fits_no_r (List.mem_of_getElem? HX.out) (by rw [HFR.out, List.all_eq_false.2 ⟨z, List.mem_of_getElem? HZ.out, by rw [HW.out]; simp⟩, Bool.and_false])]; rfl, Below.refl _ _⟩
                      · have y4 : decide (z < 0) = false := by simp; omega
                        have y5 : decide (many ≤ z) = true := by simp; omega
                        have HW := Lib.hid w3
                        clear w3
                        go_wp2_with fail
                        go_ret
                        exact ⟨by rw [← HRES.out, fits_no_r (List.mem_of_getElem? HX.out) (by rw [HFR.out, List.all_eq_false.2 ⟨z, List.mem_of_getElem? HZ.out, by rw [HW.out]; simp⟩, Bool.and_false])]; rfl, Below.refl _ _⟩
                      · have y4 : decide (z < 0) = false := by simp; omega
                        have y5 : decide (many ≤ z) = false := by simp; omega
                        have y6 : ¬ many ≤ z := by omega
                        have HW := Lib.hid w3
                        clear w3
                        go_wp2_with fail
                        go_roundg (gk - 1)
                        case measure => have := HIG3.out; omega
                        case rel =>
                          refine ⟨i3 + 1, by simp, by have := HIG3.out; omega, rfl, Lib.hid fun j y hj hy => ?_⟩
                          by_cases e : j = i3
                          · subst e
                            rw [HZ.out] at hy
                            injection hy with hy
                            rw [← hy]; exact HW.out
                          · exact hall3.out j y (by omega) hy
                    · have z3 : decide ((i3 : Int) < (nn : Int)) = false := by simp; omega
                      obtain rfl : i3 = nn := by omega
                      have HNA := Lib.hid (show r.needs.all (inB many) = true by
                        rw [List.all_eq_true]
                        intro x hx
                        obtain ⟨j, hj, rfl⟩ := List.getElem_of_mem hx
                        exact hall3.out j _ (by rw [← HNN.out]; exact hj) (List.getElem?_eq_getElem _))
                      clear hig3
                      go_wp2_with fail
                      go_roundg (gk0 - 1)
                      case measure => have := HGK.out; have := HIG.out; omega
                      case rel =>
                        refine ⟨i2 + 1, by simp, by have := HIG.out; omega, rfl, Lib.hid fun j y hj hy => ?_⟩
                        by_cases e : j = i2
                        · subst e
                          rw [HX.out] at hy
                          injection hy with hy
                          rw [← hy, HFR.out, HB.out, HNA.out]; rfl
                        · exact hall.out j y (by omega) hy
              · have z2 : decide ((i2 : Int) < (m : Int)) = false := by simp; omega
                obtain rfl : i2 = m := by omega
                have HRA := Lib.hid (show Rs.all (fitR many) = true by
                  rw [List.all_eq_true]
                  intro x hx
                  obtain ⟨j, hj, rfl⟩ := List.getElem_of_mem hx
                  exact hall.out j _ (by rw [HM.out]; exact hj) (List.getElem?_eq_getElem _))
                clear hall hig HIG
                go_wp2_with fail
                go_ret
                exact ⟨by rw [← HRES.out, HT.out, HKA.out, HRA.out]; rfl, Below.refl _ _⟩
      · have d2 : decide (4096 < (m : Int)) = true := by simp; omega
        have e2 : (4096 : Int) < (m : Int) := by omega
        have HT := Lib.hid (show fitsB many Ks Rs = false by
          have h3 : ¬ Rs.length ≤ 4096 := by rw [← HM.out]; exact hL
          simp [fitsB, h3])
        go_enter Try.func19, Try.ntmps19
        go_wp2_with fail
        go_ret
        exact ⟨by rw [HT.out]; rfl, Below.refl _ _⟩
    · have d1 : decide (4096 < many) = true := by simp; omega
      have e1 : (4096 : Int) < many := by omega
      have HT := Lib.hid (show fitsB many Ks Rs = false by simp [fitsB, hM])
      go_enter Try.func19, Try.ntmps19
      go_wp2_with fail
      go_ret
      exact ⟨by rw [HT.out]; rfl, Below.refl _ _⟩
  · have d0 : decide (many < 0) = true := by simp; omega
    have HT := Lib.hid (show fitsB many Ks Rs = false by simp [fitsB, h0])
    go_enter Try.func19, Try.ntmps19
    go_wp2_with fail
    go_ret
    exact ⟨by rw [HT.out]; rfl, Below.refl _ _⟩
end Go.Proofs.Ytllgdlfdmmdffaa
