/- What is found, as the document finds it. -/
import Derived.Test.YtllgdlfdmmdffaaJ
namespace Go.Proofs.Ytllgdlfdmmdffaa
open Go.ChangeShapes Go.WideShapes Go.ChangeAt Go.RowKit
set_option linter.unusedSimpArgs false
set_option linter.unusedVariables false
theorem rndN_bd {n : Nat} {Rs : List Rl} {st : St} (hl : st.1.length = n) (hg : ∀ r ∈ Rs, ∃ k : Nat, r.gives = k ∧ k < n) (hs : falses st.1 + st.2.length ≤ n) (i : Nat) (hi : i ≤ Rs.length) : (rndN Rs st i).2.length ≤ n := by
  have := (rndN_sum hl hg i hi).2
  omega
theorem doR_grow {st : St} {i : Nat} {r : Rl} : ((doR st i r).2.length ≠ st.2.length) ↔ (!has st.1 r.gives && r.needs.all (has st.1)) = true := by
  unfold doR
  split
  · rename_i h; rw [h]; simp
  · rename_i h; simp [h]
set_option maxRecDepth 20000 in
set_option maxHeartbeats 8000000 in
theorem closed20 (n nk m ck cl k : Nat) (ao lo : Option Addr) (Ks : List Int) (Rs : List Rl) (w : World) (hnk : nk = Ks.length) (hm : m = Rs.length) (hF : Fits n Ks Rs) (n47 : nk ≤ 9223372036854775807)
    (hK : Ilz k w ao Ks) (hR : Rlz k w lo Rs) (hk : k ≤ w.heap.size) :
    Calls Try.prog 20 #[.int .i64 (n : Int), .slice ao nk ck, .slice lo m cl] w (Fo w n Ks Rs) := by
  have hmk := make27 w n (by have := hF.hi; omega)
  obtain ⟨i0, hin, hz0, hz1, hz2⟩ := info_parts info3
  have HF := Lib.hid hF
  have HNK := Lib.hid hnk
  have HM := Lib.hid hm
  have m47 : m ≤ 4096 := by have := hF.len; omega
  clear hF hnk hm
  go_enter Try.func20, Try.ntmps20
  go_wp2_with fail
  have f0 : Fnd w w.heap.size w.heap.size (w.heap.size + 1) n (w.alloc (.cells (madeCells #[Value.bool false] n) 4)) (.slice none 0 0) (List.replicate n false, []) := by
    refine ⟨Nat.le_refl _, Nat.le_refl _, by omega, by simp, bl_made w n, World.ownsRow_nil _ _ _ _, (Below.refl _ w).alloc (Nat.le_refl _) _, fun h => absurd rfl h⟩
  obtain ⟨b, base, hb, hbase⟩ : ∃ b base, b = w.heap.size ∧ base = w.heap.size + 1 := ⟨_, _, rfl, rfl⟩
  have FX := Lib.hid (show Fnd w b b base n (w.alloc (.cells (madeCells #[Value.bool false] n) 4)) (.slice none 0 0) (List.replicate n false, []) by rw [hb, hbase]; exact f0)
  clear f0 hmk
  rw [← hb]
  generalize w.alloc (.cells (madeCells #[Value.bool false] n) 4) = wa at FX ⊢
  clear hb hbase
  go_loopg [10] nk (fun gk v10 wr => ∃ i : Nat, v10 = .int .i64 i ∧ i + gk = nk ∧ Fnd w b b base n wr (.slice none 0 0) ((Ks.take i).foldl Ytllgdlfdmmdffaa.mark (List.replicate n false), []))
  case atStart => exact ⟨0, rfl, by omega, FX.out⟩
  case round =>
    obtain ⟨i, rfl, hig, hf⟩ := hrel
    have HIG := Lib.hid hig
    clear FX
    by_cases h1 : i < nk
    · have d1 : decide ((i : Int) < (nk : Int)) = true := by simp; omega
      have hKr := hK.below hf.k hk
      obtain ⟨a, rfl⟩ := hK.some_ (by have := HNK.out; omega)
      obtain ⟨x, hx⟩ : ∃ x, Ks[i]? = some x := ⟨Ks[i]'(by rw [← HNK.out]; exact h1), List.getElem?_eq_getElem _⟩
      have hcx := (hKr.cells a rfl i x hx).2
      obtain ⟨y, rfl, hy⟩ := HF.out.ks x (List.mem_of_getElem? hx)
      have HX := Lib.hid hx
      have hl : (((Ks.take i).foldl Ytllgdlfdmmdffaa.mark (List.replicate n false))).length = n := marks_length (Ks.take i) n
      have hcy := hf.bl.cell (at_has (k := y) (by show y < _; rw [hl]; exact hy))
      have hfy := hf.bl.frozen y
      have hf2 := Lib.hid (hf.mark y)
      have q0 : (0 : Int) ≤ (i : Int) := by omega
      have q1 : (i : Int) < (nk : Int) := by omega
      have q2 : (0 : Int) ≤ (y : Int) := by omega
      have q3 : (y : Int) < (n : Int) := by omega
      generalize has _ (y : Int) = q at hcy
      clear hig hKr hx hl hf hK hR
      go_wp2_with fail
      go_roundg (gk - 1)
      case measure => have := HIG.out; omega
      case rel =>
        refine ⟨i + 1, by simp, by have := HIG.out; omega, ?_⟩
        have e : Ks.take (i + 1) = Ks.take i ++ [(y : Int)] := by rw [List.take_add_one, HX.out]; rfl
        rw [e, List.foldl_append]
        exact hf2.out
    · have d1 : decide ((i : Int) < (nk : Int)) = false := by simp; omega
      obtain rfl : i = nk := by omega
      have e : Ks.take i = Ks := List.take_of_length_le (by rw [← HNK.out]; exact Nat.le_refl _)
      rw [e] at hf
      clear hig e
      go_wp2_with fail
      clear hK
      have hmk0 : Fnd w b b base n wr (.slice none 0 0) (marks Ks n, []) := hf
      clear hf
      obtain ⟨fuel, hfuel⟩ : ∃ fuel, fuel = n + 1 := ⟨_, rfl⟩
      have HFU := Lib.hid hfuel
      clear hfuel
      go_loopg [9, 11] fuel (fun gk v9 v11 wr => ∃ (st : St) (q : Bool), v11 = .bool q ∧ Fnd w b b base n wr v9 st ∧ st.1.length = n ∧ falses st.1 + st.2.length ≤ n ∧ (q = true → falses st.1 < gk ∧ fix Rs gk st = fin n Ks Rs) ∧ (q = false → st = fin n Ks Rs))
      case atStart =>
        have hl := marks_length Ks n
        have h3 := falses_le (marks Ks n)
        rw [hl] at h3
        exact ⟨(marks Ks n, []), true, rfl, hmk0, hl, h3, fun _ => ⟨by have := HFU.out; show falses (marks Ks n) < fuel; omega, by rw [HFU.out]; rfl⟩, fun e => by cases e⟩
      case round =>
        obtain ⟨st, q, rfl, hf, hl, hst2, hfu, hend⟩ := hrel
        clear hmk0
        cases q with
        | false =>
          obtain rfl := hend rfl
          have HF9 := Lib.hid hf
          obtain ⟨a9, c9, rfl⟩ := row_form hf.own
          clear hf hl hst2 hfu hend
          go_wp2_with fail
          go_ret2
          exact ⟨b, b, base, _, rfl, HF9.out⟩
        | true =>
          have HFX := Lib.hid (And.intro hl (And.intro hst2 (hfu rfl)))
          obtain ⟨a9, c9, rfl⟩ := row_form hf.own
          clear hl hst2 hfu hend
          go_wp2_with fail
          obtain ⟨gk0, hgk0⟩ : ∃ gk0, gk0 = gk := ⟨_, rfl⟩
          obtain ⟨wo, hwo⟩ : ∃ wo, wo = wr := ⟨_, rfl⟩
          rw [← hgk0] at HFX
          have HGK := Lib.hid hgk0
          rw [← hwo] at hf ⊢
          clear hgk0 hwo
          go_loopg [9, 11, 12, 13, 14] m (fun gk v9 v11 v12 v13 v14 wr => ∃ (i : Nat) (q : Bool), v11 = .bool q ∧ v12 = .int .i64 i ∧ i + gk = m ∧ Fnd w b b base n wr v9 (rndN Rs st i) ∧ Hid (q = true ↔ (rndN Rs st i).2.length ≠ st.2.length))
          case atStart => exact ⟨0, false, rfl, rfl, by omega, hf, Lib.hid (Iff.intro (fun e => by cases e) (fun e => absurd rfl e))⟩
          case round =>
            obtain ⟨i, q, rfl, rfl, hig, hf, hqq⟩ := hrel
            have HIG := Lib.hid hig
            obtain ⟨a9, c9, rfl⟩ := row_form hf.own
            obtain ⟨sl, hsl⟩ : ∃ sl, (rndN Rs st i).2.length = sl := ⟨_, rfl⟩
            rw [hsl] at hf ⊢
            have HSL := Lib.hid hsl
            clear hsl
            by_cases h1 : i < m
            · have d1 : decide ((i : Int) < (m : Int)) = true := by simp; omega
              have hRr := hR.below hf.k hk
              obtain ⟨a, rfl⟩ := hR.some_ (by have := HM.out; omega)
              obtain ⟨r, hx⟩ : ∃ r, Rs[i]? = some r := ⟨Rs[i]'(by rw [← HM.out]; exact h1), List.getElem?_eq_getElem _⟩
              have HX := Lib.hid hx
              obtain ⟨-, ⟨ao, ac, hac, hc0, hIn⟩, hc1⟩ := hRr.cells a rfl i r hx
              obtain ⟨pb, po, hpa, hc2, hc3⟩ := row2 hc0 hc1
              have hmem := List.mem_of_getElem? hx
              have hlen : (rndN Rs st i).1.length = n := (rndN_sum HFX.out.1 (HF.out.gs) i (by rw [← HM.out]; omega)).1
              have hsl2 : sl ≤ n := by rw [← HSL.out]; exact rndN_bd HFX.out.1 HF.out.gs HFX.out.2.1 i (by rw [← HM.out]; omega)
              have hsl3 : sl ≤ 4096 := Nat.le_trans hsl2 HF.out.hi
              obtain ⟨y, hy0, hy⟩ := HF.out.gs r hmem
              have hns := HF.out.ns r hmem
              have hnl := hR.lens r hmem
              have HSTEP := Lib.hid (show rndN Rs st (i + 1) = doR (rndN Rs st i) i r by
                show doR _ _ _ = _
                rw [List.getD_eq_getElem?_getD, hx]; rfl)
              have hle := rndN_len Rs st i
              generalize rndN Rs st i = cur at hf hlen HSTEP HSL hqq hle
              obtain ⟨B, S⟩ := cur
              obtain ⟨nn, hnn⟩ : ∃ nn, r.needs.length = nn := ⟨_, rfl⟩
              rw [hy0] at hc3
              rw [hnn] at hc2 hnl
              have HF1 := Lib.hid hf
              have HLE := Lib.hid hle
              clear hle
              have hlB : B.length = n := hlen
              have hcy := hf.bl.cell (at_has (k := y) (by show y < B.length; omega))
              have hfy := hf.bl.frozen y
              have hdo : doR (B, S) i r = if (!has B y && r.needs.all (has B)) = true then (Ytllgdlfdmmdffaa.mark B y, S ++ [(i : Int)]) else (B, S) := by unfold doR; rw [hy0]
              have HDO := Lib.hid (HSTEP.out.trans hdo)
              have HNN := Lib.hid hnn
              have HNS := Lib.hid hns
              have q0 : (0 : Int) ≤ (i : Int) := by omega
              have q1 : (i : Int) < (m : Int) := by omega
              have q2 : (0 : Int) ≤ (y : Int) := by omega
              have q3 : (y : Int) < (n : Int) := by omega
              have HB := Lib.hid hlB
              generalize hq1 : has B (y : Int) = b1 at hcy HDO
              have hcy : wr.cell? ⟨b, y, none⟩ = some (.bool b1) := hcy
              clear hig hRr hx hc0 hc1 hac hmem hlen hns hdo HSTEP hnn hlB hy0 hq1 hR hsl2
              go_wp2_with fail
              obtain ⟨gk1, hgk1⟩ : ∃ gk1, gk1 = gk := ⟨_, rfl⟩
              obtain ⟨wp, hwp⟩ : ∃ wp, wp = wr := ⟨_, rfl⟩
              have HGK1 := Lib.hid hgk1
              rw [← hgk1] at HIG
              clear hgk1
              go_loopg [13, 14] nn (fun gk v13 v14 wx => ∃ (k3 : Nat) (p : Bool), v13 = .bool p ∧ v14 = .int .i64 k3 ∧ k3 + gk = nn ∧ wx = wp ∧ Hid (p = (!b1 && (r.needs.take k3).all (has B))))
              case atStart => exact ⟨0, !b1, rfl, rfl, by omega, hwp.symm, Lib.hid (by simp)⟩
              case round =>
                obtain ⟨k3, p, rfl, rfl, hig3, rfl, hp3⟩ := hrel
                have HIG3 := Lib.hid hig3
                subst hwp
                have Hdn : (k3 < nn → p = false) → p = (!b1 && r.needs.all (has B)) := fun h => by
                  by_cases hk3 : k3 < nn
                  · have e := h hk3
                    have e2 := hp3.out
                    rw [e] at e2 ⊢
                    cases b1 with
                    | true => rfl
                    | false =>
                      symm
                      simp only [Bool.not_false, Bool.true_and] at e2 ⊢
                      obtain ⟨x, hx, hx2⟩ := List.all_eq_false.1 e2.symm
                      exact List.all_eq_false.2 ⟨x, List.mem_of_mem_take hx, hx2⟩
                  · have e2 := hp3.out
                    rwa [List.take_of_length_le (by rw [HNN.out]; omega)] at e2
                have Hdone := Lib.hid Hdn
                clear Hdn
                cases p with
                | true =>
                  by_cases h3 : k3 < nn
                  · have z3 : decide ((k3 : Int) < (nn : Int)) = true := by simp; omega
                    obtain ⟨ra, rfl⟩ := hIn.some_ (by have := HNN.out; omega)
                    obtain ⟨x, hx⟩ : ∃ x, r.needs[k3]? = some x := ⟨r.needs[k3]'(by rw [HNN.out]; exact h3), List.getElem?_eq_getElem _⟩
                    have hcx := (hIn.cells ra rfl k3 x hx).2
                    obtain ⟨z, rfl, hz⟩ := HNS.out x (List.mem_of_getElem? hx)
                    have HX3 := Lib.hid hx
                    have hcz := HF1.out.bl.cell (at_has (k := z) (by show z < B.length; have := HB.out; omega))
                    generalize hqz : has _ (z : Int) = qz at hcz
                    have HQZ := Lib.hid hqz
                    have q4 : (0 : Int) ≤ (k3 : Int) := by omega
                    have q5 : (k3 : Int) < (nn : Int) := by omega
                    have q6 : (0 : Int) ≤ (z : Int) := by omega
                    have q7 : (z : Int) < (n : Int) := by omega
                    clear hig3 hx hqz Hdone
                    go_wp2_with fail
                    go_roundg (gk - 1)
                    case measure => have := HIG3.out; omega
                    case rel =>
                      refine ⟨k3 + 1, qz, rfl, by simp, by have := HIG3.out; omega, rfl, Lib.hid ?_⟩
                      rw [List.take_add_one, HX3.out, List.all_append, ← Bool.and_assoc, ← hp3.out]
                      simp [← HQZ.out]
                  · have z3 : decide ((k3 : Int) < (nn : Int)) = false := by simp; omega
                    have hall := Lib.hid (Hdone.out (fun h => absurd h h3))
                    clear hig3 Hdone
                    go_upto_region 20 with (fail)
                    have F3 := Lib.hid (HF1.out.mark y)
                    generalize wr.setCell ⟨b, y, none⟩ (.bool true) = w3 at F3 ⊢
                    have o3 : w3.ownsRow base 3 1 (.slice a9 sl c9) sl (S.map (Value.int .i64)) := by have h : w3.ownsRow base 3 1 (.slice a9 sl c9) S.length (S.map (Value.int .i64)) := F3.out.own; rwa [show S.length = sl from HSL.out] at h
                    have hs2 : base ≤ w3.heap.size := F3.out.bs
                    clear hf hcy hfy hc2 hc3 hIn
                    go_wp2_with (first
                      | (at_builtin; refine wpList_append_own _ rfl _ _ 22 rfl base 3 i0 (.int .i64 0) 1 8 Try.underlying22 hin hz0 hz1 hz2 rfl (by decide) _ _ _ rfl (o3.alloc _) ⟨w3.heap.size, 0, none⟩ 1 1 [.int .i64 (i : Int)] rfl rfl ?c1 ?c2 ?c3 ?c4 ?c5 ?_; (case c1 => exact cell_one_new _ _ _); (case c2 => simp [Value.oneCell']); (case c3 => unfold maxLen; omega); (case c4 => omega); (case c5 => simp; omega); intro v' w4 o4 g4 _))
                    have F4 := Lib.hid ((F3.out.alloc (.cells #[.int .i64 (i : Int)] 3)).app (v' := v') (x := (i : Int)) (by show w4.ownsRow base 3 1 v' (S.length + 1) _; rw [show S.length = sl from HSL.out]; exact o4) g4)
                    clear o4 g4 o3
                    go_roundg (gk1 - 1)
                    case measure => have := HGK1.out; have := HIG.out; omega
                    case rel =>
                      have e : rndN Rs st (i + 1) = (Ytllgdlfdmmdffaa.mark B y, S ++ [(i : Int)]) := by
                        have := HDO.out
                        rw [← hall.out] at this
                        exact this
                      have hle : st.2.length ≤ S.length := HLE.out
                      exact ⟨i + 1, true, rfl, by simp, by have := HIG.out; omega, by rw [e]; exact F4.out, by rw [e]; exact Lib.hid (Iff.intro (fun _ => by show (S ++ [(i : Int)]).length ≠ _; simp; omega) (fun _ => rfl))⟩
                | false =>
                  have hall := Lib.hid (Hdone.out (fun _ => rfl))
                  clear Hdone
                  by_cases h3 : k3 < nn
                  · have z3 : decide ((k3 : Int) < (nn : Int)) = true := by simp; omega
                    go_wp2_with fail
                    go_roundg (gk1 - 1)
                    case measure => have := HGK1.out; have := HIG.out; omega
                    case rel =>
                      have e : rndN Rs st (i + 1) = (B, S) := by
                        have := HDO.out
                        rw [← hall.out] at this
                        exact this
                      exact ⟨i + 1, q, rfl, by simp, by have := HIG.out; omega, by rw [e]; exact HF1.out, by rw [e]; exact hqq⟩
                  · have z3 : decide ((k3 : Int) < (nn : Int)) = false := by simp; omega
                    go_wp2_with fail
                    go_roundg (gk1 - 1)
                    case measure => have := HGK1.out; have := HIG.out; omega
                    case rel =>
                      have e : rndN Rs st (i + 1) = (B, S) := by
                        have := HDO.out
                        rw [← hall.out] at this
                        exact this
                      exact ⟨i + 1, q, rfl, by simp, by have := HIG.out; omega, by rw [e]; exact HF1.out, by rw [e]; exact hqq⟩
            · have d1 : decide ((i : Int) < (m : Int)) = false := by simp; omega
              obtain rfl : i = m := by omega
              have hfull : rndN Rs st i = rnd Rs st := by rw [HM.out]; rfl
              have HS := Lib.hid (rndN_sum HFX.out.1 (HF.out.gs) i (by rw [← HM.out]; exact Nat.le_refl _))
              have HL := Lib.hid (rndN_len Rs st i)
              rw [hfull] at hf HS HL HSL hqq
              generalize hcur : rnd Rs st = cur at hf HS HL HSL hqq
              have HCUR := Lib.hid hcur
              have HF2 := Lib.hid hf
              clear hig hfull hcur hf
              go_wp2_with fail
              go_roundg (gk0 - 1)
              case measure => have := HGK.out; have := HFX.out.2.2.1; omega
              case rel =>
                have h1 := HFX.out.2.2.2
                have h0 := HFX.out.2.2.1
                obtain ⟨gg, hgg⟩ : ∃ gg, gk0 = gg + 1 := ⟨gk0 - 1, by omega⟩
                have h3 := HS.out
                have h4 := HL.out
                have h6 := HFX.out.2.1
                rw [hgg, Nat.add_sub_cancel]
                refine ⟨cur, q, rfl, HF2.out, h3.1, by omega, fun hq => ?_, fun hq => ?_⟩
                · have h2 := hqq.out.1 hq
                  have h7 : ¬ (rnd Rs st).2.length = st.2.length := by rw [HCUR.out]; exact h2
                  rw [hgg, fix, if_neg h7, HCUR.out] at h1
                  exact ⟨by omega, h1⟩
                · have h2 : (rnd Rs st).2.length = st.2.length := by
                    rw [HCUR.out]
                    rcases Nat.lt_or_ge st.2.length cur.2.length with g | g
                    · have := hqq.out.2 (by omega)
                      rw [hq] at this; cases this
                    · omega
                  rw [hgg, fix, if_pos h2, HCUR.out] at h1
                  exact h1
section
variable {many : Int} {ao lo : Option Addr} {n m c lc k : Nat} {Ks : List Int} {Rs : List Rl} {w : World}
set_option maxHeartbeats 4000000 in
theorem clo11 (hn : n = Ks.length) (hm : m = Rs.length) (n47 : n ≤ 9223372036854775807) (m47 : m ≤ 9223372036854775807) (hK : Ilz k w ao Ks) (hR : Rlz k w lo Rs) (hk : k ≤ w.heap.size) :
    Calls Try.prog 11 #[.int .i64 many, .slice ao n c, .slice lo m lc] w (Cl w (cloB many Ks Rs)) := by
  have h17 := fits19 many ao lo n m c lc k Ks Rs w hn hm n47 m47 hK hR hk
  cases hq : fitsB many Ks Rs with
  | false =>
    have e : cloB many Ks Rs = [] := by unfold cloB; rw [hq]; rfl
    rw [hq] at h17
    rw [e]
    clear hq e hn hm hK hR
    go_enter Try.func11, Try.ntmps11
    go_wp2_with (go_at_call 19; (with_reducible refine h17.mono ?_); rintro e w1 ⟨rfl, b1⟩)
    go_ret
    exact ⟨none, 0, rfl, rfl, by omega, bz_nil _, b1⟩
  | true =>
    obtain ⟨N, hN, hF⟩ := fits_nat hq
    subst hN
    have e : cloB (N : Int) Ks Rs = (fin N Ks Rs).1 := by unfold cloB; rw [if_pos hq]; rfl
    rw [hq] at h17
    rw [e]
    have HC : ∀ W, Below w.heap.size w W → Calls Try.prog 20 #[.int .i64 (N : Int), .slice ao n c, .slice lo m lc] W (Fo W N Ks Rs) := fun W hb => closed20 N n m c lc k ao lo Ks Rs W hn hm hF n47 (hK.below hb hk) (hR.below hb hk) (Nat.le_trans hk hb.size)
    have HC := Lib.hid HC
    have HS := Lib.hid (And.intro (fin_sum hF) hF.hi)
    clear hq e hn hm hK hR hF
    go_enter Try.func11, Try.ntmps11
    go_wp2_with (first
      | (go_at_call 19; (with_reducible refine h17.mono ?_); rintro e w1 ⟨rfl, b1⟩; have B1 := Lib.hid b1; clear b1)
      | (go_at_call 20; (with_reducible refine (HC.out _ B1.out).mono ?_); rintro e w2 ⟨b, g, base, v, rfl, f2⟩; have F2 := Lib.hid f2; clear f2))
    go_ret
    exact ⟨_, N, rfl, HS.out.1.1.symm, HS.out.2, F2.out.bl.bz, below_then B1.out F2.out.k⟩
set_option maxHeartbeats 4000000 in
theorem stp14 (hn : n = Ks.length) (hm : m = Rs.length) (n47 : n ≤ 9223372036854775807) (m47 : m ≤ 9223372036854775807) (hK : Ilz k w ao Ks) (hR : Rlz k w lo Rs) (hk : k ≤ w.heap.size) :
    Calls Try.prog 14 #[.int .i64 many, .slice ao n c, .slice lo m lc] w (Sl w (stpL many Ks Rs)) := by
  have h17 := fits19 many ao lo n m c lc k Ks Rs w hn hm n47 m47 hK hR hk
  cases hq : fitsB many Ks Rs with
  | false =>
    have e : stpL many Ks Rs = [] := by unfold stpL; rw [hq]; rfl
    rw [hq] at h17
    rw [e]
    clear hq e hn hm hK hR
    go_enter Try.func14, Try.ntmps14
    go_wp2_with (go_at_call 19; (with_reducible refine h17.mono ?_); rintro e w1 ⟨rfl, b1⟩)
    go_ret
    exact ⟨none, 0, 0, rfl, rfl, by omega, ilz_nil _ _, b1⟩
  | true =>
    obtain ⟨N, hN, hF⟩ := fits_nat hq
    subst hN
    have e : stpL (N : Int) Ks Rs = (fin N Ks Rs).2 := by unfold stpL; rw [if_pos hq]; rfl
    rw [hq] at h17
    rw [e]
    have HC : ∀ W, Below w.heap.size w W → Calls Try.prog 20 #[.int .i64 (N : Int), .slice ao n c, .slice lo m lc] W (Fo W N Ks Rs) := fun W hb => closed20 N n m c lc k ao lo Ks Rs W hn hm hF n47 (hK.below hb hk) (hR.below hb hk) (Nat.le_trans hk hb.size)
    have HC := Lib.hid HC
    have HS := Lib.hid (And.intro (fin_sum hF) hF.hi)
    clear hq e hn hm hK hR hF
    go_enter Try.func14, Try.ntmps14
    go_wp2_with (first
      | (go_at_call 19; (with_reducible refine h17.mono ?_); rintro e w1 ⟨rfl, b1⟩; have B1 := Lib.hid b1; clear b1)
      | (go_at_call 20; (with_reducible refine (HC.out _ B1.out).mono ?_); rintro e w2 ⟨b, g, base, v, rfl, f2⟩; obtain ⟨a2, c2, rfl, l2, i2⟩ := own_ilz f2.own; have F2 := Lib.hid (And.intro f2 i2); clear f2 l2 i2))
    go_ret
    exact ⟨_, _, _, rfl, rfl, by have := HS.out; omega, F2.out.2, below_then B1.out F2.out.1.k⟩
end
end Go.Proofs.Ytllgdlfdmmdffaa
