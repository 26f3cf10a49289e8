/- TermsLeast, walked. -/
import Derived.Test.YtllgdlfdmmdffaaL3
import Derived.Test.YtllgdlfdmmdffaaLP
namespace Go.Proofs.Ytllgdlfdmmdffaa
open Go.ChangeShapes Go.WideShapes Go.ChangeAt Go.RowKit
set_option linter.unusedSimpArgs false
set_option linter.unusedVariables false
/-- Marks in a block of their own, above all that was. -/
structure Mk (w4 : World) (b n : Nat) (wr : World) (B : List Bool) : Prop where
  bl : Bl wr b B
  len : B.length = n
  ge : w4.heap.size ≤ b
  k : Below w4.heap.size w4 wr
section
variable {w4 wr w1 : World} {b n : Nat} {B : List Bool}
theorem Mk.mark (h : Mk w4 b n wr B) (k : Nat) : Mk w4 b n (wr.setCell ⟨b, k, none⟩ (.bool true)) (mark B k) :=
  ⟨by have := h.bl.set k true; simpa [Ytllgdlfdmmdffaa.mark] using this, by rw [mark_length]; exact h.len, h.ge, h.k.setCell (by exact h.ge) _⟩
theorem Mk.below (h : Mk w4 b n wr B) (k : Below wr.heap.size wr w1) : Mk w4 b n w1 B :=
  ⟨h.bl.below k h.bl.lt, h.len, h.ge, below_then h.k k⟩
theorem Bl.not_int (h : Bl w1 b B) {a : Addr} {k : IntKind} {z : Int} (hc : w1.cell? a = some (.int k z)) : a.block ≠ b := fun e => by
  have e2 := at_none hc
  rw [e2, e, cell_of_row _ _ _ _ _ _ h.row] at hc
  simp at hc
/-- All but one block is as it was. -/
structure Kp (w6 : World) (b : Nat) (wr : World) : Prop where
  size : w6.heap.size ≤ wr.heap.size
  keep : ∀ k, k < w6.heap.size → k ≠ b → wr.heap[k]? = w6.heap[k]?
theorem Kp.refl (w6 : World) (b : Nat) : Kp w6 b w6 := ⟨Nat.le_refl _, fun _ _ _ => rfl⟩
theorem Kp.set {w6 wr : World} (h : Kp w6 b wr) (i : Nat) (v : Value) : Kp w6 b (wr.setCell ⟨b, i, none⟩ v) :=
  ⟨by simpa using h.size, fun k hk hb => (heap_setCell_other wr ⟨b, i, none⟩ k v hb).trans (h.keep k hk hb)⟩
theorem Kp.below {w6 wr w1 : World} (h : Kp w6 b wr) (k : Below wr.heap.size wr w1) : Kp w6 b w1 :=
  ⟨Nat.le_trans h.size k.size, fun j hj hb => (k.block j (Nat.lt_of_lt_of_le hj h.size)).trans (h.keep j hj hb)⟩
theorem Kp.cell {w6 wr : World} (h : Kp w6 b wr) {a : Addr} {v : Value} (hb : a.block ≠ b) (hc : w6.cell? a = some v) : wr.cell? a = some v :=
  (World.cell?_of_block (h.keep _ (World.block_lt_of_cell? _ _ hc) hb)).trans hc
end
theorem mk_made (w : World) (n : Nat) : Mk w w.heap.size n (w.alloc (.cells (madeCells #[Value.bool false] n) 4)) (List.replicate n false) :=
  ⟨bl_made w n, by simp, Nat.le_refl _, (Below.refl _ w).alloc (Nat.le_refl _) _⟩
section
variable {many : Int} {ao lo : Option Addr} {n m c lc : Nat} {Ks : List Int} {Rs : List Rl} {w W : World}
set_option maxRecDepth 20000 in
set_option maxHeartbeats 8000000 in
theorem least4 (h : Ar many ao lo n m Ks Rs w) (c lc : Nat) :
    Calls Try.prog 4 #[.int .i64 many, .slice ao n c, .slice lo m lc] w fun e w' => e = .returned (.bool true) ∧ Below w.heap.size w w' := by
  have H7 := head7 w
  have HA := Lib.hid h
  clear h
  rcases Nat.eq_zero_or_pos (cloB many Ks Rs).length with h0 | h0
  · have H0 := Lib.hid h0
    clear h0
    go_enter Try.func4, Try.ntmps4
    go_upto_region 2 with (first
      | (go_at_call 7; (with_reducible refine H7.mono ?_); rintro e w1 ⟨rfl, b1⟩; have B1 := Lib.hid b1; clear b1 H7))
    have H8 := HA.out.gr B1.out c lc
    go_wp2_with (first
      | (go_at_call 8; (with_reducible refine H8.mono ?_); rintro e w2 ⟨r, rfl, b2, -⟩; have B2 := Lib.hid (below_then B1.out b2); clear b2 H8; have H10 := HA.out.clo B2.out c lc)
      | (go_at_call 10; (with_reducible refine H10.mono ?_); rintro e w3 ⟨oa, on, rfl, on1, on2, oz, b3⟩; have B3 := Lib.hid (below_then B2.out b3); obtain rfl : on = 0 := on1.trans H0.out; clear b3 on1 on2 oz H10; have H11 := HA.out.rclo B3.out c lc)
      | (go_at_call 11; (with_reducible refine H11.mono ?_); rintro e w4 ⟨ra, rn, rfl, rn1, rn2, rz, b4⟩; have B4 := Lib.hid (below_then B3.out b4); obtain rfl : rn = 0 := rn1.trans H0.out; clear b4 rn1 rn2 rz H11))
    · go_ret
      exact ⟨rfl, B2.out⟩
    · go_ret
      exact ⟨rfl, B4.out⟩
  · have hfit : fitsB many Ks Rs = true := by
      cases hq : fitsB many Ks Rs with
      | true => rfl
      | false => rw [cloB, hq] at h0; simp at h0
    obtain ⟨nn, rfl, hF⟩ := fits_nat hfit
    have hclo : cloB nn Ks Rs = (fin nn Ks Rs).1 := by rw [cloB, hfit]; rfl
    have hstp : stpL nn Ks Rs = (fin nn Ks Rs).2 := by rw [stpL, hfit]; rfl
    have hlen := fin_sum hF
    have hpos : 0 < nn := by rw [hclo] at h0; omega
    have HF := Lib.hid (And.intro hF (And.intro hclo (And.intro hstp (And.intro hlen hpos))))
    have HM := Lib.hid HA.out.hm
    have HN := Lib.hid HA.out.hn
    have hK := HA.out.K
    have hR := HA.out.R
    have m47 : m ≤ 4096 := by have := HA.out.hm; have := hF.len; omega
    clear hF hclo hstp hlen h0 hfit
    go_enter Try.func4, Try.ntmps4
    go_upto_region 2 with (first
      | (go_at_call 7; (with_reducible refine H7.mono ?_); rintro e w1 ⟨rfl, b1⟩; have B1 := Lib.hid b1; clear b1 H7))
    have H8 := HA.out.gr B1.out c lc
    go_upto_region 9 with (first
      | (go_at_call 8; (with_reducible refine H8.mono ?_); rintro e w2 ⟨r, rfl, b2, -⟩; have B2 := Lib.hid (below_then B1.out b2); clear b2 H8; have H10 := HA.out.clo B2.out c lc)
      | (go_at_call 10; (with_reducible refine H10.mono ?_); rintro e w3 ⟨oa, on, rfl, on1, on2, oz, b3⟩; obtain rfl : on = nn := (on1.trans (by rw [HF.out.2.1])).trans HF.out.2.2.2.1.1; have B3 := Lib.hid (And.intro (below_then B2.out b3) (And.intro on2 oz)); clear b3 on1 on2 oz H10; have H11 := HA.out.rclo B3.out.1 c lc)
      | (go_at_call 11; (with_reducible refine H11.mono ?_); rintro e w4 ⟨ra, rn, rfl, rn1, rn2, rz, b4⟩; obtain rfl : rn = on := (rn1.trans (by rw [HF.out.2.1])).trans HF.out.2.2.2.1.1; have B4 := Lib.hid (And.intro (below_then B3.out.1 b4) (B3.out.2.2.below b4)); have z4 : decide ((rn : Int) = 0) = false := (by simp; omega); clear b4 rn1 rn2 rz H11))
    · go_ret
      exact ⟨rfl, B2.out⟩
    clear hpos z4 B1 B2
    rename_i e00 _ _
    clear e00
    have hmk := make27 w4 rn (by have := HF.out.1.hi; omega)
    obtain ⟨b, hb⟩ : ∃ b, b = w4.heap.size := ⟨_, rfl⟩
    have hn0 := HF.out.1.hi
    have FX := Lib.hid (mk_made w4 rn)
    go_wp2_with fail
    rw [← hb] at FX ⊢
    generalize w4.alloc (.cells (madeCells #[Value.bool false] rn) 4) = wa at FX ⊢
    clear hmk hb
    go_loopg [10] n (fun gk v10 wr => ∃ i : Nat, v10 = .int .i64 i ∧ i + gk = n ∧ Mk w4 b rn wr ((Ks.take i).foldl mark (List.replicate rn false)))
    case atStart => exact ⟨0, rfl, by omega, FX.out⟩
    case round =>
      obtain ⟨i, rfl, hig, hf⟩ := hrel
      have HIG := Lib.hid hig
      clear FX
      by_cases h1 : i < n
      · have d1 : decide ((i : Int) < (n : Int)) = true := by simp; omega
        have hKr := hK.below (below_then B4.out.1 hf.k) (Nat.le_refl _)
        obtain ⟨a, rfl⟩ := hK.some_ (by have := HN.out; omega)
        obtain ⟨x, hx⟩ : ∃ x, Ks[i]? = some x := ⟨Ks[i]'(by rw [← HN.out]; exact h1), List.getElem?_eq_getElem _⟩
        have hcx := (hKr.cells a rfl i x hx).2
        obtain ⟨y, rfl, hy⟩ := HF.out.1.ks x (List.mem_of_getElem? hx)
        have HX := Lib.hid hx
        have hl := hf.len
        have hcy := hf.bl.cell (at_has (k := y) (by show y < _; rw [hl]; exact hy))
        have hfy := hf.bl.frozen y
        have hf2 := Lib.hid (hf.mark y)
        have q0 : (0 : Int) ≤ (i : Int) := by omega
        have q1 : (i : Int) < (n : Int) := by omega
        have q2 : (0 : Int) ≤ (y : Int) := by omega
        have q3 : (y : Int) < (rn : Int) := by omega
        have e1 : IntKind.i64.wrap ((i : Int) + 1) = (i : Int) + 1 := IntWalk.i64_in _ (by have := HA.out.n47; omega)
        generalize has _ (y : Int) = q at hcy
        clear hig hKr hx hl hf hK hR
        go_wp2_with fail
        go_roundg (gk - 1)
        case measure => have := HIG.out; omega
        case rel =>
          refine ⟨i + 1, by simp, by have := HIG.out; omega, ?_⟩
          have e : Ks.take (i + 1) = Ks.take i ++ [(y : Int)] := by rw [List.take_add_one, HX.out]; rfl
          rw [e, List.foldl_append]
          exact hf2.out
      · have d1 : decide ((i : Int) < (n : Int)) = false := by simp; omega
        obtain rfl : i = n := by omega
        have e : Ks.take i = Ks := List.take_of_length_le (by rw [← HN.out]; exact Nat.le_refl _)
        rw [e] at hf
        clear hig e hK HIG
        have hf : Mk w4 b rn wr (marks Ks rn) := hf
        have HFM := Lib.hid hf
        have B5 := Lib.hid (below_then B4.out.1 hf.k)
        have H13 := HA.out.stp B5.out c lc
        clear hf
        go_wp2_with (first
          | (go_at_call 13; (with_reducible refine H13.mono ?_); rintro e w6 ⟨sa, sn, sc, rfl, sn1, sn2, si, b6⟩; have B6 := Lib.hid (And.intro (below_then B5.out b6) (And.intro (HFM.out.below b6) (And.intro (sn1.trans (by rw [HF.out.2.2.1])) (And.intro sn2 (show Ilz w6.heap.size w6 sa (fin rn Ks Rs).2 by rw [← HF.out.2.2.1]; exact si))))); clear b6 sn1 sn2 si H13))
        have hsn : sn ≤ 4096 := B6.out.2.2.2.1
        go_loopg [12, 13, 14] sn (fun gk v12 v13 v14 wr => ∃ i : Nat, v12 = .int .i64 i ∧ i + gk = sn ∧ Kp w6 b wr ∧ Mk w4 b rn wr (rep Rs (marks Ks rn) ((fin rn Ks Rs).2.take i)))
        case atStart => exact ⟨0, rfl, by omega, Kp.refl _ _, B6.out.2.1⟩
        case round =>
          obtain ⟨i2, rfl, hig2, hkp, hf⟩ := hrel
          have HIG2 := Lib.hid hig2
          by_cases h1 : i2 < sn
          · have d1 : decide ((i2 : Int) < (sn : Int)) = true := by simp; omega
            have hI := B6.out.2.2.2.2
            obtain ⟨a, rfl⟩ := hI.some_ (by have := B6.out.2.2.1; omega)
            obtain ⟨s, hs⟩ : ∃ s, (fin rn Ks Rs).2[i2]? = some s := ⟨(fin rn Ks Rs).2[i2]'(by rw [← B6.out.2.2.1]; exact h1), List.getElem?_eq_getElem _⟩
            obtain ⟨j, hsj, hjl, hgv, hnd⟩ := (trc_fin rn Ks Rs).each i2 s hs
            rw [hsj] at hs
            have hjm : j < m := by have := HM.out; omega
            have hc6 := (hI.cells a rfl i2 _ hs).2
            have hcs := hkp.cell (hb := B6.out.2.1.bl.not_int hc6) hc6
            have hRr := hR.below (below_then B4.out.1 hf.k) (Nat.le_refl _)
            obtain ⟨l, rfl⟩ := hR.some_ (by have := HM.out; omega)
            have hx : Rs[j]? = some (rl Rs j) := by rw [rl, List.getD_eq_getElem?_getD, List.getElem?_eq_getElem hjl]; rfl
            have hmem := List.mem_of_getElem? hx
            obtain ⟨r, hr⟩ : ∃ r, rl Rs j = r := ⟨_, rfl⟩
            have HR := Lib.hid hr
            rw [hr] at hx hmem hgv hnd
            obtain ⟨-, ⟨ro, rc, hrc, hc0, hIn⟩, hc1⟩ := hRr.cells l rfl j r hx
            obtain ⟨pb, po, hpa, hc2, hc3⟩ := row2 hc0 hc1
            obtain ⟨y, hy0, hy⟩ := HF.out.1.gs r hmem
            have HNS := Lib.hid (HF.out.1.ns r hmem)
            have hnl := hR.lens r hmem
            obtain ⟨k2, hk2⟩ : ∃ k2, r.needs.length = k2 := ⟨_, rfl⟩
            have HY := Lib.hid hy0
            rw [hy0] at hc3 hgv
            rw [hk2] at hc2 hnl
            have HK2 := Lib.hid hk2
            have HIN := Lib.hid hIn
            have HND := Lib.hid hnd
            have HGV := Lib.hid hgv
            have HFF := Lib.hid (And.intro hf hkp)
            have HS := Lib.hid hs
            have q0 : (0 : Int) ≤ (i2 : Int) := by omega
            have q1 : (i2 : Int) < (sn : Int) := by omega
            have q2 : decide ((j : Int) < 0) = false := by simp
            have q3 : decide ((m : Int) ≤ (j : Int)) = false := by simp; omega
            have q4 : (0 : Int) ≤ (j : Int) := by omega
            have q5 : (j : Int) < (m : Int) := by omega
            have e1 : IntKind.i64.wrap ((i2 : Int) + 1) = (i2 : Int) + 1 := IntWalk.i64_in _ (by omega)
            clear hig2 hI hs hc6 hx hmem hr hc0 hc1 hIn hy0 hk2 hnd hgv hRr hf hkp hrc hR hsj
            go_upto_region 21 with fail
            obtain ⟨cur, hcur⟩ : ∃ cur, rep Rs (marks Ks rn) (List.take i2 (fin rn Ks Rs).2) = cur := ⟨_, rfl⟩
            rw [hcur] at HND HGV HFF
            have HCUR := Lib.hid hcur
            have bA := (Below.refl wr.heap.size wr).alloc (Nat.le_refl _) (.cells #[.slice (ro) k2 rc, .int .i64 (y : Int)] 32)
            have HFB := Lib.hid (And.intro (HFF.out.1.below bA) (And.intro (HFF.out.2.below bA) (HIN.out.below bA (Nat.le_trans B4.out.1.size HFF.out.1.k.size))))
            have hb0 : (wr.alloc (.cells #[.slice (ro) k2 rc, .int .i64 (y : Int)] 32)).cell? ⟨wr.heap.size, 0, none⟩ = some (.slice ro k2 rc) := by simp
            have hb1 : (wr.alloc (.cells #[.slice (ro) k2 rc, .int .i64 (y : Int)] 32)).cell? ⟨wr.heap.size, 1, none⟩ = some (.int .i64 (y : Int)) := by simp
            obtain ⟨g, hg⟩ : ∃ g, g = wr.heap.size := ⟨_, rfl⟩
            rw [← hg] at hb0 hb1 ⊢
            clear hcur bA hc2 hc3 hcs hg
            obtain ⟨wb, hwb⟩ : ∃ wb, wr.alloc (.cells #[.slice (ro) k2 rc, .int .i64 (y : Int)] 32) = wb := ⟨_, rfl⟩
            rw [hwb] at hb0 hb1 HFB ⊢
            clear hwb HFF HIN
            obtain ⟨gk2, hgk2⟩ : ∃ gk2, gk2 = gk := ⟨_, rfl⟩
            have HGK2 := Lib.hid hgk2
            rw [← hgk2] at HIG2
            clear hgk2
            go_wp2_with fail
            go_loopg [14] k2 (fun gk v14 wx => ∃ k3 : Nat, v14 = .int .i64 k3 ∧ k3 + gk = k2 ∧ wx = wb)
            case atStart => exact ⟨0, rfl, by omega, rfl⟩
            case round =>
              obtain ⟨k3, rfl, hig3, rfl⟩ := hrel
              have HIG3 := Lib.hid hig3
              by_cases h3 : k3 < k2
              · have z3 : decide ((k3 : Int) < (k2 : Int)) = true := by simp; omega
                obtain ⟨ra, rfl⟩ := HFB.out.2.2.some_ (by have := HK2.out; omega)
                obtain ⟨x, hx⟩ : ∃ x, r.needs[k3]? = some x := ⟨r.needs[k3]'(by rw [HK2.out]; exact h3), List.getElem?_eq_getElem _⟩
                have hcx := (HFB.out.2.2.cells ra rfl k3 x hx).2
                have hht := List.all_eq_true.1 HND.out x (List.mem_of_getElem? hx)
                obtain ⟨z, rfl, hz⟩ := HNS.out x (List.mem_of_getElem? hx)
                have hcz := HFB.out.1.bl.cell (at_has (k := z) (by show z < _; rw [HFB.out.1.len]; exact hz))
                rw [hht] at hcz
                have q4 : (0 : Int) ≤ (k3 : Int) := by omega
                have q5 : (k3 : Int) < (k2 : Int) := by omega
                have q6 : (0 : Int) ≤ (z : Int) := by omega
                have q7 : (z : Int) < (rn : Int) := by omega
                have e2 : IntKind.i64.wrap ((k3 : Int) + 1) = (k3 : Int) + 1 := IntWalk.i64_in _ (by omega)
                clear hig3 hx hht
                go_wp2_with fail
                go_roundg (gk - 1)
                case measure => have := HIG3.out; omega
                case rel => exact ⟨k3 + 1, by simp, by have := HIG3.out; omega, rfl⟩
              · have z3 : decide ((k3 : Int) < (k2 : Int)) = false := by simp; omega
                have hcy := HFB.out.1.bl.cell (at_has (k := y) (by show y < _; rw [HFB.out.1.len]; exact hy))
                rw [HGV.out] at hcy
                have hfy := HFB.out.1.bl.frozen y
                have q6 : (0 : Int) ≤ (y : Int) := by omega
                have q7 : (y : Int) < (rn : Int) := by omega
                have HF2 := Lib.hid (And.intro (HFB.out.1.mark y) (HFB.out.2.1.set y (.bool true)))
                clear hig3
                go_wp2_with fail
                go_roundg (gk2 - 1)
                case measure => have := HGK2.out; have := HIG2.out; omega
                case rel =>
                  refine ⟨i2 + 1, by simp, by have := HIG2.out; omega, HF2.out.2, ?_⟩
                  have e : (fin rn Ks Rs).2.take (i2 + 1) = (fin rn Ks Rs).2.take i2 ++ [(j : Int)] := by rw [List.take_add_one, HS.out]; rfl
                  rw [e, rep, List.foldl_append]
                  show Mk w4 b rn _ (mark (rep Rs (marks Ks rn) ((fin rn Ks Rs).2.take i2)) (rl Rs ((j : Int).toNat)).gives)
                  rw [HCUR.out, Int.toNat_natCast, HR.out, HY.out]
                  exact HF2.out.1
          · have d1 : decide ((i2 : Int) < (sn : Int)) = false := by simp; omega
            obtain rfl : i2 = sn := by omega
            have e : (fin rn Ks Rs).2.take i2 = (fin rn Ks Rs).2 := List.take_of_length_le (by rw [← B6.out.2.2.1]; exact Nat.le_refl _)
            rw [e, (trc_fin rn Ks Rs).fin] at hf
            have HFF := Lib.hid hf
            clear hig2 e hkp hf
            go_wp2_with fail
            obtain ⟨wz, hwz⟩ : ∃ wz, wz = wr := ⟨_, rfl⟩
            rw [← hwz] at HFF ⊢
            clear hwz
            obtain ⟨F, hFd⟩ : ∃ F, (fin rn Ks Rs).1 = F := ⟨_, rfl⟩
            have HCL := Lib.hid (fin_closed HF.out.1)
            have HO := Lib.hid ((show Bz w4 oa (fin rn Ks Rs).1 by rw [← HF.out.2.1]; exact B4.out.2).below (HFF.out.k))
            have HFL := Lib.hid HF.out.2.2.2.1.1
            rw [hFd] at HCL HO HFF HFL
            obtain ⟨fa, rfl⟩ : ∃ fa, oa = some fa := by
              cases oa with
              | none => have := HO.out.nil rfl; have h2 := HFL.out; rw [this] at h2; have := HF.out.2.2.2.2; simp at h2; omega
              | some fa => exact ⟨fa, rfl⟩
            have HRZ := Lib.hid (hR.below (below_then B4.out.1 HFF.out.k) (Nat.le_refl _))
            go_loopg [15, 16, 17] m (fun gk v15 v16 v17 wx => ∃ i : Nat, v15 = .int .i64 i ∧ i + gk = m ∧ wx = wz)
            case atStart => exact ⟨0, rfl, by omega, rfl⟩
            case round =>
              obtain ⟨i4, rfl, hig4, rfl⟩ := hrel
              have HIG4 := Lib.hid hig4
              by_cases h1 : i4 < m
              · have d1 : decide ((i4 : Int) < (m : Int)) = true := by simp; omega
                obtain ⟨l, rfl⟩ := hR.some_ (by have := HM.out; omega)
                obtain ⟨r, hx⟩ : ∃ r, Rs[i4]? = some r := ⟨Rs[i4]'(by rw [← HM.out]; exact h1), List.getElem?_eq_getElem _⟩
                have hmem := List.mem_of_getElem? hx
                obtain ⟨-, ⟨ro, rc, hrc, hc0, hIn⟩, hc1⟩ := HRZ.out.cells l rfl i4 r hx
                obtain ⟨pb, po, hpa, hc2, hc3⟩ := row2 hc0 hc1
                obtain ⟨y, hy0, hy⟩ := HF.out.1.gs r hmem
                have HNS := Lib.hid (HF.out.1.ns r hmem)
                have HCR := Lib.hid (HCL.out r hmem)
                have hnl := hR.lens r hmem
                obtain ⟨k2, hk2⟩ : ∃ k2, r.needs.length = k2 := ⟨_, rfl⟩
                have HY := Lib.hid hy0
                rw [hy0] at hc3
                rw [hk2] at hc2 hnl
                have HK2 := Lib.hid hk2
                have HIN := Lib.hid hIn
                have q0 : (0 : Int) ≤ (i4 : Int) := by omega
                have q1 : (i4 : Int) < (m : Int) := by omega
                have e1 : IntKind.i64.wrap ((i4 : Int) + 1) = (i4 : Int) + 1 := IntWalk.i64_in _ (by omega)
                have hcy := (HO.out.cells fa rfl).2 y _ (at_has (k := y) (by rw [HFL.out]; exact hy))
                obtain ⟨bg, hbg⟩ : ∃ bg, has F (y : Int) = bg := ⟨_, rfl⟩
                rw [hbg] at hcy
                have HBG := Lib.hid hbg
                have q6 : (0 : Int) ≤ (y : Int) := by omega
                have q7 : (y : Int) < (rn : Int) := by omega
                clear hig4 hx hmem hc0 hc1 hIn hy0 hk2 hrc hbg
                obtain ⟨gk2, hgk2⟩ : ∃ gk2, gk2 = gk := ⟨_, rfl⟩
                have HGK2 := Lib.hid hgk2
                rw [← hgk2] at HIG4
                clear hgk2
                go_wp2_with fail
                go_loopg [16, 17] k2 (fun gk v16 v17 wx => ∃ k3 : Nat, v16 = .bool ((r.needs.take k3).all (has F)) ∧ v17 = .int .i64 k3 ∧ k3 + gk = k2 ∧ wx = wr)
                case atStart => exact ⟨0, by simp, rfl, by omega, rfl⟩
                case round =>
                  obtain ⟨k3, rfl, rfl, hig3, rfl⟩ := hrel
                  have HIG3 := Lib.hid hig3
                  by_cases h3 : k3 < k2
                  · have z3 : decide ((k3 : Int) < (k2 : Int)) = true := by simp; omega
                    obtain ⟨ra, rfl⟩ := HIN.out.some_ (by have := HK2.out; omega)
                    obtain ⟨x, hx⟩ : ∃ x, r.needs[k3]? = some x := ⟨r.needs[k3]'(by rw [HK2.out]; exact h3), List.getElem?_eq_getElem _⟩
                    have hcx := (HIN.out.cells ra rfl k3 x hx).2
                    obtain ⟨z, rfl, hz⟩ := HNS.out x (List.mem_of_getElem? hx)
                    have hcz := (HO.out.cells fa rfl).2 z _ (at_has (k := z) (by rw [HFL.out]; exact hz))
                    obtain ⟨bz, hbz⟩ : ∃ bz, has F (z : Int) = bz := ⟨_, rfl⟩
                    rw [hbz] at hcz
                    have HALL := Lib.hid (show (r.needs.take (k3 + 1)).all (has F) = ((r.needs.take k3).all (has F) && bz) by rw [List.take_add_one, hx, List.all_append]; simp [hbz])
                    obtain ⟨p, hp⟩ : ∃ p, (r.needs.take k3).all (has F) = p := ⟨_, rfl⟩
                    rw [hp] at HALL ⊢
                    have q4 : (0 : Int) ≤ (k3 : Int) := by omega
                    have q5 : (k3 : Int) < (k2 : Int) := by omega
                    have q8 : (0 : Int) ≤ (z : Int) := by omega
                    have q9 : (z : Int) < (rn : Int) := by omega
                    have e2 : IntKind.i64.wrap ((k3 : Int) + 1) = (k3 : Int) + 1 := IntWalk.i64_in _ (by omega)
                    clear hig3 hx hbz hp
                    cases p with
                    | true =>
                      go_wp2_with fail
                      go_roundg (gk - 1)
                      case measure => have := HIG3.out; omega
                      case rel => exact ⟨k3 + 1, by rw [HALL.out]; simp, by simp, by have := HIG3.out; omega, rfl⟩
                    | false =>
                      go_wp2_with fail
                      go_roundg (gk - 1)
                      case measure => have := HIG3.out; omega
                      case rel => exact ⟨k3 + 1, by rw [HALL.out]; simp, by simp, by have := HIG3.out; omega, rfl⟩
                  · have z3 : decide ((k3 : Int) < (k2 : Int)) = false := by simp; omega
                    have e : r.needs.take k3 = r.needs := List.take_of_length_le (by rw [HK2.out]; omega)
                    rw [e]
                    obtain ⟨p, hp⟩ : ∃ p, r.needs.all (has F) = p := ⟨_, rfl⟩
                    have hpb : p = true → bg = true := fun h => by have := HCR.out (by rw [hp]; exact h); rwa [HY.out, HBG.out] at this
                    rw [hp]
                    clear hig3 e hp
                    cases p with
                    | true =>
                      obtain rfl := hpb rfl
                      clear hpb
                      go_wp2_with fail
                      go_roundg (gk2 - 1)
                      case measure => have := HGK2.out; have := HIG4.out; omega
                      case rel => exact ⟨i4 + 1, by simp, by have := HIG4.out; omega, rfl⟩
                    | false =>
                      clear hpb
                      go_wp2_with fail
                      go_roundg (gk2 - 1)
                      case measure => have := HGK2.out; have := HIG4.out; omega
                      case rel => exact ⟨i4 + 1, by simp, by have := HIG4.out; omega, rfl⟩
              · have d1 : decide ((i4 : Int) < (m : Int)) = false := by simp; omega
                clear hig4
                have H9 := same9 (some ⟨b, 0, none⟩) (some fa) rn rn rn rn F F wr HFL.out.symm HFL.out.symm (by omega) (by omega) HFF.out.bl.bz HO.out
                have BZ := Lib.hid (below_then B4.out.1 HFF.out.k)
                go_wp2_with (first
                  | (go_at_call 9; (with_reducible refine H9.mono ?_); rintro e w9 ⟨rfl, b9⟩; have B9 := Lib.hid (below_then BZ.out b9); clear b9 H9))
                go_ret
                exact ⟨by simp, B9.out⟩
end
end Go.Proofs.Ytllgdlfdmmdffaa
