/- VaultErases: the walk. -/
import Derived.Test.YtjabkfccfecmgaaI
namespace Go.Proofs.Ytjabkfccfecmgaa
open Go.ChangeShapes Go.WideShapes Go.ChangeAt Go.RowKit
set_option linter.unusedSimpArgs false
set_option linter.unusedVariables false
theorem hd_get {c l r : Nat} (h : 16 ≤ r) (h2 : r < 512) : (hd c l)[r]? = some 0#8 := by
  unfold hd
  rw [List.getElem?_append_right (by rw [h16_len]; exact h), h16_len, List.getElem?_replicate, if_pos (by omega)]
theorem zs_get {r : Nat} (h2 : r < 512) : zs[r]? = some 0#8 := by
  unfold zs; rw [List.getElem?_replicate, if_pos h2]
/-- A byte of a vault's disk. -/
theorem img_vst {n C : Nat} {D : List Byte} {S : Nat → Sct} (hn : 4 ≤ n) (hC : 0 < C) (hD : D.length ≤ (n - 2) / 2 * 512) (hS : ∀ k, k < n → S k = vst n C D k) (hl : ∀ k, k < n → (S k).length = 512) (k : Nat) (hk : k < n * 512) :
    (∀ (h : 512 * (2 + C % 2 * ((n - 2) / 2)) ≤ k ∧ k < 512 * (2 + C % 2 * ((n - 2) / 2)) + D.length), (img S n)[k]? = D[k - 512 * (2 + C % 2 * ((n - 2) / 2))]?) ∧
    (¬ (512 * (2 + C % 2 * ((n - 2) / 2)) ≤ k ∧ k < 512 * (2 + C % 2 * ((n - 2) / 2)) + D.length) → ¬ (512 * (C % 2) ≤ k ∧ k < 512 * (C % 2) + 16) → (img S n)[k]? = some 0#8) := by
  rw [img_get n hl k hk, hS _ (by omega)]
  have hp := par2 C
  obtain ⟨q, hq⟩ : ∃ q, q = 2 + C % 2 * ((n - 2) / 2) := ⟨_, rfl⟩
  have hq2 : 2 ≤ q := by omega
  unfold vst
  rw [if_neg (by omega), ← hq]
  refine ⟨fun h => ?_, fun h1 h2 => ?_⟩
  · rw [if_neg (by omega), if_pos (by unfold nP; omega), ← padd_chk (B := D) (i := k - 512 * q) (by omega), show (k - 512 * q) / 512 = k / 512 - q by omega, show (k - 512 * q) % 512 = k % 512 by omega]
  · by_cases e : k / 512 = C % 2
    · rw [if_pos e]; exact hd_get (by omega) (by omega)
    · rw [if_neg e]
      by_cases e2 : q ≤ k / 512 ∧ k / 512 < q + nP D.length
      · rw [if_pos e2]
        have hcl : (chk D (k / 512 - q)).length ≤ k % 512 := by rw [chk_len]; unfold pl; omega
        unfold padd
        rw [List.getElem?_append_right hcl, List.getElem?_replicate, if_pos (by omega)]
      · rw [if_neg e2]; exact zs_get (by omega)
theorem img_sg {n C : Nat} {D : List Byte} {S : Nat → Sct} (hn : 4 ≤ n) (hC : 0 < C) (hS : ∀ k, k < n → S k = vst n C D k) (hl : ∀ k, k < n → (S k).length = 512) (j : Nat) (hj : j < 4) : (img S n)[512 * (C % 2) + j]? = sg[j]? := by
  rw [img_get n hl _ (by omega), hS _ (by omega), show (512 * (C % 2) + j) / 512 = C % 2 by omega, show (512 * (C % 2) + j) % 512 = j by omega]
  unfold vst
  rw [if_neg (by omega), if_pos rfl]
  unfold hd h16
  rw [List.append_assoc, List.append_assoc, List.getElem?_append_left (by rw [show sg.length = 4 from rfl]; exact hj)]
set_option maxRecDepth 20000 in
set_option maxHeartbeats 16000000 in
theorem erases4 (k len cap : Nat) (lo : Option Addr) (Ls : List (List Byte)) (w0 : World) (hk : k < 256) (hlen : len = Ls.length) (hT : Txt w0 lo Ls) :
    Calls Try.prog 4 #[.int .u8 (k : Int), .slice lo len cap] w0 fun e w' => e = .returned (.bool true) ∧ Below w0.heap.size w0 w' := by
  have HT := Lib.hid (And.intro hlen hT)
  have H7 := Lib.hid head7
  obtain ⟨n, hn⟩ : ∃ n, n = 4 + k % 12 := ⟨_, rfl⟩
  have HN := Lib.hid (show 4 ≤ n ∧ n ≤ 15 ∧ n = 4 + k % 12 by omega)
  clear hlen hT hn
  go_enter Try.func4, Try.ntmps4
  go_upto_region 3 with (first
    | (go_at_call 7; (with_reducible refine (H7.out _).mono ?_); rintro e w1 ⟨rfl, b1⟩))
  have en : (4 : Int) + (k : Int) % 12 = (n : Int) := by have := HN.out; omega
  rw [en]
  have H8 := new8 n w1 (by have := HN.out; omega)
  go_upto_region 4 with (first
    | (go_at_call 8; (with_reducible refine H8.mono ?_); rintro e w2 ⟨g, b, rfl, hb, hD, b2⟩))
  have v2 := vd_new (w1 := w0) HN.out.1 b1 hb hD b2
  have H9 := open1 v2 HN.out.1 (by have := HN.out; omega) rfl (by omega)
  clear hb hD b2 v2 b1 H8 en
  go_upto_region 5 with (first
    | (go_at_call 9; (with_reducible refine H9.mono ?_); rintro e w3 ⟨A3, d3, vb, a3, c3, o3⟩; obtain rfl := o3.ret))
  have HO := Lib.hid o3
  clear H9 o3
  by_cases h8 : 8 < len
  · have h1 : decide ((len : Int) > 8) = true := by simp; omega
    clear h8
    go_wp2_with fail
    go_ret
    exact ⟨rfl, HO.out.vd.bl⟩
  · have h1 : decide ((len : Int) > 8) = false := by simp; omega
    have HL := Lib.hid h8
    clear h8
    have hvst : ∀ k, k < n → d3.S k = vst n 0 [] k := fun k _ => by
      have hz : vst n 0 [] k = zs := by unfold vst; rw [if_pos rfl]
      rcases HO.out.same k with e | e
      · rw [e, hz]; rfl
      · rw [e.1, hz]
    have HX := Lib.hid (And.intro HO.out.vd (And.intro HO.out.fuse (And.intro HO.out.vb hvst)))
    clear hvst
    obtain ⟨n2, hn2⟩ : ∃ n2, n2 = n - 2 := ⟨_, rfl⟩
    obtain ⟨sc, hsc⟩ : ∃ sc, sc = n2 / 2 := ⟨_, rfl⟩
    obtain ⟨N5, hN5⟩ : ∃ N5, N5 = n * 512 := ⟨_, rfl⟩
    have w1e : IntKind.i64.wrap ((n : Int) - 2) = (n2 : Int) := by have := HN.out; rw [IntWalk.i64_in _ (by omega)]; omega
    have w2e : ((n2 : Int)).tdiv 2 = (sc : Int) := by rw [Int.tdiv_eq_ediv_of_nonneg (by omega)]; omega
    have w4e : wrap64 (sc : Int) = (sc : Int) := IntWalk.wrap64_in _ (by have := HN.out; omega)
    have w5e : IntKind.i64.wrap (512 * (n : Int)) = (N5 : Int) := by have := HN.out; rw [IntWalk.i64_in _ (by omega)]; omega
    have w6e : wrap64 (512 * (n : Int)) = (N5 : Int) := by rw [← IntWalk.i64_left]; exact w5e
    have HR := Lib.hid (show sc = (n - 2) / 2 ∧ N5 = n * 512 ∧ N5 ≤ 7680 ∧ sc ≤ 6 by have := HN.out; omega)
    clear hn2 hsc hN5
    go_wp2_with fail
    go_loopg [11, 12, 13, 14, 15, 16, 17, 18] len (fun gk v11 v12 v13 v14 v15 v16 v17 v18 wr => ∃ (i C : Nat) (B : List Byte) (A : Nat → Prop) (d : DS), v11 = .int .i64 C ∧ v12 = .int .i64 i ∧ i + gk = len ∧ C ≤ i ∧ Vd w0 A wr g b n C B d ∧ d.fuse = -1 ∧ Vb w0 A wr g b vb C ∧ Hid (∀ k, k < n → d.S k = vst n C B k))
    case atStart => exact ⟨0, 0, _, _, _, rfl, rfl, by omega, Nat.le_refl _, HX.out.1, HX.out.2.1, HX.out.2.2.1, Lib.hid HX.out.2.2.2⟩
    case round =>
      obtain ⟨i, C, B, A, d, rfl, rfl, hig, hCi, hv, hu, hkv, hvs⟩ := hrel
      obtain ⟨go, hgo⟩ : ∃ go, go = gk := ⟨_, rfl⟩
      have HGO := Lib.hid hgo
      clear hgo
      have HIG := Lib.hid (And.intro hig hCi)
      have HV := Lib.hid (And.intro hv (And.intro hu (And.intro hkv hvs.out)))
      by_cases hil : i < len
      · obtain ⟨D, hD⟩ : ∃ D, Ls[i]? = some D := ⟨_, List.getElem?_eq_getElem (by rw [← HT.out.1]; exact hil)⟩
        obtain ⟨la, hla⟩ : ∃ a, lo = some a := by
          cases e : lo with
          | none => rw [HT.out.2.nil e] at hD; simp at hD
          | some a => exact ⟨a, rfl⟩
        obtain ⟨hlb, hlc⟩ := HT.out.2.cells la hla
        obtain ⟨ao, c, hDc, hcell, hby⟩ := hlc i D hD
        subst hla
        obtain ⟨m, hm⟩ : ∃ m, m = D.length := ⟨_, rfl⟩
        rw [← hm] at hDc hcell
        have HDB := Lib.hid (And.intro hm (And.intro hDc (And.intro hby (And.intro hcell hlb))))
        have old : ∀ W, Below w0.heap.size w0 W → W.cell? (la.add i) = some (.slice ao m c) := fun W bb => (World.cell?_of_block (by rw [add_block]; exact bb.block _ HDB.out.2.2.2.2)).trans HDB.out.2.2.2.1
        have HOL := Lib.hid old
        have hcw := old _ hv.bl
        have i1 : decide (i < len) = true := by simp; omega
        have i2 : (0 : Int) ≤ (i : Int) := by omega
        have i3 : (i : Int) < (len : Int) := by omega
        have i4 : decide ((i : Int) < (len : Int)) = true := by simp; omega
        have wi : IntKind.i64.wrap ((i : Int) + 1) = ((i + 1 : Nat) : Int) := by rw [IntWalk.i64_in _ (by have := HL.out; omega)]; push_cast; rfl
        have HIL := Lib.hid hil
        clear hlb hlc hDc hcell hby hm old hD hig hCi hv hu hkv hvs hil
        by_cases hbig : 20000 < m
        · have m1 : decide ((m : Int) > 20000) = true := by simp; omega
          have m2 : decide (20000 < m) = true := by simp; omega
          clear hbig
          go_wp2_with fail
          go_ret
          exact ⟨rfl, HV.out.1.bl⟩
        · have m1 : decide ((m : Int) > 20000) = false := by simp; omega
          have m2 : decide (20000 < m) = false := by simp; omega
          have HM := Lib.hid hbig
          by_cases hfit : m ≤ sc * 512
          · have H10 := put1 (D := D) HV.out.1 HV.out.2.2.1 HN.out.1 (by have := HN.out; omega) HV.out.2.1 (by have := HIG.out; have := HL.out; omega) ao m c HDB.out.1 HDB.out.2.1 (HV.out.1.obs HDB.out.2.2.1 (bys_lt HDB.out.2.2.1)) (by rw [← HR.out.1]; exact hfit)
            have HF := Lib.hid hfit
            clear hbig hfit
            go_upto_region 14 with (first
              | (go_at_call 10; (with_reducible refine H10.mono ?_); rintro e w4 ⟨d4, o4⟩; obtain rfl := o4.ret))
            have H15 := image11 _ w4 g b n _ o4.vd.dk
            have HO4 := Lib.hid o4
            obtain ⟨C1, hC1⟩ : ∃ C1, C1 = C + 1 := ⟨_, rfl⟩
            have wc1 : IntKind.i64.wrap ((C : Int) + 1) = (C1 : Int) := by rw [IntWalk.i64_in _ (by have := HIG.out; have := HL.out; omega), hC1]; push_cast; rfl
            have HC1 := Lib.hid hC1
            have HIMG : ∀ W (b2 : Nat) (d2 : DS) (A2 : Nat → Prop), Dk A2 W g b2 n d2 → N5 = (img d2.S n).length := fun W b2 d2 A2 h => by rw [HR.out.2.1, img_len h.sec.len n (Nat.le_refl _)]
            rw [← HR.out.2.1] at H15
            clear H10 o4 hC1
            go_upto_region 18 with (first
              | (go_at_call 15; (with_reducible refine H15.mono ?_); rintro e w5 ⟨vi, rfl, oi, b5⟩; obtain ⟨qi, ci, rfl, hqb, hql, hqi, hqc⟩ := own_pos oi (by have := HN.out; have := HR.out; omega)))
            have ki : ∀ j x, (img d4.S n)[j]? = some x → w5.cell? ⟨qi, j, none⟩ = some (c8 x) := hqc
            obtain ⟨p, hp⟩ : ∃ p, p = C1 % 2 := ⟨_, rfl⟩
            obtain ⟨ps, hps⟩ : ∃ ps, ps = p * sc := ⟨_, rfl⟩
            obtain ⟨q, hq⟩ : ∃ q, q = 2 + ps := ⟨_, rfl⟩
            obtain ⟨fr, hfr⟩ : ∃ fr, fr = 512 * q := ⟨_, rfl⟩
            obtain ⟨hp5, hhp⟩ : ∃ hp5, hp5 = 512 * p := ⟨_, rfl⟩
            obtain ⟨hq5, hhq⟩ : ∃ hq5, hq5 = hp5 + 16 := ⟨_, rfl⟩
            obtain ⟨h4, hh4⟩ : ∃ h4, h4 = hp5 + 4 := ⟨_, rfl⟩
            obtain ⟨fe, hfe⟩ : ∃ fe, fe = fr + m := ⟨_, rfl⟩
            have hr4 := HR.out.2.2.2
            have hmm := HM.out
            have hps6 : ps ≤ 6 := by
              rw [hps]
              have : p = 0 ∨ p = 1 := by omega
              rcases this with e | e <;> rw [e] <;> omega
            have e1 : (C1 : Int) % 2 = (p : Int) := by omega
            have e2 : IntKind.i64.wrap ((p : Int) * (sc : Int)) = (ps : Int) := by rw [hps, IntWalk.i64_in _ (by rw [← Int.natCast_mul, ← hps]; omega)]; push_cast; rfl
            have e3 : IntKind.i64.wrap (2 + (ps : Int)) = (q : Int) := by rw [IntWalk.i64_in _ (by omega)]; omega
            have e4 : IntKind.i64.wrap (512 * (q : Int)) = (fr : Int) := by rw [IntWalk.i64_in _ (by omega)]; omega
            have e5 : IntKind.i64.wrap (512 * (p : Int)) = (hp5 : Int) := by rw [IntWalk.i64_in _ (by omega)]; omega
            have e6 : IntKind.i64.wrap ((hp5 : Int) + 16) = (hq5 : Int) := by rw [IntWalk.i64_in _ (by omega)]; omega
            have e7 : IntKind.i64.wrap ((hp5 : Int) + 4) = (h4 : Int) := by rw [IntWalk.i64_in _ (by omega)]; omega
            have e8 : IntKind.i64.wrap ((fr : Int) + (m : Int)) = (fe : Int) := by rw [IntWalk.i64_in _ (by omega)]; omega
            have g2 : wrap64 ((p : Int) * (sc : Int)) = (ps : Int) := by rw [← IntWalk.i64_left]; exact e2
            have g3 : wrap64 (2 + (ps : Int)) = (q : Int) := by rw [← IntWalk.i64_left]; exact e3
            have g4 : wrap64 (512 * (q : Int)) = (fr : Int) := by rw [← IntWalk.i64_left]; exact e4
            have g5 : wrap64 (512 * (p : Int)) = (hp5 : Int) := by rw [← IntWalk.i64_left]; exact e5
            have g6 : wrap64 ((hp5 : Int) + 16) = (hq5 : Int) := by rw [← IntWalk.i64_left]; exact e6
            have g7 : wrap64 ((hp5 : Int) + 4) = (h4 : Int) := by rw [← IntWalk.i64_left]; exact e7
            have g8 : wrap64 ((fr : Int) + (m : Int)) = (fe : Int) := by rw [← IntWalk.i64_left]; exact e8
            have vS : ∀ k, k < n → d4.S k = vst n C1 D k := by
              rw [HC1.out, HO4.out.S]
              exact vst_put HV.out.1.kp.len HO4.out.vd.kp.len HV.out.2.2.2
            have hC1p : 0 < C1 := by rw [HC1.out]; omega
            have HP := Lib.hid (And.intro hp (And.intro hps (And.intro hq (And.intro hfr (And.intro hhp (And.intro hhq (And.intro hh4 (And.intro hfe hps6))))))))
            have KI := Lib.hid (And.intro ki (And.intro vS (And.intro b5 hC1p)))
            have HQI := Lib.hid hqi
            have v5 := HO4.out.vd.below b5
            have hcw5 := HOL.out _ v5.bl
            clear oi hqc ki hqi hql hqb b5 vS hC1p hp hps hq hfr hhp hhq hh4 hfe hps6 H15 hcw hr4 hmm
            go_wp2_with fail
            have HWR := Lib.hid (And.intro e1 (And.intro e2 (And.intro e3 (And.intro e4 (And.intro e5 (And.intro e6 (And.intro e7 (And.intro e8 (And.intro g2 (And.intro g3 (And.intro g4 (And.intro g5 (And.intro g6 (And.intro g7 g8))))))))))))))
            clear e1 e2 e3 e4 e5 e6 e7 e8 g2 g3 g4 g5 g6 g7 g8
            go_loopg [16, 17, 18] N5 (fun gk v16 v17 v18 wr => ∃ j : Nat, v16 = .int .i64 j ∧ j + gk = N5 ∧ wr = w5)
            case atStart => exact ⟨0, rfl, by omega, rfl⟩
            case round =>
              obtain ⟨j, rfl, hjg, hw5⟩ := hrel
              subst hw5
              have HJG := Lib.hid hjg
              by_cases hjn : j < N5
              · have x1 : decide (j < N5) = true := by simp; omega
                have x2 : decide ((j : Int) < (N5 : Int)) = true := by simp; omega
                have x3 : (0 : Int) ≤ (j : Int) := by omega
                have x4 : (j : Int) < (N5 : Int) := by omega
                have wj : IntKind.i64.wrap ((j : Int) + 1) = ((j + 1 : Nat) : Int) := by rw [IntWalk.i64_in _ (by have := HR.out.2.2.1; omega)]; push_cast; rfl
                have hlen4 : ∀ k, k < n → (d4.S k).length = 512 := fun k hk => v5.dk.sec.len k hk
                have hiv := img_vst HN.out.1 KI.out.2.2.2 HO4.out.vd.kp.len KI.out.2.1 hlen4 j (by rw [← HR.out.2.1]; exact hjn)
                have efr : 512 * (2 + C1 % 2 * ((n - 2) / 2)) = fr := by rw [HP.out.2.2.2.1, HP.out.2.2.1, HP.out.2.1, HP.out.1, HR.out.1]
                have ehp : 512 * (C1 % 2) = hp5 := by rw [HP.out.2.2.2.2.1, HP.out.1]
                rw [efr, ehp, ← HDB.out.1] at hiv
                have HIV := Lib.hid hiv
                clear hiv
                have efe := HP.out.2.2.2.2.2.2.2.1
                have ehq := HP.out.2.2.2.2.2.1
                have HJN := Lib.hid hjn
                have hfr2 : 1024 ≤ fr := by rw [HP.out.2.2.2.1, HP.out.2.2.1]; exact Nat.le_trans (by decide : 1024 ≤ 512 * 2) (Nat.mul_le_mul_left 512 (Nat.le_add_right 2 ps))
                have hhp2 : hp5 ≤ 512 := by rw [HP.out.2.2.2.2.1, HP.out.1]; exact Nat.le_trans (Nat.mul_le_mul_left 512 (Nat.le_of_lt_succ (Nat.mod_lt C1 (by decide)))) (by decide)
                clear hjg hlen4 efr ehp hjn
                by_cases hin : fr ≤ j ∧ j < fr + m
                · obtain ⟨a, ha⟩ : ∃ a, ao = some a := by
                    cases e : ao with
                    | none => have := HDB.out.2.2.1.nil e; have h1 := HDB.out.1; rw [this] at h1; simp at h1; omega
                    | some a => exact ⟨a, rfl⟩
                  obtain ⟨i9, hi9⟩ : ∃ i9, i9 = j - fr := ⟨_, rfl⟩
                  have hi9m : i9 < m := by omega
                  obtain ⟨z, hz⟩ : ∃ z, D[i9]? = some z := ⟨_, List.getElem?_eq_getElem (by rw [← HDB.out.1]; exact hi9m)⟩
                  have k1 := KI.out.1 j z (by rw [HIV.out.1 hin, ← hi9, hz])
                  have hbz := HDB.out.2.2.1.cells a ha i9 z hz
                  have k2 : wr.cell? (a.add i9) = some (c8 z) := (World.cell?_of_block (v5.bl.block _ (World.block_lt_of_cell? _ _ hbz))).trans hbz
                  subst ha
                  unfold c8 at k1 k2
                  obtain ⟨zz, hzz⟩ : ∃ zz, zz = bt z := ⟨_, rfl⟩
                  rw [← hzz] at k1 k2
                  have y1 : decide ((j : Int) ≥ (fr : Int)) = true := by simp; omega
                  have y2 : decide (fr ≤ j) = true := by simp; omega
                  have y3 : decide ((j : Int) < (fe : Int)) = true := by simp; omega
                  have y4 : decide (j < fe) = true := by simp; omega
                  have y5 : IntKind.i64.wrap ((j : Int) - (fr : Int)) = (i9 : Int) := by rw [IntWalk.i64_in _ (by have := HR.out.2.2.1; omega)]; omega
                  have y5b : wrap64 ((j : Int) - (fr : Int)) = (i9 : Int) := by rw [← IntWalk.i64_left]; exact y5
                  have y6 : (0 : Int) ≤ (i9 : Int) := by omega
                  have y7 : (i9 : Int) < (m : Int) := by omega
                  have y8 : decide ((j : Int) ≥ (hp5 : Int)) = true := by simp; omega
                  have y9 : decide (hp5 ≤ j) = true := by simp; omega
                  have y10 : decide ((j : Int) < (hq5 : Int)) = false := by simp; omega
                  have y11 : decide (j < hq5) = false := by simp; omega
                  clear hin hi9 hi9m hz hbz hzz efe ehq hfr2 hhp2
                  obtain ⟨e1, e2, e3, e4, e5, e6, e7, e8, g2, g3, g4, g5, g6, g7, g8⟩ := HWR.out
                  go_wp2_with fail
                  go_roundg (gk - 1)
                  case measure => have := HJG.out; have := HJN.out; omega
                  case rel => exact ⟨j + 1, by push_cast; rfl, by have := HJG.out; have := HJN.out; omega, rfl⟩
                · have hz0 : ¬ (hp5 ≤ j ∧ j < hp5 + 16) → wr.cell? ⟨qi, j, none⟩ = some (.int .u8 0) := fun h => by rw [KI.out.1 j 0#8 (HIV.out.2 hin h)]; rfl
                  have y34 : (decide ((j : Int) ≥ (fr : Int)) = false ∧ decide (fr ≤ j) = false) ∨ (decide ((j : Int) ≥ (fr : Int)) = true ∧ decide (fr ≤ j) = true ∧ decide ((j : Int) < (fe : Int)) = false ∧ decide (j < fe) = false) := by
                    by_cases h : fr ≤ j
                    · exact .inr ⟨by simp; omega, by simp; omega, by simp; omega, by simp; omega⟩
                    · exact .inl ⟨by simp; omega, by simp; omega⟩
                  have y56 : (decide ((j : Int) ≥ (hp5 : Int)) = false ∧ decide (hp5 ≤ j) = false ∧ wr.cell? ⟨qi, j, none⟩ = some (.int .u8 0)) ∨ (decide ((j : Int) ≥ (hp5 : Int)) = true ∧ decide (hp5 ≤ j) = true ∧ decide ((j : Int) < (hq5 : Int)) = false ∧ decide (j < hq5) = false ∧ wr.cell? ⟨qi, j, none⟩ = some (.int .u8 0)) ∨
                      (decide ((j : Int) ≥ (hp5 : Int)) = true ∧ decide (hp5 ≤ j) = true ∧ decide ((j : Int) < (hq5 : Int)) = true ∧ decide (j < hq5) = true) := by
                    by_cases h : hp5 ≤ j
                    · by_cases h2 : j < hq5
                      · exact .inr (.inr ⟨by simp; omega, by simp; omega, by simp; omega, by simp; omega⟩)
                      · exact .inr (.inl ⟨by simp; omega, by simp; omega, by simp; omega, by simp; omega, hz0 (by omega)⟩)
                    · exact .inl ⟨by simp; omega, by simp; omega, hz0 (by omega)⟩
                  clear hin hz0 efe ehq hfr2 hhp2
                  rcases y34 with ⟨y1, y2⟩ | ⟨y1, y2, y3, y4⟩ <;> rcases y56 with ⟨y5, y6, y7⟩ | ⟨y5, y6, y7, y8, y9⟩ | ⟨y5, y6, y7, y8⟩
                  all_goals
                    obtain ⟨e1, e2, e3, e4, e5, e6, e7, e8, g2, g3, g4, g5, g6, g7, g8⟩ := HWR.out
                    go_wp2_with fail
                    go_roundg (gk - 1)
                    case measure => have := HJG.out; have := HJN.out; omega
                    case rel => exact ⟨j + 1, by push_cast; rfl, by have := HJG.out; have := HJN.out; omega, rfl⟩
              · have x1 : decide (j < N5) = false := by simp; omega
                have x2 : decide ((j : Int) < (N5 : Int)) = false := by simp; omega
                have x3 : ¬ (j : Int) < (N5 : Int) := by omega
                clear hjg hjn
                go_upto_region 29 with fail
                have hC1p := KI.out.2.2.2
                have hh4 := HP.out.2.2.2.2.2.2.1
                have ehp : 512 * (C1 % 2) = hp5 := by rw [HP.out.2.2.2.2.1, HP.out.1]
                have hsg : ∀ j, j < 4 → (img d4.S n)[hp5 + j]? = sg[j]? := fun j hj => by
                  have := img_sg HN.out.1 hC1p KI.out.2.1 (fun k hk => v5.dk.sec.len k hk) j hj
                  rw [ehp] at this
                  exact this
                have hhp2 : hp5 ≤ 512 := by rw [HP.out.2.2.2.2.1, HP.out.1]; exact Nat.le_trans (Nat.mul_le_mul_left 512 (Nat.le_of_lt_succ (Nat.mod_lt C1 (by decide)))) (by decide)
                have bsg : Bys wr (some ⟨qi, hp5, none⟩) sg := ⟨(fun e => by cases e), fun a ha j x hx => by
                  injection ha with ha
                  subst ha
                  have hj : j < 4 := (List.getElem?_eq_some_iff.1 hx).1
                  rw [Addr.add_mid]
                  exact KI.out.1 (hp5 + j) x (by rw [hsg j hj]; exact hx)⟩
                have kS := conv_bys (n := 4) (c := ci - hp5) rfl bsg
                have kst : ((strOf sg).toList == [83, 79, 68, 65]) = true := by kernel_rfl
                obtain ⟨St, hSt⟩ : ∃ St, St = strOf sg := ⟨_, rfl⟩
                rw [← hSt] at kS kst
                clear hSt
                have s1 : (0 : Int) ≤ (hp5 : Int) := by omega
                have s2 : (hp5 : Int) ≤ (h4 : Int) := by omega
                have hqi := HQI.out
                have hN5 := HR.out.2.1
                have hn4 := HN.out.1
                have s3 : (h4 : Int) ≤ (ci : Int) := by omega
                have s4 : h4 - hp5 = 4 := by omega
                have s5 : hp5 ≤ h4 := by omega
                have s6 : h4 ≤ ci := by omega
                clear hqi hN5 hn4 hhp2 hsg ehp hh4 hC1p bsg
                obtain ⟨e1, -, -, -, e5, -, e7, -, -, -, -, -, -, -, -⟩ := HWR.out
                go_wp2_with fail
                go_roundg (go - 1)
                case measure => have := HGO.out; have := HIG.out.1; have := HIL.out; omega
                case rel => exact ⟨i + 1, C1, D, A, d4, rfl, by push_cast; rfl, by have := HGO.out; have := HIG.out.1; have := HIL.out; omega, by have := HIG.out.2; have := HC1.out; omega, by rw [HC1.out]; exact HO4.out.vd.below KI.out.2.2.1, HO4.out.fuse, by rw [HC1.out]; exact HO4.out.vk.below KI.out.2.2.1, Lib.hid KI.out.2.1⟩
          · have H10 := putR HV.out.1.dk HN.out.1 (by have := HN.out; omega) vb HV.out.2.2.1.blk ao m c (by rw [← HR.out.1]; exact Nat.lt_of_not_le hfit)
            clear hbig hfit
            go_wp2_with (first
              | (go_at_call 10; (with_reducible refine H10.mono ?_); rintro e w4 ⟨rfl, b4⟩; clear H10))
            go_roundg (gk - 1)
            case measure => have := HIG.out.1; have := HIL.out; omega
            case rel => exact ⟨i + 1, C, B, A, d, rfl, by push_cast; rfl, by have := HIG.out.1; have := HIL.out; omega, by have := HIG.out.2; omega, HV.out.1.below b4, HV.out.2.1, HV.out.2.2.1.below b4, Lib.hid HV.out.2.2.2⟩
      · have i1 : decide (i < len) = false := by simp; omega
        have i2 : decide ((i : Int) < (len : Int)) = false := by simp; omega
        have i3 : ¬ (i : Int) < (len : Int) := by omega
        clear hig hCi hil hv hu hkv hvs
        go_wp2_with fail
        go_ret
        exact ⟨rfl, HV.out.1.bl⟩
end Go.Proofs.Ytjabkfccfecmgaa
