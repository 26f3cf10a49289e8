/- VaultWrong: the walk. -/
import Derived.Test.YtjabkfccfecmgaaQ2
namespace Go.Proofs.Ytjabkfccfecmgaa
open Go.ChangeShapes Go.WideShapes Go.ChangeAt Go.RowKit
set_option linter.unusedSimpArgs false
set_option linter.unusedVariables false
theorem own_im {w : World} {base N : Nat} {v : Value} {T : List Byte} (h : Own w base v N T) (hN : 0 < N) : ∃ q c, v = .slice (some ⟨q, 0, none⟩) N c ∧ base ≤ q ∧ N ≤ c ∧ Im w q N (fun j => (T[j]?).getD 0#8) := by
  have hl : T.length = N := by have := h.1; simp at this; omega
  rcases h.2 with ⟨_, e0⟩ | ⟨b, cap, cur, rfl, hb, hh, hnc, hcap, hsz, htk⟩
  · omega
  · refine ⟨b, cap, rfl, hb, hnc, cur, hh, fun j hj => ?_⟩
    have h1 : (cur.toList.take (N * 1))[j]? = (T.map c8)[j]? := by rw [htk]
    rw [List.getElem?_take, if_pos (by omega), List.getElem?_map, List.getElem?_eq_getElem (show j < T.length by omega)] at h1
    show cur[j]? = some (c8 ((T[j]?).getD 0#8))
    rw [List.getElem?_eq_getElem (show j < T.length by omega)]
    simpa using h1
theorem fT_step (D : List Byte) {i : Nat} (hi : i < 512) (k : Nat) (hk : k < 3072) : (if k = 512 + i then fT D i i else if k = i then fT D i (512 + i) else fT D i k) = fT D (i + 1) k := by
  unfold fT
  by_cases h1 : k = 512 + i
  · subst h1
    rw [if_pos rfl, if_neg (by omega), if_neg (by omega), if_neg (by omega), if_pos (by omega), show 512 + i - 512 = i by omega]
  · rw [if_neg h1]
    by_cases h2 : k = i
    · subst h2
      rw [if_pos rfl, if_neg (by omega), if_neg (by omega), if_pos (by omega), show k + 512 = 512 + k by omega]
    · rw [if_neg h2]
      by_cases h3 : k < i
      · rw [if_pos h3, if_pos (by omega)]
      · rw [if_neg h3, if_neg (show ¬ k < i + 1 by omega)]
        by_cases h4 : 512 ≤ k ∧ k < 512 + i
        · rw [if_pos h4, if_pos (by omega)]
        · rw [if_neg h4, if_neg (by omega)]
theorem vst_len {D : List Byte} {k : Nat} (hD : D.length ≤ 1024) (hk : k < 6) : (vst 6 1 D k).length = 512 := by
  unfold vst
  split
  · exact zs_len
  · split
    · exact hd_len _ _
    · split
      · exact padd_len (chk_le _ _)
      · exact zs_len
set_option maxRecDepth 20000 in
set_option maxHeartbeats 16000000 in
theorem wrong6 (lb cb at_ by_ : Nat) (td : Bool) (bo : Option Addr) (E : List Byte) (w0 : World) (hat : at_ < 65536) (hby : by_ < 256) (hlb : lb = E.length) (hcb : lb ≤ cb) (hb : Bys w0 bo E) :
    Calls Try.prog 6 #[.slice bo lb cb, .int .u16 (at_ : Int), .int .u8 (by_ : Int), .bool td] w0 fun e w' => e = .returned (.bool true) ∧ Below w0.heap.size w0 w' := by
  have HE := Lib.hid (And.intro hlb (And.intro hcb hb))
  have HA := Lib.hid (And.intro hat hby)
  have H7 := Lib.hid head7
  have N6 : Hid (∀ w, Calls Try.prog 8 #[.int .i64 6] w fun e w' => ∃ g b, e = .returned (.pointer (some ⟨g, 0, none⟩)) ∧ w.heap.size ≤ b ∧ (∀ A, Dk A w' g b 6 d0) ∧ Below w.heap.size w w') := Lib.hid (fun w => new8 6 w (by omega))
  clear hlb hcb hb hat hby
  go_enter Try.func6, Try.ntmps6
  go_upto_region 3 with (first
    | (go_at_call 7; (with_reducible refine (H7.out _).mono ?_); rintro e w1 ⟨rfl, b1⟩)
    | (go_at_call 8; (with_reducible refine (N6.out _).mono ?_); rintro e w2 ⟨g, b, rfl, hb, hD, b2⟩))
  have v2 := vd_new (w1 := w0) (by omega) b1 hb hD b2
  have H9 := open1 v2 (by omega) (by omega) rfl (by omega)
  clear hb hD b2 v2 b1
  go_upto_region 4 with (first
    | (go_at_call 9; (with_reducible refine H9.mono ?_); rintro e w3 ⟨A3, d3, vb, a3, c3, o3⟩; obtain rfl := o3.ret))
  have HO := Lib.hid o3
  clear H9 o3
  have H11 : Calls Try.prog 11 #[.pointer (some ⟨vb, 0, none⟩)] w3 fun e w' => e = .returned (.int .i64 1024) ∧ w' = w3 := room11 HO.out.vd.dk (by omega) (by omega) HO.out.vb.blk
  by_cases hfit : 1024 < lb
  · have x1 : decide ((lb : Int) > 1024) = true := by simp; omega
    have x2 : decide (1024 < lb) = true := by simp; omega
    clear hfit
    go_wp2_with (first
      | (go_at_call 11; (with_reducible refine H11.mono ?_); rintro e w4 ⟨rfl, hw⟩; obtain rfl : w3 = w4 := hw.symm))
    go_ret
    exact ⟨rfl, HO.out.vd.bl⟩
  · have x1 : decide ((lb : Int) > 1024) = false := by simp; omega
    have x2 : decide (1024 < lb) = false := by simp; omega
    have HF := Lib.hid (show E.length ≤ 1024 by rw [← HE.out.1]; omega)
    have H10 := put1 (D := E) HO.out.vd HO.out.vb (by omega) (by omega) HO.out.fuse (by omega) bo lb cb HE.out.1 HE.out.2.1 (HO.out.vd.obs HE.out.2.2 (bys_lt HE.out.2.2)) (by omega)
    clear hfit
    go_upto_region 8 with (first
      | (go_at_call 11; (with_reducible refine H11.mono ?_); rintro e w4 ⟨rfl, hw⟩; obtain rfl : w3 = w4 := hw.symm)
      | (go_at_call 10; (with_reducible refine H10.mono ?_); rintro e w4 ⟨d4, o4⟩; obtain rfl := o4.ret))
    have H15 := image11 _ w4 g b 6 _ o4.vd.dk
    have vS : ∀ k, k < 6 → d4.S k = vst 6 1 E k := by
      rw [o4.S]
      refine vst_put (C := 0) (B := []) (Nat.zero_le _) o4.vd.kp.len fun k hk => ?_
      have hz : vst 6 0 [] k = zs := by unfold vst; rw [if_pos rfl]
      rcases HO.out.same k with e | e
      · rw [e, hz]; rfl
      · rw [e.1, hz]
    have hl4 : ∀ k, k < 6 → (d4.S k).length = 512 := fun k hk => o4.vd.dk.sec.len k hk
    have HV4 := Lib.hid (And.intro o4.vd.bl (And.intro vS hl4))
    obtain ⟨N3, hN3⟩ : ∃ N3, N3 = 6 * 512 := ⟨_, rfl⟩
    rw [← hN3] at H15
    have HN3 := Lib.hid (show N3 = 3072 by omega)
    clear H10 H11 o4 vS hl4
    go_upto_region 9 with (first
      | (go_at_call 15; (with_reducible refine H15.mono ?_); rintro e w5 ⟨vi, rfl, oi, b5⟩; obtain ⟨qi, ci, rfl, hqb, hqc, him⟩ := own_im oi (by omega)))
    have im5 : Im w5 qi N3 (fV E) := him.congr fun k hk => by
      rw [img_get 6 HV4.out.2.2 k (by omega), HV4.out.2.1 _ (by omega)]; rfl
    have bl5 : Below w0.heap.size w0 w5 := below_then HV4.out.1 b5
    have hqs : w0.heap.size ≤ qi := Nat.le_trans HV4.out.1.size hqb
    have HI := Lib.hid (And.intro im5 (And.intro bl5 (And.intro hqs hqc)))
    clear oi b5 him im5 bl5 hqs hqc hqb H15 hN3
    have hn3 := HN3.out
    subst hn3
    cases td with
    | true =>
      go_wp2_with fail
      go_loopg [15, 16] 512 (fun gk v15 v16 wr => ∃ i : Nat, v15 = .int .i64 i ∧ i + gk = 512 ∧ Im wr qi 3072 (fT E i) ∧ Below w0.heap.size w0 wr)
      case atStart => exact ⟨0, rfl, by omega, HI.out.1.congr fun k hk => by unfold fT; rw [if_neg (by omega), if_neg (by omega)], HI.out.2.1⟩
      case round =>
        obtain ⟨i, rfl, hig, him, hbl⟩ := hrel
        have HIG := Lib.hid hig
        have HIM := Lib.hid (And.intro him hbl)
        by_cases hi : i < 512
        · skip
          have k1 := him.cell (j := i) (by omega)
          have k2 := him.cell (j := 512 + i) (by omega)
          have f1 := him.frozen i
          obtain ⟨z1, hz1⟩ : ∃ z, z = bt (fT E i i) := ⟨_, rfl⟩
          obtain ⟨z2, hz2⟩ : ∃ z, z = bt (fT E i (512 + i)) := ⟨_, rfl⟩
          unfold c8 at k1 k2
          rw [← hz1] at k1
          rw [← hz2] at k2
          have s1 := him.set i (fT E i (512 + i))
          unfold c8 at s1
          rw [← hz2] at s1
          have k3 := s1.cell (j := 512 + i) (by omega)
          have f3 := s1.frozen (512 + i)
          have s2 := s1.set (512 + i) (fT E i i)
          unfold c8 at s2
          rw [← hz1] at s2
          have i1 : decide (i < 512) = true := by simp; omega
          have i2 : decide ((i : Int) < 512) = true := by simp; omega
          have i3 : (0 : Int) ≤ (i : Int) := by omega
          have i4 : (i : Int) < 3072 := by omega
          have HII := Lib.hid (And.intro hi s2)
          obtain ⟨w6, hw6⟩ : ∃ w6, wr.setCell ⟨qi, i, none⟩ (.int .u8 z2) = w6 := ⟨_, rfl⟩
          rw [hw6] at k3 f3
          have HW6 := Lib.hid hw6
          have h36 := Lib.hid (And.intro k3 f3)
          clear hig him hbl hz1 hz2 s1 s2 k3 f3 hw6
          go_upto_region 17 with fail
          rw [HW6.out]
          obtain ⟨k3, f3⟩ := h36.out
          clear k1 k2 f1
          go_wp2_with fail
          go_roundg (gk - 1)
          case measure => have := HIG.out; have := HII.out.1; omega
          case rel =>
            refine ⟨i + 1, by push_cast; rfl, by have := HIG.out; have := HII.out.1; omega, ?_, ?_⟩
            · rw [← HW6.out]
              refine HII.out.2.congr fun k hk => ?_
              exact fT_step E HII.out.1 k (by omega)
            · rw [← HW6.out]
              exact (HIM.out.2.setCell (p := ⟨qi, i, none⟩) HI.out.2.2.1 _).setCell (p := ⟨qi, 512 + i, none⟩) HI.out.2.2.1 _
        · have i1 : decide (i < 512) = false := by simp; omega
          have i2 : decide ((i : Int) < 512) = false := by simp; omega
          have i3 : ¬ (i : Int) < 512 := by omega
          have e512 : i = 512 := by omega
          subst e512
          clear hig hi
          go_upto_region 21 with fail
          have imv := HIM.out.1
          have blv := HIM.out.2
          obtain ⟨T, hT⟩ : ∃ T, T = lst 3072 (fT E 512) := ⟨_, rfl⟩
          have hTl : T.length = 3072 := by rw [hT, lst_len]
          have H16 := of19 wr qi 0 ci 3072 6 T hTl.symm (by omega) (by omega) HI.out.2.2.2 (by rw [hT]; exact imv.rng) imv.lt
          have HT := Lib.hid (And.intro imv (And.intro blv (And.intro hT hTl)))
          clear imv blv hT hTl
          go_upto_region 22 with (first
            | (go_at_call 16; (with_reducible refine H16.mono ?_); rintro e wx ⟨gx, bx, rfl, hbx, hDx, bx1⟩))
          have hT3 : T = lst 3072 (fT E 512) := HT.out.2.2.1
          have hDT := hDx (fun _ => False)
          rw [hT3] at hDT
          have H9 := wrong_T hDT HF.out
          have HDX := Lib.hid (And.intro (hDx (fun _ => False)) bx1)
          clear H16 hDx hbx bx1 hDT
          go_upto_region 27 with (first
            | (go_at_call 9; (with_reducible refine H9.mono ?_); rintro e wy ⟨rfl, by1⟩))
          obtain ⟨wv2, hwv2⟩ : ∃ wv2, wv2 = wy := ⟨_, rfl⟩
          have bxy := below_then HDX.out.2 by1
          have HXD := Lib.hid (And.intro (HDX.out.1.below by1) (And.intro (show 3072 = 6 * 512 from rfl) (And.intro (img_sec (n := 6) (by rw [HT.out.2.2.2])) (And.intro HT.out.2.2.2.symm (show Bys wy (some ⟨qi, 0, none⟩) T from bys_rng (by rw [HT.out.2.2.1]; exact (HT.out.1.keep (bxy.block qi HT.out.1.lt)).rng))))))
          have HBL := Lib.hid (below_then HT.out.2.1 bxy)
          clear hwv2 wv2 bxy by1 H9 hT3
          refine region_monoL (fun x => Below wy.heap.size wy x) (fun w w' => Below w.heap.size w w') (V27 gx qi 3072 ci T) [(0, some 118), (1, some 119), (2, some 120), (3, some 121), (4, some 122), (5, some 123), (6, some 124), (7, some 125), (8, some 126), (9, some 127), (10, some 128), (11, some 129), (12, some 130), (13, some 131), (14, some 132), (15, some 133), (16, some 134), (17, some 8)] (by kernel_rfl) (by kernel_rfl) (by kernel_rfl) (fun _ _ h r => below_then h r) (fun i1 v1 w1 w2 _ h1 r1 => V27_keep gx qi 3072 ci T i1 v1 w1 w2 h1 r1) ((Below.refl _ wy).drew) ?_ (fun vs wE hS hV => ?_)
          · refine StepsL.cons0  (by kernel_rfl)  ?_ ?_
            · rintro w1 hS  K hK
              (try simp only [Act.put, List.setIfInBounds_toArray, List.set_cons_zero, List.set_cons_succ])
              go_simp
              exact hK.out _ _ rfl (Below.refl _ _)
            refine StepsL.cons1 0 (some 118) (by kernel_rfl) rfl ?_ ?_
            · rintro w1 hS _ rfl K hK
              (try simp only [Act.put, List.setIfInBounds_toArray, List.set_cons_zero, List.set_cons_succ])
              go_simp
              exact hK.out _ _ rfl (Below.refl _ _)
            refine StepsL.cons1 1 (some 119) (by kernel_rfl) rfl ?_ ?_
            · rintro w1 hS _ rfl K hK
              (try simp only [Act.put, List.setIfInBounds_toArray, List.set_cons_zero, List.set_cons_succ])
              go_simp
              exact hK.out _ _ rfl (Below.refl _ _)
            refine StepsL.cons2 1 (some 119) 2 (some 120) (by kernel_rfl) rfl rfl ?_ ?_
            · rintro w1 hS _ rfl _ rfl K hK
              (try simp only [Act.put, List.setIfInBounds_toArray, List.set_cons_zero, List.set_cons_succ])
              go_simp
              exact hK.out _ _ rfl (Below.refl _ _)
            refine StepsL.cons2 1 (some 119) 3 (some 121) (by kernel_rfl) rfl rfl ?_ ?_
            · rintro w1 hS _ rfl _ rfl K hK
              (try simp only [Act.put, List.setIfInBounds_toArray, List.set_cons_zero, List.set_cons_succ])
              go_simp
              exact hK.out _ _ rfl (Below.refl _ _)
            refine StepsL.cons1 4 (some 122) (by kernel_rfl) rfl ?_ ?_
            · rintro w1 hS _ rfl K hK
              (try simp only [Act.put, List.setIfInBounds_toArray, List.set_cons_zero, List.set_cons_succ])
              go_simp
              exact hK.out _ _ rfl (Below.refl _ _)
            refine StepsL.cons1 5 (some 123) (by kernel_rfl) rfl ?_ ?_
            · rintro w1 hS _ rfl K hK
              (try simp only [Act.put, List.setIfInBounds_toArray, List.set_cons_zero, List.set_cons_succ])
              go_simp
              exact hK.out _ _ rfl (Below.refl _ _)
            refine StepsL.cons2 5 (some 123) 6 (some 124) (by kernel_rfl) rfl rfl ?_ ?_
            · rintro w1 hS _ rfl _ rfl K hK
              (try simp only [Act.put, List.setIfInBounds_toArray, List.set_cons_zero, List.set_cons_succ])
              go_simp
              exact hK.out _ _ rfl (Below.refl _ _)
            refine StepsL.cons2 5 (some 123) 7 (some 125) (by kernel_rfl) rfl rfl ?_ ?_
            · rintro w1 hS _ rfl _ rfl K hK
              (try simp only [Act.put, List.setIfInBounds_toArray, List.set_cons_zero, List.set_cons_succ])
              go_simp
              exact hK.out _ _ rfl (Below.refl _ _)
            refine StepsL.cons1 8 (some 126) (by kernel_rfl) rfl ?_ ?_
            · rintro w1 hS _ rfl K hK
              (try simp only [Act.put, List.setIfInBounds_toArray, List.set_cons_zero, List.set_cons_succ])
              go_simp
              exact hK.out _ _ rfl (Below.refl _ _)
            refine StepsL.cons1 9 (some 127) (by kernel_rfl) rfl ?_ ?_
            · rintro w1 hS _ rfl K hK
              (try simp only [Act.put, List.setIfInBounds_toArray, List.set_cons_zero, List.set_cons_succ])
              go_simp
              exact hK.out _ _ rfl (Below.refl _ _)
            refine StepsL.cons2 9 (some 127) 10 (some 128) (by kernel_rfl) rfl rfl ?_ ?_
            · rintro w1 hS _ rfl _ rfl K hK
              (try simp only [Act.put, List.setIfInBounds_toArray, List.set_cons_zero, List.set_cons_succ])
              have HC := image11 _ w1 gx bx 6 _ (HXD.out.1.below hS)
              go_simp
              go_at_call 15
              (with_reducible refine HC.mono ?_)
              rintro e w2 ⟨v2, rfl, o2, b2⟩
              obtain ⟨a2, c2, rfl⟩ := row_form o2
              exact hK.out _ _ ⟨a2, c2, by rw [HXD.out.2.1], by rw [← HXD.out.2.2.1]; exact bys_own o2⟩ b2
            refine StepsL.cons2 9 (some 127) 11 (some 129) (by kernel_rfl) rfl rfl ?_ ?_
            · rintro w1 hS _ rfl _ ⟨a11, c11, rfl, y11⟩ K hK
              (try simp only [Act.put, List.setIfInBounds_toArray, List.set_cons_zero, List.set_cons_succ])
              have hk := conv_bys (c := c11) HXD.out.2.2.2.1 y11
              go_simp
              exact hK.out _ _ rfl (Below.refl _ _)
            refine StepsL.cons1 9 (some 127) (by kernel_rfl) rfl ?_ ?_
            · rintro w1 hS _ rfl K hK
              (try simp only [Act.put, List.setIfInBounds_toArray, List.set_cons_zero, List.set_cons_succ])
              go_simp
              exact hK.out _ _ rfl (Below.refl _ _)
            refine StepsL.cons2 9 (some 127) 13 (some 131) (by kernel_rfl) rfl rfl ?_ ?_
            · rintro w1 hS _ rfl _ rfl K hK
              (try simp only [Act.put, List.setIfInBounds_toArray, List.set_cons_zero, List.set_cons_succ])
              have hk := conv_bys (c := ci) HXD.out.2.2.2.1 (HXD.out.2.2.2.2.below hS)
              go_simp
              exact hK.out _ _ rfl (Below.refl _ _)
            refine StepsL.cons3 9 (some 127) 12 (some 130) 14 (some 132) (by kernel_rfl) rfl rfl rfl ?_ ?_
            · rintro w1 hS _ rfl _ rfl _ rfl K hK
              (try simp only [Act.put, List.setIfInBounds_toArray, List.set_cons_zero, List.set_cons_succ])
              go_simp
              exact hK.out _ _ rfl (Below.refl _ _)
            refine StepsL.cons2 9 (some 127) 15 (some 133) (by kernel_rfl) rfl rfl ?_ ?_
            · rintro w1 hS _ rfl _ rfl K hK
              (try simp only [Act.put, List.setIfInBounds_toArray, List.set_cons_zero, List.set_cons_succ])
              go_simp
              exact hK.out _ _ rfl (Below.refl _ _)
            refine StepsL.cons1 16 (some 134) (by kernel_rfl) rfl ?_ ?_
            · rintro w1 hS _ rfl K hK
              (try simp only [Act.put, List.setIfInBounds_toArray, List.set_cons_zero, List.set_cons_succ])
              go_simp
              exact hK.out _ _ rfl (Below.refl _ _)
            exact StepsL.nil
          have e17 : vs 17 = .bool true := hV 17 (by decide)
          have bE : Below wy.heap.size wy wE := hS
          simp only [putl, List.foldl_cons, List.foldl_nil, Act.put, List.setIfInBounds_toArray, List.set_cons_zero, List.set_cons_succ]
          rw [e17]
          have HBE := Lib.hid bE
          clear hV hS e17 bE
          go_wp2_with fail
          go_ret
          exact ⟨rfl, below_then HBL.out HBE.out⟩
    | false =>
      by_cases hby0 : by_ = 0
      · have y1 : ((by_ : Int) != 0) = false := by rw [hby0]; rfl
        have y2 : ((by_ : Int) == 0) = true := by rw [hby0]; rfl
        have y3 : (by_ == 0) = true := by rw [hby0]; rfl
        clear hby0
        go_upto_region 21 with fail
        have imv := HI.out.1
        have blv := HI.out.2.1
        obtain ⟨T, hT⟩ : ∃ T, T = lst 3072 (fV E) := ⟨_, rfl⟩
        have hTl : T.length = 3072 := by rw [hT, lst_len]
        have H16 := of19 w5 qi 0 ci 3072 6 T hTl.symm (by omega) (by omega) HI.out.2.2.2 (by rw [hT]; exact imv.rng) imv.lt
        have HT := Lib.hid (And.intro imv (And.intro blv (And.intro hT hTl)))
        clear imv blv hT hTl
        go_upto_region 22 with (first
          | (go_at_call 16; (with_reducible refine H16.mono ?_); rintro e wx ⟨gx, bx, rfl, hbx, hDx, bx1⟩))
        have hT3 : T = lst 3072 (fV E) := HT.out.2.2.1
        have vZ : Vd w0 (fun k => wx.heap.size ≤ k) wx gx bx 6 1 E (dOf T 6) := ⟨below_then HT.out.2.1 bx1, hDx _, fun k hk => hk, fun k hk e => by have := HT.out.2.1.size; have := bx1.size; omega, Nat.le_trans HT.out.2.1.size hbx, rfl, rfl, vst_Kp HF.out (fun e => by cases e) (fun k hk => by
          show SI T 6 k = _
          unfold SI
          rw [if_pos hk, hT3]
          exact sec_is (by omega) (vst_len HF.out hk) fun r hr => by
            unfold fV
            rw [show (k * 512 + r) / 512 = k by omega, show (k * 512 + r) % 512 = r by omega, List.getElem?_eq_getElem (by rw [vst_len HF.out hk]; exact hr)]; rfl) (by omega)⟩
        have H9 := open1 vZ (by omega) (by omega) rfl (by omega)
        clear H16 hDx hbx bx1 hT3 vZ
        go_wp2_with (first
          | (go_at_call 9; (with_reducible refine H9.mono ?_); rintro e wQ ⟨AQ, dQ, qQ, aQ, cQ, oQ⟩; obtain rfl := oQ.ret))
        go_ret
        exact ⟨rfl, oQ.vd.bl⟩
      · have y1 : ((by_ : Int) != 0) = true := by simp; omega
        have y2 : ((by_ : Int) == 0) = false := by simp; omega
        have y3 : (by_ == 0) = false := by simp; omega
        obtain ⟨kk, hkk⟩ : ∃ kk, kk = 528 + at_ % 496 := ⟨_, rfl⟩
        have ek2 : 528 + (at_ : Int) % 496 = (kk : Int) := by omega
        have hkb : kk < 1024 := by omega
        have k3 := HI.out.1.cell (j := kk) (by omega)
        have f3 := HI.out.1.frozen kk
        have hxb : c8 (BitVec.ofNat 8 by_) = .int .u8 (by_ : Int) := by unfold c8 bt; rw [BitVec.toNat_ofNat, Nat.mod_eq_of_lt (by have := HA.out.2; omega)]
        have s2 := HI.out.1.set kk (BitVec.ofNat 8 by_)
        rw [hxb] at s2
        have HS2 := Lib.hid (And.intro s2 (And.intro (show 528 ≤ kk ∧ kk < 1024 by omega) (show BitVec.ofNat 8 by_ ≠ 0#8 from fun e => by
          have h1 := congrArg BitVec.toNat e
          rw [BitVec.toNat_ofNat, Nat.mod_eq_of_lt (by have := HA.out.2; omega)] at h1
          exact hby0 h1)))
        have hat := HA.out.1
        clear hby0 hkk hxb s2
        go_upto_region 21 with fail
        obtain ⟨wv, hwv⟩ : ∃ wv, w5.setCell ⟨qi, kk, none⟩ (.int .u8 (by_ : Int)) = wv := ⟨_, rfl⟩
        have imv : Im wv qi 3072 (fB E kk (BitVec.ofNat 8 by_)) := by rw [← hwv]; exact HS2.out.1
        have blv : Below w0.heap.size w0 wv := by rw [← hwv]; exact HI.out.2.1.setCell (p := ⟨qi, kk, none⟩) HI.out.2.2.1 _
        rw [hwv]
        clear hwv k3 f3
        obtain ⟨T, hT⟩ : ∃ T, T = lst 3072 (fB E kk (BitVec.ofNat 8 by_)) := ⟨_, rfl⟩
        have hTl : T.length = 3072 := by rw [hT, lst_len]
        have H16 := of19 wv qi 0 ci 3072 6 T hTl.symm (by omega) (by omega) HI.out.2.2.2 (by rw [hT]; exact imv.rng) imv.lt
        have HT := Lib.hid (And.intro imv (And.intro blv (And.intro hT hTl)))
        clear imv blv hT hTl
        go_upto_region 22 with (first
          | (go_at_call 16; (with_reducible refine H16.mono ?_); rintro e wx ⟨gx, bx, rfl, hbx, hDx, bx1⟩))
        have hT3 : T = lst 3072 (fB E kk (BitVec.ofNat 8 by_)) := HT.out.2.2.1
        have hDT := hDx (fun _ => False)
        rw [hT3] at hDT
        have H9 := wrong_B hDT HF.out HS2.out.2.1.1 HS2.out.2.1.2 HS2.out.2.2
        have HDX := Lib.hid (And.intro (hDx (fun _ => False)) bx1)
        clear H16 hDx hbx bx1 hDT
        go_upto_region 27 with (first
          | (go_at_call 9; (with_reducible refine H9.mono ?_); rintro e wy ⟨rfl, by1⟩))
        obtain ⟨wv2, hwv2⟩ : ∃ wv2, wv2 = wy := ⟨_, rfl⟩
        have bxy := below_then HDX.out.2 by1
        have HXD := Lib.hid (And.intro (HDX.out.1.below by1) (And.intro (show 3072 = 6 * 512 from rfl) (And.intro (img_sec (n := 6) (by rw [HT.out.2.2.2])) (And.intro HT.out.2.2.2.symm (show Bys wy (some ⟨qi, 0, none⟩) T from bys_rng (by rw [HT.out.2.2.1]; exact (HT.out.1.keep (bxy.block qi HT.out.1.lt)).rng))))))
        have HBL := Lib.hid (below_then HT.out.2.1 bxy)
        clear hwv2 wv2 bxy by1 H9 hT3
        refine region_monoL (fun x => Below wy.heap.size wy x) (fun w w' => Below w.heap.size w w') (V27 gx qi 3072 ci T) [(0, some 118), (1, some 119), (2, some 120), (3, some 121), (4, some 122), (5, some 123), (6, some 124), (7, some 125), (8, some 126), (9, some 127), (10, some 128), (11, some 129), (12, some 130), (13, some 131), (14, some 132), (15, some 133), (16, some 134), (17, some 8)] (by kernel_rfl) (by kernel_rfl) (by kernel_rfl) (fun _ _ h r => below_then h r) (fun i1 v1 w1 w2 _ h1 r1 => V27_keep gx qi 3072 ci T i1 v1 w1 w2 h1 r1) ((Below.refl _ wy).drew) ?_ (fun vs wE hS hV => ?_)
        · refine StepsL.cons0  (by kernel_rfl)  ?_ ?_
          · rintro w1 hS  K hK
            (try simp only [Act.put, List.setIfInBounds_toArray, List.set_cons_zero, List.set_cons_succ])
            go_simp
            exact hK.out _ _ rfl (Below.refl _ _)
          refine StepsL.cons1 0 (some 118) (by kernel_rfl) rfl ?_ ?_
          · rintro w1 hS _ rfl K hK
            (try simp only [Act.put, List.setIfInBounds_toArray, List.set_cons_zero, List.set_cons_succ])
            go_simp
            exact hK.out _ _ rfl (Below.refl _ _)
          refine StepsL.cons1 1 (some 119) (by kernel_rfl) rfl ?_ ?_
          · rintro w1 hS _ rfl K hK
            (try simp only [Act.put, List.setIfInBounds_toArray, List.set_cons_zero, List.set_cons_succ])
            go_simp
            exact hK.out _ _ rfl (Below.refl _ _)
          refine StepsL.cons2 1 (some 119) 2 (some 120) (by kernel_rfl) rfl rfl ?_ ?_
          · rintro w1 hS _ rfl _ rfl K hK
            (try simp only [Act.put, List.setIfInBounds_toArray, List.set_cons_zero, List.set_cons_succ])
            go_simp
            exact hK.out _ _ rfl (Below.refl _ _)
          refine StepsL.cons2 1 (some 119) 3 (some 121) (by kernel_rfl) rfl rfl ?_ ?_
          · rintro w1 hS _ rfl _ rfl K hK
            (try simp only [Act.put, List.setIfInBounds_toArray, List.set_cons_zero, List.set_cons_succ])
            go_simp
            exact hK.out _ _ rfl (Below.refl _ _)
          refine StepsL.cons1 4 (some 122) (by kernel_rfl) rfl ?_ ?_
          · rintro w1 hS _ rfl K hK
            (try simp only [Act.put, List.setIfInBounds_toArray, List.set_cons_zero, List.set_cons_succ])
            go_simp
            exact hK.out _ _ rfl (Below.refl _ _)
          refine StepsL.cons1 5 (some 123) (by kernel_rfl) rfl ?_ ?_
          · rintro w1 hS _ rfl K hK
            (try simp only [Act.put, List.setIfInBounds_toArray, List.set_cons_zero, List.set_cons_succ])
            go_simp
            exact hK.out _ _ rfl (Below.refl _ _)
          refine StepsL.cons2 5 (some 123) 6 (some 124) (by kernel_rfl) rfl rfl ?_ ?_
          · rintro w1 hS _ rfl _ rfl K hK
            (try simp only [Act.put, List.setIfInBounds_toArray, List.set_cons_zero, List.set_cons_succ])
            go_simp
            exact hK.out _ _ rfl (Below.refl _ _)
          refine StepsL.cons2 5 (some 123) 7 (some 125) (by kernel_rfl) rfl rfl ?_ ?_
          · rintro w1 hS _ rfl _ rfl K hK
            (try simp only [Act.put, List.setIfInBounds_toArray, List.set_cons_zero, List.set_cons_succ])
            go_simp
            exact hK.out _ _ rfl (Below.refl _ _)
          refine StepsL.cons1 8 (some 126) (by kernel_rfl) rfl ?_ ?_
          · rintro w1 hS _ rfl K hK
            (try simp only [Act.put, List.setIfInBounds_toArray, List.set_cons_zero, List.set_cons_succ])
            go_simp
            exact hK.out _ _ rfl (Below.refl _ _)
          refine StepsL.cons1 9 (some 127) (by kernel_rfl) rfl ?_ ?_
          · rintro w1 hS _ rfl K hK
            (try simp only [Act.put, List.setIfInBounds_toArray, List.set_cons_zero, List.set_cons_succ])
            go_simp
            exact hK.out _ _ rfl (Below.refl _ _)
          refine StepsL.cons2 9 (some 127) 10 (some 128) (by kernel_rfl) rfl rfl ?_ ?_
          · rintro w1 hS _ rfl _ rfl K hK
            (try simp only [Act.put, List.setIfInBounds_toArray, List.set_cons_zero, List.set_cons_succ])
            have HC := image11 _ w1 gx bx 6 _ (HXD.out.1.below hS)
            go_simp
            go_at_call 15
            (with_reducible refine HC.mono ?_)
            rintro e w2 ⟨v2, rfl, o2, b2⟩
            obtain ⟨a2, c2, rfl⟩ := row_form o2
            exact hK.out _ _ ⟨a2, c2, by rw [HXD.out.2.1], by rw [← HXD.out.2.2.1]; exact bys_own o2⟩ b2
          refine StepsL.cons2 9 (some 127) 11 (some 129) (by kernel_rfl) rfl rfl ?_ ?_
          · rintro w1 hS _ rfl _ ⟨a11, c11, rfl, y11⟩ K hK
            (try simp only [Act.put, List.setIfInBounds_toArray, List.set_cons_zero, List.set_cons_succ])
            have hk := conv_bys (c := c11) HXD.out.2.2.2.1 y11
            go_simp
            exact hK.out _ _ rfl (Below.refl _ _)
          refine StepsL.cons1 9 (some 127) (by kernel_rfl) rfl ?_ ?_
          · rintro w1 hS _ rfl K hK
            (try simp only [Act.put, List.setIfInBounds_toArray, List.set_cons_zero, List.set_cons_succ])
            go_simp
            exact hK.out _ _ rfl (Below.refl _ _)
          refine StepsL.cons2 9 (some 127) 13 (some 131) (by kernel_rfl) rfl rfl ?_ ?_
          · rintro w1 hS _ rfl _ rfl K hK
            (try simp only [Act.put, List.setIfInBounds_toArray, List.set_cons_zero, List.set_cons_succ])
            have hk := conv_bys (c := ci) HXD.out.2.2.2.1 (HXD.out.2.2.2.2.below hS)
            go_simp
            exact hK.out _ _ rfl (Below.refl _ _)
          refine StepsL.cons3 9 (some 127) 12 (some 130) 14 (some 132) (by kernel_rfl) rfl rfl rfl ?_ ?_
          · rintro w1 hS _ rfl _ rfl _ rfl K hK
            (try simp only [Act.put, List.setIfInBounds_toArray, List.set_cons_zero, List.set_cons_succ])
            go_simp
            exact hK.out _ _ rfl (Below.refl _ _)
          refine StepsL.cons2 9 (some 127) 15 (some 133) (by kernel_rfl) rfl rfl ?_ ?_
          · rintro w1 hS _ rfl _ rfl K hK
            (try simp only [Act.put, List.setIfInBounds_toArray, List.set_cons_zero, List.set_cons_succ])
            go_simp
            exact hK.out _ _ rfl (Below.refl _ _)
          refine StepsL.cons1 16 (some 134) (by kernel_rfl) rfl ?_ ?_
          · rintro w1 hS _ rfl K hK
            (try simp only [Act.put, List.setIfInBounds_toArray, List.set_cons_zero, List.set_cons_succ])
            go_simp
            exact hK.out _ _ rfl (Below.refl _ _)
          exact StepsL.nil
        have e17 : vs 17 = .bool true := hV 17 (by decide)
        have bE : Below wy.heap.size wy wE := hS
        simp only [putl, List.foldl_cons, List.foldl_nil, Act.put, List.setIfInBounds_toArray, List.set_cons_zero, List.set_cons_succ]
        rw [e17]
        have HBE := Lib.hid bE
        clear hV hS e17 bE
        go_wp2_with fail
        go_ret
        exact ⟨rfl, below_then HBL.out HBE.out⟩
end Go.Proofs.Ytjabkfccfecmgaa
