/- VaultRooms: the walk. -/
import Derived.Test.YtjabkfccfecmgaaH7
namespace Go.Proofs.Ytjabkfccfecmgaa
open Go.ChangeShapes Go.WideShapes Go.ChangeAt Go.RowKit
set_option linter.unusedSimpArgs false
set_option linter.unusedVariables false
set_option maxRecDepth 20000 in
set_option maxHeartbeats 16000000 in
theorem rooms5 (k ra la lb ca cb : Nat) (A1 B1 : List Byte) (ao bo : Option Addr) (w0 : World) (hk : k < 256) (hr : ra < 256) (hla : la = A1.length) (hlb : lb = B1.length) (ha : Bys w0 ao A1) (hca : la ≤ ca) (hb : Bys w0 bo B1) (hcb : lb ≤ cb) :
    Calls Try.prog 5 #[.int .u8 (k : Int), .slice ao la ca, .slice bo lb cb, .int .u8 (ra : Int)] w0 fun e w' => e = .returned (.bool true) ∧ Below w0.heap.size w0 w' := by
  have HAB := Lib.hid (And.intro (And.intro hla (And.intro hca ha)) (And.intro hlb (And.intro hcb hb)))
  have H7 := Lib.hid head7
  obtain ⟨n, hn⟩ : ∃ n, n = 4 + k % 12 := ⟨_, rfl⟩
  have HN := Lib.hid (show 4 ≤ n ∧ n ≤ 15 ∧ n = 4 + k % 12 by omega)
  clear hla hca ha hlb hcb hb hn
  go_enter Try.func5, Try.ntmps5
  go_upto_region 3 with (first
    | (go_at_call 7; (with_reducible refine (H7.out _).mono ?_); rintro e w1 ⟨rfl, b1⟩))
  have en : (4 : Int) + (k : Int) % 12 = (n : Int) := by have := HN.out; omega
  rw [en]
  have H8 := new8 n w1 (by have := HN.out; omega)
  go_upto_region 4 with (first
    | (go_at_call 8; (with_reducible refine H8.mono ?_); rintro e w2 ⟨g, b, rfl, hb, hD, b2⟩))
  have v2 := vd_new (w1 := w0) HN.out.1 b1 hb hD b2
  have H9 := open1 v2 HN.out.1 (by have := HN.out; omega) rfl (by omega)
  clear hb hD b2 v2 b1 H8
  go_upto_region 5 with (first
    | (go_at_call 9; (with_reducible refine H9.mono ?_); rintro e w3 ⟨A3, d3, vb, a3, c3, o3⟩; obtain rfl := o3.ret))
  have HO := Lib.hid o3
  clear H9 o3
  by_cases hlen : 20000 < la ∨ 20000 < lb
  · have hl2 : decide ((la : Int) > 20000) = true ∨ (decide ((la : Int) > 20000) = false ∧ decide ((lb : Int) > 20000) = true) := by
      by_cases h : 20000 < la
      · exact .inl (by simp; omega)
      · exact .inr ⟨by simp; omega, by simp; omega⟩
    clear hlen
    rcases hl2 with h1 | ⟨h1, h2⟩
    · go_wp2_with fail
      go_ret
      exact ⟨rfl, HO.out.vd.bl⟩
    · go_wp2_with fail
      go_ret
      exact ⟨rfl, HO.out.vd.bl⟩
  · have h1 : decide ((la : Int) > 20000) = false := by simp; omega
    have h2 : decide ((lb : Int) > 20000) = false := by simp; omega
    have HL := Lib.hid (show la ≤ 20000 ∧ lb ≤ 20000 by omega)
    clear hlen
    have H11 := room11 HO.out.vd.dk (by have := HN.out; omega) (by have := HN.out; omega) HO.out.vb.blk
    obtain ⟨n2, hn2⟩ : ∃ n2, n2 = n - 2 := ⟨_, rfl⟩
    obtain ⟨sc, hsc⟩ : ∃ sc, sc = n2 / 2 := ⟨_, rfl⟩
    obtain ⟨rm, hrm⟩ : ∃ rm, rm = sc * 512 := ⟨_, rfl⟩
    rw [← hn2, ← hsc, ← hrm] at H11
    have w1e : IntKind.i64.wrap ((n : Int) - 2) = (n2 : Int) := by have := HN.out; rw [IntWalk.i64_in _ (by omega)]; omega
    have w2e : ((n2 : Int)).tdiv 2 = (sc : Int) := by rw [Int.tdiv_eq_ediv_of_nonneg (by omega)]; omega
    have w3e : IntKind.i64.wrap ((sc : Int) * 512) = (rm : Int) := by have := HN.out; rw [IntWalk.i64_in _ (by omega), hrm]; push_cast; rfl
    have w4e : wrap64 (sc : Int) = (sc : Int) := IntWalk.wrap64_in _ (by have := HN.out; omega)
    have w5e : wrap64 ((sc : Int) * 512) = (rm : Int) := by rw [← IntWalk.i64_left]; exact w3e
    have HR := Lib.hid (show rm = (n - 2) / 2 * 512 by rw [hrm, hsc, hn2])
    clear hn2 hsc hrm
    go_upto_region 10 with (first
      | (go_at_call 11; (with_reducible refine H11.mono ?_); rintro e w4 ⟨rfl, hw⟩; obtain rfl : w3 = w4 := hw.symm))
    have HIL : ∀ (A : Nat → Prop) (w : World) (b : Nat) (d : DS), Dk A w g b n d → n * 512 = (img d.S n).length := fun A w b d h => (img_len h.sec.len n (Nat.le_refl _)).symm
    obtain ⟨r4, hr4⟩ : ∃ r4, r4 = ra % 4 := ⟨_, rfl⟩
    have er4 : (ra : Int) % 4 = (r4 : Int) := by omega
    have HR4 := Lib.hid (show r4 < 4 by omega)
    have kN : (strOf []).toList = [] := by kernel_rfl
    clear hr4 H11 w1e w2e w3e w4e w5e en
    by_cases hfa : la ≤ rm
    · have x1 : decide ((la : Int) ≤ (rm : Int)) = true := by simp; omega
      have x2 : decide (la ≤ rm) = true := by simp; omega
      have H10 := put1 HO.out.vd HO.out.vb HN.out.1 (by have := HN.out; omega) HO.out.fuse (by omega) ao la ca HAB.out.1.1 HAB.out.1.2.1 (HO.out.vd.obs HAB.out.1.2.2 (bys_lt HAB.out.1.2.2)) (by rw [← HR.out]; exact hfa)
      have HKA := Lib.hid (show ∀ W, Below w0.heap.size w0 W → (convert 23 9 (.slice ao la ca)).run Try.prog W = .ok (.string (strOf A1)) W from fun W bb => conv_bys (c := ca) HAB.out.1.1 (HAB.out.1.2.2.below bb))
      go_upto_region 12 with (first
        | (go_at_call 10; (with_reducible refine H10.mono ?_); rintro e w4 ⟨d4, o4⟩; obtain rfl := o4.ret))
      have v4 := o4.vd
      have k4 := o4.vk
      have u4 := o4.fuse
      have kA := HKA.out _ v4.bl
      clear o4
      have H15 := image11 _ w4 g b n _ v4.dk
      have HV4 := Lib.hid (And.intro v4 (And.intro k4 u4))
      clear H10 v4 k4 u4
      go_upto_region 14 with (first
        | (go_at_call 15; (with_reducible refine H15.mono ?_); rintro e w5 ⟨vi, rfl, oi, b5⟩; obtain ⟨ai, ci, rfl⟩ := row_form oi; have ki := conv_bys (c := ci) (HIL _ _ _ _ HV4.out.1.dk) (bys_own oi)))
      have v5 := HV4.out.1.below b5
      have k5 := HV4.out.2.1.below b5
      have u5 := HV4.out.2.2
      clear H15 ki oi kA
      by_cases hfb : lb ≤ rm
      · have y1 : decide ((lb : Int) ≤ (rm : Int)) = true := by simp; omega
        have y2 : decide (lb ≤ rm) = true := by simp; omega
        have H10 := put1 v5 k5 HN.out.1 (by have := HN.out; omega) u5 (by omega) bo lb cb HAB.out.2.1 HAB.out.2.2.1 (v5.obs HAB.out.2.2.2 (bys_lt HAB.out.2.2.2)) (by rw [← HR.out]; exact hfb)
        have HKB := Lib.hid (show ∀ W, Below w0.heap.size w0 W → (convert 23 9 (.slice bo lb cb)).run Try.prog W = .ok (.string (strOf B1)) W from fun W bb => conv_bys (c := cb) HAB.out.2.1 (HAB.out.2.2.2.below bb))
        clear v5 k5 b5
        go_upto_region 16 with (first
          | (go_at_call 10; (with_reducible refine H10.mono ?_); rintro e w6 ⟨d6, o6⟩; obtain rfl := o6.ret))
        have kB := HKB.out _ o6.vd.bl
        have v6 := o6.vd
        have k6 := o6.vk
        have u6 := o6.fuse
        clear o6 H10
        go_upto_region 19 with fail
        clear kB
        have HX := Lib.hid (And.intro v6 (And.intro k6 u6))
        clear v6 k6 u6 u5 hfa hfb
        go_wp2_with fail
        go_loopg [19, 20, 21, 22] (r4 + 1) (fun gk v19 v20 v21 v22 wr => ∃ (i : Nat) (A : Nat → Prop) (d : DS), v19 = .int .i64 i ∧ i + gk = r4 + 1 ∧ Vd w0 A wr g b n 2 B1 d ∧ d.fuse = -1 ∧ Vb w0 A wr g b vb 2)
        case atStart => exact ⟨0, _, _, rfl, by omega, HX.out.1, HX.out.2.2, HX.out.2.1⟩
        case round =>
          obtain ⟨i, A, d, rfl, hig, hv, hu, hk⟩ := hrel
          have HIG := Lib.hid hig
          have HVR := Lib.hid (And.intro hv (And.intro hk hu))
          by_cases hir : i ≤ r4
          · have q1 : decide (i ≤ r4) = true := by simp; omega
            have q2 : decide ((i : Int) ≤ (r4 : Int)) = true := by simp; omega
            have q3 : (i : Int) ≤ (r4 : Int) := by omega
            have q4 : IntKind.i64.wrap ((i : Int) + 1) = ((i + 1 : Nat) : Int) := by rw [IntWalk.i64_in _ (by have := HR4.out; omega)]; push_cast; rfl
            have H9 := open1 hv HN.out.1 (by have := HN.out; omega) hu (by omega)
            have HIR := Lib.hid hir
            clear hig hv hu hk hir
            go_wp2_with (first
              | (go_at_call 9; (with_reducible refine H9.mono ?_); rintro e w8 ⟨A8, d8, q8, a8, c8, o8⟩; obtain rfl := o8.ret; have k8 := conv_bys (n := B1.length) (c := c8) rfl o8.obs.bys; have HO8 := Lib.hid o8; clear o8 H9))
            go_roundg (gk - 1)
            case measure => have := HIG.out; have := HIR.out; omega
            case rel =>
              have f8 := HVR.out.2.1.frm HO8.out.frm
              exact ⟨i + 1, A8, d8, by push_cast; rfl, by have := HIG.out; have := HIR.out; omega, HO8.out.vd, HO8.out.fuse, ⟨f8.ok.mono fun e => f8.ok.na (HO8.out.sub _ e), f8.ge, f8.blk⟩⟩
          · have q1 : decide (i ≤ r4) = false := by simp; omega
            have q2 : decide ((i : Int) ≤ (r4 : Int)) = false := by simp; omega
            have q3 : ¬ (i : Int) ≤ (r4 : Int) := by omega
            have H11 := room11 hv.dk (by have := HN.out; omega) (by have := HN.out; omega) hk.blk
            rw [← HR.out] at H11
            clear hig hv hu hk hir
            go_wp2_with (first
              | (go_at_call 11; (with_reducible refine H11.mono ?_); rintro e w8 ⟨rfl, hw⟩; obtain rfl : wr = w8 := hw.symm))
            go_ret
            exact ⟨rfl, HVR.out.1.bl⟩
      · have y1 : decide ((lb : Int) ≤ (rm : Int)) = false := by simp; omega
        have y2 : decide (lb ≤ rm) = false := by simp; omega
        have H10 := putR v5.dk HN.out.1 (by have := HN.out; omega) vb k5.blk bo lb cb (by rw [← HR.out]; exact Nat.lt_of_not_le hfb)
        have HV5 := Lib.hid (And.intro v5 k5)
        clear v5 k5 b5
        go_upto_region 17 with (first
          | (go_at_call 10; (with_reducible refine H10.mono ?_); rintro e w6 ⟨rfl, b6⟩))
        have v6 := HV5.out.1.below b6
        have k6 := HV5.out.2.below b6
        have H15 := image11 _ w6 g b n _ v6.dk
        have HV6 := Lib.hid (And.intro v6 k6)
        clear v6 k6 b6 H10
        go_upto_region 19 with (first
          | (go_at_call 15; (with_reducible refine H15.mono ?_); rintro e w7 ⟨vi, rfl, oi, b7⟩; obtain ⟨ai, ci, rfl⟩ := row_form oi; have ki := conv_bys (c := ci) (HIL _ _ _ _ HV6.out.1.dk) (bys_own oi)))
        have v6 := HV6.out.1.below b7
        have k6 := HV6.out.2.below b7
        have u6 := u5
        clear H15 ki oi b7
        have HX := Lib.hid (And.intro v6 (And.intro k6 u6))
        clear v6 k6 u6 u5 hfa hfb
        go_wp2_with fail
        go_loopg [19, 20, 21, 22] (r4 + 1) (fun gk v19 v20 v21 v22 wr => ∃ (i : Nat) (A : Nat → Prop) (d : DS), v19 = .int .i64 i ∧ i + gk = r4 + 1 ∧ Vd w0 A wr g b n 1 A1 d ∧ d.fuse = -1 ∧ Vb w0 A wr g b vb 1)
        case atStart => exact ⟨0, _, _, rfl, by omega, HX.out.1, HX.out.2.2, HX.out.2.1⟩
        case round =>
          obtain ⟨i, A, d, rfl, hig, hv, hu, hk⟩ := hrel
          have HIG := Lib.hid hig
          have HVR := Lib.hid (And.intro hv (And.intro hk hu))
          by_cases hir : i ≤ r4
          · have q1 : decide (i ≤ r4) = true := by simp; omega
            have q2 : decide ((i : Int) ≤ (r4 : Int)) = true := by simp; omega
            have q3 : (i : Int) ≤ (r4 : Int) := by omega
            have q4 : IntKind.i64.wrap ((i : Int) + 1) = ((i + 1 : Nat) : Int) := by rw [IntWalk.i64_in _ (by have := HR4.out; omega)]; push_cast; rfl
            have H9 := open1 hv HN.out.1 (by have := HN.out; omega) hu (by omega)
            have HIR := Lib.hid hir
            clear hig hv hu hk hir
            go_wp2_with (first
              | (go_at_call 9; (with_reducible refine H9.mono ?_); rintro e w8 ⟨A8, d8, q8, a8, c8, o8⟩; obtain rfl := o8.ret; have k8 := conv_bys (n := A1.length) (c := c8) rfl o8.obs.bys; have HO8 := Lib.hid o8; clear o8 H9))
            go_roundg (gk - 1)
            case measure => have := HIG.out; have := HIR.out; omega
            case rel =>
              have f8 := HVR.out.2.1.frm HO8.out.frm
              exact ⟨i + 1, A8, d8, by push_cast; rfl, by have := HIG.out; have := HIR.out; omega, HO8.out.vd, HO8.out.fuse, ⟨f8.ok.mono fun e => f8.ok.na (HO8.out.sub _ e), f8.ge, f8.blk⟩⟩
          · have q1 : decide (i ≤ r4) = false := by simp; omega
            have q2 : decide ((i : Int) ≤ (r4 : Int)) = false := by simp; omega
            have q3 : ¬ (i : Int) ≤ (r4 : Int) := by omega
            have H11 := room11 hv.dk (by have := HN.out; omega) (by have := HN.out; omega) hk.blk
            rw [← HR.out] at H11
            clear hig hv hu hk hir
            go_wp2_with (first
              | (go_at_call 11; (with_reducible refine H11.mono ?_); rintro e w8 ⟨rfl, hw⟩; obtain rfl : wr = w8 := hw.symm))
            go_ret
            exact ⟨rfl, HVR.out.1.bl⟩
    · have x1 : decide ((la : Int) ≤ (rm : Int)) = false := by simp; omega
      have x2 : decide (la ≤ rm) = false := by simp; omega
      have H10 := putR HO.out.vd.dk HN.out.1 (by have := HN.out; omega) vb HO.out.vb.blk ao la ca (by rw [← HR.out]; exact Nat.lt_of_not_le hfa)
      go_upto_region 13 with (first
        | (go_at_call 10; (with_reducible refine H10.mono ?_); rintro e w4 ⟨rfl, b4⟩))
      have v4 := HO.out.vd.below b4
      have k4 := HO.out.vb.below b4
      have u4 := HO.out.fuse
      clear b4
      have H15 := image11 _ w4 g b n _ v4.dk
      have HV4 := Lib.hid (And.intro v4 (And.intro k4 u4))
      clear H10 v4 k4 u4
      go_upto_region 14 with (first
        | (go_at_call 15; (with_reducible refine H15.mono ?_); rintro e w5 ⟨vi, rfl, oi, b5⟩; obtain ⟨ai, ci, rfl⟩ := row_form oi; have ki := conv_bys (c := ci) (HIL _ _ _ _ HV4.out.1.dk) (bys_own oi)))
      have v5 := HV4.out.1.below b5
      have k5 := HV4.out.2.1.below b5
      have u5 := HV4.out.2.2
      clear H15 ki oi
      by_cases hfb : lb ≤ rm
      · have y1 : decide ((lb : Int) ≤ (rm : Int)) = true := by simp; omega
        have y2 : decide (lb ≤ rm) = true := by simp; omega
        have H10 := put1 v5 k5 HN.out.1 (by have := HN.out; omega) u5 (by omega) bo lb cb HAB.out.2.1 HAB.out.2.2.1 (v5.obs HAB.out.2.2.2 (bys_lt HAB.out.2.2.2)) (by rw [← HR.out]; exact hfb)
        have HKB := Lib.hid (show ∀ W, Below w0.heap.size w0 W → (convert 23 9 (.slice bo lb cb)).run Try.prog W = .ok (.string (strOf B1)) W from fun W bb => conv_bys (c := cb) HAB.out.2.1 (HAB.out.2.2.2.below bb))
        clear v5 k5 b5
        go_upto_region 16 with (first
          | (go_at_call 10; (with_reducible refine H10.mono ?_); rintro e w6 ⟨d6, o6⟩; obtain rfl := o6.ret))
        have kB := HKB.out _ o6.vd.bl
        have v6 := o6.vd
        have k6 := o6.vk
        have u6 := o6.fuse
        clear o6 H10
        go_upto_region 19 with fail
        clear kB
        have HX := Lib.hid (And.intro v6 (And.intro k6 u6))
        clear v6 k6 u6 u5 hfa hfb
        go_wp2_with fail
        go_loopg [19, 20, 21, 22] (r4 + 1) (fun gk v19 v20 v21 v22 wr => ∃ (i : Nat) (A : Nat → Prop) (d : DS), v19 = .int .i64 i ∧ i + gk = r4 + 1 ∧ Vd w0 A wr g b n 1 B1 d ∧ d.fuse = -1 ∧ Vb w0 A wr g b vb 1)
        case atStart => exact ⟨0, _, _, rfl, by omega, HX.out.1, HX.out.2.2, HX.out.2.1⟩
        case round =>
          obtain ⟨i, A, d, rfl, hig, hv, hu, hk⟩ := hrel
          have HIG := Lib.hid hig
          have HVR := Lib.hid (And.intro hv (And.intro hk hu))
          by_cases hir : i ≤ r4
          · have q1 : decide (i ≤ r4) = true := by simp; omega
            have q2 : decide ((i : Int) ≤ (r4 : Int)) = true := by simp; omega
            have q3 : (i : Int) ≤ (r4 : Int) := by omega
            have q4 : IntKind.i64.wrap ((i : Int) + 1) = ((i + 1 : Nat) : Int) := by rw [IntWalk.i64_in _ (by have := HR4.out; omega)]; push_cast; rfl
            have H9 := open1 hv HN.out.1 (by have := HN.out; omega) hu (by omega)
            have HIR := Lib.hid hir
            clear hig hv hu hk hir
            go_wp2_with (first
              | (go_at_call 9; (with_reducible refine H9.mono ?_); rintro e w8 ⟨A8, d8, q8, a8, c8, o8⟩; obtain rfl := o8.ret; have k8 := conv_bys (n := B1.length) (c := c8) rfl o8.obs.bys; have HO8 := Lib.hid o8; clear o8 H9))
            go_roundg (gk - 1)
            case measure => have := HIG.out; have := HIR.out; omega
            case rel =>
              have f8 := HVR.out.2.1.frm HO8.out.frm
              exact ⟨i + 1, A8, d8, by push_cast; rfl, by have := HIG.out; have := HIR.out; omega, HO8.out.vd, HO8.out.fuse, ⟨f8.ok.mono fun e => f8.ok.na (HO8.out.sub _ e), f8.ge, f8.blk⟩⟩
          · have q1 : decide (i ≤ r4) = false := by simp; omega
            have q2 : decide ((i : Int) ≤ (r4 : Int)) = false := by simp; omega
            have q3 : ¬ (i : Int) ≤ (r4 : Int) := by omega
            have H11 := room11 hv.dk (by have := HN.out; omega) (by have := HN.out; omega) hk.blk
            rw [← HR.out] at H11
            clear hig hv hu hk hir
            go_wp2_with (first
              | (go_at_call 11; (with_reducible refine H11.mono ?_); rintro e w8 ⟨rfl, hw⟩; obtain rfl : wr = w8 := hw.symm))
            go_ret
            exact ⟨rfl, HVR.out.1.bl⟩
      · have y1 : decide ((lb : Int) ≤ (rm : Int)) = false := by simp; omega
        have y2 : decide (lb ≤ rm) = false := by simp; omega
        have H10 := putR v5.dk HN.out.1 (by have := HN.out; omega) vb k5.blk bo lb cb (by rw [← HR.out]; exact Nat.lt_of_not_le hfb)
        have HV5 := Lib.hid (And.intro v5 k5)
        clear v5 k5 b5
        go_upto_region 17 with (first
          | (go_at_call 10; (with_reducible refine H10.mono ?_); rintro e w6 ⟨rfl, b6⟩))
        have v6 := HV5.out.1.below b6
        have k6 := HV5.out.2.below b6
        have H15 := image11 _ w6 g b n _ v6.dk
        have HV6 := Lib.hid (And.intro v6 k6)
        clear v6 k6 b6 H10
        go_upto_region 19 with (first
          | (go_at_call 15; (with_reducible refine H15.mono ?_); rintro e w7 ⟨vi, rfl, oi, b7⟩; obtain ⟨ai, ci, rfl⟩ := row_form oi; have ki := conv_bys (c := ci) (HIL _ _ _ _ HV6.out.1.dk) (bys_own oi)))
        have v6 := HV6.out.1.below b7
        have k6 := HV6.out.2.below b7
        have u6 := u5
        clear H15 ki oi b7
        have HX := Lib.hid (And.intro v6 (And.intro k6 u6))
        clear v6 k6 u6 u5 hfa hfb
        go_wp2_with fail
        go_loopg [19, 20, 21, 22] (r4 + 1) (fun gk v19 v20 v21 v22 wr => ∃ (i : Nat) (A : Nat → Prop) (d : DS), v19 = .int .i64 i ∧ i + gk = r4 + 1 ∧ Vd w0 A wr g b n 0 [] d ∧ d.fuse = -1 ∧ Vb w0 A wr g b vb 0)
        case atStart => exact ⟨0, _, _, rfl, by omega, HX.out.1, HX.out.2.2, HX.out.2.1⟩
        case round =>
          obtain ⟨i, A, d, rfl, hig, hv, hu, hk⟩ := hrel
          have HIG := Lib.hid hig
          have HVR := Lib.hid (And.intro hv (And.intro hk hu))
          by_cases hir : i ≤ r4
          · have q1 : decide (i ≤ r4) = true := by simp; omega
            have q2 : decide ((i : Int) ≤ (r4 : Int)) = true := by simp; omega
            have q3 : (i : Int) ≤ (r4 : Int) := by omega
            have q4 : IntKind.i64.wrap ((i : Int) + 1) = ((i + 1 : Nat) : Int) := by rw [IntWalk.i64_in _ (by have := HR4.out; omega)]; push_cast; rfl
            have H9 := open1 hv HN.out.1 (by have := HN.out; omega) hu (by omega)
            have HIR := Lib.hid hir
            clear hig hv hu hk hir
            go_wp2_with (first
              | (go_at_call 9; (with_reducible refine H9.mono ?_); rintro e w8 ⟨A8, d8, q8, a8, c8, o8⟩; obtain rfl := o8.ret; have k8 := conv_bys (n := 0) (c := c8) rfl o8.obs.bys; have HO8 := Lib.hid o8; clear o8 H9))
            go_roundg (gk - 1)
            case measure => have := HIG.out; have := HIR.out; omega
            case rel =>
              have f8 := HVR.out.2.1.frm HO8.out.frm
              exact ⟨i + 1, A8, d8, by push_cast; rfl, by have := HIG.out; have := HIR.out; omega, HO8.out.vd, HO8.out.fuse, ⟨f8.ok.mono fun e => f8.ok.na (HO8.out.sub _ e), f8.ge, f8.blk⟩⟩
          · have q1 : decide (i ≤ r4) = false := by simp; omega
            have q2 : decide ((i : Int) ≤ (r4 : Int)) = false := by simp; omega
            have q3 : ¬ (i : Int) ≤ (r4 : Int) := by omega
            have H11 := room11 hv.dk (by have := HN.out; omega) (by have := HN.out; omega) hk.blk
            rw [← HR.out] at H11
            clear hig hv hu hk hir
            go_wp2_with (first
              | (go_at_call 11; (with_reducible refine H11.mono ?_); rintro e w8 ⟨rfl, hw⟩; obtain rfl : wr = w8 := hw.symm))
            go_ret
            exact ⟨rfl, HVR.out.1.bl⟩
end Go.Proofs.Ytjabkfccfecmgaa
