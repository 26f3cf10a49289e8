/- TermsMore, walked. -/
import Derived.Test.YtllgdlfdmmdffaaQ6
namespace Go.Proofs.Ytllgdlfdmmdffaa
open Go.ChangeShapes Go.WideShapes Go.ChangeAt Go.RowKit
set_option linter.unusedSimpArgs false
set_option linter.unusedVariables false
theorem two_news {w : World} {q : Nat} {x y : Value} (h : w.heap[q]? = some (.cells #[x, y] 32 (0, 0))) : ∀ j u, [x, y][j]? = some u → w.cell? ((⟨q, 0, none⟩ : Addr).add j) = some u := fun j u hu => by
  rw [add_zero_mid, cell_of_row _ _ _ _ _ _ h]
  simpa using hu
section
variable {many more y4 : Int} {ao lo ro : Option Addr} {n m c lc rn4 rc : Nat} {Ks : List Int} {Rs : List Rl} {R4 : Rl} {w W : World}
set_option maxRecDepth 20000 in
set_option maxHeartbeats 8000000 in
theorem more5 (h : Ar many ao lo n m Ks Rs w) (c lc : Nat) (hrn : rn4 = R4.needs.length) (hry : y4 = R4.gives) (hrc : rn4 ≤ rc) (hrm : rn4 ≤ 9223372036854775807) (hRI : Ilz w.heap.size w ro R4.needs) (hmz : -9223372036854775808 ≤ more ∧ more < 9223372036854775808) :
    Calls Try.prog 5 #[.int .i64 many, .slice ao n c, .slice lo m lc, .int .i64 more, .agg #[.slice ro rn4 rc, .int .i64 y4]] w fun e w' => e = .returned (.bool true) ∧ Below w.heap.size w w' := by
  have bA := (Below.refl w.heap.size w).alloc (Nat.le_refl _) (.cells #[.slice ro rn4 rc, .int .i64 y4] 32)
  have hb0 : (w.alloc (.cells #[.slice ro rn4 rc, .int .i64 y4] 32)).cell? ⟨w.heap.size, 0, none⟩ = some (.slice ro rn4 rc) := by simp
  have hb1 : (w.alloc (.cells #[.slice ro rn4 rc, .int .i64 y4] 32)).cell? ⟨w.heap.size, 1, none⟩ = some (.int .i64 y4) := by simp
  have hbl : w.heap.size < (w.alloc (.cells #[.slice ro rn4 rc, .int .i64 y4] 32)).heap.size := by simp
  have H7 := head7 (w.alloc (.cells #[.slice ro rn4 rc, .int .i64 y4] 32))
  have HA := Lib.hid h
  have HRN := Lib.hid (And.intro hrn (And.intro hry hRI))
  have HBA := Lib.hid bA
  have HAB := Lib.hid (And.intro hbl (And.intro hb0 hb1))
  clear h hrn hry hb0 hb1 hRI bA hbl
  have z100 : decide (100 < (rn4 : Int)) = decide (100 < rn4) := by by_cases h : 100 < rn4 <;> simp [h] <;> omega
  obtain ⟨tq, htq⟩ : ∃ tq, decide (100 < rn4) = tq := ⟨_, rfl⟩
  rw [htq] at z100
  have HTQ := Lib.hid htq
  clear htq
  go_enter Try.func5, Try.ntmps5
  go_upto_region 1 with fail
  obtain ⟨wA, hwA⟩ : ∃ wA, w.alloc (.cells #[.slice ro rn4 rc, .int .i64 y4] 32) = wA := ⟨_, rfl⟩
  obtain ⟨g, hg⟩ : ∃ g, g = w.heap.size := ⟨_, rfl⟩
  rw [hwA, ← hg] at HAB ⊢
  rw [hwA] at H7 HBA
  have HG := Lib.hid hg
  clear hwA hg
  have key : ∀ W, Below wA.heap.size wA W → Below w.heap.size w W ∧ W.cell? ⟨g, 0, none⟩ = some (.slice ro rn4 rc) ∧ W.cell? ⟨g, 1, none⟩ = some (.int .i64 y4) := fun W b =>
    ⟨below_then HBA.out b, (b.cell (p := ⟨g, 0, none⟩) HAB.out.1).trans HAB.out.2.1, (b.cell (p := ⟨g, 1, none⟩) HAB.out.1).trans HAB.out.2.2⟩
  have KEY := Lib.hid key
  clear key
  go_upto_region 2 with (first
    | (go_at_call 7; (with_reducible refine H7.mono ?_); rintro e w1 ⟨rfl, b1⟩; have B1 := Lib.hid b1; clear b1 H7))
  have H8 := HA.out.gr (KEY.out _ B1.out).1 c lc
  go_upto_region 4 with (first
    | (go_at_call 8; (with_reducible refine H8.mono ?_); rintro e w2 ⟨r, rfl, b2, g2⟩; have B2 := Lib.hid (below_then B1.out b2); have hx0 := (KEY.out _ B2.out).2.1; have G2 := Lib.hid g2; clear b2 H8 g2))
  · go_ret
    exact ⟨rfl, (KEY.out _ B2.out).1⟩
  · go_ret
    exact ⟨rfl, (KEY.out _ B2.out).1⟩
  rename_i hr0 htq _ _
  obtain ⟨hn3, hm3⟩ := G2.out (by simpa using hr0)
  subst htq
  have h100 : rn4 ≤ 100 := by have := HTQ.out; simp at this; omega
  have H10 := HA.out.clo (KEY.out _ B2.out).1 c lc
  clear hx0 HTQ G2 hr0 z100
  rcases Nat.eq_zero_or_pos (cloB many Ks Rs).length with h0 | h0
  · have H0 := Lib.hid h0
    clear h0
    go_wp2_with (first
      | (go_at_call 10; (with_reducible refine H10.mono ?_); rintro e w3 ⟨oa, on, rfl, on1, on2, oz, b3⟩; have B3 := Lib.hid (below_then B2.out b3); obtain rfl : on = 0 := on1.trans H0.out; clear b3 on1 on2 oz H10; have H11 := HA.out.rclo (KEY.out _ B3.out).1 c lc)
      | (go_at_call 11; (with_reducible refine H11.mono ?_); rintro e w4 ⟨ra, rn, rfl, rn1, rn2, rz, b4⟩; have B4 := Lib.hid (below_then B3.out b4); obtain rfl : rn = 0 := rn1.trans H0.out; clear b4 rn1 rn2 rz H11))
    go_ret
    exact ⟨rfl, (KEY.out _ B4.out).1⟩
  have hfit : fitsB many Ks Rs = true := by
    cases hq : fitsB many Ks Rs with
    | true => rfl
    | false => rw [cloB, hq] at h0; simp at h0
  obtain ⟨nn, rfl, hF⟩ := fits_nat hfit
  have hlen := fin_sum hF
  have hpos : 0 < nn := by rw [hF.clo] at h0; omega
  have HF := Lib.hid (And.intro hF (And.intro hF.clo (And.intro hlen hpos)))
  have HM := Lib.hid HA.out.hm
  have HN := Lib.hid HA.out.hn
  have hK := HA.out.K
  have hR := HA.out.R
  have hn4 := hF.hi
  clear hF hlen h0 hfit
  go_upto_region 9 with (first
    | (go_at_call 10; (with_reducible refine H10.mono ?_); rintro e w3 ⟨oa, on, rfl, on1, on2, oz, b3⟩; obtain rfl : on = nn := (on1.trans (by rw [HF.out.2.1])).trans HF.out.2.2.1.1; have B3 := Lib.hid (And.intro (below_then B2.out b3) (And.intro on2 oz)); clear b3 on1 on2 oz H10; have H11 := HA.out.rclo (KEY.out _ B3.out.1).1 c lc)
    | (go_at_call 11; (with_reducible refine H11.mono ?_); rintro e w4 ⟨ra, rn, rfl, rn1, rn2, rz, b4⟩; obtain rfl : rn = on := (rn1.trans (by rw [HF.out.2.1])).trans HF.out.2.2.1.1; have B4 := Lib.hid (And.intro (below_then B3.out.1 b4) (B3.out.2.2.below b4)); have z4 : decide ((rn : Int) = 0) = false := (by simp; omega); clear b4 rn1 rn2 rz H11))
  clear z4 B1 B2 B3
  obtain ⟨i0, hin, hz0, hz1, hz2⟩ := info_parts info3
  have c1 := hK.below (KEY.out _ B4.out.1).1 (Nat.le_refl _)
  have kA4 := (Below.refl w4.heap.size w4).alloc (Nat.le_refl _) (.cells #[] 3)
  have o4 : (w4.alloc (.cells #[] 3)).ownsRow w4.heap.size 3 1 (.slice (some ⟨w4.heap.size, 0, none⟩) 0 0) 0 [] := World.ownsRow_made _ _ _ (Nat.le_refl _) (by decide) rfl
  have c2 := Lib.hid (And.intro o4 (c1.below kA4 (KEY.out _ B4.out.1).1.size))
  have C0 := Lib.hid kA4
  clear c1 kA4 o4
  go_wp2_with (first
    | (at_builtin; refine wpList_app_any rfl (.tmp 49) (.tmp 50) 22 rfl w4.heap.size 3 i0 (.int .i64 0) 1 8 Try.underlying22 hin hz0 hz1 hz2 rfl (by decide) (.slice (some ⟨w4.heap.size, 0, none⟩) 0 0) 0 [] rfl c2.out.1 ao n c (ivs Ks) rfl ?c1 ?c2 ?c3 (ivs_one _) ?c4 ?c5 ?c6 ?_; (case c1 => simp [ivs, HN.out]); (case c2 => exact c2.out.2.none_ HN.out); (case c3 => exact c2.out.2.news); (case c4 => unfold maxLen; omega); (case c5 => omega); (case c6 => exact C0.out.size); intro v5 w5 o5 g5; (have C5 := Lib.hid (And.intro (C0.out.grown g5 C0.out.size (fun q hq => (c2.out.1.lt q hq).1)) o5)); clear o5 g5))
  obtain ⟨F, hFd⟩ : ∃ F, (fin rn Ks Rs).1 = F := ⟨_, rfl⟩
  have HCA := Lib.hid (clo_again HF.out.1)
  have HCM := Lib.hid (clo_more HF.out.1 more R4)
  have HFL := Lib.hid HF.out.2.2.1.1
  have HO := Lib.hid (show Bz w4 oa (fin rn Ks Rs).1 by rw [← HF.out.2.1]; exact B4.out.2)
  rw [hFd] at HCA HCM HFL HO
  obtain ⟨fa, rfl⟩ : ∃ fa, oa = some fa := by
    cases oa with
    | none => have := HO.out.nil rfl; have h2 := HFL.out; rw [this] at h2; have := HF.out.2.2.2; simp at h2; omega
    | some fa => exact ⟨fa, rfl⟩
  have C5' := Lib.hid (show Below w4.heap.size w4 w5 ∧ w5.ownsRow w4.heap.size 3 1 v5 (Ks ++ nums F 0).length (ivs (Ks ++ nums F 0)) by
    have e : Ks ++ nums F 0 = Ks := by simp [nums]
    rw [e]
    have := C5.out
    rw [Nat.zero_add, List.nil_append, HN.out] at this
    exact this)
  clear C5 c2 C0 hFd
  go_loopg [13, 14] rn (fun gk v13 v14 wr => ∃ i : Nat, v14 = .int .i64 i ∧ i + gk = rn ∧ Below w4.heap.size w4 wr ∧ wr.ownsRow w4.heap.size 3 1 v13 (Ks ++ nums F i).length (ivs (Ks ++ nums F i)))
  case atStart => exact ⟨0, rfl, by omega, C5'.out.1, C5'.out.2⟩
  case round =>
    obtain ⟨i, rfl, hig, hb, ho⟩ := hrel
    have HIG := Lib.hid hig
    have HB := Lib.hid (And.intro hb ho)
    clear C5'
    obtain ⟨a13, c13, rfl⟩ := row_form ho
    by_cases h1 : i < rn
    · have d1 : decide ((i : Int) < (rn : Int)) = true := by simp; omega
      have hcf := ((HO.out.below hb).cells fa rfl).2 i _ (at_has (k := i) (by rw [HFL.out]; exact h1))
      have q0 : (0 : Int) ≤ (i : Int) := by omega
      have q1 : (i : Int) < (rn : Int) := by omega
      have e1 : IntKind.i64.wrap ((i : Int) + 1) = (i : Int) + 1 := IntWalk.i64_in _ (by omega)
      have HNU := Lib.hid (nums_succ F i)
      have HLE : (Ks ++ nums F i).length ≤ 10000 := by rw [List.length_append]; have := nums_len F i; have := HN.out; omega
      obtain ⟨LL, hLL⟩ : ∃ LL, (Ks ++ nums F i).length = LL := ⟨_, rfl⟩
      rw [hLL] at ho HLE ⊢
      have HLL := Lib.hid hLL
      obtain ⟨bq, hbq⟩ : ∃ bq, has F (i : Int) = bq := ⟨_, rfl⟩
      rw [hbq] at hcf HNU
      have o6 := ho.alloc (.cells #[.int .i64 (i : Int)] 3)
      have s6 : w4.heap.size ≤ wr.heap.size := hb.size
      clear hig hLL hbq ho hb
      cases bq with
      | true =>
        go_wp2_with (first
          | (at_builtin; refine wpList_append_own _ rfl _ _ 22 rfl w4.heap.size 3 i0 (.int .i64 0) 1 8 Try.underlying22 hin hz0 hz1 hz2 rfl (by decide) _ _ _ rfl o6 ⟨wr.heap.size, 0, none⟩ 1 1 [.int .i64 (i : Int)] rfl rfl ?c1 ?c2 ?c3 ?c4 ?c5 ?_; (case c1 => exact cell_one_new _ _ _); (case c2 => simp [Value.oneCell']); (case c3 => unfold maxLen; omega); (case c4 => omega); (case c5 => simp; omega); intro v7 w7 o7 g7 _; (have C7 := Lib.hid (And.intro ((HB.out.1.alloc HB.out.1.size _).grown g7 (HB.out.1.alloc HB.out.1.size _).size (fun q hq => (o6.lt q hq).1)) o7)); clear o7 g7))
        go_roundg (gk - 1)
        case measure => have := HIG.out; omega
        case rel =>
          refine ⟨i + 1, by simp, by have := HIG.out; omega, C7.out.1, ?_⟩
          have e : Ks ++ nums F (i + 1) = (Ks ++ nums F i) ++ [(i : Int)] := by rw [HNU.out]; simp
          rw [e, List.length_append, HLL.out, ivs, List.map_append]
          exact C7.out.2
      | false =>
        clear o6
        go_wp2_with fail
        go_roundg (gk - 1)
        case measure => have := HIG.out; omega
        case rel =>
          have e : nums F (i + 1) = nums F i := by rw [HNU.out]; simp
          exact ⟨i + 1, by simp, by have := HIG.out; omega, HB.out.1, by rw [e, HLL.out]; have := HB.out.2; rwa [HLL.out] at this⟩
    · have d1 : decide ((i : Int) < (rn : Int)) = false := by simp; omega
      obtain rfl : i = rn := by omega
      have HLE : (Ks ++ nums F i).length ≤ 10000 := by rw [List.length_append]; have := nums_len F i; have := HN.out; omega
      obtain ⟨LL, hLL⟩ : ∃ LL, (Ks ++ nums F i).length = LL := ⟨_, rfl⟩
      rw [hLL] at ho HLE ⊢
      obtain ⟨_, _, e13, hl13, I13⟩ := own_ilz ho
      injection e13 with ea _ ec
      subst ea; subst ec
      have H10 := clo10 (many := (i : Int)) (c := c13) (lc := lc) (k := wr.heap.size) hl13 HM.out (by omega) (by omega) I13 (by have := HA.out.R.below (KEY.out _ (below_then B4.out.1 hb)).1 (Nat.le_refl _); exact this.mono (KEY.out _ (below_then B4.out.1 hb)).1.size) (Nat.le_refl _) (by omega)
      have HRL := Lib.hid HA.out.R
      have HKI := Lib.hid HA.out.K
      obtain ⟨cs, hcs⟩ := HA.out.R.rcs
      have RCS := Lib.hid hcs
      have RC2 := Lib.hid (show Rcs w.heap.size w (cs ++ [.slice ro rn4 rc, .int .i64 y4]) (Rs ++ [R4]) by
        have := hcs.1.snoc (r := R4) (ao := ro) (c := rc) (by rw [← HRN.out.1]; exact hrm) (by rw [← HRN.out.1]; exact hrc) HRN.out.2.2
        rw [← HRN.out.1, ← HRN.out.2.1] at this
        exact this)
      have BQ := Lib.hid (below_then B4.out.1 hb)
      clear hig ho hl13 hLL I13 hb hK hR hcs
      obtain ⟨j0, jn, jz0, jz1, jz2⟩ := info_parts info32'
      go_upto_region 17 with (first
        | (go_at_call 10; (with_reducible refine H10.mono ?_); rintro e w6 ⟨xa, xn, rfl, xn1, xn2, xz, b6⟩; obtain rfl : i = xn := Eq.symm <| xn1.trans (by rw [HCA.out]; exact HFL.out); have B6 := Lib.hid (below_then BQ.out b6); have H9 := same9 xa (some fa) i i i i F F w6 HFL.out.symm HFL.out.symm (by omega) (by omega) (by rw [← HCA.out]; exact xz) (HO.out.below (below_then HB.out.1 b6)); have O6 := Lib.hid (HO.out.below (below_then HB.out.1 b6)); clear b6 xn1 xz H10)
        | (go_at_call 9; (with_reducible refine H9.mono ?_); rintro e w8 ⟨rfl, b8⟩; have HB8 := Lib.hid (below_then B6.out b8); have O8 := Lib.hid (O6.out.below b8); clear b8 H9))
      have HW8 := Lib.hid (KEY.out _ HB8.out).1
      obtain ⟨WB, hWB⟩ : ∃ WB, cloB (i : Int) (Ks ++ [more]) (Rs ++ [R4]) = WB := ⟨_, rfl⟩
      have HWB := Lib.hid hWB
      rw [hWB] at HCM
      clear hWB xn2
      refine region_monoP (S17 w8) (R17) (V17 w8.heap.size (i : Int) ao lo n c m lc more (.slice ro rn4 rc) y4 (ivs Ks) cs WB) [(0, some 73), (1, some 74), (2, some 75), (3, some 76), (4, some 77), (5, some 78), (6, some 79), (7, some 80), (8, some 81), (9, some 82), (10, some 83), (11, some 84), (12, some 85), (13, some 86), (14, some 15)] (by kernel_rfl) (by kernel_rfl) (by kernel_rfl) (fun L k1 i1 v1 w1 w2 hk hC hC2 hLk hLi h1 r1 => V17_keep _ (i : Int) ao lo n c m lc more (.slice ro rn4 rc) y4 (ivs Ks) cs WB L k1 i1 v1 w1 w2 hk (fun h => hC 6 _ rfl h 3 (by kernel_rfl)) (fun h => hC 9 _ rfl h 6 (by kernel_rfl)) (fun h => hC 12 _ rfl h 9 (by kernel_rfl)) (fun h => hC 13 _ rfl h 12 (by kernel_rfl)) (fun h => hC 14 _ rfl h 13 (by kernel_rfl)) (fun e => by subst e; have := hC2 6 _ rfl rfl 3 (by kernel_rfl); simpa using this) (fun e => by subst e; have := hC2 12 _ rfl rfl 9 (by kernel_rfl); simpa using this) hLk hLi h1 r1) (fun L i1 v1 w1 hL h => V17_in _ (i : Int) ao lo n c m lc more (.slice ro rn4 rc) y4 (ivs Ks) cs WB L i1 v1 w1 hL h) ((Below.refl _ w8).drew) ?_ (fun vs w' L hS hLL hV => ?_)
      · refine StepsP.cons0  (by kernel_rfl)  ?_ ?_
        · rintro L hC hL w1 hS  K hK
          (try simp only [Act.put, List.setIfInBounds_toArray, List.set_cons_zero, List.set_cons_succ])
          go_simp
          exact hK.out _ _ rfl ⟨hS, R17.below (Below.refl _ _)⟩
        refine StepsP.cons0  (by kernel_rfl)  ?_ ?_
        · rintro L hC hL w1 hS  K hK
          (try simp only [Act.put, List.setIfInBounds_toArray, List.set_cons_zero, List.set_cons_succ])
          go_simp
          exact hK.out _ _ ⟨w1.heap.size, rfl, fun _ => ⟨hS.size, heap_alloc_new w1 _⟩⟩ ⟨hS.alloc hS.size _, R17.below ((Below.refl _ _).alloc (Nat.le_refl _) _)⟩
        refine StepsP.cons0  (by kernel_rfl)  ?_ ?_
        · rintro L hC hL w1 hS  K hK
          (try simp only [Act.put, List.setIfInBounds_toArray, List.set_cons_zero, List.set_cons_succ])
          go_simp
          exact hK.out _ _ rfl ⟨hS, R17.below (Below.refl _ _)⟩
        refine StepsP.cons2 1 (some 74) 2 (some 75) (by kernel_rfl) rfl rfl ?_ ?_
        · rintro L hC hL w1 hS _ ⟨q1, rfl, h1⟩ _ rfl K hK
          (try simp only [Act.put, List.setIfInBounds_toArray, List.set_cons_zero, List.set_cons_succ])
          obtain ⟨hb1, hh1⟩ := h1 hL
          have o1 := own_empty (size := 1) hb1 hh1
          rw [if_pos (by rfl)]
          refine wp_app_any (.tmp 74) (.tmp 75) 22 rfl w8.heap.size 3 i0 (.int .i64 0) 1 8 Try.underlying22 hin hz0 hz1 hz2 rfl (by decide) _ 0 [] rfl o1 ao n c (ivs Ks) rfl (by simp [ivs, HN.out]) (HKI.out.none_ HN.out) (news_below HKI.out.news (below_then HW8.out hS)) (ivs_one _) (by unfold maxLen; omega) (by omega) hS.size ?_
          intro v' w2 o2 g2
          exact hK.out _ _ (fun _ => by rw [Nat.zero_add, List.nil_append] at o2; exact o2) ⟨hS.grown g2 hS.size (fun q hq => (o1.lt q hq).1), R17.grown (.inl rfl) g2 (fun q o hq ho => by injection hq with hq; change q1 = q at hq; rw [← hq, hh1] at ho; injection ho with ho; exact ho.symm)⟩
        refine StepsP.cons0  (by kernel_rfl)  ?_ ?_
        · rintro L hC hL w1 hS  K hK
          (try simp only [Act.put, List.setIfInBounds_toArray, List.set_cons_zero, List.set_cons_succ])
          go_simp
          exact hK.out _ _ rfl ⟨hS, R17.below (Below.refl _ _)⟩
        refine StepsP.cons1 4 (some 77) (by kernel_rfl) rfl ?_ ?_
        · rintro L hC hL w1 hS _ rfl K hK
          (try simp only [Act.put, List.setIfInBounds_toArray, List.set_cons_zero, List.set_cons_succ])
          go_simp
          exact hK.out _ _ ⟨w1.heap.size, rfl, fun _ => heap_alloc_new w1 _⟩ ⟨hS.alloc hS.size _, R17.below ((Below.refl _ _).alloc (Nat.le_refl _) _)⟩
        refine StepsP.cons2 3 (some 76) 5 (some 78) (by kernel_rfl) rfl rfl ?_ ?_
        · rintro L hC hL w1 hS _ h3 _ ⟨q5, rfl, h5⟩ K hK
          (try simp only [Act.put, List.setIfInBounds_toArray, List.set_cons_zero, List.set_cons_succ])
          have o3 := h3 hL
          have hh5 := h5 hL
          rw [if_pos (by rfl)]
          refine wp_app_any (.tmp 76) (.tmp 78) 22 rfl w8.heap.size 3 i0 (.int .i64 0) 1 8 Try.underlying22 hin hz0 hz1 hz2 rfl (by decide) _ n (ivs Ks) rfl o3 (some ⟨q5, 0, none⟩) 1 1 [.int .i64 more] rfl rfl (fun e => by cases e) (fun ad ha => by injection ha with ha; subst ha; exact one_at hh5) (by simp [Value.oneCell']) (by unfold maxLen; omega) (by omega) hS.size ?_
          intro v' w2 o2 g2
          exact hK.out _ _ (fun _ => o2) ⟨hS.grown g2 hS.size (fun q hq => (o3.lt q hq).1), R17.grown (.inr (.inl rfl)) g2 (fun q o hq ho => by obtain ⟨cur, hc⟩ := own_block o3 hq; rw [hc] at ho; injection ho with ho; exact ⟨cur, ho.symm⟩)⟩
        refine StepsP.cons0  (by kernel_rfl)  ?_ ?_
        · rintro L hC hL w1 hS  K hK
          (try simp only [Act.put, List.setIfInBounds_toArray, List.set_cons_zero, List.set_cons_succ])
          go_simp
          exact hK.out _ _ ⟨w1.heap.size, rfl, fun _ => ⟨hS.size, heap_alloc_new w1 _⟩⟩ ⟨hS.alloc hS.size _, R17.below ((Below.refl _ _).alloc (Nat.le_refl _) _)⟩
        refine StepsP.cons0  (by kernel_rfl)  ?_ ?_
        · rintro L hC hL w1 hS  K hK
          (try simp only [Act.put, List.setIfInBounds_toArray, List.set_cons_zero, List.set_cons_succ])
          go_simp
          exact hK.out _ _ rfl ⟨hS, R17.below (Below.refl _ _)⟩
        refine StepsP.cons2 7 (some 80) 8 (some 81) (by kernel_rfl) rfl rfl ?_ ?_
        · rintro L hC hL w1 hS _ ⟨q7, rfl, h7⟩ _ rfl K hK
          (try simp only [Act.put, List.setIfInBounds_toArray, List.set_cons_zero, List.set_cons_succ])
          obtain ⟨hb7, hh7⟩ := h7 hL
          have o7 := own_empty (size := 2) hb7 hh7
          rw [if_pos (by rfl)]
          refine wp_app_any (.tmp 80) (.tmp 81) 23 rfl w8.heap.size 32 j0 (.agg #[.slice none 0 0, .int .i64 0]) 2 32 Try.underlying23 jn jz0 jz1 jz2 rfl (by decide) _ 0 [] rfl o7 lo m lc cs rfl (by rw [RCS.out.1.len, HM.out]) (fun e => by rw [HM.out, HRL.out.nil e]; rfl) (news_below RCS.out.2.1 (below_then HW8.out hS)) RCS.out.2.2 (by unfold maxLen; omega) (by omega) hS.size ?_
          intro v' w2 o2 g2
          exact hK.out _ _ (fun _ => by rw [Nat.zero_add, List.nil_append] at o2; exact o2) ⟨hS.grown g2 hS.size (fun q hq => (o7.lt q hq).1), R17.grown (.inr (.inr (.inl rfl))) g2 (fun q o hq ho => by injection hq with hq; change q7 = q at hq; rw [← hq, hh7] at ho; injection ho with ho; exact ho.symm)⟩
        refine StepsP.cons0  (by kernel_rfl)  ?_ ?_
        · rintro L hC hL w1 hS  K hK
          (try simp only [Act.put, List.setIfInBounds_toArray, List.set_cons_zero, List.set_cons_succ])
          have hx0 := (KEY.out _ (below_then HB8.out hS)).2.1
          have hx1 := (KEY.out _ (below_then HB8.out hS)).2.2
          go_simp
          exact hK.out _ _ rfl ⟨hS, R17.below (Below.refl _ _)⟩
        refine StepsP.cons1 10 (some 83) (by kernel_rfl) rfl ?_ ?_
        · rintro L hC hL w1 hS _ rfl K hK
          (try simp only [Act.put, List.setIfInBounds_toArray, List.set_cons_zero, List.set_cons_succ])
          go_simp
          exact hK.out _ _ ⟨w1.heap.size, rfl, fun _ => heap_alloc_new w1 _⟩ ⟨hS.alloc hS.size _, R17.below ((Below.refl _ _).alloc (Nat.le_refl _) _)⟩
        refine StepsP.cons2 9 (some 82) 11 (some 84) (by kernel_rfl) rfl rfl ?_ ?_
        · rintro L hC hL w1 hS _ h9 _ ⟨q11, rfl, h11⟩ K hK
          (try simp only [Act.put, List.setIfInBounds_toArray, List.set_cons_zero, List.set_cons_succ])
          have o9 := h9 hL
          have hh11 := h11 hL
          rw [if_pos (by rfl)]
          refine wp_app_any (.tmp 82) (.tmp 84) 23 rfl w8.heap.size 32 j0 (.agg #[.slice none 0 0, .int .i64 0]) 2 32 Try.underlying23 jn jz0 jz1 jz2 rfl (by decide) _ m cs rfl o9 (some ⟨q11, 0, none⟩) 1 1 [.slice ro rn4 rc, .int .i64 y4] rfl rfl (fun e => by cases e) (fun ad ha => by injection ha with ha; subst ha; exact two_news hh11) (by simp [Value.oneCell']) (by unfold maxLen; omega) (by omega) hS.size ?_
          intro v' w2 o2 g2
          exact hK.out _ _ (fun _ => o2) ⟨hS.grown g2 hS.size (fun q hq => (o9.lt q hq).1), R17.grown (.inr (.inr (.inr rfl))) g2 (fun q o hq ho => by obtain ⟨cur, hc⟩ := own_block o9 hq; rw [hc] at ho; injection ho with ho; exact ⟨cur, ho.symm⟩)⟩
        refine StepsP.cons3 0 (some 73) 6 (some 79) 12 (some 85) (by kernel_rfl) rfl rfl rfl ?_ ?_
        · rintro L hC hL w1 hS _ rfl _ h6 _ h12 K hK
          (try simp only [Act.put, List.setIfInBounds_toArray, List.set_cons_zero, List.set_cons_succ])
          obtain ⟨a6, c6, rfl, hl6, I6⟩ := own_ilz (L := Ks ++ [more]) (by rw [List.map_append]; exact h6 hL)
          obtain ⟨a12, c12, rfl, R12⟩ := RC2.out.rlz (n := m + 1) (h12 hL) (by simp [HM.out]) (below_then HW8.out hS) (Nat.le_refl _)
          have HC := clo10 (many := (i : Int)) (n := n + 1) (m := m + 1) (c := c6) (lc := c12) (k := w1.heap.size) hl6 (by simp [HM.out]) (by omega) (by omega) I6 R12 (Nat.le_refl _) (by omega)
          clear hl6
          go_simp
          go_at_call 10
          (with_reducible refine HC.mono ?_)
          rintro e w2 ⟨xa, xn, rfl, xn1, xn2, xz, xb⟩
          exact hK.out _ _ ⟨xa, xn, rfl, by rw [← HWB.out]; exact xn1, xn2, by rw [← HWB.out]; exact xz⟩ ⟨below_then hS xb, R17.below xb⟩
        refine StepsP.cons1 13 (some 86) (by kernel_rfl) rfl ?_ ?_
        · rintro L hC hL w1 hS _ ⟨xa, xn, rfl, x1, x2, x3⟩ K hK
          (try simp only [Act.put, List.setIfInBounds_toArray, List.set_cons_zero, List.set_cons_succ])
          have HX := Lib.hid (And.intro x1 (And.intro x2 x3))
          clear x1 x2 x3
          go_simp
          exact hK.out _ _ ⟨xa, xn, rfl, HX.out⟩ ⟨hS, R17.below (Below.refl _ _)⟩
        exact StepsP.nil
      obtain ⟨xa, xn, hv14, hx1, hx2, hx3⟩ := hV 14 (by decide)
      have hv13 : vs 13 = vs 13 := rfl
      have BX := Lib.hid (show Below w8.heap.size w8 w' from hS)
      have XZ := Lib.hid (And.intro hx1 hx3)
      have OX := Lib.hid (O8.out.below BX.out)
      simp only [putl, List.foldl_cons, List.foldl_nil, Act.put, List.setIfInBounds_toArray, List.set_cons_zero, List.set_cons_succ]
      rw [hv14]
      have hxn : xn = 0 ∨ xn = i := by
        rcases HCM.out with e | ⟨e, _⟩
        · left; rw [hx1, e]; rfl
        · right; rw [hx1]; exact e
      have LQ := Lib.hid (show xn = i → Leq F WB from fun e => by
        rcases HCM.out with h | ⟨_, h⟩
        · have h2 := XZ.out.1; rw [h] at h2; simp at h2; have := HF.out.2.2.2; omega
        · exact h)
      clear hV hS hLL hv14 hv13 hx1 hx3
      have hi0 := HF.out.2.2.2
      have HXN := Lib.hid hxn
      clear hxn
      go_wp2_with fail
      go_loopg [16] xn (fun gk v16 wx => ∃ k : Nat, v16 = .int .i64 k ∧ k + gk = xn ∧ wx = w')
      case atStart => exact ⟨0, rfl, by omega, rfl⟩
      case round =>
        obtain ⟨k, rfl, hkg, rfl⟩ := hrel
        have HKG := Lib.hid hkg
        by_cases h2 : k < xn
        · have hxi : xn = i := by rcases HXN.out with h | h <;> omega
          have HLQ := LQ.out hxi
          have d2 : decide ((k : Int) < (xn : Int)) = true := by simp; omega
          have d3 : decide ((k : Int) < (i : Int)) = true := by simp; omega
          have hcf := (OX.out.cells fa rfl).2 k _ (at_has (k := k) (by rw [HFL.out]; omega))
          obtain ⟨xad, rfl⟩ : ∃ xad, xa = some xad := by
            cases xa with
            | none => have := XZ.out.2.nil rfl; have h3 := XZ.out.1; rw [this] at h3; simp at h3; omega
            | some xad => exact ⟨xad, rfl⟩
          have hcx := (XZ.out.2.cells xad rfl).2 k _ (at_has (k := k) (by rw [← XZ.out.1]; exact h2))
          have q0 : (0 : Int) ≤ (k : Int) := by omega
          have q1 : (k : Int) < (i : Int) := by omega
          have q2 : (k : Int) < (xn : Int) := by omega
          have e1 : IntKind.i64.wrap ((k : Int) + 1) = (k : Int) + 1 := IntWalk.i64_in _ (by omega)
          clear hkg hxi
          cases hbf : has F (k : Int) with
          | true =>
            have hbw := HLQ _ hbf
            rw [hbf] at hcf
            rw [hbw] at hcx
            clear hbw hbf HLQ
            go_wp2_with fail
            go_roundg (gk - 1)
            case measure => have := HKG.out; omega
            case rel => exact ⟨k + 1, by simp, by have := HKG.out; omega, rfl⟩
          | false =>
            rw [hbf] at hcf
            clear hbf HLQ hcx
            go_wp2_with fail
            go_roundg (gk - 1)
            case measure => have := HKG.out; omega
            case rel => exact ⟨k + 1, by simp, by have := HKG.out; omega, rfl⟩
        · have d2 : decide ((k : Int) < (xn : Int)) = false := by simp; omega
          obtain rfl : k = xn := by omega
          have BF := Lib.hid (KEY.out _ (below_then HB8.out BX.out)).1
          clear hkg
          go_wp2_with fail
          all_goals go_ret
          all_goals exact ⟨by rcases HXN.out with h | h <;> subst h <;> simp, BF.out⟩
end
end Go.Proofs.Ytllgdlfdmmdffaa
