/- A party in general: keys for the spots above a leaf. -/
import Derived.Test.YtllgdlfdmmdffaaG4
namespace Go.Proofs.Ytllgdlfdmmdffaa
open Go.ChangeShapes Go.WideShapes Go.ChangeAt Go.RowKit Go.MapKept Go.ChangeMaps
set_option linter.unusedSimpArgs false
set_option linter.unusedVariables false
/-- Other numbers and rules. -/
def mdR (m : Md) (many : Int) (Rs : List Rl) : Md := { m with many := many, Rs := Rs }
theorem pthS_bd (T : Ktr) (h : TOk T) (l k : Nat) (hk : k < 3) (s : Pm) : s.many ≤ (pthS T l k s).many ∧ (pthS T l k s).many ≤ s.many + 2 ∧ (pthS T l k s).Rs.length ≤ s.Rs.length + 38 := by
  unfold pthS
  split
  · exact ⟨Int.le_refl _, by omega, by omega⟩
  · have h1 := res_len T h k (sib (l / 2 ^ k))
    have h2 : 2 ^ k ≤ 2 ^ 2 := Nat.pow_le_pow_right (by omega) (by omega)
    refine ⟨by simp only; omega, by simp only; omega, ?_⟩
    simp only [List.length_append, tellR, List.length_map, List.length_cons, List.length_nil]
    omega
theorem pth_bd (T : Ktr) (h : TOk T) (l : Nat) (s : Pm) : ∀ k, k ≤ 3 → s.many ≤ (pth T l s k).many ∧ (pth T l s k).many ≤ s.many + 2 * k ∧ (pth T l s k).Rs.length ≤ s.Rs.length + 38 * k := by
  intro k
  induction k with
  | zero => intro _; exact ⟨Int.le_refl _, by simp [pth], by simp [pth]⟩
  | succ k ih =>
    intro hk
    have h1 := ih (by omega)
    have h2 := pthS_bd T h l k (by omega) (pth T l s k)
    simp only [pth]
    omega
theorem In1.set1 {w : World} {m : Nat} {F : Int → Option Int} {es es' : Array MapEntry} {cl cl' : Nat} (hb : w.heap[m]? = some (.map es cl)) (hm : Mo es' cl') (hv : Mp es' F (fun z v => v = .int .i64 z)) : In1 (setBlock w m (.map es' cl')) m F :=
  ⟨es', cl', set_same hb _, hm, hv⟩
section
variable {w0 w : World} {p t h : Nat} {m : Md} {c : Nat → Value} {mb : Nat → Nat}
/-- What a rule leaves, where what it needs is one number. -/
theorem rule_one (G : Gp w0 w p m t h c mb) (x y : Int) (hR : m.Rs.length ≤ 10000000) :
    Calls Try.prog 41 #[.pointer (some ⟨p, 0, none⟩), .int .i64 x, .slice (some ⟨w.heap.size, 0, none⟩) 1 1] (w.alloc (.cells #[.int .i64 y] 3)) fun e w' => e = .returned (.tuple #[]) ∧ (KM w w' ∧ K7 w w') ∧ ∃ c', Gp w0 w' p { m with Rs := m.Rs ++ [⟨[y], x⟩] } t h c' mb ∧ KN (c 2) (c 3) w (c' 2) (c' 3) w' := by
  have kA : Below w.heap.size w (w.alloc (.cells #[.int .i64 y] 3)) := (Below.refl _ w).alloc (Nat.le_refl _) _
  have hne := ne_new G.P w.heap.size (Nat.le_refl _)
  have G1 := G.below kA
  refine (rule41g G1.P w.heap.size 1 1 [y] x (nb_one w y) rfl (Nat.le_refl _) hne.1 hne.2 hR).mono ?_
  rintro e w1 ⟨rfl, ⟨m1, s1⟩, c', P1, n1⟩
  exact ⟨rfl, ⟨(KM.of kA).trans m1, (k7_of kA).trans s1⟩, c', G1.keep P1 m1 n1, (kn_of _ _ kA).trans n1⟩
theorem tn_new {w4 : World} {v : Value} {L : List Int} (G : Gp w0 w p m t h c mb) (k : Below w.heap.size w w4) (o : Ro w.heap.size w4 v L) : Tn w4 w0.heap.size (c 2) (c 3) v L := by
  refine ⟨own_le o G.P.bl.size, fun q e => ?_⟩
  rcases o.2 with ⟨h, _⟩ | ⟨g, cap, cur, e2, hb, hh, r⟩
  · rw [h] at e; cases e
  · rw [e2] at e
    injection e with e
    change g = q at e
    subst e
    exact ne_new G.P g hb
theorem look_key (G : Gp w0 w p m t h c mb) (y : Int) : ∃ sv, (Instr.lookup 51 (.map (some t)) (.int .i64 y) false).run Try.prog w = .ok (.agg #[.int .i64 (keyOfT m.T y), sv]) w := by
  obtain ⟨es, cl, h1, h2, h3⟩ := G.tr
  rcases mp_look (T := 51) Try.underlying51 h1 h2 h3 (zero65 w) y with ⟨⟨z, L⟩, v, hm, ⟨sv, rfl, ho⟩, hrun⟩ | ⟨hm, hrun⟩
  · exact ⟨sv, by have hr := hrun false; unfold keyOfT; rw [hm]; exact hr⟩
  · exact ⟨_, by have hr := hrun false; unfold keyOfT; rw [hm]; exact hr⟩
theorem index_bd {a b l q : Nat} (h : Sp a b l q) : (2 * q + 1) * 2 ^ l - 1 < 262144 := by
  have h1 := h.p16
  have h2 := h.l16
  have h3 : (2 * q + 1) * 2 ^ l ≤ (2 * 2 ^ (16 - l)) * 2 ^ l := Nat.mul_le_mul_right _ (by omega)
  have h4 : (2 * 2 ^ (16 - l)) * 2 ^ l = 131072 := by
    rw [Nat.mul_assoc, ← Nat.pow_add, show 16 - l + l = 16 by omega]
  omega
theorem field65 (key : Int) (sv : Value) (w : World) : (Instr.field 65 (.agg #[.int .i64 key, sv]) 0).run Try.prog w = .ok (.int .i64 key) w := by kernel_rfl
theorem keys_upd (G : Gp w0 w p m t h c mb) {mk : Nat} {F : Int → Option Int} (I : In1 w mk F) (h1 : mk ≠ t) (h2 : mk ≠ h) (h3 : w0.heap.size ≤ mk) (h4 : ∀ l, l < 8 → m.ins l = true → mk ≠ mb l) (i v : Int) :
    ∃ es' cl', (Instr.mapUpdate 66 (.map (some mk)) (.int .i64 i) (.int .i64 v)).run Try.prog w = .ok () (setBlock w mk (.map es' cl')) ∧ Gp w0 (setBlock w mk (.map es' cl')) p m t h c mb ∧ In1 (setBlock w mk (.map es' cl')) mk (upd F i (some v)) ∧ KC w (setBlock w mk (.map es' cl')) := by
  obtain ⟨es, cl, q1, q2, q3⟩ := I
  obtain ⟨es', cl', r, v1, v2⟩ := mp_upd (T := 66) Try.underlying66 q1 q2 q3 i v (.int .i64 v) rfl
  exact ⟨es', cl', r, G.other q1 _ h1 h2 h3 h4, In1.set1 q1 v1 v2, set_kc q1 _⟩
/-- A path begins. -/
def psE (m : Md) (seed : Int) : Pm := ⟨seed, m.many, m.Rs, fun _ => none⟩
/-- What path leaves. -/
def Pa2 (w0 : World) (p : Nat) (m : Md) (t h : Nat) (mb : Nat → Nat) (S : Pm) (e : Ending) (w' : World) : Prop :=
  ∃ (mk : Nat) (c' : Nat → Value), e = .returned (.tuple #[.map (some mk), .int .i64 S.last]) ∧ Gp w0 w' p (mdR m S.many S.Rs) t h c' mb ∧ In1 w' mk S.keys ∧ mk ≠ t ∧ mk ≠ h ∧ w0.heap.size ≤ mk ∧ ∀ l, l < 8 → m.ins l = true → mk ≠ mb l
set_option maxRecDepth 20000 in
set_option maxHeartbeats 8000000 in
theorem path49g (G : Gp w0 w p m t h c mb) (hT : TOk m.T) (l : Nat) (hl : l < 8) (seed : Int) (hb : 0 ≤ m.many ∧ m.many ≤ 100000) (hR : m.Rs.length ≤ 9000000) :
    Calls Try.prog 49 #[.pointer (some ⟨p, 0, none⟩), .int .i64 (l : Int), .int .i64 seed] w (Pa2 w0 p m t h mb (pth m.T l (psE m seed) 3)) := by
  have hmk := run_mk 66
  have HP := Lib.hid (fun x => path12 l 3 (by omega) (by omega) x)
  have HB := Lib.hid (fun x => beside61 l 3 (by omega) (by omega) x)
  have K0 : Below w.heap.size w (w.alloc (.map #[] 0)) := (Below.refl _ w).alloc (Nat.le_refl _) (.map #[] 0)
  have hm0 : (w.alloc (.map #[] 0)).heap[w.heap.size]? = some (.map #[] 0) := heap_alloc_new _ _
  have G1 := G.below K0
  have htl := G.tlt
  have hhl := G.hlt
  have hml : ∀ l, l < 8 → m.ins l = true → mb l < w.heap.size := fun l hl hi => G.mlt hl hi
  have hbs := G.P.bl.size
  obtain ⟨mk, hmk2⟩ : ∃ mk, mk = w.heap.size := ⟨_, rfl⟩
  have I0 : In1 (w.alloc (.map #[] 0)) mk (fun _ => none) := ⟨#[], 0, by rw [hmk2]; exact hm0, mo_nil 0, mp_nil⟩
  have HMK := Lib.hid (show mk ≠ t ∧ mk ≠ h ∧ w0.heap.size ≤ mk ∧ ∀ l, l < 8 → m.ins l = true → mk ≠ mb l from ⟨by omega, by omega, by omega, fun l hl hi => by have := hml l hl hi; omega⟩)
  have HU := Lib.hid (And.intro hT (And.intro hl (And.intro hb hR)))
  have HBD := Lib.hid (pth_bd m.T hT l (psE m seed))
  clear hm0 htl hhl hml hbs hT hl hb hR G
  go_enter Try.func49, Try.ntmps49
  go_upto_region 3 with (fail)
  rw [← hmk2]
  generalize w.alloc (.map #[] 0) = w1 at K0 G1 I0 ⊢
  have HG1 := Lib.hid (And.intro G1 I0)
  clear hmk2 hmk K0 G1 I0
  have H1 : Calls Try.prog 61 #[.int .i64 (l : Int), .int .i64 3] w1 (Besides l 3 w1) := HB.out w1
  go_wp2_with (first
    | (go_at_call 61; (with_reducible refine H1.mono ?_); rintro e w2 ⟨v, ys, rfl, hyl, hys, hyo, b2⟩; obtain ⟨ay, cy, rfl⟩ := row_form hyo; have HY := Lib.hid (And.intro hyl (And.intro hys (And.intro hyo b2))); have H2 : Calls Try.prog 45 #[.int .i64 (l : Int), .int .i64 3] w2 (Paths l 3 w2) := HP.out w2; clear hyl hys hyo b2)
    | (go_at_call 45; (with_reducible refine H2.mono ?_); rintro e w3 ⟨v, xs, rfl, hxl, hxs, hxo, b3⟩; obtain ⟨ax, cx1, rfl⟩ := row_form hxo; have HX := Lib.hid (And.intro hxl (And.intro hxs (And.intro hxo b3))); clear hxl hxs hxo b3))
  have b13 := below_then HY.out.2.2.2 HX.out.2.2.2
  have HG3 := Lib.hid (And.intro (HG1.out.1.below b13) (HG1.out.2.km (KM.of b13)))
  clear b13
  go_loopg [9, 24] 3 (fun gk v9 v24 wr => ∃ (k : Nat) (S : Pm) (c' : Nat → Value), v9 = .int .i64 S.last ∧ v24 = .int .i64 k ∧ k + gk = 3 ∧ S = pth m.T l (psE m seed) k ∧ Gp w0 wr p (mdR m S.many S.Rs) t h c' mb ∧ In1 wr mk S.keys ∧ K7 w3 wr)
  case atStart => exact ⟨0, psE m seed, c, rfl, rfl, by omega, rfl, HG3.out.1, HG3.out.2, fun _ _ _ _ _ _ _ x => x⟩
  case round =>
    obtain ⟨k, S, c', rfl, rfl, hkg, hS, hG, hI, h7⟩ := hrel
    obtain ⟨⟨hm1, hm2, hr1⟩, hk3⟩ : ((psE m seed).many ≤ S.many ∧ S.many ≤ (psE m seed).many + 2 * k ∧ S.Rs.length ≤ (psE m seed).Rs.length + 38 * k) ∧ k ≤ 3 := by
      have h3 : k ≤ 3 := by omega
      exact ⟨by rw [hS]; exact HBD.out k h3, h3⟩
    have hsS : pth m.T l (psE m seed) (k + 1) = pthS m.T l k S := by rw [hS]; rfl
    obtain ⟨last, many', Rs', keys⟩ := S
    simp only at hm1 hm2 hr1 hG hI
    have HG := Lib.hid (And.intro hkg (And.intro hm1 (And.intro hm2 (And.intro hr1 hsS))))
    have HSS := Lib.hid hS
    dsimp only
    clear hS hsS hk3
    by_cases h1 : k < 3
    · have d1 : decide ((k : Int) < 3) = true := by simp; omega
      obtain ⟨x, hx⟩ : ∃ x, xs[k]? = some x := ⟨xs[k]'(by rw [HX.out.1]; exact h1), List.getElem?_eq_getElem _⟩
      obtain ⟨y, hy⟩ : ∃ y, ys[k]? = some y := ⟨ys[k]'(by rw [HY.out.1]; exact h1), List.getElem?_eq_getElem _⟩
      obtain ⟨adx, rfl, hcx⟩ := row_cx (h7.own HX.out.2.2.1 (by decide) (by decide) (by decide)) k x hx wr (Below.refl _ _)
      obtain ⟨ady, rfl, hcy⟩ := row_cx (h7.own ((KC.of HX.out.2.2.2).own HY.out.2.2.1) (by decide) (by decide) (by decide)) k y hy wr (Below.refl _ _)
      have hsy := HY.out.2.1 k y hy
      have hsx := HX.out.2.1 k x hx
      have HRES : Calls Try.prog 62 #[.pointer (some ⟨p, 0, none⟩), .complex .f64 y.1 y.2] wr (Rs2 wr (res m.T k (sib (l / 2 ^ k)))) := resolve62g (m := mdR m many' Rs') HU.out.1 k y.1 y.2 _ hsy (by omega) wr hG
      have RL := Lib.hid (res_len m.T HU.out.1 k (sib (l / 2 ^ k)))
      obtain ⟨L4, hL4⟩ : ∃ L4, L4 = res m.T k (sib (l / 2 ^ k)) := ⟨_, rfl⟩
      rw [← hL4] at HRES RL
      have HL4 := Lib.hid hL4
      clear hL4
      obtain ⟨y1, y2⟩ := y
      obtain ⟨x1, x2⟩ := x
      have q0 : (0 : Int) ≤ (k : Int) := by omega
      have q1 : (k : Int) < 3 := by omega
      have HS := Lib.hid (And.intro hG (And.intro hI (And.intro h7 (And.intro h1 hsx))))
      clear hkg hsx hsy hx hy hG hI h7 hm1 hm2 hr1
      go_upto_region 8 with (first
        | (go_at_call 62; (with_reducible refine HRES.mono ?_); rintro e w4 ⟨v4, rfl, o4, b4⟩; have T4 := Lib.hid (tn_new HS.out.1 b4 o4); obtain ⟨a4, cc4, rfl⟩ := row_form o4; obtain ⟨n4, hn4⟩ : ∃ n4, n4 = L4.length := ⟨_, rfl⟩; have K4 := Lib.hid (And.intro b4 (And.intro hn4 RL.out)); rw [← hn4] at T4 ⊢; clear HRES o4 b4 hn4))
      have hpk : 9 * 2 ^ k ≤ 36 := by
        have : 2 ^ k ≤ 2 ^ 2 := Nat.pow_le_pow_right (by omega) (by have := HS.out.2.2.2.1; omega)
        omega
      have HPK := Lib.hid hpk
      clear hpk
      by_cases h0 : n4 = 0
      · have d2 : ((n4 : Int) == 0) = true := by simp; omega
        go_wp2_with fail
        go_roundg (gk - 1)
        case measure => have := HG.out.1; have := HS.out.2.2.2.1; omega
        case rel => exact ⟨k + 1, ⟨last, many', Rs', keys⟩, c', rfl, by push_cast; rfl, by have := HG.out.1; have := HS.out.2.2.2.1; omega, by rw [HG.out.2.2.2.2]; unfold pthS; rw [← HL4.out, if_pos (List.eq_nil_of_length_eq_zero (by rw [← K4.out.2.1]; exact h0))], HS.out.1.below K4.out.1, HS.out.2.1.km (KM.of K4.out.1), HS.out.2.2.1.trans (k7_of K4.out.1)⟩
      · have d2 : ((n4 : Int) == 0) = false := by simp; omega
        have hm0 : 0 ≤ many' ∧ many' ≤ 100010 := by have := HU.out.2.2.1; have h1 := HG.out.2.1; have h2 := HG.out.2.2.1; have := HS.out.2.2.2.1; simp only [psE] at h1 h2; omega
        have hr0 : Rs'.length ≤ 9000000 + 38 * k := by have := HU.out.2.2.2; have h1 := HG.out.2.2.2.1; simp only [psE] at h1; omega
        have HN0 := Lib.hid (show ¬ L4 = [] from fun e => h0 (by rw [K4.out.2.1, e]; rfl))
        have G4 := HS.out.1.below K4.out.1
        have I4 := HS.out.2.1.km (KM.of K4.out.1)
        have S4 := HS.out.2.2.1.trans (k7_of K4.out.1)
        have H30 := fresh30g G4.P 2 (by show 0 ≤ many' ∧ (0 : Int) ≤ 2 ∧ many' + 2 ≤ 1000000; omega)
        dsimp only [mdR] at H30
        have HG4 := Lib.hid (And.intro G4 (And.intro I4 S4))
        have e1 : IntKind.i64.wrap (many' + 1) = many' + 1 := IntWalk.i64_in _ (by omega)
        have HM0 := Lib.hid (And.intro hm0 hr0)
        clear G4 I4 S4 hm0 hr0 h0
        go_upto_region 11 with (first
          | (go_at_call 30; (with_reducible refine H30.mono ?_); rintro e w5 ⟨rfl, ⟨m5, s5⟩, c5, P5, n5⟩; have G5 := HG4.out.1.keep P5 m5 n5; have HG5 := Lib.hid (And.intro G5 (And.intro (HG4.out.2.1.km m5) (And.intro (HG4.out.2.2.trans s5) (T4.out.kn n5)))); have H41 := rule_one G5 many' last (by show Rs'.length ≤ 10000000; have := HM0.out.2; have := HS.out.2.2.2.1; omega); clear H30 G5 m5 s5 P5 n5)
          | (go_at_call 41; (with_reducible refine H41.mono ?_); rintro e w6 ⟨rfl, ⟨m6, s6⟩, c6, G6, n6⟩; have HG6 := Lib.hid (And.intro G6 (And.intro (HG5.out.2.1.km m6) (And.intro (HG5.out.2.2.1.trans s6) (HG5.out.2.2.2.kn n6)))); clear H41 G6 m6 s6 n6))
        go_wp2_with fail
        obtain ⟨gko, hgko⟩ : ∃ gko, gko = gk := ⟨_, rfl⟩
        obtain ⟨wo, hwo⟩ : ∃ wo, wo = wr := ⟨_, rfl⟩
        rw [← hgko] at HG
        rw [← hwo] at HS K4
        have HGK := Lib.hid (And.intro hgko hwo)
        clear hgko hwo
        go_loopg [16, 47] n4 (fun gk2 v16 v47 wr => ∃ (j : Nat) (R2 : List Rl) (c2 : Nat → Value), v47 = .int .i64 j ∧ j + gk2 = n4 ∧ (R2.length = Rs'.length + 1 + j ∧ R2 = Rs' ++ [⟨[last], many'⟩] ++ tellR m.T many' (L4.take j)) ∧ Gp w0 wr p (mdR m (many' + 2) R2) t h c2 mb ∧ In1 wr mk keys ∧ K7 w3 wr ∧ Tn wr w0.heap.size (c2 2) (c2 3) (.slice a4 n4 cc4) L4)
        case atStart => exact ⟨0, _, _, rfl, by omega, ⟨by simp, by simp [tellR]⟩, HG6.out⟩
        case round =>
          obtain ⟨j, R2, c2, rfl, hjg, hR2, G7, I7, S7, T7⟩ := hrel
          have HJ := Lib.hid (And.intro hjg (And.intro hR2 (And.intro G7 (And.intro I7 (And.intro S7 T7)))))
          clear d2
          by_cases hjn : j < n4
          · have d4 : decide ((j : Int) < (n4 : Int)) = true := by simp; omega
            have d5 : decide (j < n4) = true := by simp; omega
            have q2 : (0 : Int) ≤ (j : Int) := by omega
            have q3 : (j : Int) < (n4 : Int) := by omega
            obtain ⟨y, hy⟩ : ∃ y, L4[j]? = some y := ⟨_, List.getElem?_eq_getElem (by rw [← K4.out.2.1]; exact hjn)⟩
            obtain ⟨ad4, rfl, hc4⟩ := ro_cell (by have := T7.1; unfold Ro at this; rw [← K4.out.2.1] at this; exact this) hy
            obtain ⟨sv, hlk⟩ := look_key G7 y
            obtain ⟨key, hkey⟩ : ∃ key, key = keyOfT m.T y := ⟨_, rfl⟩
            rw [show keyOfT (mdR m (many' + 2) R2).T y = key from hkey.symm] at hlk
            have HKEY := Lib.hid hkey
            have HTK := Lib.hid (show L4.take (j + 1) = L4.take j ++ [y] by rw [List.take_add_one, hy]; rfl)
            clear hkey
            have h12 := G7.P.pc.cell 12 (by decide)
            rw [G7.P.ct] at h12
            have H41 := rule_one G7 many' key (by show R2.length ≤ 10000000; have := HM0.out.2; have := HS.out.2.2.2.1; have := K4.out.2; have := HPK.out; have := hR2.1; omega)
            have HJN := Lib.hid hjn
            have hfd := field65 key sv wr
            clear hjg hR2 G7 I7 S7 T7 hy hjn
            go_wp2_with (first
              | (go_at_call 41; (with_reducible refine H41.mono ?_); rintro e w8 ⟨rfl, ⟨m8, s8⟩, c8, G8, n8⟩; have HG8 := Lib.hid (And.intro G8 (And.intro (HJ.out.2.2.2.1.km m8) (And.intro (HJ.out.2.2.2.2.1.trans s8) (HJ.out.2.2.2.2.2.kn n8)))); clear H41 G8 m8 s8 n8))
            go_roundg (gk - 1)
            case measure => have := HJ.out.1; have := HJN.out; omega
            case rel => exact ⟨j + 1, _, _, by have h1 := HPK.out; have h2 := K4.out.2; have h3 := HJN.out; rw [IntWalk.wrap64_in _ (by omega)]; push_cast; rfl, by have := HJ.out.1; have := HJN.out; omega, ⟨by simp [mdR]; have := HJ.out.2.1.1; omega, by rw [HTK.out, HJ.out.2.1.2, HKEY.out]; simp [tellR, mdR]⟩, HG8.out⟩
          · have d4 : decide ((j : Int) < (n4 : Int)) = false := by simp; omega
            have d5 : decide (j < n4) = false := by simp; omega
            have H41 := rule_one G7 (many' + 1) many' (by show R2.length ≤ 10000000; have := HM0.out.2; have := HS.out.2.2.2.1; have := K4.out.2; have := HPK.out; have := hR2.1; omega)
            have HJN := Lib.hid hjn
            clear hjg hR2 G7 I7 S7 T7 hjn
            go_upto_region 17 with (first
              | (go_at_call 41; (with_reducible refine H41.mono ?_); rintro e w8 ⟨rfl, ⟨m8, s8⟩, c8, G8, n8⟩; have HG8 := Lib.hid (And.intro G8 (And.intro (HJ.out.2.2.2.1.km m8) (HJ.out.2.2.2.2.1.trans s8))); clear H41 G8 m8 s8 n8))
            obtain ⟨es', cl', hup, G9, I9, k9⟩ := keys_upd HG8.out.1 HG8.out.2.1 HMK.out.1 HMK.out.2.1 HMK.out.2.2.1 HMK.out.2.2.2 (((2 * (l / 2 ^ (k + 1)) + 1) * 2 ^ (k + 1) - 1 : Nat) : Int) (many' + 1)
            obtain ⟨i, hi⟩ : ∃ i : Int, i = (((2 * (l / 2 ^ (k + 1)) + 1) * 2 ^ (k + 1) - 1 : Nat) : Int) := ⟨_, rfl⟩
            have HI := Lib.hid (index_yes HS.out.2.2.2.2)
            rw [← hi] at hup HI I9
            have HIU := Lib.hid (show i = upn l k from hi)
            have HF := Lib.hid (And.intro G9 (And.intro I9 k9))
            clear hi G9 I9 k9
            go_wp2_with (first
              | (go_at_call 46; (with_reducible refine (HI.out _).mono ?_); rintro e w' ⟨rfl, rfl⟩))
            have HGK2 := HGK.out
            obtain ⟨rfl, rfl⟩ := HGK2
            go_roundg (gko - 1)
            case measure => have := HG.out.1; have := HS.out.2.2.2.1; omega
            case rel =>
              refine ⟨k + 1, ⟨many', many' + 2, R2 ++ [⟨[many'], many' + 1⟩], upd keys i (some (many' + 1))⟩, _, rfl, by push_cast; rfl, by have := HG.out.1; have := HS.out.2.2.2.1; omega, ?_, HF.out.1, HF.out.2.1, HG8.out.2.2.trans (k7_kc HF.out.2.2)⟩
              rw [HG.out.2.2.2.2]
              unfold pthS
              rw [← HL4.out, if_neg HN0.out, HJ.out.2.1.2, HIU.out, List.take_of_length_le (by have := K4.out.2.1; have := HJ.out.1; have := HJN.out; omega)]
    · have d1 : decide ((k : Int) < 3) = false := by simp; omega
      obtain rfl : k = 3 := by omega
      have HE := Lib.hid (And.intro hG hI)
      clear hkg hG hI h7 hm1 hm2 hr1
      go_wp2_with fail
      go_ret2
      have h2 := HG.out
      exact ⟨mk, c', by rw [← HSS.out]; rfl, by rw [← HSS.out]; exact HE.out.1, by rw [← HSS.out]; exact HE.out.2, HMK.out⟩
end
end Go.Proofs.Ytllgdlfdmmdffaa
