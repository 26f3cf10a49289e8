/- A commit. -/
import Derived.Test.YtllgdlfdmmdffaaG11
namespace Go.Proofs.Ytllgdlfdmmdffaa
open Go.ChangeShapes Go.WideShapes Go.ChangeAt Go.RowKit Go.MapKept Go.ChangeMaps
set_option linter.unusedSimpArgs false
set_option linter.unusedVariables false
section
variable {w0 w w' : World} {p t h : Nat} {m : Md} {c c' : Nat → Value} {mb : Nat → Nat}
theorem in_look2 {b : Nat} {F : Int → Option Int} (I : In1 w b F) (i : Int) : (Instr.lookup 66 (.map (some b)) (.int .i64 i) true).run Try.prog w = .ok (.tuple #[.int .i64 ((F i).getD 0), .bool (F i).isSome]) w := by
  obtain ⟨es, cl, h1, h2, h3⟩ := I
  rcases mp_look (T := 66) Try.underlying66 h1 h2 h3 (zero3 w) i with ⟨a, v, ha, rfl, hrun⟩ | ⟨hn, hrun⟩
  · rw [ha]; exact hrun true
  · rw [hn]; exact hrun true
theorem rule_two (G : Gp w0 w p m t h c mb) (x y z : Int) (hR : m.Rs.length ≤ 10000000) :
    Calls Try.prog 41 #[.pointer (some ⟨p, 0, none⟩), .int .i64 x, .slice (some ⟨w.heap.size, 0, none⟩) 2 2] (w.alloc (.cells #[.int .i64 y, .int .i64 z] 3)) fun e w' => e = .returned (.tuple #[]) ∧ (KM w w' ∧ K7 w w') ∧ ∃ c', Gp w0 w' p { m with Rs := m.Rs ++ [⟨[y, z], x⟩] } t h c' mb ∧ KN (c 2) (c 3) w (c' 2) (c' 3) w' := by
  have kA : Below w.heap.size w (w.alloc (.cells #[.int .i64 y, .int .i64 z] 3)) := (Below.refl _ w).alloc (Nat.le_refl _) _
  have hne := ne_new G.P w.heap.size (Nat.le_refl _)
  have G1 := G.below kA
  refine (rule41g G1.P w.heap.size 2 2 [y, z] x (nb_two w y z) rfl (Nat.le_refl _) hne.1 hne.2 hR).mono ?_
  rintro e w1 ⟨rfl, ⟨m1, s1⟩, c', P1, n1⟩
  exact ⟨rfl, ⟨(KM.of kA).trans m1, (k7_of kA).trans s1⟩, c', G1.keep P1 m1 n1, (kn_of _ _ kA).trans n1⟩
theorem In1.kt {w w' : World} {b t : Nat} {F : Int → Option Int} (h : In1 w b F) (k : KT t w w') (hn : b ≠ t) : In1 w' b F := by
  obtain ⟨es, cl, h1, h2⟩ := h
  exact ⟨es, cl, k _ _ _ hn h1, h2⟩
/-- The group, so many levels up. -/
def cmM (M : Md) (l : Nat) (keys : Int → Option Int) (k : Nat) : Md := { M with T := cmT M.T l keys k, H := cmH M.H M.ins l keys k }
/-- The group when a path's keys are there. -/
def m7 (m : Md) (l : Nat) (S : Pm) : Md := { m with many := S.many, Rs := S.Rs, T := upd (blkT m.T l 3) (2 * (l : Int)) (some (m.many + 1, [])), H := setL m.H l (one (2 * (l : Int)) (m.many + 1)) }
set_option maxRecDepth 20000 in
set_option maxHeartbeats 16000000 in
theorem commit38g (G : Gp w0 w p m t h c mb) (hT : TOk m.T) (l : Nat) (hl : l < 8) (hi : m.ins l = true) (wel : Int) (hw : -1000000 ≤ wel ∧ wel ≤ 1000000) (hb : 0 ≤ m.many ∧ m.many ≤ 90000) (hini : -900000 ≤ m.init ∧ m.init ≤ 900000) (hR : m.Rs.length ≤ 8000000) (hE : m.Ep.length ≤ 1000) :
    Calls Try.prog 38 #[.pointer (some ⟨p, 0, none⟩), .int .i64 (l : Int), .int .i64 wel] w (Eg w0 p (comM m l wel) t h) := by
  have H30 := fresh30g G.P 2 (by omega)
  have HG := Lib.hid G
  have HB := Lib.hid (And.intro hb (And.intro hini (And.intro hR hE)))
  have HT := Lib.hid hT
  have HI8 := Lib.hid (And.intro hl hi)
  have HWL := Lib.hid hw
  have e1 : IntKind.i64.wrap (m.many + 1) = m.many + 1 := IntWalk.i64_in _ (by omega)
  have e2 : IntKind.i64.wrap (2 * (l : Int)) = 2 * (l : Int) := IntWalk.i64_in _ (by omega)
  have hz := zero65
  have HBD := Lib.hid (pth_bd m.T hT l (ps0 m) 3 (Nat.le_refl _))
  obtain ⟨S, hS⟩ : ∃ S, S = psM m l := ⟨_, rfl⟩
  have HS := Lib.hid hS
  have HP := Lib.hid (fun x => path12 l 3 (by omega) (by omega) x)
  clear G hb hini hR hE hT hS hw hl hi
  go_enter Try.func38, Try.ntmps38
  go_upto_region 4 with (first
    | (go_at_call 30; (with_reducible refine H30.mono ?_); rintro e w1 ⟨rfl, ⟨m1, s1⟩, c1, P1, n1⟩; have G1 := HG.out.keep P1 m1 n1; have H41 := rule_one G1 (m.many + 1) m.many (by show m.Rs.length ≤ 10000000; have := HB.out.2.2.1; omega); clear G1 P1 m1 s1 n1 H30)
    | (go_at_call 41; (with_reducible refine H41.mono ?_); rintro e w2 ⟨rfl, ⟨m2, s2⟩, c2, G2, n2⟩; have H49 : Calls Try.prog 49 #[.pointer (some ⟨p, 0, none⟩), .int .i64 (l : Int), .int .i64 m.many] w2 (Pa2 w0 p { m with many := m.many + 2, Rs := m.Rs ++ [⟨[m.many], m.many + 1⟩] } t h mb S) := (by rw [HS.out]; exact path49g G2 HT.out l HI8.out.1 m.many (by show 0 ≤ m.many + 2 ∧ m.many + 2 ≤ 100000; have := HB.out.1; omega) (by show (m.Rs ++ [_]).length ≤ 9000000; have := HB.out.2.2.1; simp; omega)); clear G2 m2 s2 n2 H41)
    | (go_at_call 49; (with_reducible refine H49.mono ?_); rintro e w3 ⟨mk, c3, rfl, G3, I3, k1, k2, k3, k4⟩; have HMK := Lib.hid (And.intro k1 (And.intro k2 (And.intro k3 k4))); have H36 := blank36g G3 l HI8.out.1; have HI3 := Lib.hid I3; clear G3 I3 k1 k2 k3 k4 H49)
    | (go_at_call 36; (with_reducible refine H36.mono ?_); rintro e w4 ⟨rfl, G4, k4⟩; have I4 := HI3.out.kt k4 HMK.out.1; clear k4 H36))
  clear HI3
  have c4 := (G4.P.pc.cell 12 (by decide)).trans (congrArg some G4.P.ct)
  obtain ⟨et, ct, t1, t2, t3⟩ := G4.tr
  obtain ⟨et', ct', r5, z1, z2⟩ := mp_upd (T := 51) Try.underlying51 t1 t2 t3 (2 * (l : Int)) (m.many + 1, []) (.agg #[.int .i64 (m.many + 1), .slice none 0 0]) (nv_key _ _ _ _ _)
  have G5 := G4.setT t1 z1 z2
  have I5 := I4.set t1 (.map et' ct') HMK.out.1
  generalize setBlock w4 t (.map et' ct') = w5 at r5 G5 I5
  have c5 := (G5.P.pc.cell 13 (by decide)).trans (congrArg some G5.P.ch)
  have l5 := has_leaf G5 l HI8.out.1 HI8.out.2
  obtain ⟨_, _, _, el, cl0, u1, u2, u3⟩ := G5.ha.bs l HI8.out.1 HI8.out.2
  have r6 : ∀ ty, (Builtin.clear_ #[66] ty #[.map (some (mb l))]).run Try.prog w5 = .ok (.tuple #[]) _ := fun ty => run_clear Try.underlying66 u1 ty
  have G6 := G5.setM HI8.out.1 HI8.out.2 u1 (mo_nil cl0) mp_nil
  have I6 := I5.set u1 (.map #[] cl0) (HMK.out.2.2.2 l HI8.out.1 HI8.out.2)
  have s6 := set_same u1 (.map #[] cl0)
  generalize setBlock w5 (mb l) (.map #[] cl0) = w6 at r6 G6 I6 s6
  have c6 := (G6.P.pc.cell 13 (by decide)).trans (congrArg some G6.P.ch)
  have l6 := has_leaf G6 l HI8.out.1 HI8.out.2
  obtain ⟨el', cl0', r7, y1, y2⟩ := mp_upd (T := 66) (M := fun _ => none) (R := fun (z : Int) v => v = .int .i64 z) Try.underlying66 s6 (mo_nil cl0) mp_nil (2 * (l : Int)) (m.many + 1) (.int .i64 (m.many + 1)) rfl
  have G7 := G6.setM HI8.out.1 HI8.out.2 s6 y1 y2
  have I7 := I6.set s6 (.map el' cl0') (HMK.out.2.2.2 l HI8.out.1 HI8.out.2)
  generalize setBlock w6 (mb l) (.map el' cl0') = w7 at r7 G7 I7
  have HG7 := Lib.hid (And.intro (show Gp w0 w7 p (m7 m l S) t h c3 mb by dsimp only at G7; rw [setL_setL] at G7; exact G7) I7)
  clear t1 t2 t3 z1 z2 u1 u2 u3 G4 G5 G6 G7 I4 I5 I6 I7 y1 y2 s6
  have H45 : Calls Try.prog 45 #[.int .i64 (l : Int), .int .i64 3] w7 (Paths l 3 w7) := HP.out w7
  go_wp2_with (first
    | (go_at_call 45; (with_reducible refine H45.mono ?_); rintro e w8 ⟨v, xs, rfl, hxl, hxs, hxo, b8⟩; obtain ⟨ax, cx1, rfl⟩ := row_form hxo; have HX := Lib.hid (And.intro hxl (And.intro hxs (And.intro hxo b8))); clear hxl hxs hxo b8 H45))
  clear r5 r6 r7 l5 l6 c4 c5 c6
  go_loopg [63] 3 (fun gk v63 wr => ∃ k : Nat, v63 = .int .i64 k ∧ k + gk = 3 ∧ Gp w0 wr p (cmM (m7 m l S) l S.keys k) t h c3 mb ∧ In1 wr mk S.keys ∧ KC w8 wr)
  case atStart => exact ⟨0, rfl, by omega, HG7.out.1.below HX.out.2.2.2, HG7.out.2.km (KM.of HX.out.2.2.2), KC.refl _⟩
  case round =>
    obtain ⟨k, rfl, hkg, hG, hI, hK⟩ := hrel
    have HG2 := Lib.hid hkg
    by_cases hlt3 : k < 3
    · have d1 : decide ((k : Int) < 3) = true := by simp; omega
      obtain ⟨x, hx⟩ : ∃ x, xs[k]? = some x := ⟨xs[k]'(by rw [HX.out.1]; exact hlt3), List.getElem?_eq_getElem _⟩
      obtain ⟨adx, rfl, hcx2⟩ := row_cx (hK.own HX.out.2.2.1) k x hx wr (Below.refl _ _)
      have hcx := hcx2
      have hsx := HX.out.2.1 k x hx
      have HSX := Lib.hid hsx
      have HI := Lib.hid (index_yes hsx)
      obtain ⟨i, hii⟩ : ∃ i : Int, i = (((2 * (l / 2 ^ (k + 1)) + 1) * 2 ^ (k + 1) - 1 : Nat) : Int) := ⟨_, rfl⟩
      rw [← hii] at HI
      have HIU := Lib.hid (show i = upn l k from hii)
      obtain ⟨x1, x2⟩ := x
      have q0 : (0 : Int) ≤ (k : Int) := by omega
      have q1 : (k : Int) < 3 := by omega
      have lk := in_look2 hI i
      clear hii
      cases hki : S.keys i with
      | none =>
        have HKI := Lib.hid hki
        rw [hki] at lk
        simp only [Option.getD_none, Option.isSome_none] at lk
        have GA := hG
        have IA := hI
        have KA := hK
        obtain ⟨wa, hwa⟩ : ∃ wa, wa = wr := ⟨_, rfl⟩
        rw [← hwa] at GA IA KA
        have c13 := (GA.P.pc.cell 13 (by decide)).trans (congrArg some GA.P.ch)
        obtain ⟨es, cl, u1, u2, u3⟩ := GA.ha.out
        have hrg := run_range1 (T := 52) Try.underlying52 u1
        have hrr : (wa.alloc (.mapIter (some h) cl #[] cl)).heap[wa.heap.size]? = some (.mapIter (some h) cl #[] cl) := heap_alloc_new _ _
        have bI : Below wa.heap.size wa (wa.alloc (.mapIter (some h) cl #[] cl)) := (Below.refl _ wa).alloc (Nat.le_refl _) _
        obtain ⟨M, hM⟩ : ∃ M : Md, M = cmM (m7 m l S) l S.keys k := ⟨_, rfl⟩
        rw [← hM] at GA
        have HM := Lib.hid hM
        have HRS := Lib.hid (show Rns w0 M t h mb mk es cl wa.heap.size cl from ⟨u2, by rw [hM]; exact u3, fun x hx => u2.old x hx, GA.P.bl.size, Nat.le_refl _, HMK.out.1, HMK.out.2.1, by rw [hM]; exact HMK.out.2.2.2⟩)
        have HR0 := Lib.hid (show Rng w0 (wa.alloc (.mapIter (some h) cl #[] cl)) p M t h c3 mb mk l k S.keys es cl wa.heap.size cl #[] w8 from ⟨⟨fun _ => false, (GA.below bI).congr rfl rfl rfl rfl rfl rfl rfl (fun j _ _ => rfl), fun x hx j e => by simp⟩, (bI.block h GA.hlt).trans u1, ⟨cl, Nat.le_refl _, hrr⟩, IA.km (KM.of bI), KA.trans (KC.of bI)⟩)
        clear GA IA KA u1 u2 u3 hrr bI hM hG hI hK hki hkg hx hsx hcx2
        rw [hwa] at hrg c13 HRS HR0
        clear hwa
        go_upto_region 15 with (first
          | (go_at_call 46; (with_reducible refine (HI.out _).mono ?_); rintro e w' ⟨rfl, rfl⟩))
        obtain ⟨rr, hre⟩ : ∃ rr, rr = wr.heap.size := ⟨_, rfl⟩
        rw [← hre] at HRS HR0 ⊢
        generalize wr.alloc (.mapIter (some h) cl #[] cl) = wi at HR0 ⊢
        clear hrg lk hre c13
        obtain ⟨gk0, hgk0⟩ : ∃ gk0, gk0 = gk := ⟨_, rfl⟩
        have HGK := Lib.hid hgk0
        rw [← hgk0] at HG2
        clear hgk0
        go_loopg [14] ((leftOf es #[]).size + 1) (fun gk v14 wx => ∃ seen : Array Nat, Rng w0 wx p M t h c3 mb mk l k S.keys es cl rr cl seen w8 ∧ (leftOf es seen).size + 1 = gk)
        case atStart => exact ⟨#[], HR0.out, rfl⟩
        case round =>
          obtain ⟨seen, hR, hgk1⟩ := hrel
          obtain ⟨ci, hci, hit⟩ := hR.it
          have HRX := Lib.hid hR
          have HG1 := Lib.hid hgk1
          rcases run_next_at (P := Try.prog) wr 0 rr h cl ci seen es cl hit hR.out HRS.out.old hci with ⟨h0, hn⟩ | ⟨e, he, w1, hw1, hn⟩
          · have HE := Lib.hid (hR.done HRS.out h0)
            have HE2 := Lib.hid (And.intro hR.ks hR.kc)
            clear hR hit h0 hgk1
            go_wp2_with fail
            go_roundg (gk0 - 1)
            case measure => have := HG2.out; have := HGK.out; omega
            case rel =>
              refine ⟨k + 1, by simp, by have := HG2.out; omega, ?_, HE2.out.1, HE2.out.2⟩
              have h9 := HE.out
              rw [HM.out] at h9
              have h8 := HKI.out
              rw [HIU.out] at h8
              refine h9.congr rfl rfl rfl rfl rfl rfl ?_ (fun j _ _ => rfl)
              show cmT _ l S.keys (k + 1) = _
              rw [cmT, h8]
              rfl
          · obtain ⟨j, ek, ev, hj, wy, hwy, hent, wd, hdel, hno, hyes⟩ := hR.step HRS.out he hw1
            rw [ek, ev, ← hwy] at hn
            have hsm := left_shrinks es seen e he
            have HSM := Lib.hid hsm
            have H50 := Lib.hid (fun x => over_yes j HSX.out (by omega) x)
            have hki2 := HKI.out
            rw [HIU.out] at hki2
            have HRU := Lib.hid (hno (.inl hki2))
            rw [← HIU.out] at hdel
            clear hR hit hgk1 he hw1 hwy hno hyes hsm hki2 ek ev hj
            go_wp2_with fail
            go_roundg ((leftOf es (seen.push e.born)).size + 1)
            case measure => have := HSM.out; have := HG1.out; omega
            case rel => exact ⟨_, HRU.out, rfl⟩
      | some key =>
        have HKI := Lib.hid hki
        rw [hki] at lk
        simp only [Option.getD_some, Option.isSome_some] at lk
        have c12 := (hG.P.pc.cell 12 (by decide)).trans (congrArg some hG.P.ct)
        obtain ⟨et, ct, t1, t2, t3⟩ := hG.tr
        obtain ⟨et', ct', r13, z1, z2⟩ := mp_upd (T := 51) Try.underlying51 t1 t2 t3 i (key, []) (.agg #[.int .i64 key, .slice none 0 0]) (nv_key _ _ _ _ _)
        have GA := hG.setT t1 z1 z2
        have IA := hI.set t1 (.map et' ct') HMK.out.1
        have KA := hK.trans (set_kc t1 (.map et' ct'))
        generalize setBlock wr t (.map et' ct') = wa at r13 GA IA KA
        have c13 := (GA.P.pc.cell 13 (by decide)).trans (congrArg some GA.P.ch)
        obtain ⟨es, cl, u1, u2, u3⟩ := GA.ha.out
        have hrg := run_range1 (T := 52) Try.underlying52 u1
        have hrr : (wa.alloc (.mapIter (some h) cl #[] cl)).heap[wa.heap.size]? = some (.mapIter (some h) cl #[] cl) := heap_alloc_new _ _
        have bI : Below wa.heap.size wa (wa.alloc (.mapIter (some h) cl #[] cl)) := (Below.refl _ wa).alloc (Nat.le_refl _) _
        obtain ⟨M, hM⟩ : ∃ M : Md, M = { cmM (m7 m l S) l S.keys k with T := upd (cmM (m7 m l S) l S.keys k).T i (some (key, [])) } := ⟨_, rfl⟩
        rw [← hM] at GA
        have HM := Lib.hid hM
        have HRS := Lib.hid (show Rns w0 M t h mb mk es cl wa.heap.size cl from ⟨u2, by rw [hM]; exact u3, fun x hx => u2.old x hx, GA.P.bl.size, Nat.le_refl _, HMK.out.1, HMK.out.2.1, by rw [hM]; exact HMK.out.2.2.2⟩)
        have HR0 := Lib.hid (show Rng w0 (wa.alloc (.mapIter (some h) cl #[] cl)) p M t h c3 mb mk l k S.keys es cl wa.heap.size cl #[] w8 from ⟨⟨fun _ => false, (GA.below bI).congr rfl rfl rfl rfl rfl rfl rfl (fun j _ _ => rfl), fun x hx j e => by simp⟩, (bI.block h GA.hlt).trans u1, ⟨cl, Nat.le_refl _, hrr⟩, IA.km (KM.of bI), KA.trans (KC.of bI)⟩)
        clear t1 t2 t3 z1 z2 GA IA KA u1 u2 u3 hrr bI hM hG hI hK hki hkg hx hsx hcx2
        go_upto_region 15 with (first
          | (go_at_call 46; (with_reducible refine (HI.out _).mono ?_); rintro e w' ⟨rfl, rfl⟩))
        obtain ⟨rr, hre⟩ : ∃ rr, rr = wa.heap.size := ⟨_, rfl⟩
        rw [← hre] at HRS HR0 ⊢
        generalize wa.alloc (.mapIter (some h) cl #[] cl) = wi at HR0 ⊢
        clear hrg lk hre c13 c12 r13
        obtain ⟨gk0, hgk0⟩ : ∃ gk0, gk0 = gk := ⟨_, rfl⟩
        have HGK := Lib.hid hgk0
        rw [← hgk0] at HG2
        clear hgk0
        go_loopg [14] ((leftOf es #[]).size + 1) (fun gk v14 wx => ∃ seen : Array Nat, Rng w0 wx p M t h c3 mb mk l k S.keys es cl rr cl seen w8 ∧ (leftOf es seen).size + 1 = gk)
        case atStart => exact ⟨#[], HR0.out, rfl⟩
        case round =>
          obtain ⟨seen, hR, hgk1⟩ := hrel
          obtain ⟨ci, hci, hit⟩ := hR.it
          have HRX := Lib.hid hR
          have HG1 := Lib.hid hgk1
          rcases run_next_at (P := Try.prog) wr 0 rr h cl ci seen es cl hit hR.out HRS.out.old hci with ⟨h0, hn⟩ | ⟨e, he, w1, hw1, hn⟩
          · have HE := Lib.hid (hR.done HRS.out h0)
            have HE2 := Lib.hid (And.intro hR.ks hR.kc)
            clear hR hit h0 hgk1
            go_wp2_with fail
            go_roundg (gk0 - 1)
            case measure => have := HG2.out; have := HGK.out; omega
            case rel =>
              refine ⟨k + 1, by simp, by have := HG2.out; omega, ?_, HE2.out.1, HE2.out.2⟩
              have h9 := HE.out
              rw [HM.out] at h9
              have h8 := HKI.out
              rw [HIU.out] at h8 h9
              refine h9.congr rfl rfl rfl rfl rfl rfl ?_ (fun j _ _ => rfl)
              show cmT _ l S.keys (k + 1) = _
              rw [cmT, h8]
              rfl
          · obtain ⟨j, ek, ev, hj, wy, hwy, hent, wd, hdel, hno, hyes⟩ := hR.step HRS.out he hw1
            rw [ek, ev, ← hwy] at hn
            have hsm := left_shrinks es seen e he
            have HSM := Lib.hid hsm
            have H50 := Lib.hid (fun x => over_yes j HSX.out (by omega) x)
            obtain ⟨ov, hov⟩ : ∃ ov, decide (j / 2 ^ (k + 1) = l / 2 ^ (k + 1)) = ov := ⟨_, rfl⟩
            rw [hov] at H50
            have hki2 := HKI.out
            rw [HIU.out] at hki2
            rw [← HIU.out] at hdel hyes
            cases ov with
            | true =>
              obtain ⟨wu, hup, hRU⟩ := hyes key (by rw [HIU.out]; exact hki2) hov
              have HRU := Lib.hid hRU
              clear hR hit hgk1 he hw1 hwy hno hyes hsm hki2 hRU hov ek ev hj
              go_wp2_with (go_at_call 50; (with_reducible refine (H50.out _).mono ?_); rintro e9 w9 ⟨rfl, hw9⟩; obtain rfl : _ = w9 := hw9)
              go_roundg ((leftOf es (seen.push e.born)).size + 1)
              case measure => have := HSM.out; have := HG1.out; omega
              case rel => exact ⟨_, HRU.out, rfl⟩
            | false =>
              have HRU := Lib.hid (hno (.inr hov))
              clear hR hit hgk1 he hw1 hwy hno hyes hsm hki2 hov ek ev hj
              go_wp2_with (go_at_call 50; (with_reducible refine (H50.out _).mono ?_); rintro e9 w9 ⟨rfl, hw9⟩; obtain rfl : _ = w9 := hw9)
              go_roundg ((leftOf es (seen.push e.born)).size + 1)
              case measure => have := HSM.out; have := HG1.out; omega
              case rel => exact ⟨_, HRU.out, rfl⟩
    · have d1 : decide ((k : Int) < 3) = false := by simp; omega
      obtain rfl : k = 3 := by omega
      have hcc : 0 ≤ S.many ∧ S.many ≤ 90008 ∧ S.Rs.length ≤ 8000200 := by
        have h1 := HBD.out
        have h2 := HB.out
        rw [show pth m.T l (ps0 m) 3 = S from HS.out.symm] at h1
        simp only [ps0, List.length_append, List.length_cons, List.length_nil] at h1
        omega
      have HCC := Lib.hid hcc
      have e3 : IntKind.i64.wrap (S.many + 1) = S.many + 1 := IntWalk.i64_in _ (by omega)
      have e4 : IntKind.i64.wrap (S.many + 2) = S.many + 2 := IntWalk.i64_in _ (by omega)
      have H30d := fresh30g hG.P 4 (by show 0 ≤ S.many ∧ (0 : Int) ≤ 4 ∧ S.many + 4 ≤ 1000000; omega)
      dsimp only [cmM, m7] at H30d
      clear hcc hI hK hkg e1 e2 hlt3
      by_cases hpos : 0 ≤ wel
      · have d3 : decide (wel ≥ 0) = true := by simpa using hpos
        go_wp2_with (first
          | (go_at_call 30; (with_reducible refine H30d.mono ?_); rintro e v1 ⟨rfl, ⟨m1, s1⟩, d1, P1, n1⟩; have Ga := hG.keep P1 m1 n1; have H41a := rule_one Ga S.many S.last (by show List.length _ ≤ 10000000; have := HCC.out.2.2; simp [cmM, m7]; omega); clear P1 m1 s1 n1 Ga H30d)
          | (go_at_call 41; (with_reducible refine H41a.mono ?_); rintro e v2 ⟨rfl, _, d2, G2, _⟩; have c14 := (G2.P.pc.cell 14 (by decide)).trans (congrArg some G2.P.cn); have c14 : v2.cell? ⟨p, 14, none⟩ = some (.int .i64 m.init) := c14; have H41b := rule_two G2 (S.many + 1) m.init S.many (by show List.length _ ≤ 10000000; have := HCC.out.2.2; simp [cmM, m7]; omega); clear G2 H41a)
          | (go_at_call 41; (with_reducible refine H41b.mono ?_); rintro e v3 ⟨rfl, _, d3, G3, _⟩; have H41c := rule_one G3 (S.many + 1) wel (by show List.length _ ≤ 10000000; have := HCC.out.2.2; simp [cmM, m7]; omega); clear G3 H41b c14)
          | (go_at_call 41; (with_reducible refine H41c.mono ?_); rintro e v4 ⟨rfl, _, d4, G4, _⟩; have H41d := rule_one G4 (S.many + 2) (S.many + 1) (by show List.length _ ≤ 10000000; have := HCC.out.2.2; simp [cmM, m7]; omega); clear G4 H41c)
          | (go_at_call 41; (with_reducible refine H41d.mono ?_); rintro e v5 ⟨rfl, _, d5, G5, _⟩; have HG5 := Lib.hid G5; have H32 := epoch32g G5.P (S.many + 2) (by have := HCC.out; omega) (by show List.length _ ≤ 10000000; have := HCC.out.2.2; simp [cmM, m7]; omega) (by show m.Ep.length ≤ 10000000; have := HB.out.2.2.2; omega); clear G5 H41d)
          | (go_at_call 32; (with_reducible refine H32.mono ?_); rintro e v6 ⟨rfl, ⟨m6, _⟩, d6, P6, n6⟩; have HP6 := Lib.hid (HG5.out.keep P6 m6 n6); clear P6 m6 n6))
        go_end0
        have e5 : S.many + 2 + 1 = S.many + 3 := by omega
        refine ⟨rfl, _, _, HP6.out.congr ?_ ?_ rfl ?_ rfl ?_ ?_ ?_⟩
        · simp [comM, ← HS.out, cmM, m7, e5]
        · simp [comM, ← HS.out, cmM, m7, e5, if_pos hpos]
        · simp [comM, ← HS.out, cmM, m7, e5]
        · simp [comM, ← HS.out, cmM, m7, e5]
        · simp [comM, ← HS.out, cmM, m7, e5]
        · intro j _ _; simp [comM, ← HS.out, cmM, m7, e5]
      · have hneg := hpos
        have d3 : decide (wel ≥ 0) = false := by simp; omega
        go_wp2_with (first
          | (go_at_call 30; (with_reducible refine H30d.mono ?_); rintro e v1 ⟨rfl, ⟨m1, s1⟩, d1, P1, n1⟩; have Ga := hG.keep P1 m1 n1; have H41a := rule_one Ga S.many S.last (by show List.length _ ≤ 10000000; have := HCC.out.2.2; simp [cmM, m7]; omega); clear P1 m1 s1 n1 Ga H30d)
          | (go_at_call 41; (with_reducible refine H41a.mono ?_); rintro e v2 ⟨rfl, _, d2, G2, _⟩; have c14 := (G2.P.pc.cell 14 (by decide)).trans (congrArg some G2.P.cn); have c14 : v2.cell? ⟨p, 14, none⟩ = some (.int .i64 m.init) := c14; have H41b := rule_two G2 (S.many + 1) m.init S.many (by show List.length _ ≤ 10000000; have := HCC.out.2.2; simp [cmM, m7]; omega); clear G2 H41a)
          | (go_at_call 41; (with_reducible refine H41b.mono ?_); rintro e v3 ⟨rfl, _, d3, G3, _⟩; have H41c := rule_one G3 (S.many + 2) (S.many + 1) (by show List.length _ ≤ 10000000; have := HCC.out.2.2; simp [cmM, m7]; omega); clear G3 H41b c14)
          | (go_at_call 41; (with_reducible refine H41c.mono ?_); rintro e v5 ⟨rfl, _, d5, G5, _⟩; have HG5 := Lib.hid G5; have H32 := epoch32g G5.P (S.many + 2) (by have := HCC.out; omega) (by show List.length _ ≤ 10000000; have := HCC.out.2.2; simp [cmM, m7]; omega) (by show m.Ep.length ≤ 10000000; have := HB.out.2.2.2; omega); clear G5 H41c)
          | (go_at_call 32; (with_reducible refine H32.mono ?_); rintro e v6 ⟨rfl, ⟨m6, _⟩, d6, P6, n6⟩; have HP6 := Lib.hid (HG5.out.keep P6 m6 n6); clear P6 m6 n6))
        go_end0
        have e5 : S.many + 2 + 1 = S.many + 3 := by omega
        refine ⟨rfl, _, _, HP6.out.congr ?_ ?_ rfl ?_ rfl ?_ ?_ ?_⟩
        · simp [comM, ← HS.out, cmM, m7, e5]
        · simp [comM, ← HS.out, cmM, m7, e5, if_neg (show ¬ 0 ≤ wel by omega)]
        · simp [comM, ← HS.out, cmM, m7, e5]
        · simp [comM, ← HS.out, cmM, m7, e5]
        · simp [comM, ← HS.out, cmM, m7, e5]
        · intro j _ _; simp [comM, ← HS.out, cmM, m7, e5]
end
end Go.Proofs.Ytllgdlfdmmdffaa
