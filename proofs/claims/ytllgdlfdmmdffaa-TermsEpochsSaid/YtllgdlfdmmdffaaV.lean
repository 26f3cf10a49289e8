/- A commit in a party of one. -/
import Derived.Test.YtllgdlfdmmdffaaU
namespace Go.Proofs.Ytllgdlfdmmdffaa
open Go.ChangeShapes Go.WideShapes Go.ChangeAt Go.RowKit Go.MapKept Go.ChangeMaps
set_option linter.unusedSimpArgs false
set_option linter.unusedVariables false
theorem zero3 (w : World) : (zeroValue 3).run Try.prog w = .ok (.int .i64 0) w := by kernel_rfl
theorem obj_ne {w : World} {a b : Nat} {x y : Obj} (ha : w.heap[a]? = some x) (hb : w.heap[b]? = some y) (h : x ≠ y) : a ≠ b := fun e => by
  rw [e, hb] at ha
  injection ha with ha
  exact h ha.symm
theorem eT_ne_eH (k : Int) (m : Nat) : eT k ≠ eH m := by unfold eT eH; intro e; injection e with e _; simp at e
theorem eT_ne_eM (k k2 : Int) (n : Nat) : eT k ≠ eM k2 n := by unfold eT eM; intro e; injection e with e _; simp at e
theorem eH_ne_eM (m : Nat) (k2 : Int) (n : Nat) : eH m ≠ eM k2 n := by unfold eH eM; intro e; injection e with e _; simp at e
theorem e0_ne {x : MapEntry} {cl : Nat} : Obj.map #[] 0 ≠ .map #[x] cl := by intro e; injection e with e _; simp at e
section
variable {w0 w w' : World} {p t h m n : Nat} {many init k1 k2 : Int} {Rs : List Rl} {Kn Ep : List Int} {ins : Nat → Bool} {c : Nat → Value}
theorem turn {x : World} {b cl : Nat} {es : Array MapEntry} (o : Obj) (hb : x.heap[b]? = some (.map es cl)) (hP : Pty w0 x p many Rs Kn Ep ins t h init c) (hl : w0.heap.size ≤ b) :
    ∃ y, y = setBlock x b o ∧ Pty w0 y p many Rs Kn Ep ins t h init c ∧ y.heap[b]? = some o ∧ ∀ i, i ≠ b → y.heap[i]? = x.heap[i]? :=
  ⟨_, rfl, hP.keep (set_kc hb o) (set_below hP.bl hl o), set_same hb o, fun i hi => set_other hb o hi⟩
theorem nb_two (w : World) (x y : Int) : NB (w.alloc (.cells #[.int .i64 x, .int .i64 y] 3)) w.heap.size [x, y] := heap_alloc_new w _
/-- What a commit leaves. -/
def Cmt (w0 : World) (p : Nat) (many : Int) (Rs : List Rl) (Kn Ep : List Int) (ins : Nat → Bool) (t h : Nat) (init : Int) (e : Ending) (w' : World) : Prop :=
  e = .returned (.tuple #[]) ∧ ∃ c', Pty w0 w' p (many + 2 + 4) (Rs ++ [⟨[many], many + 1⟩] ++ [⟨[many], many + 2⟩] ++ [⟨[init, many + 2], many + 2 + 1⟩] ++ [⟨[many + 2 + 1], many + 2 + 2⟩] ++ [⟨[many + 2 + 2], many + 2 + 2 + 1⟩]) Kn (Ep ++ [many + 2 + 2]) ins t h (many + 2 + 2 + 1) c'
set_option maxRecDepth 20000 in
set_option maxHeartbeats 16000000 in
theorem commit38 (hP : Pty w0 w p many Rs Kn Ep ins t h init c) (hM : Mps w t h m k1 k2 n) (hlt : w0.heap.size ≤ t) (hlm : w0.heap.size ≤ m) (hb : 0 ≤ many ∧ many ≤ 900000) (hi : -900000 ≤ init ∧ init ≤ 900000) (hRl : Rs.length ≤ 1000) (hEl : Ep.length ≤ 1000) :
    Calls Try.prog 38 #[.pointer (some ⟨p, 0, none⟩), .int .i64 0, .int .i64 (-1)] w (Cmt w0 p many Rs Kn Ep ins t h init) := by
  have H30 := fresh30 hP 2 (by omega)
  have HM := Lib.hid hM
  have HL := Lib.hid (And.intro hlt hlm)
  have HB := Lib.hid (And.intro hb (And.intro hi (And.intro hRl hEl)))
  have e1 : IntKind.i64.wrap (many + 1) = many + 1 := IntWalk.i64_in _ (by omega)
  have hz := zero65
  clear hP hM hlt hlm hb hi hRl hEl
  go_enter Try.func38, Try.ntmps38
  go_upto_region 4 with (first
    | (go_at_call 30; (with_reducible refine H30.mono ?_); rintro e w1 ⟨rfl, m1, c1, P1⟩; have H41 := rule41 (P1.below ((Below.refl _ w1).alloc (Nat.le_refl _) (.cells #[.int .i64 many] 3))) w1.heap.size 1 1 [many] (many + 1) (nb_one w1 many) rfl (Nat.le_refl _) (ne_new P1 _ (Nat.le_refl _)).1 (ne_new P1 _ (Nat.le_refl _)).2 (by have := HB.out.2.2.1; omega); have HM1 := Lib.hid ((HM.out.keep m1).keep (KM.of ((Below.refl _ w1).alloc (Nat.le_refl _) (.cells #[.int .i64 many] 3)))); clear P1 m1 H30)
    | (go_at_call 41; (with_reducible refine H41.mono ?_); rintro e w2 ⟨rfl, m2, c2, P2⟩; have HM2 := Lib.hid (HM1.out.keep m2); have H49 := path49 p t k1 many w2 P2.pc.lt ((P2.pc.cell 12 (by decide)).trans (congrArg some P2.ct)) HM2.out.t; have HP2 := Lib.hid P2; clear P2 m2 H41)
    | (go_at_call 49; (with_reducible refine H49.mono ?_); rintro e w3 ⟨mk, rfl, hmk, hmkl, b3⟩; have HP3 := Lib.hid (HP2.out.below b3); have HM3 := Lib.hid (HM2.out.keep (KM.of b3)); have H36 := blank36 p t k1 w3 HP3.out.pc.lt ((HP3.out.pc.cell 12 (by decide)).trans (congrArg some HP3.out.ct)) HM3.out.t; have HK3 := Lib.hid hmk; clear hmk hmkl b3 H49)
    | (go_at_call 36; (with_reducible refine H36.mono ?_); rintro e w4 ⟨rfl, b4⟩; have P4 := HP3.out.below b4; have M4 := HM3.out.keep (KM.of b4); have K4 := KM.of b4 _ _ _ HK3.out; clear b4 H36))
  have nth := obj_ne M4.t M4.h (eT_ne_eH _ _)
  have ntm := obj_ne M4.t M4.m (eT_ne_eM _ _ _)
  have nhm := obj_ne M4.h M4.m (eH_ne_eM _ _ _)
  have nkt := obj_ne K4 M4.t e0_ne
  have nkh := obj_ne K4 M4.h e0_ne
  have nkm := obj_ne K4 M4.m e0_ne
  obtain ⟨w5, h5, P5, s5, q5⟩ := turn (eT (many + 1)) M4.t P4 HL.out.1
  have r5 : (Instr.mapUpdate 51 (.map (some t)) (.int .i64 0) (.agg #[.int .i64 (many + 1), .slice none 0 0])).run Try.prog w4 = .ok () w5 := by rw [h5]; exact run_mod1 Try.underlying51 M4.t
  have hh5 := (q5 h (fun e => nth e.symm)).trans M4.h
  have hm5 := (q5 m (fun e => ntm e.symm)).trans M4.m
  have hk5 := (q5 mk nkt).trans K4
  obtain ⟨w6, h6, P6, s6, q6⟩ := turn (.map #[] (n + 1)) hm5 P5 HL.out.2
  have r6 : ∀ ty, (Builtin.clear_ #[66] ty #[.map (some m)]).run Try.prog w5 = .ok (.tuple #[]) w6 := fun ty => by rw [h6]; exact run_clear Try.underlying66 hm5 ty
  have l5 := run_look1 (T := 52) Try.underlying52 hh5
  have hh6 := (q6 h nhm).trans hh5
  have hk6 := (q6 mk nkm).trans hk5
  have ht6 := (q6 t ntm).trans s5
  have l6 := run_look1 (T := 52) Try.underlying52 hh6
  obtain ⟨w7, h7, P7, s7, q7⟩ := turn (.map #[⟨.int .i64 0, .int .i64 (many + 1), n + 1⟩] (n + 1 + 1)) s6 P6 HL.out.2
  have r7 : (Instr.mapUpdate 66 (.map (some m)) (.int .i64 0) (.int .i64 (many + 1))).run Try.prog w6 = .ok () w7 := by rw [h7]; exact run_push Try.underlying66 s6 iks_nil (fun x hx => by simp at hx)
  have hh7 := (q7 h nhm).trans hh6
  have hk7 := (q7 mk nkm).trans hk6
  have c4 := (P4.pc.cell 12 (by decide)).trans (congrArg some P4.ct)
  have c5 := (P5.pc.cell 13 (by decide)).trans (congrArg some P5.ch)
  have c6 := (P6.pc.cell 13 (by decide)).trans (congrArg some P6.ch)
  have HP7 := Lib.hid (And.intro P7 (And.intro hh7 (And.intro hk7 s7)))
  clear P4 M4 K4 nth ntm nhm nkt nkh nkm h5 P5 s5 q5 hh5 hm5 hk5 h6 P6 s6 q6 hh6 hk6 ht6 h7 P7 s7 q7 hh7 hk7
  have H45 : Calls Try.prog 45 #[.int .i64 0, .int .i64 3] w7 (Paths 0 3 w7) := path12 0 3 (by omega) (by omega) w7
  go_wp2_with (first
    | (go_at_call 45; (with_reducible refine H45.mono ?_); rintro e w8 ⟨v, xs, rfl, hxl, hxs, hxo, b8⟩; obtain ⟨ax, cx1, rfl⟩ := row_form hxo; have HX := Lib.hid (And.intro hxl (And.intro hxs (And.intro hxo b8))); clear hxl hxs hxo b8 H45))
  have P8 := HP7.out.1.below HX.out.2.2.2
  have hh8 := KM.of HX.out.2.2.2 _ _ _ HP7.out.2.1
  have hk8 := KM.of HX.out.2.2.2 _ _ _ HP7.out.2.2.1
  have hm8 := KM.of HX.out.2.2.2 _ _ _ HP7.out.2.2.2
  have HP8 := Lib.hid (And.intro P8 (And.intro hh8 (And.intro hk8 hm8)))
  clear P8 hh8 hk8 hm8 r5 r6 r7 l5 l6 c4 c5 c6 HP7
  go_loopg [63] 3 (fun gk v63 wr => ∃ k : Nat, v63 = .int .i64 k ∧ k + gk = 3 ∧ Below w8.heap.size w8 wr)
  case atStart => exact ⟨0, rfl, by omega, Below.refl _ _⟩
  case round =>
    obtain ⟨k, rfl, hkg, hkb⟩ := hrel
    have HG := Lib.hid hkg
    by_cases hlt3 : k < 3
    · have d1 : decide ((k : Int) < 3) = true := by simp; omega
      obtain ⟨x, hx⟩ : ∃ x, xs[k]? = some x := ⟨xs[k]'(by rw [HX.out.1]; exact hlt3), List.getElem?_eq_getElem _⟩
      obtain ⟨adx, rfl, hcx⟩ := row_cx HX.out.2.2.1 k x hx wr hkb
      have hsp := HX.out.2.1 k x hx
      have HI := Lib.hid (index_yes hsp)
      obtain ⟨i, hii⟩ : ∃ i : Int, i = (((2 * (0 / 2 ^ (k + 1)) + 1) * 2 ^ (k + 1) - 1 : Nat) : Int) := ⟨_, rfl⟩
      rw [← hii] at HI
      have hne : i ≠ 0 := by rw [hii]; exact idx_ne (k + 1) _ (.inr (by omega))
      have HNE := Lib.hid hne
      obtain ⟨x1, x2⟩ := x
      have q0 : (0 : Int) ≤ (k : Int) := by omega
      have q1 : (k : Int) < 3 := by omega
      have hkr := KM.of hkb _ _ _ HP8.out.2.2.1
      have hhr := KM.of hkb _ _ _ HP8.out.2.1
      have hlk := run_look_miss (T := 66) (z := i) Try.underlying66 hkr iks_nil (fun x hx => by simp at hx) (zero3 wr) true
      have c13 := ((HP8.out.1.below hkb).pc.cell 13 (by decide)).trans (congrArg some HP8.out.1.ch)
      have hrg := run_range1 (T := 52) Try.underlying52 hhr
      have hrr : (wr.alloc (.mapIter (some h) 1 #[] 1)).heap[wr.heap.size]? = some (.mapIter (some h) 1 #[] 1) := heap_alloc_new _ _
      have hkb2 : Below w8.heap.size w8 (wr.alloc (.mapIter (some h) 1 #[] 1)) := hkb.alloc hkb.size _
      have HKB := Lib.hid (And.intro hkb hkb2)
      have HRR := Lib.hid hrr
      clear hkg hsp hx hii hne hkr hhr hrr hkb2
      go_upto_region 15 with (first
        | (go_at_call 46; (with_reducible refine (HI.out _).mono ?_); rintro e w' ⟨rfl, rfl⟩))
      obtain ⟨rr, hre⟩ : ∃ rr, rr = wr.heap.size := ⟨_, rfl⟩
      have HRL := Lib.hid (show w8.heap.size ≤ rr by rw [hre]; exact HKB.out.1.size)
      rw [← hre] at HRR ⊢
      generalize wr.alloc (.mapIter (some h) 1 #[] 1) = wi at HKB HRR ⊢
      clear hrg hlk hre
      obtain ⟨gk0, hgk0⟩ : ∃ gk0, gk0 = gk := ⟨_, rfl⟩
      have HGK := Lib.hid hgk0
      rw [← hgk0] at HG
      clear hgk0
      go_loopg [14] 2 (fun gk v14 wx => ∃ s : Bool, wx.heap[rr]? = some (.mapIter (some h) 1 (if s then #[0] else #[]) 1) ∧ Below w8.heap.size w8 wx ∧ (s = false → gk = 2))
      case atStart => exact ⟨false, HRR.out, HKB.out.2, fun _ => rfl⟩
      case round =>
        obtain ⟨s, hs, hwx, hsg⟩ := hrel
        have HW := Lib.hid hwx
        have hhx := KM.of hwx _ _ _ HP8.out.2.1
        cases s with
        | true =>
          have hn := fun ty => run_next2 ty hs hhx
          clear hs hsg hwx hhx
          go_wp2_with fail
          go_roundg (gk0 - 1)
          case measure => have := HG.out; have := HGK.out; omega
          case rel => exact ⟨k + 1, by simp, by have := HG.out; omega, HW.out⟩
        | false =>
          have hn := fun ty => run_next1 ty hs hhx
          obtain ⟨wy, hwy⟩ : ∃ wy, wy = setBlock wr rr (.mapIter (some h) 1 #[0] 1) := ⟨_, rfl⟩
          rw [← hwy] at hn
          have hby : Below w8.heap.size w8 wy := by rw [hwy]; exact set_below hwx HRL.out _
          have hry : wy.heap[rr]? = some (.mapIter (some h) 1 #[0] 1) := by rw [hwy]; exact (heap_set hs).1
          have HBY := Lib.hid (And.intro hby hry)
          have hhy := KM.of hby _ _ _ HP8.out.2.1
          have hmy := KM.of hby _ _ _ HP8.out.2.2.2
          have he := run_entry1 hry hhy
          have hd := run_delete_none (T := 66) (t2 := 3) (z := i) Try.underlying66 hmy (iks_one 0 _ _) (one_ne HNE.out)
          have HSG := Lib.hid (hsg rfl)
          clear hs hsg hwx hhx hwy hby hry hhy hmy
          go_wp2_with fail
          go_roundg 1
          case measure => have := HSG.out; omega
          case rel => exact ⟨true, HBY.out.2, HBY.out.1, fun e => by cases e⟩
    · have d1 : decide ((k : Int) < 3) = false := by simp; omega
      obtain rfl : k = 3 := by omega
      have P9 := HP8.out.1.below hkb
      clear hkg hkb
      obtain ⟨cc, hcc⟩ : ∃ cc, cc = many + 2 := ⟨_, rfl⟩
      have hccb : 0 ≤ cc ∧ cc ≤ 900002 := by have := HB.out.1; omega
      have e2 : IntKind.i64.wrap (cc + 1) = cc + 1 := IntWalk.i64_in _ (by omega)
      have e3 : IntKind.i64.wrap (cc + 2) = cc + 2 := IntWalk.i64_in _ (by omega)
      rw [← hcc] at P9
      have H30d := fresh30 P9 4 (by omega)
      have HCC := Lib.hid (And.intro hcc hccb)
      clear P9 hcc hccb e1
      go_wp2_with (first
        | (go_at_call 30; (with_reducible refine H30d.mono ?_); rintro e v1 ⟨rfl, m1, d1, P1⟩; have H41a := rule41 (P1.below ((Below.refl _ v1).alloc (Nat.le_refl _) (.cells #[.int .i64 many] 3))) v1.heap.size 1 1 [many] cc (nb_one v1 many) rfl (Nat.le_refl _) (ne_new P1 _ (Nat.le_refl _)).1 (ne_new P1 _ (Nat.le_refl _)).2 (by have := HB.out.2.2.1; simp; omega); clear P1 m1 H30d)
        | (go_at_call 41; (with_reducible refine H41a.mono ?_); rintro e v2 ⟨rfl, m2, d2, P2⟩; have c14 := (P2.pc.cell 14 (by decide)).trans (congrArg some P2.cn); have H41b := rule41 (P2.below ((Below.refl _ v2).alloc (Nat.le_refl _) (.cells #[.int .i64 init, .int .i64 cc] 3))) v2.heap.size 2 2 [init, cc] (cc + 1) (nb_two v2 init cc) rfl (Nat.le_refl _) (ne_new P2 _ (Nat.le_refl _)).1 (ne_new P2 _ (Nat.le_refl _)).2 (by have := HB.out.2.2.1; simp; omega); clear P2 m2 H41a)
        | (go_at_call 41; (with_reducible refine H41b.mono ?_); rintro e v3 ⟨rfl, m3, d3, P3⟩; have H41c := rule41 (P3.below ((Below.refl _ v3).alloc (Nat.le_refl _) (.cells #[.int .i64 (cc + 1)] 3))) v3.heap.size 1 1 [cc + 1] (cc + 2) (nb_one v3 (cc + 1)) rfl (Nat.le_refl _) (ne_new P3 _ (Nat.le_refl _)).1 (ne_new P3 _ (Nat.le_refl _)).2 (by have := HB.out.2.2.1; simp; omega); clear P3 m3 H41b c14)
        | (go_at_call 41; (with_reducible refine H41c.mono ?_); rintro e v4 ⟨rfl, m4, d4, P4⟩; have H32 := epoch32 P4 (cc + 2) (by have := HCC.out.2; omega) (by have := HB.out.2.2.1; simp; omega) (by have := HB.out.2.2.2; omega); clear P4 m4 H41c)
        | (go_at_call 32; (with_reducible refine H32.mono ?_); rintro e v5 ⟨rfl, m5, d5, P5⟩; have HP5 := Lib.hid P5; clear P5 m5))
      go_end0
      refine ⟨rfl, d5, ?_⟩
      have hP5 := HP5.out
      rw [HCC.out.1] at hP5
      exact hP5
end
end Go.Proofs.Ytllgdlfdmmdffaa
