/- KeccakParts, walked. -/
import Derived.Test.YtgjcofneecebjaaDoorL4
import Derived.Deep.RegionLaw
import Derived.Deep.RegionLawGrows
namespace Go.Proofs.YtgjcofneecebjaaDoor
open Go.ChangeShapes Go.WideShapes Go.ChangeAt Go.RowKit
set_option linter.unusedSimpArgs false
set_option linter.unusedVariables false
/-- A sponge and three texts. -/
structure G6 (w0 : World) (g : Nat) (s : St) (gv : Bool) (ao bo co : Option Addr) (A B C : List (BitVec 8)) (w : World) : Prop where
  p : G4 w0 136 31 g s gv ao bo A B w
  c : Old w0.heap.size w co C
section
variable {w0 w w' : World} {g : Nat} {s : St} {gv : Bool} {ao bo co : Option Addr} {A B C : List (BitVec 8)}
theorem G6.wr (h : G6 w0 g s gv ao bo co A B C w) (j : w.grownBy w' (some g)) {s' : St} {gv' : Bool} (hs : Spg w' g (136 : Nat) 31 s'.1 s'.2 gv') : G6 w0 g s' gv' ao bo co A B C w' :=
  ⟨h.p.wr j hs, h.c.grown j (fun b e => by injection e with e; have := h.p.o; omega)⟩
theorem G6.grown (h : G6 w0 g s gv ao bo co A B C w) {r : Option Nat} (j : w.grownBy w' r) (hr : ∀ b, r = some b → g + 1 ≤ b) : G6 w0 g s gv ao bo co A B C w' := by
  have ho := h.p.o
  have hz := h.p.z
  exact ⟨⟨h.p.sp.grown j (fun e => by have := hr _ e.symm; omega), h.p.a.grown j (fun b e => by have := hr b e; omega), h.p.b.grown j (fun b e => by have := hr b e; omega), h.p.tk.grown j (fun b e => by have := hr b e; omega), h.p.k.grown j h.p.k.size (fun b e => by have := hr b e; omega), ho, hz⟩, h.c.grown j (fun b e => by have := hr b e; omega)⟩
theorem G6.below (h : G6 w0 g s gv ao bo co A B C w) (j : Below w.heap.size w w') : G6 w0 g s gv ao bo co A B C w' :=
  h.grown (r := none) ⟨j.os, j.tape, j.output, j.size, fun k hk _ => j.block k hk⟩ (fun b e => by cases e)
end
theorem shake19i (D : List (BitVec 8)) (bo : Option Addr) (m bc n : Nat) (z : Int) (hz : z = n) (w : World) (hm : m = D.length) (hL : m ≤ 4294967296) (hn : n ≤ 65536) (hD : Old w.heap.size w bo D) (hK : TK w) :
    Calls Tryd.prog 19 #[.slice bo m bc, .int .i64 z] w fun e w' => ∃ b, e = .returned (.slice (some ⟨b, 0, none⟩) n n) ∧ Own w' w.heap.size (.slice (some ⟨b, 0, none⟩) n n) n (out 136 31 D n) ∧ Below w.heap.size w w' := by
  subst hz; exact shake19 D bo m bc n w hm hL hn hD hK
set_option maxHeartbeats 4000000 in
theorem parts6 (A B C : List (BitVec 8)) (ao bo co : Option Addr) (la lb lc ca cb cc n m : Nat) (w : World) (ha : la = A.length ∧ lb = B.length ∧ lc = C.length) (hn : n < 256) (hm : m < 256) (hA : Old w.heap.size w ao A) (hB : Old w.heap.size w bo B) (hC : Old w.heap.size w co C) (hK : TK w) :
    Calls Tryd.prog 6 #[.slice ao la ca, .slice bo lb cb, .slice co lc cc, .int .u8 n, .int .u8 m] w fun r w' => r = .returned (.bool true) ∧ Below w.heap.size w w' := by
  have h0 := hK.lt
  have HL := Lib.hid ha
  clear ha
  obtain ⟨x, hx⟩ : ∃ x, decide ((la : Int) > 5000) = x := ⟨_, rfl⟩
  obtain ⟨y, hy⟩ : ∃ x, decide ((lb : Int) > 5000) = x := ⟨_, rfl⟩
  obtain ⟨z, hz⟩ : ∃ x, decide ((lc : Int) > 5000) = x := ⟨_, rfl⟩
  have GA : Hid (∀ w, Calls Tryd.prog 11 #[.slice ao la ca] w fun e w' => e = .returned (.bool x) ∧ w' = w) := Lib.hid (fun w => hx ▸ great11 ao la ca w)
  have GB : Hid (∀ w, Calls Tryd.prog 11 #[.slice bo lb cb] w fun e w' => e = .returned (.bool y) ∧ w' = w) := Lib.hid (fun w => hy ▸ great11 bo lb cb w)
  have GC : Hid (∀ w, Calls Tryd.prog 11 #[.slice co lc cc] w fun e w' => e = .returned (.bool z) ∧ w' = w) := Lib.hid (fun w => hz ▸ great11 co lc cc w)
  have HX := Lib.hid (And.intro hx (And.intro hy hz))
  clear hx hy hz
  go_enter Tryd.func6, Tryd.ntmps6
  cases x with
  | true =>
    go_wp2_with (first | (go_at_call 8; (with_reducible refine (head8 _ hK).mono ?_); rintro e w1 ⟨rfl, b1⟩) | (go_at_call 11; (with_reducible refine (GA.out _).mono ?_); rintro e w1 ⟨rfl, rfl⟩))
    go_ret
    exact ⟨rfl, b1⟩
  | false =>
  cases y with
  | true =>
    go_wp2_with (first | (go_at_call 8; (with_reducible refine (head8 _ hK).mono ?_); rintro e w1 ⟨rfl, b1⟩) | (go_at_call 11; (with_reducible refine (GA.out _).mono ?_); rintro e w1 ⟨rfl, rfl⟩) | (go_at_call 11; (with_reducible refine (GB.out _).mono ?_); rintro e w1 ⟨rfl, rfl⟩))
    go_ret
    exact ⟨rfl, b1⟩
  | false =>
  cases z with
  | true =>
    go_wp2_with (first | (go_at_call 8; (with_reducible refine (head8 _ hK).mono ?_); rintro e w1 ⟨rfl, b1⟩) | (go_at_call 11; (with_reducible refine (GA.out _).mono ?_); rintro e w1 ⟨rfl, rfl⟩) | (go_at_call 11; (with_reducible refine (GB.out _).mono ?_); rintro e w1 ⟨rfl, rfl⟩) | (go_at_call 11; (with_reducible refine (GC.out _).mono ?_); rintro e w1 ⟨rfl, rfl⟩))
    go_ret
    exact ⟨rfl, b1⟩
  | false =>
    have hm2 : la ≤ 5000 ∧ lb ≤ 5000 ∧ lc ≤ 5000 := by have := HX.out; simp at this; omega
    obtain ⟨hla, hlb, hlc⟩ := hm2
    have e2 : IntKind.i64.wrap (n : Int) = (n : Int) := IntWalk.i64_in _ (by omega)
    have e3 : IntKind.i64.wrap (m : Int) = (m : Int) := IntWalk.i64_in _ (by omega)
    obtain ⟨k, hk⟩ : ∃ k, n + m = k := ⟨_, rfl⟩
    have e4 : (n : Int) + (m : Int) = (k : Int) := by omega
    have e5 : IntKind.i64.wrap (k : Int) = (k : Int) := IntWalk.i64_in _ (by omega)
    have e6 : IntKind.i64.wrap ((k : Int) + 3) = (k : Int) + 3 := IntWalk.i64_in _ (by omega)
    obtain ⟨s1, hs1⟩ : ∃ s1, s1 = takes 136 (takes 136 (takes 136 st0 A) B) C := ⟨_, rfl⟩
    have hlA : (takes 136 st0 A).2 < 136 := takes_lt (by omega) (by show 0 < 136; omega) A
    have hlB : (takes 136 (takes 136 st0 A) B).2 < 136 := takes_lt (by omega) hlA B
    have hl1 : s1.2 < 136 := by rw [hs1]; exact takes_lt (by omega) hlB C
    obtain ⟨s2, hs2⟩ : ∃ s2, s2 = gives 136 (pad 136 31 s1) n := ⟨_, rfl⟩
    have hl2 : s2.2.2 ≤ 136 := by rw [hs2]; exact gives_le (by omega) (by show 0 ≤ 136; omega) n
    obtain ⟨s3, hs3⟩ : ∃ s3, s3 = gives 136 s2.2 m := ⟨_, rfl⟩
    have hl3 : s3.2.2 ≤ 136 := by rw [hs3]; exact gives_le (by omega) hl2 m
    have HS1 := Lib.hid (And.intro hs1 (And.intro hs2 hs3))
    have HS2 := Lib.hid (And.intro hlA (And.intro hlB (And.intro hl1 (And.intro hl2 hl3))))
    have HKK := Lib.hid hk
    clear hs1 hs2 hs3 hlA hlB hl1 hl2 hl3 hk
    go_upto_region 13 with (first
      | (go_at_call 8; (with_reducible refine (head8 _ hK).mono ?_); rintro e w1 ⟨rfl, b1⟩)
      | (go_at_call 11; (with_reducible refine (GA.out _).mono ?_); rintro e w1 ⟨rfl, rfl⟩)
      | (go_at_call 11; (with_reducible refine (GB.out _).mono ?_); rintro e w1 ⟨rfl, rfl⟩)
      | (go_at_call 11; (with_reducible refine (GC.out _).mono ?_); rintro e w1 ⟨rfl, rfl⟩)
      | (go_at_call 9; (with_reducible refine (new9i 136 136 31 rfl _ ?l1 ?l2 ?l3).mono ?_); (case l1 => omega); (case l2 => omega); (case l3 => omega); rintro e w2 ⟨g, rfl, hg, hsp, b2⟩; have p2 : G6 w g st0 false ao bo co A B C w2 := ⟨⟨hsp, (hA.below b1 (Nat.le_refl _)).below b2 b1.size, (hB.below b1 (Nat.le_refl _)).below b2 b1.size, (hK.below b1 h0).below b2 (by have := b1.size; omega), b1.trans (b2.mono b1.size), Nat.le_trans b1.size hg, h0⟩, (hC.below b1 (Nat.le_refl _)).below b2 b1.size⟩; clear b2 hsp hg)
      | (go_at_call 12; (with_reducible refine (write12 g 136 31 st0 A ao la ca _ HL.out.1 ?l1 p2.p.sp ?l2 ?l3 (p2.p.a.byt p2.p.o) p2.p.tk ?l4).mono ?_); (case l1 => omega); (case l2 => show 0 < 136; omega); (case l3 => omega); (case l4 => have := p2.p.o; have := p2.p.z; omega); rintro e w3 ⟨rfl, h3, g3⟩; have p3 := p2.wr g3 h3; clear h3 g3 p2)
      | (go_at_call 12; (with_reducible refine (write12 g 136 31 (takes 136 st0 A) B bo lb cb _ HL.out.2.1 ?l1 p3.p.sp HS2.out.1 ?l3 (p3.p.b.byt p3.p.o) p3.p.tk ?l4).mono ?_); (case l1 => omega); (case l3 => omega); (case l4 => have := p3.p.o; have := p3.p.z; omega); rintro e w4 ⟨rfl, h4, g4⟩; have p4 := p3.wr g4 h4; clear h4 g4 p3)
      | (go_at_call 12; (with_reducible refine (write12 g 136 31 (takes 136 (takes 136 st0 A) B) C co lc cc _ HL.out.2.2 ?l1 p4.p.sp HS2.out.2.1 ?l3 (p4.c.byt p4.p.o) p4.p.tk ?l4).mono ?_); (case l1 => omega); (case l3 => omega); (case l4 => have := p4.p.o; have := p4.p.z; omega); rintro e w5 ⟨rfl, h5, g5⟩; have p5 := p4.wr g5 h5; rw [← HS1.out.1] at p5; clear h5 g5 p4)
      | (go_at_call 14; (with_reducible refine (read14i g 136 31 s1 false n n rfl _ p5.p.sp ?l1 (fun _ => HS2.out.2.2.1) ?l2 ?l3 ?l4 ?l5 p5.p.tk ?l6).mono ?_); (case l1 => exact Nat.le_of_lt HS2.out.2.2.1); (case l2 => omega); (case l3 => omega); (case l4 => omega); (case l5 => omega); (case l6 => have := p5.p.o; have := p5.p.z; omega); rintro e w6 ⟨x, rfl, ox, h6, g6⟩; simp only [Bool.false_eq_true, if_false] at ox h6; rw [← HS1.out.2.1] at ox h6; have hx0 := p5.p.tk.lt; have hxg := p5.p.sp.lt; have p6 := p5.wr (s' := s2.2) g6 h6; clear h6 g6 p5)
      | (go_at_call 14; (with_reducible refine (read14i g 136 31 s2.2 true m m rfl _ p6.p.sp HS2.out.2.2.2.1 ?l1 ?l2 ?l3 ?l4 ?l5 p6.p.tk ?l6).mono ?_); (case l1 => exact fun h => by cases h); (case l2 => omega); (case l3 => omega); (case l4 => omega); (case l5 => omega); (case l6 => have := p6.p.o; have := p6.p.z; omega); rintro e w7 ⟨u, rfl, ou, h7, g7⟩; simp only [if_true] at ou h7; rw [← HS1.out.2.2] at ou h7; have ox7 := own_mono (ox.kept g7 (.inr (fun e => by have := ox.lt _ e; omega))) (show g + 1 ≤ w5.heap.size by omega); have hu0 := p6.p.tk.lt; have p7 := p6.wr (s' := s3.2) g7 h7; have yu := (own_at (g := 0) ou (by omega)).2.2; have lu := Lib.hid (own_at (g := 0) ou (by omega)).1; clear h7 g7 p6 ox ou)
      | (at_builtin; refine app_own rfl (.tmp 44) (.tmp 48) rfl (g + 1) (.slice (some ⟨x, 0, none⟩) n n) n s2.1 rfl ox7 0 (some ⟨u, 0, none⟩) m m s3.1 rfl lu.out yu ?q1 ?q2 ?_; (case q1 => omega); (case q2 => have := p7.p.sp.lt; omega); intro v8 w8 o8 g8; have p8 := p7.grown g8 (fun b e => (ox7.lt b e).1); clear ox7 g8 p7 yu)
      | (go_at_call 12; (with_reducible refine (write12g g _ _ _ _ _ _ p8.p.sp).mono ?_); rintro e w9 ⟨rfl, rfl⟩)
      | (go_at_call 14; (with_reducible refine (read14i g 136 31 s3.2 true 3 3 rfl _ p8.p.sp HS2.out.2.2.2.2 ?l1 ?l2 ?l3 ?l4 ?l5 p8.p.tk ?l6).mono ?_); (case l1 => exact fun h => by cases h); (case l2 => omega); (case l3 => omega); (case l4 => omega); (case l5 => omega); (case l6 => have := p8.p.o; have := p8.p.z; omega); rintro e w9 ⟨y, rfl, oy, h9, g9⟩; have o9 := o8.kept g9 (.inr (fun e => by have := o8.lt _ e; omega)); have hy0 := p8.p.tk.lt; have p9 := p8.wr g9 h9; clear h9 g9 p8 o8))
    simp only [if_true] at oy
    obtain ⟨Y, hY⟩ : ∃ Y, Y = (gives 136 s3.2 3).1 := ⟨_, rfl⟩
    rw [← hY] at oy
    obtain ⟨XX, hXX⟩ : ∃ XX, XX = s2.1 ++ s3.1 := ⟨_, rfl⟩
    rw [← hXX] at o9
    have hnm : n + m = k := HKK.out
    rw [hnm] at o9
    have HXY : Hid (XX ++ Y = out 136 31 (A ++ B ++ C) (k + 3)) := Lib.hid (by
      unfold out
      rw [takes_append, takes_append, ← HS1.out.1, gives_add, ← hnm, gives_add, ← HS1.out.2.1, ← HS1.out.2.2, hXX, hY])
    have yy := (own_at (g := 0) oy (by omega)).2.2
    have LY := Lib.hid (own_at (g := 0) oy (by omega)).1
    clear hY hXX hnm oy hy0 hxg hx0 hu0
    go_wp2_with (first
      | (at_builtin; refine app_own rfl (.tmp 55) (.tmp 56) rfl w9.heap.size (.slice (some ⟨w9.heap.size, 0, none⟩) 0 0) 0 [] rfl (own_new w9) w9.heap.size ao la ca A rfl ?q1 ?q2 ?q3 ?q4 ?_; (case q1 => exact HL.out.1); (case q2 => exact (p9.p.a.alloc _).byt p9.p.k.size); (case q3 => omega); (case q4 => simp); intro v10 w10 o10 g10; have k10 : Below w9.heap.size w9 w10 := own_below (own_new w9) ((Below.refl _ _).alloc (Nat.le_refl _) _) g10; clear g10)
      | (at_builtin; refine app_own rfl (.tmp 57) (.tmp 58) rfl w9.heap.size v10 (0 + la) ([] ++ A) rfl o10 w9.heap.size bo lb cb B rfl ?q1 ?q2 ?q3 ?q4 ?_; (case q1 => exact HL.out.2.1); (case q2 => exact (p9.p.b.below k10 p9.p.k.size).byt p9.p.k.size); (case q3 => omega); (case q4 => exact k10.size); intro v11 w11 o11 g11; have k11 := own_below o10 k10 g11; clear g11 k10 o10)
      | (at_builtin; refine app_own rfl (.tmp 59) (.tmp 60) rfl w9.heap.size v11 (0 + la + lb) ([] ++ A ++ B) rfl o11 w9.heap.size co lc cc C rfl ?q1 ?q2 ?q3 ?q4 ?_; (case q1 => exact HL.out.2.2); (case q2 => exact (p9.c.below k11 p9.p.k.size).byt p9.p.k.size); (case q3 => omega); (case q4 => exact k11.size); intro v12 w12 o12 g12; have k12 := own_below o11 k11 g12; have p12 := p9.below k12; obtain ⟨a12, c12, rfl, e12, -, y12⟩ := own_byt (g := 0) o12 (by have := p9.p.tk.lt; omega); have E12 := Lib.hid (show la + lb + lc = (A ++ B ++ C).length from (by omega : la + lb + lc = 0 + la + lb + lc).trans (e12.trans (by simp))); have ox12 := own_keep o9 k12; have yy12 := yy.below k12; clear g12 k12 k11 o11 o12 p9 e12 o9 yy)
      | (go_at_call 19; (with_reducible refine (shake19i (A ++ B ++ C) a12 (la + lb + lc) c12 (k + 3) _ ?z0 _ E12.out ?z1 ?z2 ?z3 p12.p.tk).mono ?_); (case z0 => omega); (case z1 => omega); (case z2 => omega); (case z3 => exact Old.of (by simpa using y12)); rintro e w13 ⟨z, rfl, oz, b13⟩; have p13 := p12.below b13; have ox13 := own_keep ox12 b13; have yy13 := yy12.below b13; have yz := (own_at (g := 0) oz (by have := p12.p.tk.lt; omega)).2.2; have hxb : ∀ k, v8.ownBlock = some k → k < w12.heap.size := fun k e => (ox12.lt k e).2; have hz3 := p12.p.tk.lt; have hgl := p13.p.sp.lt; clear b13 p12 ox12 yy12 y12))
    obtain ⟨D, hD⟩ : ∃ D, D = out 136 31 (A ++ B ++ C) (k + 3) := ⟨_, rfl⟩
    have hDl : k + 3 = D.length := by rw [hD, out_length]
    have HDL := Lib.hid hDl
    have HXD : Hid (XX ++ Y = D) := Lib.hid (by rw [hD]; exact HXY.out)
    rw [← hD] at oz yz
    obtain ⟨sd, hsd⟩ : ∃ sd, sd = strOf D := ⟨_, rfl⟩
    have CV : Hid (∀ {w : World} {n c : Nat} {ad : Addr}, n = D.length → Byt w 0 (some ad) D → (convert 29 9 (.slice (some ad) n c)).run Tryd.prog w = .ok (.string sd) w) := Lib.hid (fun hn h => hsd ▸ conv_byt hn h)
    clear hD hDl hsd
    have hz0 := CV.out (c := k + 3) HDL.out yz.drew
    have q13 := p13.below (w' := w13.drew) ((Below.refl _ _).drew)
    have ox14 := own_keep ox13 ((Below.refl _ _).drew)
    have oz14 := own_keep oz ((Below.refl _ _).drew)
    have yy14 := yy13.drew
    clear p13 ox13 yy13 yz oz
    go_region_law ((rw [if_pos (by rfl)]); (refine wp_app_own (.tmp 72) (.tmp 73) rfl (g + 1) v8 k XX rfl ox14 0 (some ⟨y, 0, none⟩) 3 3 Y rfl LY.out yy14 ?h1 ?h2 ?_); (case h1 => omega); (case h2 => exact hgl); (intro v15 w15 o15 g15); (rw [HXD.out] at o15); (have p15 := q13.grown g15 (fun b e => (ox14.lt b e).1)); (have oz15 := oz14.kept g15 (.inr (fun e => (by have := hxb z e.symm; have := oz14.lt z rfl; omega)))); (obtain ⟨a15, c15, rfl, -, l15, y15⟩ := own_str o15 (by omega) (by omega)); (have hx1 := CV.out (c := c15) l15 y15); (have hz1 := CV.out (c := k + 3) HDL.out (own_at (g := 0) oz15 (by omega)).2.2); (have LH15 := Lib.hid l15); (clear l15))
    all_goals
      go_wp2_with fail
      go_ret
      exact ⟨rfl, p15.p.k⟩
end Go.Proofs.YtgjcofneecebjaaDoor
