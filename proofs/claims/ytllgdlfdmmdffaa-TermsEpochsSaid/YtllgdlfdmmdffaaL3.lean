/- TermsCloses, walked. -/
import Derived.Test.YtllgdlfdmmdffaaZ4
namespace Go.Proofs.Ytllgdlfdmmdffaa
open Go.ChangeShapes Go.WideShapes Go.ChangeAt Go.RowKit
set_option linter.unusedSimpArgs false
set_option linter.unusedVariables false
/-- What holds of the arguments. -/
structure Ar (many : Int) (ao lo : Option Addr) (n m : Nat) (Ks : List Int) (Rs : List Rl) (w : World) : Prop where
  hn : n = Ks.length
  hm : m = Rs.length
  n47 : n ≤ 9223372036854775807
  m47 : m ≤ 9223372036854775807
  K : Ilz w.heap.size w ao Ks
  R : Rlz w.heap.size w lo Rs
  z : -9223372036854775808 ≤ many ∧ many < 9223372036854775808
section
variable {many : Int} {ao lo : Option Addr} {n m c lc : Nat} {Ks : List Int} {Rs : List Rl} {w W : World}
theorem Ar.clo (h : Ar many ao lo n m Ks Rs w) (hb : Below w.heap.size w W) (c lc : Nat) : Calls Try.prog 10 #[.int .i64 many, .slice ao n c, .slice lo m lc] W (Cl W (cloB many Ks Rs)) :=
  clo10 h.hn h.hm h.n47 h.m47 (h.K.below hb (Nat.le_refl _)) (h.R.below hb (Nat.le_refl _)) hb.size h.z
theorem Ar.stp (h : Ar many ao lo n m Ks Rs w) (hb : Below w.heap.size w W) (c lc : Nat) : Calls Try.prog 13 #[.int .i64 many, .slice ao n c, .slice lo m lc] W (Sl W (stpL many Ks Rs)) :=
  stp13 h.hn h.hm h.n47 h.m47 (h.K.below hb (Nat.le_refl _)) (h.R.below hb (Nat.le_refl _)) hb.size h.z
theorem Ar.rclo (h : Ar many ao lo n m Ks Rs w) (hb : Below w.heap.size w W) (c lc : Nat) : Calls Try.prog 11 #[.int .i64 many, .slice ao n c, .slice lo m lc] W (Cl W (cloB many Ks Rs)) :=
  clo11 h.hn h.hm h.n47 h.m47 (h.K.below hb (Nat.le_refl _)) (h.R.below hb (Nat.le_refl _)) hb.size
theorem Ar.rstp (h : Ar many ao lo n m Ks Rs w) (hb : Below w.heap.size w W) (c lc : Nat) : Calls Try.prog 14 #[.int .i64 many, .slice ao n c, .slice lo m lc] W (Sl W (stpL many Ks Rs)) :=
  stp14 h.hn h.hm h.n47 h.m47 (h.K.below hb (Nat.le_refl _)) (h.R.below hb (Nat.le_refl _)) hb.size
theorem Ar.gr (h : Ar many ao lo n m Ks Rs w) (hb : Below w.heap.size w W) (c lc : Nat) : Calls Try.prog 8 #[.int .i64 many, .slice ao n c, .slice lo m lc] W (Gr W n m) :=
  great8 many ao lo n m c lc _ Ks Rs W h.hn h.hm h.n47 h.m47 (h.R.below hb (Nat.le_refl _)) hb.size
set_option maxRecDepth 20000 in
set_option maxHeartbeats 8000000 in
theorem closes3 (h : Ar many ao lo n m Ks Rs w) (c lc : Nat) :
    Calls Try.prog 3 #[.int .i64 many, .slice ao n c, .slice lo m lc] w fun e w' => e = .returned (.bool true) ∧ Below w.heap.size w w' := by
  have H7 := head7 w
  have HA := Lib.hid h
  clear h
  go_enter Try.func3, Try.ntmps3
  go_upto_region 2 with (first
    | (go_at_call 7; (with_reducible refine H7.mono ?_); rintro e w1 ⟨rfl, b1⟩; have B1 := Lib.hid b1; clear b1 H7))
  have H8 := HA.out.gr B1.out c lc
  go_wp2_with (first
    | (go_at_call 8; (with_reducible refine H8.mono ?_); rintro e w2 ⟨r, rfl, b2, -⟩; have B2 := Lib.hid (below_then B1.out b2); clear b2 H8; have H10 := HA.out.clo B2.out c lc)
    | (go_at_call 10; (with_reducible refine H10.mono ?_); rintro e w3 ⟨oa, on, rfl, on1, on2, oz, b3⟩; have B3 := Lib.hid (And.intro (below_then B2.out b3) (And.intro on1 (And.intro on2 oz))); clear b3 on1 on2 oz H10; have H11 := HA.out.rclo B3.out.1 c lc)
    | (go_at_call 11; (with_reducible refine H11.mono ?_); rintro e w4 ⟨ra, rn, rfl, rn1, rn2, rz, b4⟩; have B4 := Lib.hid (below_then B3.out.1 b4); have H9 := same9 oa ra on rn on rn _ _ w4 B3.out.2.1 rn1 (by have := B3.out.2.2.1; omega) (by omega) (B3.out.2.2.2.below b4) rz; clear b4 rn1 rn2 rz H11)
    | (go_at_call 9; (with_reducible refine H9.mono ?_); rintro e w5 ⟨rfl, b5⟩; have B5 := Lib.hid (below_then B4.out b5); clear b5 H9; have H13 := HA.out.stp B5.out c lc)
    | (go_at_call 13; (with_reducible refine H13.mono ?_); rintro e w6 ⟨sa, sn, sc, rfl, sn1, sn2, si, b6⟩; have B6 := Lib.hid (And.intro (below_then B5.out b6) (And.intro sn1 (And.intro sn2 si))); clear b6 sn1 sn2 si H13; have H14 := HA.out.rstp B6.out.1 c lc)
    | (go_at_call 14; (with_reducible refine H14.mono ?_); rintro e w7 ⟨ta, tn, tc, rfl, tn1, tn2, ti, b7⟩; have B7 := Lib.hid (below_then B6.out.1 b7); have H12 := same12 sa ta sn tn sc tc _ _ w7 B6.out.2.1 tn1 (by have := B6.out.2.2.1; omega) (by omega) (by have := (B6.out.2.2.2.below b7 (Nat.le_refl _)).mono b7.size; exact this) ti; clear b7 tn1 tn2 ti H14)
    | (go_at_call 12; (with_reducible refine H12.mono ?_); rintro e w8 ⟨rfl, b8⟩; have B8 := Lib.hid (below_then B7.out b8); clear b8 H12))
  · go_ret
    exact ⟨rfl, B2.out⟩
  · go_ret
    exact ⟨by simp, B8.out⟩
end
end Go.Proofs.Ytllgdlfdmmdffaa
