/- The law on pairs, walked. -/
import Derived.Test.YtjdpkhcnmllleaaDoorL6
namespace Go.Proofs.YtjdpkhcnmllleaaDoor
open Go.ChangeShapes Go.WideShapes Go.ChangeAt Go.RowKit
set_option linter.unusedSimpArgs false
set_option linter.unusedVariables false

theorem ne_is {x y n m : Nat} (h : Is x n) (k : Is y m) (hne : n ≠ m) : (FloatKind.f64.format.order x y == some .eq) = false := by
  have := order_eq h k
  show (Ieee.double.order x y == some .eq) = false
  rw [this]; simp [hne]
set_option maxHeartbeats 2000000 in
theorem pairs5 (y z i : Nat) (hy : y < 256) (hz : z < 65536) (hi : i < 65536) (w : World) (hT : Tab w) : Calls Tryd.prog 5 #[.int .u8 y, .int .u16 z, .int .u16 i] w fun e w' => e = .returned (.bool true) ∧ Below w.heap.size w w' := by
  obtain ⟨k, hk⟩ : ∃ k, k = y % 16 := ⟨_, rfl⟩
  have e2 : (y : Int) % 16 = (k : Int) := by omega
  have hk15 : k ≤ 15 := by omega
  clear hk
  obtain ⟨d, hdk⟩ : ∃ d : Nat, d = 16 - k := ⟨_, rfl⟩
  have e3 : (16 : Int) - (k : Int) = (d : Int) := by omega
  obtain ⟨M, p, m1, m2, m3, m4, hp, -⟩ := shl_mod z d (by omega)
  rw [hdk] at hp
  have hd16 : d ≤ 16 := by omega
  clear hdk
  have h4 := floatOfInt_fl k
  have h5 := floatOfInt_fl p
  have hs := sp_fl k p (by omega) hp
  obtain ⟨o1, o2, ho, hos⟩ := other_yes hs (by omega)
  obtain ⟨c1, c2, hc, hco⟩ := other_yes ho (by omega)
  obtain ⟨u1, u2, hu, hus⟩ := up_yes hs (by omega)
  obtain ⟨v1, v2, hv, hvo⟩ := up_yes ho (by omega)
  obtain ⟨r, hr, hr2⟩ := add1 hs.re (by omega)
  have hl := sp_leaf i hi
  obtain ⟨x1, x2, hx, hxo⟩ := other_yes hl (by omega)
  rw [sib_sib] at hc
  rw [sib_half] at hv
  have q0 : (FloatKind.f64.format.order o2 (fl p) == some .eq) = false := ne_is ho.im hs.im (by unfold sib; omega)
  have q1 := eq_is hc.re hs.re
  have q2 := eq_is hc.im hs.im
  have q3 := eq_is hv.re hu.re
  have q4 := eq_is hv.im hu.im
  have q5 := eq_is ho.re hs.re
  have q6 := eq_is hu.re hr
  have HOS := Lib.hid hos; have HCO := Lib.hid hco; have HUS := Lib.hid hus; have HVO := Lib.hid hvo; have HXO := Lib.hid hxo
  have HL := Lib.hid (leafs_yes i hi)
  have HI : Hid (∀ w, Calls Tryd.prog 10 #[.complex .f64 0 (fl i)] w fun e w' => e = .returned (.int .i64 (2 * (i : Int))) ∧ w = w') := Lib.hid (index_is hl (i := 2 * i) (by omega))
  have HO1 : Hid (∀ w, Calls Tryd.prog 17 #[.complex .f64 0 (fl i), .int .i64 i] w fun e w' => e = .returned (.bool true) ∧ w = w') := Lib.hid (fun w => by have := over_yes i hl hi w; rwa [show decide (i / 2 ^ 0 = i) = true by simp] at this)
  have HO2 : Hid (∀ w, Calls Tryd.prog 17 #[.complex .f64 x1 x2, .int .i64 i] w fun e w' => e = .returned (.bool false) ∧ w = w') := Lib.hid (fun w => by have := over_yes i hx hi w; rwa [show decide (i / 2 ^ 0 = sib i) = false by simp; unfold sib; omega] at this)
  have HH := Lib.hid (head9 w hT)
  have hi3 : i ≤ 65535 := by omega
  clear hT hos hco hus hvo hxo hs ho hc hu hv hr hl hx hp hi
  go_enter Tryd.func5, Tryd.ntmps5
  go_wp2_with (first | (go_at_call 9; (with_reducible refine (HH.out).mono ?_); rintro e w1 ⟨rfl, hbel⟩) | (go_at_call 14; (with_reducible refine (HOS.out _).mono ?_); rintro e w' ⟨rfl, rfl⟩) | (go_at_call 14; (with_reducible refine (HCO.out _).mono ?_); rintro e w' ⟨rfl, rfl⟩) | (go_at_call 14; (with_reducible refine (HXO.out _).mono ?_); rintro e w' ⟨rfl, rfl⟩) | (go_at_call 15; (with_reducible refine (HUS.out _).mono ?_); rintro e w' ⟨rfl, rfl⟩) | (go_at_call 15; (with_reducible refine (HVO.out _).mono ?_); rintro e w' ⟨rfl, rfl⟩) | (go_at_call 10; (with_reducible refine (HI.out _).mono ?_); rintro e w' ⟨rfl, rfl⟩) | (go_at_call 16; (with_reducible refine (HL.out _).mono ?_); rintro e w' ⟨rfl, rfl⟩) | (go_at_call 17; (with_reducible refine (HO1.out _).mono ?_); rintro e w' ⟨rfl, rfl⟩) | (go_at_call 17; (with_reducible refine (HO2.out _).mono ?_); rintro e w' ⟨rfl, rfl⟩))
  go_ret
  exact ⟨rfl, hbel⟩
end Go.Proofs.YtjdpkhcnmllleaaDoor
