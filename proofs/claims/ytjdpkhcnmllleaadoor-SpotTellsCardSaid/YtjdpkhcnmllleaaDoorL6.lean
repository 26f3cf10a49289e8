/- The law on what is below a spot, walked. -/
import Derived.Test.YtjdpkhcnmllleaaDoorF
namespace Go.Proofs.YtjdpkhcnmllleaaDoor
open Go.ChangeShapes Go.WideShapes Go.ChangeAt Go.RowKit
set_option linter.unusedSimpArgs false
set_option linter.unusedVariables false

theorem eq_is {x y n : Nat} (h : Is x n) (k : Is y n) : (FloatKind.f64.format.order x y == some .eq) = true := by
  have := order_eq h k
  show (Ieee.double.order x y == some .eq) = true
  rw [this]; simp
theorem below_ind (p k : Nat) (hk : k ≤ 15) (hp : p < 2 ^ (16 - (k + 1))) : ∃ ja js jb : Nat, ja + 1 = (2 * (2 * p) + 1) * 2 ^ k ∧ js + 1 = (2 * p + 1) * 2 ^ (k + 1) ∧ jb + 1 = (2 * (2 * p + 1) + 1) * 2 ^ k ∧ ja < js ∧ js < jb := by
  have hpos := Nat.two_pow_pos k
  have e : (2 * p + 1) * 2 ^ (k + 1) = (2 * (2 * p) + 1) * 2 ^ k + 2 ^ k := by
    rw [Nat.pow_succ, Nat.mul_comm (2 ^ k) 2, ← Nat.mul_assoc, ← Nat.succ_mul]; congr 1; omega
  have e2 : (2 * (2 * p + 1) + 1) * 2 ^ k = (2 * p + 1) * 2 ^ (k + 1) + 2 ^ k := by
    rw [Nat.pow_succ, Nat.mul_comm (2 ^ k) 2, ← Nat.mul_assoc, ← Nat.succ_mul]; congr 1; omega
  have h1 : 0 < (2 * (2 * p) + 1) * 2 ^ k := Nat.mul_pos (by omega) hpos
  rw [e] at e2
  refine ⟨(2 * (2 * p) + 1) * 2 ^ k - 1, (2 * p + 1) * 2 ^ (k + 1) - 1, (2 * (2 * p + 1) + 1) * 2 ^ k - 1, ?_, ?_, ?_, ?_, ?_⟩
  · omega
  · rw [e]; omega
  · rw [e2]; omega
  · rw [e]; omega
  · rw [e, e2]; omega
set_option maxHeartbeats 1000000 in
theorem below6 (y z : Nat) (hy : y < 256) (hz : z < 65536) (w : World) (hT : Tab w) : Calls Tryd.prog 6 #[.int .u8 y, .int .u16 z] w fun e w' => e = .returned (.bool true) ∧ Below w.heap.size w w' := by
  obtain ⟨k, hk⟩ : ∃ k, k = y % 16 := ⟨_, rfl⟩
  have e2 : (y : Int) % 16 = (k : Int) := by omega
  have hk15 : k ≤ 15 := by omega
  clear hk
  obtain ⟨d, hdk⟩ : ∃ d : Nat, d = 16 - (k + 1) := ⟨_, rfl⟩
  have e3 : (16 : Int) - (1 + (k : Int)) = (d : Int) := by omega
  obtain ⟨M, p, m1, m2, m3, m4, hp, -⟩ := shl_mod z d (by omega)
  rw [hdk] at hp
  have hd16 : d ≤ 15 := by omega
  clear hdk
  have e4 : floatOfInt .f64 (1 + (k : Int)) = fl (k + 1) := by rw [← floatOfInt_fl]; congr 1; omega
  have h5 := floatOfInt_fl p
  have hs := sp_fl (k + 1) p (by omega) hp
  obtain ⟨ja, js, jb, j1, j2, j3, j4, j5⟩ := below_ind p k hk15 hp
  obtain ⟨a1, a2, ha, hda⟩ := down_yes false hs (by omega)
  obtain ⟨b1, b2, hb, hdb⟩ := down_yes true hs (by omega)
  simp only [Bool.toNat_false, Bool.toNat_true, Nat.add_zero, Nat.add_sub_cancel] at ha hb
  obtain ⟨c1, c2, hc, hoc⟩ := other_yes ha (by omega)
  obtain ⟨d1, d2, hd, hod⟩ := other_yes hb (by omega)
  obtain ⟨g1, g2, hg, hug⟩ := up_yes ha (by omega)
  obtain ⟨i1, i2, hi, hui⟩ := up_yes hb (by omega)
  rw [show sib (2 * p) = 2 * p + 1 by unfold sib; omega] at hc
  rw [show sib (2 * p + 1) = 2 * p by unfold sib; omega] at hd
  rw [show 2 * p / 2 = p by omega] at hg
  rw [show (2 * p + 1) / 2 = p by omega] at hi
  have q1 := eq_is hc.re hb.re
  have q2 := eq_is hc.im hb.im
  have q3 := eq_is hd.re ha.re
  have q4 := eq_is hd.im ha.im
  have q5 := eq_is hg.re hs.re
  have q6 := eq_is hg.im hs.im
  have q7 := eq_is hi.re hs.re
  have q8 := eq_is hi.im hs.im
  have HDA := Lib.hid hda; have HDB := Lib.hid hdb; have HOC := Lib.hid hoc; have HOD := Lib.hid hod; have HUG := Lib.hid hug; have HUI := Lib.hid hui
  have HA := Lib.hid (index_is ha j1)
  have HS := Lib.hid (index_is hs j2)
  have HB := Lib.hid (index_is hb j3)
  have HR : Hid (∀ w, Calls Tryd.prog 19 #[.complex .f64 a1 a2, .int .i64 16] w fun e w' => e = .returned (.bool true) ∧ w = w') := Lib.hid (right_yes (deep := 16) ha.re ha.im ha.l16 (by omega) ha.p16)
  have HH := Lib.hid (head9 w hT)
  have t1 : decide (ja < js) = true := by simp; omega
  have t2 : decide (js < jb) = true := by simp; omega
  clear hT hda hdb hoc hod hug hui j1 j2 j3 j4 j5 ha hb hc hd hg hi hs hp
  go_enter Tryd.func6, Tryd.ntmps6
  go_wp2_with (first | (go_at_call 9; (with_reducible refine (HH.out).mono ?_); rintro e w1 ⟨rfl, hbel⟩) | (go_at_call 18; (with_reducible refine (HDA.out _).mono ?_); rintro e w' ⟨rfl, rfl⟩) | (go_at_call 18; (with_reducible refine (HDB.out _).mono ?_); rintro e w' ⟨rfl, rfl⟩) | (go_at_call 14; (with_reducible refine (HOC.out _).mono ?_); rintro e w' ⟨rfl, rfl⟩) | (go_at_call 14; (with_reducible refine (HOD.out _).mono ?_); rintro e w' ⟨rfl, rfl⟩) | (go_at_call 15; (with_reducible refine (HUG.out _).mono ?_); rintro e w' ⟨rfl, rfl⟩) | (go_at_call 15; (with_reducible refine (HUI.out _).mono ?_); rintro e w' ⟨rfl, rfl⟩) | (go_at_call 10; (with_reducible refine (HA.out _).mono ?_); rintro e w' ⟨rfl, rfl⟩) | (go_at_call 10; (with_reducible refine (HS.out _).mono ?_); rintro e w' ⟨rfl, rfl⟩) | (go_at_call 10; (with_reducible refine (HB.out _).mono ?_); rintro e w' ⟨rfl, rfl⟩) | (go_at_call 19; (with_reducible refine (HR.out _).mono ?_); rintro e w' ⟨rfl, rfl⟩))
  go_ret
  exact ⟨rfl, hbel⟩
end Go.Proofs.YtjdpkhcnmllleaaDoor
