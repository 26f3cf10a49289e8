/- The law on numbers, walked. -/
import Derived.Test.YtjdpkhcnmllleaaDoorF
import Derived.Deep.DeepCutAuto
import Derived.Outline
namespace Go.Proofs.YtjdpkhcnmllleaaDoor
open Go.ChangeShapes Go.WideShapes Go.ChangeAt Go.RowKit
set_option linter.unusedSimpArgs false
set_option linter.unusedVariables false

set_option maxHeartbeats 1000000 in
theorem numbers3 (x y z : Nat) (hx : x < 4294967296) (hy : y < 256) (hz : z < 65536) (w : World) (hT : Tab w) : Calls Tryd.prog 3 #[.int .u32 x, .int .u8 y, .int .u16 z] w fun e w' => e = .returned (.bool true) ∧ Below w.heap.size w w' := by
  obtain ⟨i, hi⟩ : ∃ i, i = x % 131071 := ⟨_, rfl⟩
  have hi2 : i < 131071 := by omega
  have e1 : (x : Int) % 131071 = (i : Int) := by omega
  clear hi
  obtain ⟨l, p, h1⟩ := parts (i + 1) (by omega)
  obtain ⟨hl, hp⟩ := l_of i l p h1 hi2
  obtain ⟨L, hL⟩ : ∃ L, L = y % 17 := ⟨_, rfl⟩
  have e2 : (y : Int) % 17 = (L : Int) := by omega
  have hL16 : L ≤ 16 := by omega
  clear hL
  have e3 : (16 : Int) - L = ((16 - L : Nat) : Int) := by omega
  obtain ⟨M, q, m1, m2, m3, m4, hq2, -⟩ := shl_mod z (16 - L) (by omega)
  have h4 := floatOfInt_fl L
  have h5 := floatOfInt_fl q
  have HH := Lib.hid (head9 w hT)
  have HT := Lib.hid hT
  have HA := Lib.hid (fun w hT => at_yes i l p h1 hi2 w hT)
  have HI := Lib.hid (index_is (sp_fl l p hl hp) h1)
  obtain ⟨j, hj1, hj2⟩ := ind_ex q L hq2 hL16
  have HI2 := Lib.hid (index_is (sp_fl L q hL16 hq2) hj1)
  have HA2 := Lib.hid (fun w hT => at_yes j L q hj1 hj2 w hT)
  have hpar := parity hj1
  have q1 := eq_self L (by omega)
  have q2 := eq_self q (by have := pow16 (16 - L) (by omega); omega)
  clear hT h1 hj1 hp hq2 hl
  go_enter Tryd.func3, Tryd.ntmps3
  go_wp2_with (first | (go_at_call 9; (with_reducible refine (HH.out).mono ?_); rintro e w1 ⟨rfl, hb⟩; have HT1 := Lib.hid (HT.out.below hb HT.out.lt); clear HT) | (go_at_call 11; (with_reducible refine (HA.out _ HT1.out).mono ?_); rintro e w' ⟨rfl, rfl⟩) | (go_at_call 11; (with_reducible refine (HA2.out _ HT1.out).mono ?_); rintro e w' ⟨rfl, rfl⟩) | (go_at_call 10; (with_reducible refine (HI.out _).mono ?_); rintro e w' ⟨rfl, rfl⟩) | (go_at_call 10; (with_reducible refine (HI2.out _).mono ?_); rintro e w' ⟨rfl, rfl⟩))
  go_ret
  exact ⟨rfl, hb⟩
end Go.Proofs.YtjdpkhcnmllleaaDoor
