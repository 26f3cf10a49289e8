/- What each of the five laws' own Go text answers, walked over the contracts: always true. -/
import Derived.Test.YthofjfhkbdepgaaB
namespace Go.Proofs.Ythofjfhkbdepgaa
open Go.ChangeShapes Go.WideShapes Go.ChangeAt Go.RowKit

theorem law3 (r z : Int) (b : Bool) (w : World) (h0 : -9223372036854775808 ≤ r) (h1 : r ≤ 9223372036854775807) (g0 : -9223372036854775808 ≤ z) (g1 : z ≤ 9223372036854775807) :
    Calls Try.prog 3 #[.int .i64 r, .int .i64 z, .bool b] w fun e w' => e = .returned (.bool true) ∧ Grown w w' := by
  go_enter Try.func3, Try.ntmps3
  go_wp2_with fail
  refine (head8 _).mono ?_
  rintro e w1 ⟨rfl, k1⟩
  go_wp2_with fail
  refine (p9 _ _ (by omega) (by omega)).mono ?_
  rintro e w2 ⟨rfl, k2⟩
  go_wp2_with fail
  refine (p10 _ _ (by omega) (by omega)).mono ?_
  rintro e w3 ⟨rfl, k3⟩
  go_wp2_with fail
  refine (p11 _ _ (by omega) (by omega)).mono ?_
  rintro e w4 ⟨rfl, k4⟩
  go_wp2_with fail
  refine (p12 _ _ (by omega) (by omega)).mono ?_
  rintro e w5 ⟨rfl, k5⟩
  go_wp2_with fail
  refine (hint13 _ _ _ (by omega) (by omega) (by omega) (by omega)).mono ?_
  rintro e w6 ⟨rfl, k6⟩
  go_wp2_with fail
  refine (hint14 _ _ _ (by omega) (by omega) (by omega) (by omega)).mono ?_
  rintro e w7 ⟨rfl, k7⟩
  go_wp2_with fail
  refine (use15 _ _ _ (by omega) (by omega)).mono ?_
  rintro e w8 ⟨rfl, k8⟩
  go_wp2_with fail
  refine (use16 _ _ _ (by omega) (by omega)).mono ?_
  rintro e w9 ⟨rfl, k9⟩
  go_wp2_with fail
  go_ret
  exact ⟨by simp, Grown.trans (Grown.trans (Grown.trans (Grown.trans (Grown.trans (Grown.trans (Grown.trans (Grown.trans k1 k2) k3) k4) k5) k6) k7) k8) k9⟩

theorem hi2_bd (n : Int) (h : 0 ≤ n) (h' : n < 8380417) : 0 ≤ hi2 n ∧ hi2 n ≤ 1023 ∧ -4096 < lo2 n ∧ lo2 n ≤ 4096 ∧ (hi2 n * 8192 + lo2 n != n) = false := by
  unfold hi2 lo2; simp; omega
theorem hp_make (n : Int) (h : 0 ≤ n) (h' : n < 8380417) : (hp n * 2 * 261888 + lp n < 0 ∧ (hp n * 2 * 261888 + lp n + 8380417 == n) = true) ∨ (0 ≤ hp n * 2 * 261888 + lp n ∧ (hp n * 2 * 261888 + lp n == n) = true) := by
  unfold hp lp; split <;> simp <;> omega

theorem law4 (r : Int) (w : World) (h0 : 0 ≤ r) (h1 : r ≤ 4294967295) :
    Calls Try.prog 4 #[.int .u32 r] w fun e w' => e = .returned (.bool true) ∧ Grown w w' := by
  obtain ⟨a1, a2, a3, a4, a5⟩ := hi2_bd (r % 8380417) (by omega) (by omega)
  have b1 := hp_bd (r % 8380417)
  have b2 := lp_bd (r % 8380417)
  rcases hp_make (r % 8380417) (by omega) (by omega) with ⟨c1, c2⟩ | ⟨c1, c2⟩
  · go_enter Try.func4, Try.ntmps4
    go_wp2_with fail
    refine (head8 _).mono ?_
    rintro e w1 ⟨rfl, k1⟩
    go_wp2_with fail
    refine (p9 _ _ (by omega) (by omega)).mono ?_
    rintro e w2 ⟨rfl, k2⟩
    go_wp2_with fail
    refine (p11 _ _ (by omega) (by omega)).mono ?_
    rintro e w3 ⟨rfl, k3⟩
    go_wp2_with fail
    go_ret
    exact ⟨rfl, Grown.trans (Grown.trans k1 k2) k3⟩
  · go_enter Try.func4, Try.ntmps4
    go_wp2_with fail
    refine (head8 _).mono ?_
    rintro e w1 ⟨rfl, k1⟩
    go_wp2_with fail
    refine (p9 _ _ (by omega) (by omega)).mono ?_
    rintro e w2 ⟨rfl, k2⟩
    go_wp2_with fail
    refine (p11 _ _ (by omega) (by omega)).mono ?_
    rintro e w3 ⟨rfl, k3⟩
    go_wp2_with fail
    go_ret
    exact ⟨rfl, Grown.trans (Grown.trans k1 k2) k3⟩

theorem ret_b {b : Bool} (h : b = true) : Ending.returned (.bool b) = .returned (.bool true) := by rw [h]

def sum5 (n m : Int) : Int := if n + m < 0 then n + m + 8380417 else n + m
theorem hp_near (n s m : Int) (h : 0 ≤ n) (h' : n < 8380417) (k : 0 ≤ s) (k' : s < 8380417) (g : -261888 ≤ m) (g' : m ≤ 261888) (e : s = n + m ∨ s = n + m + 8380417 ∨ s = n + m - 8380417) :
    hp s = hp n ∨ (0 < lp n ∧ hp s = (hp n + 1) % 16) ∨ (¬ 0 < lp n ∧ hp s = (hp n + 15) % 16) := by
  have e2 : n % 8380417 = n := by omega
  have e3 : s % 8380417 = s := by omega
  unfold hp lp
  rw [e2, e3]
  obtain ⟨a, ha⟩ : ∃ a, a = (n + 261887) / 523776 := ⟨_, rfl⟩
  obtain ⟨b, hb⟩ : ∃ a, a = (s + 261887) / 523776 := ⟨_, rfl⟩
  rw [← ha, ← hb]
  by_cases c1 : a = 16
  · rw [if_pos c1, if_pos c1]
    by_cases c2 : b = 16
    · rw [if_pos c2]; omega
    · rw [if_neg c2]; omega
  · rw [if_neg c1, if_neg c1]
    by_cases c2 : b = 16
    · rw [if_pos c2]; omega
    · rw [if_neg c2]; omega
theorem hp_mod (n : Int) : hp (n % 8380417) = hp n := by unfold hp; rw [Int.emod_emod_of_dvd _ (Int.dvd_refl _)]
theorem hints5 (n m : Int) (h : 0 ≤ n) (h' : n < 8380417) (g : -261888 ≤ m) (g' : m ≤ 261888) : use (hint m n) n = hp (sum5 n m) := by
  have e1 : hp (m % 8380417 + n % 8380417) = hp ((n + m) % 8380417) := by rw [← hp_mod]; congr 1; omega
  have e2 : hp (sum5 n m) = hp ((n + m) % 8380417) := by
    rw [← hp_mod (sum5 n m)]; congr 1; unfold sum5; split <;> omega
  have := hp_near n ((n + m) % 8380417) m h h' (by omega) (by omega) g g' (by omega)
  unfold use hint
  rw [e1, e2]
  by_cases c : hp n = hp ((n + m) % 8380417)
  · simp [← c]
  · rcases this with t | ⟨t, u⟩ | ⟨t, u⟩
    · exact absurd t.symm c
    · rw [if_pos (by simpa using c), if_pos t, u]
    · rw [if_pos (by simpa using c), if_neg t, u]
theorem hint0 (n : Int) : hint 0 n = false := by
  unfold hint hp; simp


theorem near (n : Int) : 0 ≤ use true n ∧ use true n ≤ 15 ∧ ((use true n - hp n) % 16 == 1) = decide (0 < lp n) ∧ ((use true n - hp n) % 16 == 15) = decide (lp n ≤ 0) := by
  have b := hp_bd n
  by_cases c : 0 < lp n
  · have e : use true n = (hp n + 1) % 16 := by simp [use, c]
    rw [e, decide_eq_true c, decide_eq_false (by omega), beq_iff_eq, beq_eq_false_iff_ne]; omega
  · have e : use true n = (hp n + 15) % 16 := by simp [use, c]
    rw [e, decide_eq_false c, decide_eq_true (by omega), beq_iff_eq, beq_eq_false_iff_ne]; omega
theorem use_f (n : Int) : use false n = hp n := by simp [use]

theorem law6 (r : Int) (w : World) (h0 : 0 ≤ r) (h1 : r ≤ 4294967295) :
    Calls Try.prog 6 #[.int .u32 r] w fun e w' => e = .returned (.bool true) ∧ Grown w w' := by
  obtain ⟨a1, a2, a3, a4⟩ := near (r % 8380417)
  have b1 := hp_bd (r % 8380417)
  have b2 := lp_bd (r % 8380417)
  go_enter Try.func6, Try.ntmps6
  go_wp2_with fail
  refine (head8 _).mono ?_
  rintro e w1 ⟨rfl, k1⟩
  go_wp2_with fail
  refine (p11 _ _ (by omega) (by omega)).mono ?_
  rintro e w2 ⟨rfl, k2⟩
  go_wp2_with fail
  refine (use15 _ _ _ (by omega) (by omega)).mono ?_
  rintro e w3 ⟨rfl, k3⟩
  go_wp2_with fail
  refine (use15' _ _ _ _ (by omega) (by omega) (use_f _)).mono ?_
  rintro e w4 ⟨rfl, k4⟩
  go_wp2_with fail
  go_ret
  exact ⟨ret_b (by simp), Grown.trans (Grown.trans (Grown.trans k1 k2) k3) k4⟩

theorem law5 (r z : Int) (w : World) (h0 : 0 ≤ r) (h1 : r ≤ 4294967295) (g0 : -2147483648 ≤ z) (g1 : z ≤ 2147483647) :
    Calls Try.prog 5 #[.int .u32 r, .int .i32 z] w fun e w' => e = .returned (.bool true) ∧ Grown w w' := by
  have m0 : -261888 ≤ z.tmod 261889 ∧ z.tmod 261889 ≤ 261888 := by
    by_cases hz : 0 ≤ z
    · rw [Int.tmod_eq_emod_of_nonneg hz]; omega
    · rw [tmod_neg _ _ (by omega)]; omega
  have hh := hints5 (r % 8380417) (z.tmod 261889) (by omega) (by omega) m0.1 m0.2
  by_cases hs : r % 8380417 + z.tmod 261889 < 0
  · have e : sum5 (r % 8380417) (z.tmod 261889) = r % 8380417 + z.tmod 261889 + 8380417 := by unfold sum5; rw [if_pos hs]
    rw [e] at hh
    have H := Lib.hid hh; clear hh e
    go_enter Try.func5, Try.ntmps5
    go_wp2_with fail
    refine (head8 _).mono ?_
    rintro e w1 ⟨rfl, k1⟩
    go_wp2_with fail
    refine (p11 _ _ (by omega) (by omega)).mono ?_
    rintro e w2 ⟨rfl, k2⟩
    go_wp2_with fail
    refine (hint13 _ _ _ (by omega) (by omega) (by omega) (by omega)).mono ?_
    rintro e w3 ⟨rfl, k3⟩
    go_wp2_with fail
    refine (use15' _ _ _ _ (by omega) (by omega) H.out).mono ?_
    rintro e w4 ⟨rfl, k4⟩
    go_wp2_with fail
    refine (hint13' _ _ _ _ (by omega) (by omega) (by omega) (by omega) (hint0 _)).mono ?_
    rintro e w5 ⟨rfl, k5⟩
    go_wp2_with fail
    go_ret
    exact ⟨ret_b (by simp), Grown.trans (Grown.trans (Grown.trans (Grown.trans k1 k2) k3) k4) k5⟩
  · have e : sum5 (r % 8380417) (z.tmod 261889) = r % 8380417 + z.tmod 261889 := by unfold sum5; rw [if_neg hs]
    rw [e] at hh
    have H := Lib.hid hh; clear hh e
    go_enter Try.func5, Try.ntmps5
    go_wp2_with fail
    refine (head8 _).mono ?_
    rintro e w1 ⟨rfl, k1⟩
    go_wp2_with fail
    refine (p11 _ _ (by omega) (by omega)).mono ?_
    rintro e w2 ⟨rfl, k2⟩
    go_wp2_with fail
    refine (hint13 _ _ _ (by omega) (by omega) (by omega) (by omega)).mono ?_
    rintro e w3 ⟨rfl, k3⟩
    go_wp2_with fail
    refine (use15' _ _ _ _ (by omega) (by omega) H.out).mono ?_
    rintro e w4 ⟨rfl, k4⟩
    go_wp2_with fail
    refine (hint13' _ _ _ _ (by omega) (by omega) (by omega) (by omega) (hint0 _)).mono ?_
    rintro e w5 ⟨rfl, k5⟩
    go_wp2_with fail
    go_ret
    exact ⟨ret_b (by simp), Grown.trans (Grown.trans (Grown.trans (Grown.trans k1 k2) k3) k4) k5⟩

theorem steps2 (n : Int) (h : 0 ≤ n) (h' : n < 7856641) : (hi2 (n + 8192) != hi2 n + 1) = false ∧ (lo2 (n + 8192) != lo2 n) = false := by
  unfold hi2 lo2; simp; omega
theorem stepsP (n : Int) (h : 0 ≤ n) (h' : n < 7856641) : ((hp (n + 523776) == 0) = true ∧ (hp n == 15) = true ∧ (lp (n + 523776) == lp n - 1) = true) ∨ ((hp (n + 523776) == 0) = false ∧ (hp (n + 523776) == hp n + 1) = true ∧ (lp (n + 523776) == lp n) = true) := by
  unfold hp lp
  obtain ⟨a, ha⟩ : ∃ a, a = (n % 8380417 + 261887) / 523776 := ⟨_, rfl⟩
  obtain ⟨b, hb⟩ : ∃ a, a = ((n + 523776) % 8380417 + 261887) / 523776 := ⟨_, rfl⟩
  rw [← ha, ← hb]
  rw [if_neg (show ¬ a = 16 by omega), if_neg (show ¬ a = 16 by omega)]
  by_cases c : b = 16
  · rw [if_pos c, if_pos c]; simp; omega
  · rw [if_neg c, if_neg c]; simp; omega

theorem law7 (r : Int) (w : World) (h0 : 0 ≤ r) (h1 : r ≤ 4294967295) :
    Calls Try.prog 7 #[.int .u32 r] w fun e w' => e = .returned (.bool true) ∧ Grown w w' := by
  obtain ⟨a1, a2⟩ := steps2 (r % 7856641) (by omega) (by omega)
  have c1 := lp_bd (r % 7856641)
  have c2 := hp_bd (r % 7856641)
  have c3 : 0 ≤ hi2 (r % 7856641) ∧ hi2 (r % 7856641) ≤ 1023 := by unfold hi2; omega
  rcases stepsP (r % 7856641) (by omega) (by omega) with ⟨b1, b2, b3⟩ | ⟨b1, b2, b3⟩
  all_goals
    go_enter Try.func7, Try.ntmps7
    go_wp2_with fail
    refine (head8 _).mono ?_
    rintro e w1 ⟨rfl, k1⟩
    go_wp2_with fail
    refine (p9 _ _ (by omega) (by omega)).mono ?_
    rintro e w2 ⟨rfl, k2⟩
    go_wp2_with fail
    refine (p9 _ _ (by omega) (by omega)).mono ?_
    rintro e w3 ⟨rfl, k3⟩
    go_wp2_with fail
    refine (p11 _ _ (by omega) (by omega)).mono ?_
    rintro e w4 ⟨rfl, k4⟩
    go_wp2_with fail
    refine (p11 _ _ (by omega) (by omega)).mono ?_
    rintro e w5 ⟨rfl, k5⟩
    go_wp2_with fail
    go_ret
    exact ⟨ret_b (by simp_all), Grown.trans (Grown.trans (Grown.trans (Grown.trans k1 k2) k3) k4) k5⟩
end Go.Proofs.Ythofjfhkbdepgaa
