/- The contracts of the rest of round and sodalityref08, and of the law's own head. -/
import Derived.Test.YthofjfhkbdepgaaA
namespace Go.Proofs.Ythofjfhkbdepgaa
open Go.ChangeShapes Go.WideShapes Go.ChangeAt Go.RowKit

theorem p10 (n : Int) (w : World) (h0 : -9223372036854775808 ≤ n) (h1 : n ≤ 9223372036854775807) : Calls Try.prog 10 #[.int .i64 n] w fun e w' => e = .returned (.tuple #[.int .i64 (hi2 n), .int .i64 (lo2 n)]) ∧ Grown w w' := by
  go_enter Try.func10, Try.ntmps10
  go_wp2_with fail
  refine (mod19 _ _ (by omega) (by omega)).mono ?_
  rintro e w' ⟨rfl, rfl⟩
  go_wp2_with fail
  refine (rest20a _ _ (by omega) (by omega)).mono ?_
  rintro e w' ⟨rfl, rfl⟩
  go_wp2_with fail
  go_ret2
  exact ⟨by simp [hi2, lo2]; omega, Grown.refl _⟩

theorem p12 (n : Int) (w : World) (h0 : -9223372036854775808 ≤ n) (h1 : n ≤ 9223372036854775807) : Calls Try.prog 12 #[.int .i64 n] w fun e w' => e = .returned (.tuple #[.int .i64 (hp n), .int .i64 (lp n)]) ∧ Grown w w' := by
  by_cases hh : (n % 8380417 + 261887) / 523776 = 16
  · have e1 : hp n = 0 := by unfold hp; rw [if_pos hh]
    have e2 : lp n = n % 8380417 - (n % 8380417 + 261887) / 523776 * 523776 - 1 := by unfold lp; rw [if_pos hh]
    have E1 := Lib.hid e1; have E2 := Lib.hid e2; clear e1 e2
    go_enter Try.func12, Try.ntmps12
    go_wp2_with fail
    refine (mod19 _ _ (by omega) (by omega)).mono ?_
    rintro e w' ⟨rfl, rfl⟩
    go_wp2_with fail
    refine (rest20b _ _ (by omega) (by omega)).mono ?_
    rintro e w' ⟨rfl, rfl⟩
    go_wp2_with fail
    go_ret2
    rw [E1.out, E2.out]
    exact ⟨by simp [hh], Grown.refl _⟩
  · have e1 : hp n = (n % 8380417 + 261887) / 523776 := by unfold hp; rw [if_neg hh]
    have e2 : lp n = n % 8380417 - (n % 8380417 + 261887) / 523776 * 523776 := by unfold lp; rw [if_neg hh]
    have E1 := Lib.hid e1; have E2 := Lib.hid e2; clear e1 e2
    go_enter Try.func12, Try.ntmps12
    go_wp2_with fail
    refine (mod19 _ _ (by omega) (by omega)).mono ?_
    rintro e w' ⟨rfl, rfl⟩
    go_wp2_with fail
    refine (rest20b _ _ (by omega) (by omega)).mono ?_
    rintro e w' ⟨rfl, rfl⟩
    go_wp2_with fail
    go_ret2
    rw [E1.out, E2.out]
    exact ⟨by simp; omega, Grown.refl _⟩

theorem hint13 (z n : Int) (w : World) (g0 : -9223372036854775808 ≤ z) (g1 : z ≤ 9223372036854775807) (h0 : -9223372036854775808 ≤ n) (h1 : n ≤ 9223372036854775807) : Calls Try.prog 13 #[.int .i64 z, .int .i64 n] w fun e w' => e = .returned (.bool (hint z n)) ∧ Grown w w' := by
  go_enter Try.func13, Try.ntmps13
  go_wp2_with fail
  refine (p11 _ _ (by omega) (by omega)).mono ?_
  rintro e w1 ⟨rfl, k1⟩
  go_wp2_with fail
  refine (mod18 _ _ (by omega) (by omega)).mono ?_
  rintro e w' ⟨rfl, rfl⟩
  go_wp2_with fail
  refine (mod18 _ _ (by omega) (by omega)).mono ?_
  rintro e w' ⟨rfl, rfl⟩
  go_wp2_with fail
  refine (p11 _ _ (by omega) (by omega)).mono ?_
  rintro e w2 ⟨rfl, k2⟩
  go_wp2_with fail
  go_ret
  exact ⟨by simp [hint], Grown.trans k1 k2⟩

theorem hint14 (z n : Int) (w : World) (g0 : -9223372036854775808 ≤ z) (g1 : z ≤ 9223372036854775807) (h0 : -9223372036854775808 ≤ n) (h1 : n ≤ 9223372036854775807) : Calls Try.prog 14 #[.int .i64 z, .int .i64 n] w fun e w' => e = .returned (.bool (hint z n)) ∧ Grown w w' := by
  go_enter Try.func14, Try.ntmps14
  go_wp2_with fail
  refine (p12 _ _ (by omega) (by omega)).mono ?_
  rintro e w1 ⟨rfl, k1⟩
  go_wp2_with fail
  refine (mod19 _ _ (by omega) (by omega)).mono ?_
  rintro e w' ⟨rfl, rfl⟩
  go_wp2_with fail
  refine (mod19 _ _ (by omega) (by omega)).mono ?_
  rintro e w' ⟨rfl, rfl⟩
  go_wp2_with fail
  refine (p12 _ _ (by omega) (by omega)).mono ?_
  rintro e w2 ⟨rfl, k2⟩
  go_wp2_with fail
  go_ret
  exact ⟨by simp [hint, Int.add_comm], Grown.trans k1 k2⟩

theorem use15 (b : Bool) (n : Int) (w : World) (h0 : -9223372036854775808 ≤ n) (h1 : n ≤ 9223372036854775807) : Calls Try.prog 15 #[.bool b, .int .i64 n] w fun e w' => e = .returned (.int .i64 (use b n)) ∧ Grown w w' := by
  have b1 := hp_bd n
  cases b
  · go_enter Try.func15, Try.ntmps15
    go_wp2_with fail
    refine (p11 _ _ (by omega) (by omega)).mono ?_
    rintro e w1 ⟨rfl, g1⟩
    go_wp2_with fail
    go_ret
    exact ⟨rfl, g1⟩
  · by_cases hl : 0 < lp n
    · go_enter Try.func15, Try.ntmps15
      go_wp2_with fail
      refine (p11 _ _ (by omega) (by omega)).mono ?_
      rintro e w1 ⟨rfl, g1⟩
      go_wp2_with fail
      go_ret
      exact ⟨ret_int (by simp [use, hl]), g1⟩
    · go_enter Try.func15, Try.ntmps15
      go_wp2_with fail
      refine (p11 _ _ (by omega) (by omega)).mono ?_
      rintro e w1 ⟨rfl, g1⟩
      go_wp2_with fail
      go_ret
      exact ⟨ret_int (by simp [use]; omega), g1⟩

theorem use16 (b : Bool) (n : Int) (w : World) (h0 : -9223372036854775808 ≤ n) (h1 : n ≤ 9223372036854775807) : Calls Try.prog 16 #[.bool b, .int .i64 n] w fun e w' => e = .returned (.int .i64 (use b n)) ∧ Grown w w' := by
  have b1 := hp_bd n
  cases b
  · go_enter Try.func16, Try.ntmps16
    go_wp2_with fail
    refine (p12 _ _ (by omega) (by omega)).mono ?_
    rintro e w1 ⟨rfl, g1⟩
    go_wp2_with fail
    go_ret
    exact ⟨rfl, g1⟩
  · by_cases hl : 0 < lp n
    · go_enter Try.func16, Try.ntmps16
      go_wp2_with fail
      refine (p12 _ _ (by omega) (by omega)).mono ?_
      rintro e w1 ⟨rfl, g1⟩
      go_wp2_with fail
      go_ret
      exact ⟨ret_int (by simp [use, hl]), g1⟩
    · go_enter Try.func16, Try.ntmps16
      go_wp2_with fail
      refine (p12 _ _ (by omega) (by omega)).mono ?_
      rintro e w1 ⟨rfl, g1⟩
      go_wp2_with fail
      go_ret
      exact ⟨ret_int (by simp [use]; omega), g1⟩


theorem use15' (b : Bool) (n u : Int) (w : World) (h0 : -9223372036854775808 ≤ n) (h1 : n ≤ 9223372036854775807) (hu : use b n = u) : Calls Try.prog 15 #[.bool b, .int .i64 n] w fun e w' => e = .returned (.int .i64 u) ∧ Grown w w' := by
  rw [← hu]; exact use15 b n w h0 h1
theorem hint13' (z n : Int) (t : Bool) (w : World) (g0 : -9223372036854775808 ≤ z) (g1 : z ≤ 9223372036854775807) (h0 : -9223372036854775808 ≤ n) (h1 : n ≤ 9223372036854775807) (hu : hint z n = t) : Calls Try.prog 13 #[.int .i64 z, .int .i64 n] w fun e w' => e = .returned (.bool t) ∧ Grown w w' := by
  rw [← hu]; exact hint13 z n w g0 g1 h0 h1
theorem p9' (n a b : Int) (w : World) (h0 : -9223372036854775808 ≤ n) (h1 : n ≤ 9223372036854775807) (ha : hi2 n = a) (hb : lo2 n = b) : Calls Try.prog 9 #[.int .i64 n] w fun e w' => e = .returned (.tuple #[.int .i64 a, .int .i64 b]) ∧ Grown w w' := by
  rw [← ha, ← hb]; exact p9 n w h0 h1
theorem p11' (n a b : Int) (w : World) (h0 : -9223372036854775808 ≤ n) (h1 : n ≤ 9223372036854775807) (ha : hp n = a) (hb : lp n = b) : Calls Try.prog 11 #[.int .i64 n] w fun e w' => e = .returned (.tuple #[.int .i64 a, .int .i64 b]) ∧ Grown w w' := by
  rw [← ha, ← hb]; exact p11 n w h0 h1

theorem head8 (w : World) : Calls Try.prog 8 #[] w fun e w' => e = .returned (.bool true) ∧ Grown w w' := by
  go_enter Try.func8, Try.ntmps8
  go_wp2_with fail
  refine (p9' _ 1 (-4095) _ (by omega) (by omega) (by decide) (by decide)).mono ?_
  rintro e w1 ⟨rfl, k1⟩
  go_wp2_with fail
  refine (p11' _ 0 (-1) _ (by omega) (by omega) (by decide) (by decide)).mono ?_
  rintro e w2 ⟨rfl, k2⟩
  go_wp2_with fail
  refine (use15' _ _ 1 _ (by omega) (by omega) (by decide)).mono ?_
  rintro e w3 ⟨rfl, k3⟩
  go_wp2_with fail
  refine (hint13' _ _ true _ (by omega) (by omega) (by omega) (by omega) (by decide)).mono ?_
  rintro e w4 ⟨rfl, k4⟩
  go_wp2_with fail
  go_ret
  exact ⟨rfl, Grown.trans (Grown.trans (Grown.trans k1 k2) k3) k4⟩

end Go.Proofs.Ythofjfhkbdepgaa
