/- The contracts of the functions of packages round and sodalityref08: what each computes, walked once. -/
import Derived.Test.YthofjfhkbdepgaaRows
import Derived.WalkKit
import Derived.ProofKit
import Derived.OpenShut
import Derived.Lib.Hide
import Derived.Deep.QuietTactic
import Derived.BigQuiet
namespace Go.Proofs.Ythofjfhkbdepgaa
open Go.ChangeShapes Go.WideShapes Go.ChangeAt Go.RowKit

theorem Grown.trans {a b c : World} (h : Grown a b) (k : Grown b c) : Grown a c :=
  ⟨World.keptBut_trans h.1 (World.keptBut_mono (fun _ f => f.elim) k.1), fun x => (k.2.1 x).trans (h.2.1 x), Nat.le_trans h.2.2 k.2.2⟩
theorem Grown.drewN {a b : World} (h : Grown a b) (n : Nat) : Grown a (b.drewN n) := h

theorem tmod_neg (n q : Int) (h : n < 0) : n.tmod q = -((-n) % q) := by
  have := Int.neg_tmod (-n) q
  rw [Int.neg_neg] at this
  rw [this, Int.tmod_eq_emod_of_nonneg (by omega)]

theorem ret_int {k : IntKind} {a b : Int} (h : a = b) : Ending.returned (.int k a) = .returned (.int k b) := by rw [h]

def hi2 (n : Int) : Int := (n % 8380417 + 4095) / 8192
def lo2 (n : Int) : Int := n % 8380417 - (n % 8380417 + 4095) / 8192 * 8192
def hp (n : Int) : Int := if (n % 8380417 + 261887) / 523776 = 16 then 0 else (n % 8380417 + 261887) / 523776
def lp (n : Int) : Int := if (n % 8380417 + 261887) / 523776 = 16 then n % 8380417 - (n % 8380417 + 261887) / 523776 * 523776 - 1 else n % 8380417 - (n % 8380417 + 261887) / 523776 * 523776
theorem hp_bd (n : Int) : 0 ≤ hp n ∧ hp n ≤ 15 := by unfold hp; split <;> omega
theorem lp_bd (n : Int) : -261888 ≤ lp n ∧ lp n ≤ 261888 := by unfold lp; split <;> omega
def use (b : Bool) (n : Int) : Int := if b then (if 0 < lp n then (hp n + 1) % 16 else (hp n + 15) % 16) else hp n
def hint (z n : Int) : Bool := hp n != hp (z % 8380417 + n % 8380417)

theorem mod18 (n : Int) (w : World) (h0 : -9223372036854775808 ≤ n) (h1 : n ≤ 9223372036854775807) : Calls Try.prog 18 #[.int .i64 n] w fun e w' => e = .returned (.int .i64 (n % 8380417)) ∧ w = w' := by
  by_cases hn : 0 ≤ n
  · go_enter Try.func18, Try.ntmps18
    go_wp2
    go_ret
    exact ⟨rfl, rfl⟩
  · have e := tmod_neg n 8380417 (by omega)
    have e1 : -8380417 < n.tmod 8380417 ∧ n.tmod 8380417 ≤ 0 := by omega
    have e2 : n.tmod 8380417 < 0 → n.tmod 8380417 + 8380417 = n % 8380417 := by omega
    have e3 : 0 ≤ n.tmod 8380417 → n.tmod 8380417 = n % 8380417 := by omega
    have E2 := Lib.hid e2
    have E3 := Lib.hid e3
    clear e e2 e3
    go_enter Try.func18, Try.ntmps18
    go_wp2
    · go_ret
      exact ⟨ret_int (E2.out (by assumption)), rfl⟩
    · go_ret
      exact ⟨ret_int (E3.out (by assumption)), rfl⟩

theorem mod19 (n : Int) (w : World) (h0 : -9223372036854775808 ≤ n) (h1 : n ≤ 9223372036854775807) : Calls Try.prog 19 #[.int .i64 n] w fun e w' => e = .returned (.int .i64 (n % 8380417)) ∧ w = w' := by
  by_cases hn : 0 ≤ n
  · go_enter Try.func19, Try.ntmps19
    go_wp2
    go_ret
    exact ⟨rfl, rfl⟩
  · have e := tmod_neg n 8380417 (by omega)
    have e1 : -8380417 < n.tmod 8380417 ∧ n.tmod 8380417 ≤ 0 := by omega
    have e2 : n.tmod 8380417 < 0 → n.tmod 8380417 + 8380417 = n % 8380417 := by omega
    have e3 : 0 ≤ n.tmod 8380417 → n.tmod 8380417 = n % 8380417 := by omega
    have E2 := Lib.hid e2
    have E3 := Lib.hid e3
    clear e e2 e3
    go_enter Try.func19, Try.ntmps19
    go_wp2
    · go_ret
      exact ⟨ret_int (E2.out (by assumption)), rfl⟩
    · go_ret
      exact ⟨ret_int (E3.out (by assumption)), rfl⟩

theorem rest20a (n : Int) (w : World) (h0 : 0 ≤ n) (h1 : n ≤ 9223372036854775807) : Calls Try.prog 20 #[.int .i64 n, .int .i64 8192] w fun e w' => e = .returned (.int .i64 (n - (n + 4095) / 8192 * 8192)) ∧ w = w' := by
  go_enter Try.func20, Try.ntmps20
  go_wp2
  all_goals
    go_ret
    exact ⟨ret_int (by omega), rfl⟩

theorem rest20b (n : Int) (w : World) (h0 : 0 ≤ n) (h1 : n ≤ 9223372036854775807) : Calls Try.prog 20 #[.int .i64 n, .int .i64 523776] w fun e w' => e = .returned (.int .i64 (n - (n + 261887) / 523776 * 523776)) ∧ w = w' := by
  go_enter Try.func20, Try.ntmps20
  go_wp2
  all_goals
    go_ret
    exact ⟨ret_int (by omega), rfl⟩

theorem at17 (m : Int) (w : World)  : Calls Try.prog 17 #[.int .i64 m] w fun e w' => e = .returned (.func (.func 21) #[] #[.pointer (some ⟨w.heap.size, 0, none⟩)]) ∧ w' = w.alloc (.cells #[.int .i64 m] 3) := by
  go_enter Try.func17, Try.ntmps17
  go_wp2
  go_ret
  exact ⟨rfl, rfl⟩

theorem cl21a (n : Int) (b : Addr) (w : World) (hc : w.cell? b = some (.int .i64 8192)) (h0 : 0 ≤ n) (h1 : n ≤ 16760834) : Calls Try.prog 21 #[.int .i64 n, .pointer (some b)] w fun e w' => e = .returned (.tuple #[.int .i64 ((n + 4095) / 8192), .int .i64 (n - (n + 4095) / 8192 * 8192)]) ∧ ∃ k, w' = w.drewN k := by
  go_enter Try.func21, Try.ntmps21
  go_wp2
  go_quiet (fail)
  go_wp2
  go_ret2
  exact ⟨by simp; omega, _, rfl⟩

theorem cl21b (n : Int) (b : Addr) (w : World) (hc : w.cell? b = some (.int .i64 523776)) (h0 : 0 ≤ n) (h1 : n ≤ 16760834) : Calls Try.prog 21 #[.int .i64 n, .pointer (some b)] w fun e w' => e = .returned (.tuple #[.int .i64 ((n + 261887) / 523776), .int .i64 (n - (n + 261887) / 523776 * 523776)]) ∧ ∃ k, w' = w.drewN k := by
  go_enter Try.func21, Try.ntmps21
  go_wp2
  go_quiet (fail)
  go_wp2
  go_ret2
  exact ⟨by simp; omega, _, rfl⟩

theorem p9 (n : Int) (w : World) (h0 : -9223372036854775808 ≤ n) (h1 : n ≤ 9223372036854775807) : Calls Try.prog 9 #[.int .i64 n] w fun e w' => e = .returned (.tuple #[.int .i64 (hi2 n), .int .i64 (lo2 n)]) ∧ Grown w w' := by
  go_enter Try.func9, Try.ntmps9
  go_wp2_with fail
  refine (at17 _ _).mono ?_
  rintro e w' ⟨rfl, rfl⟩
  go_wp2_with fail
  refine (mod18 _ _ (by omega) (by omega)).mono ?_
  rintro e w' ⟨rfl, rfl⟩
  go_wp2_with fail
  refine (cl21a _ _ _ (by go_simp) (by omega) (by omega)).mono ?_
  rintro e w' ⟨rfl, k, rfl⟩
  go_wp2_with fail
  go_ret2
  exact ⟨rfl, Grown.drewN ((Grown.refl _).alloc _ _) _⟩

theorem p11 (n : Int) (w : World) (h0 : -9223372036854775808 ≤ n) (h1 : n ≤ 9223372036854775807) : Calls Try.prog 11 #[.int .i64 n] w fun e w' => e = .returned (.tuple #[.int .i64 (hp n), .int .i64 (lp n)]) ∧ Grown w w' := by
  by_cases hh : (n % 8380417 + 261887) / 523776 = 16
  · have e1 : hp n = 0 := by unfold hp; rw [if_pos hh]
    have e2 : lp n = n % 8380417 - (n % 8380417 + 261887) / 523776 * 523776 - 1 := by unfold lp; rw [if_pos hh]
    have E1 := Lib.hid e1; have E2 := Lib.hid e2; clear e1 e2
    go_enter Try.func11, Try.ntmps11
    go_wp2_with fail
    refine (at17 _ _).mono ?_
    rintro e w' ⟨rfl, rfl⟩
    go_wp2_with fail
    refine (mod18 _ _ (by omega) (by omega)).mono ?_
    rintro e w' ⟨rfl, rfl⟩
    go_wp2_with fail
    refine (cl21b _ _ _ (by go_simp) (by omega) (by omega)).mono ?_
    rintro e w' ⟨rfl, k, rfl⟩
    go_wp2_with fail
    go_ret2
    rw [E1.out, E2.out]
    exact ⟨by simp [hh], Grown.drewN ((Grown.refl _).alloc _ _) _⟩
  · have e1 : hp n = (n % 8380417 + 261887) / 523776 := by unfold hp; rw [if_neg hh]
    have e2 : lp n = n % 8380417 - (n % 8380417 + 261887) / 523776 * 523776 := by unfold lp; rw [if_neg hh]
    have E1 := Lib.hid e1; have E2 := Lib.hid e2; clear e1 e2
    go_enter Try.func11, Try.ntmps11
    go_wp2_with fail
    refine (at17 _ _).mono ?_
    rintro e w' ⟨rfl, rfl⟩
    go_wp2_with fail
    refine (mod18 _ _ (by omega) (by omega)).mono ?_
    rintro e w' ⟨rfl, rfl⟩
    go_wp2_with fail
    refine (cl21b _ _ _ (by go_simp) (by omega) (by omega)).mono ?_
    rintro e w' ⟨rfl, k, rfl⟩
    go_wp2_with fail
    go_ret2
    rw [E1.out, E2.out]
    exact ⟨by simp, Grown.drewN ((Grown.refl _).alloc _ _) _⟩

end Go.Proofs.Ythofjfhkbdepgaa
