/- Whether a number is among others. -/
import Derived.Test.YtllgdlfdmmdffaaV
namespace Go.Proofs.Ytllgdlfdmmdffaa
open Go.ChangeShapes Go.WideShapes Go.ChangeAt Go.RowKit Go.MapKept Go.ChangeMaps
set_option linter.unusedSimpArgs false
set_option linter.unusedVariables false
set_option maxHeartbeats 4000000 in
theorem idx54 (x : Int) (ao : Option Addr) (n c k : Nat) (L : List Int) (w : World) (hn : n = L.length) (h47 : n ≤ 9223372036854775807) (hI : Ilz k w ao L) :
    Calls Try.prog 54 #[.slice ao n c, .int .i64 x] w fun e w' => e = .returned (.int .i64 (ixOf (fun y => decide (x = y)) L)) ∧ w' = w := by
  have HN := Lib.hid hn
  clear hn
  go_enter Try.func54, Try.ntmps54
  go_wp2_with fail
  go_loopg [5, 8] n (fun gk v5 v8 wr => ∃ i : Nat, v8 = .int .i64 i ∧ i + gk = n ∧ wr = w ∧ Hid (∀ j y, j < i → L[j]? = some y → decide (x = y) = false))
  case atStart => exact ⟨0, rfl, by omega, rfl, Lib.hid (fun j y hj => absurd hj (Nat.not_lt_zero _))⟩
  case round =>
    obtain ⟨i, rfl, hig, rfl, hm⟩ := hrel
    have HG := Lib.hid hig
    by_cases h1 : i < n
    · have d1 : decide ((i : Int) < (n : Int)) = true := by simp; omega
      obtain ⟨a, rfl⟩ := hI.some_ (by have := HN.out; omega)
      obtain ⟨y, hy⟩ : ∃ y, L[i]? = some y := ⟨L[i]'(by rw [← HN.out]; exact h1), List.getElem?_eq_getElem _⟩
      have hc := (hI.cells a rfl i y hy).2
      have HX := Lib.hid hy
      have q0 : (0 : Int) ≤ (i : Int) := by omega
      have q1 : (i : Int) < (n : Int) := by omega
      clear hig hI hy
      by_cases hq : x = y
      · have HQ := Lib.hid (show decide (x = y) = true by simp [hq])
        have d2 : ((x : Int) == y) = true := by simp [hq]
        have HE := Lib.hid hq
        clear hq
        go_wp2_with fail
        go_ret
        exact ⟨by rw [ixOf_hit _ L i y HX.out HQ.out hm.out]; rfl, rfl⟩
      · have HQ := Lib.hid (show decide (x = y) = false by simp [hq])
        have d2 : ((x : Int) == y) = false := by simp [hq]
        go_wp2_with fail
        go_roundg (gk - 1)
        case measure => have := HG.out; omega
        case rel =>
          refine ⟨i + 1, by simp, by have := HG.out; omega, rfl, Lib.hid fun j z hj hz => ?_⟩
          by_cases e : j = i
          · subst e
            rw [HX.out] at hz
            injection hz with hz
            rw [← hz]; exact HQ.out
          · exact hm.out j z (by omega) hz
    · have d1 : decide ((i : Int) < (n : Int)) = false := by simp; omega
      obtain rfl : i = n := by omega
      clear hig
      go_wp2_with fail
      go_ret
      exact ⟨by rw [ixOf_miss _ L (by rw [← HN.out]; exact hm.out)]; rfl, rfl⟩
set_option maxHeartbeats 4000000 in
theorem contains44 (x : Int) (ao : Option Addr) (n c k : Nat) (L : List Int) (w : World) (hn : n = L.length) (h47 : n ≤ 9223372036854775807) (hI : Ilz k w ao L) :
    Calls Try.prog 44 #[.slice ao n c, .int .i64 x] w fun e w' => e = .returned (.bool (L.any fun y => decide (x = y))) ∧ w' = w := by
  have hc := idx54 x ao n c k L w hn h47 hI
  have HA := ixOf_any (fun y => decide (x = y)) L
  generalize ixOf (fun y => decide (x = y)) L = z at hc HA
  rw [← HA]
  clear hI HA hn
  go_enter Try.func44, Try.ntmps44
  go_wp2_with (go_at_call 54; (with_reducible refine hc.mono ?_); rintro e w' ⟨rfl, rfl⟩)
  go_ret
  exact ⟨rfl, rfl⟩
end Go.Proofs.Ytllgdlfdmmdffaa
