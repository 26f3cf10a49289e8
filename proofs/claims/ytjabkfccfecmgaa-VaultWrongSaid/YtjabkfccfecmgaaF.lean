/- The disk's Image. -/
import Derived.Test.YtjabkfccfecmgaaE
namespace Go.Proofs.Ytjabkfccfecmgaa
open Go.ChangeShapes Go.WideShapes Go.ChangeAt Go.RowKit
set_option linter.unusedSimpArgs false
set_option linter.unusedVariables false
def img (S : Nat → Sct) (k : Nat) : List Byte := (List.range k).flatMap S
theorem img_succ (S : Nat → Sct) (k : Nat) : img S (k + 1) = img S k ++ S k := by simp [img, List.range_succ]
theorem img_len {S : Nat → Sct} {n : Nat} (h : ∀ i, i < n → (S i).length = 512) : ∀ k, k ≤ n → (img S k).length = k * 512 := by
  intro k
  induction k with
  | zero => intro _; rfl
  | succ k ih => intro hk; rw [img_succ, List.length_append, ih (by omega), h k (by omega)]; omega
theorem Sec.byt {w : World} {b n : Nat} {S : Nat → Sct} (h : Sec w b n S) (i : Nat) (hi : i < n) (g : Nat) (hg : g ≠ b) : Byt w g (some ⟨b, i * 512, none⟩) (S i) :=
  ⟨(fun e => by cases e), fun a ha => by
    injection ha with ha
    subst ha
    refine ⟨h.lt, fun e => hg e.symm, fun j x hx => ?_⟩
    rw [Addr.add_mid]
    exact h.rng i hi j _ (by rw [List.getElem?_map, hx]; rfl)⟩
set_option maxRecDepth 4000 in
set_option maxHeartbeats 4000000 in
theorem image11 (A : Nat → Prop) (w : World) (g b n : Nat) (d : DS) (hD : Dk A w g b n d) :
    Calls Try.prog 15 #[.pointer (some ⟨g, 0, none⟩)] w fun e w' => ∃ v, e = .returned v ∧ Own w' w.heap.size v (n * 512) (img d.S n) ∧ Below w.heap.size w w' := by
  have hlt := hD.lt
  have hbl := hD.sec.lt
  have h0 := hD.c0
  have hn := hD.nb
  go_enter Try.func15, Try.ntmps15
  go_wp2_with fail
  go_loopg [3, 10] n (fun gk v v10 wr => ∃ (j : Nat), v10 = .int .i64 j ∧ j + gk = n ∧ Own wr w.heap.size v (j * 512) (img d.S j) ∧ Below w.heap.size w wr)
  case atStart => exact ⟨0, rfl, by omega, World.ownsRow_nil _ _ _ _, Below.refl _ _⟩
  case round =>
    obtain ⟨j, rfl, hj, ho, hb⟩ := hrel
    have hDr := hD.below hb
    have hc0 := hDr.c0
    have HJ := Lib.hid hj
    by_cases hjn : j < n
    · have z1 : (0 : Int) ≤ (j : Int) := by omega
      have z2 : (j : Int) < (n : Int) := by omega
      have hy := hDr.sec.byt j hjn g (by have := hD.bg; omega)
      have HL := Lib.hid (hDr.sec.len j hjn).symm
      obtain ⟨a3, c3, rfl⟩ := row_form ho
      have hsz := hb.size
      obtain ⟨T, hT⟩ : ∃ T, T = img d.S j := ⟨_, rfl⟩
      rw [← hT] at ho
      clear hj h0
      go_wp2_with (first
        | (at_builtin; refine app_own rfl (.tmp 13) (.tmp 20) rfl w.heap.size (.slice a3 (j * 512) c3) (j * 512) T rfl ho g (some ⟨b, j * 512, none⟩) 512 512 (d.S j) rfl HL.out hy ?q1 ?q2 ?_; (case q1 => omega); (case q2 => exact hsz); intro v4 w4 o4 g4; have b4 := own_below ho hb g4; clear g4 ho))
      go_roundg (gk - 1)
      case measure => have := HJ.out; omega
      case rel => exact ⟨j + 1, by simp, by have := HJ.out; omega, by rw [img_succ, ← hT, show (j + 1) * 512 = j * 512 + 512 by omega]; exact o4, b4⟩
    · have hd : decide (j < n) = false := by simp; omega
      obtain rfl : j = n := by omega
      clear hj
      go_wp2_with fail
      go_ret
      exact ⟨_, rfl, ho, hb⟩
end Go.Proofs.Ytjabkfccfecmgaa
