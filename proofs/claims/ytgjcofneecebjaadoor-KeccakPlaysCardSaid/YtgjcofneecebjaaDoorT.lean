/- The law's head, walked. -/
import Derived.Test.YtgjcofneecebjaaDoorS
import Derived.Test.YtgjcofneecebjaaDoorG
namespace Go.Proofs.YtgjcofneecebjaaDoor
open Go.ChangeShapes Go.WideShapes Go.ChangeAt Go.RowKit
set_option linter.unusedSimpArgs false
set_option linter.unusedVariables false
theorem gives_small (rt : Nat) (W : Nat → Int) : ∀ k, k ≤ rt → gives rt (W, 0) k = ((List.range k).map fun j => byteAt (W, j), (W, k)) := by
  intro k
  induction k with
  | zero => intro _; rfl
  | succ k ih =>
    intro h
    unfold gives
    rw [ih (by omega)]
    have : trn rt (W, k) = (W, k) := by unfold trn; rw [if_neg (show ¬ k = rt by omega)]
    simp only [this]
    rw [List.range_succ, List.map_append]
    rfl
theorem out_small (rt : Nat) (en : Int) (D : List (BitVec 8)) (n : Nat) (h : n ≤ rt) : out rt en D n = (List.range n).map fun j => byteAt (prm (layf (layf (takes rt st0 D).1 (takes rt st0 D).2 en) (rt - 1) 128) 24, j) := by
  unfold out pad
  rw [gives_small _ _ _ h]
theorem startA : ∀ i, i < 25 → layf (layf (fun _ => 0) 0 6) 135 128 i = ka0.getD i 0
  | 0, _ => by kernel_rfl
  | 1, _ => by kernel_rfl
  | 2, _ => by kernel_rfl
  | 3, _ => by kernel_rfl
  | 4, _ => by kernel_rfl
  | 5, _ => by kernel_rfl
  | 6, _ => by kernel_rfl
  | 7, _ => by kernel_rfl
  | 8, _ => by kernel_rfl
  | 9, _ => by kernel_rfl
  | 10, _ => by kernel_rfl
  | 11, _ => by kernel_rfl
  | 12, _ => by kernel_rfl
  | 13, _ => by kernel_rfl
  | 14, _ => by kernel_rfl
  | 15, _ => by kernel_rfl
  | 16, _ => by kernel_rfl
  | 17, _ => by kernel_rfl
  | 18, _ => by kernel_rfl
  | 19, _ => by kernel_rfl
  | 20, _ => by kernel_rfl
  | 21, _ => by kernel_rfl
  | 22, _ => by kernel_rfl
  | 23, _ => by kernel_rfl
  | 24, _ => by kernel_rfl
  | _ + 25, h => absurd h (by omega)
theorem startB : ∀ i, i < 25 → layf (layf (fun _ => 0) 0 31) 167 128 i = kb0.getD i 0
  | 0, _ => by kernel_rfl
  | 1, _ => by kernel_rfl
  | 2, _ => by kernel_rfl
  | 3, _ => by kernel_rfl
  | 4, _ => by kernel_rfl
  | 5, _ => by kernel_rfl
  | 6, _ => by kernel_rfl
  | 7, _ => by kernel_rfl
  | 8, _ => by kernel_rfl
  | 9, _ => by kernel_rfl
  | 10, _ => by kernel_rfl
  | 11, _ => by kernel_rfl
  | 12, _ => by kernel_rfl
  | 13, _ => by kernel_rfl
  | 14, _ => by kernel_rfl
  | 15, _ => by kernel_rfl
  | 16, _ => by kernel_rfl
  | 17, _ => by kernel_rfl
  | 18, _ => by kernel_rfl
  | 19, _ => by kernel_rfl
  | 20, _ => by kernel_rfl
  | 21, _ => by kernel_rfl
  | 22, _ => by kernel_rfl
  | 23, _ => by kernel_rfl
  | 24, _ => by kernel_rfl
  | _ + 25, h => absurd h (by omega)
def headA : List (BitVec 8) := [167, 255, 198, 248, 191, 30, 215, 102]
def headB : List (BitVec 8) := [127, 156, 43, 164, 232, 143, 130, 125]
theorem first8 (W : Nat → Int) (a : Int) (h : W 0 = a) : ((List.range 8).map fun j => byteAt (W, j)) = (List.range 8).map fun j => BitVec.ofInt 8 (a / 2 ^ (j * 8)) := by
  apply List.map_congr_left
  intro j hj
  have hj8 : j < 8 := List.mem_range.1 hj
  unfold byteAt
  show BitVec.ofInt 8 (W (j / 8) / 2 ^ (j % 8 * 8)) = _
  rw [show j / 8 = 0 by omega, show j % 8 = j by omega, h]
theorem numA : (out 136 6 [] 32).take 8 = headA := by
  rw [out_small _ _ _ _ (by omega), ← List.map_take, show (List.range 32).take 8 = List.range 8 from rfl]
  refine (first8 _ _ (pa _ startA 0 (by omega))).trans ?_
  kernel_rfl
theorem numB : out 168 31 [] 8 = headB := by
  rw [out_small _ _ _ _ (by omega)]
  refine (first8 _ _ (pb _ startB 0 (by omega))).trans ?_
  kernel_rfl
theorem new9n (rt en : Int) (w : World) (h : rt < 8 ∨ 192 < rt ∨ (0 ≤ rt ∧ rt % 8 ≠ 0)) :
    Calls Tryd.prog 9 #[.int .i64 rt, .int .u8 en] w fun e w' => e = .returned (.pointer none) ∧ w' = w := by
  go_enter Tryd.func9, Tryd.ntmps9
  by_cases h8 : rt < 8
  · have d1 : decide (rt < 8) = true := by simp; omega
    go_wp2_with fail
    go_ret
    exact ⟨rfl, rfl⟩
  · have d1 : decide (rt < 8) = false := by simp; omega
    by_cases h192 : 192 < rt
    · have d2 : decide (rt > 192) = true := by simp; omega
      go_wp2_with fail
      go_ret
      exact ⟨rfl, rfl⟩
    · have d2 : decide (rt > 192) = false := by simp; omega
      obtain ⟨n, rfl⟩ : ∃ n : Nat, rt = n := ⟨rt.toNat, by omega⟩
      have e1 := low7 n (by omega)
      obtain ⟨k, hk⟩ : ∃ k, n % 8 = k := ⟨_, rfl⟩
      rw [hk] at e1
      have hk0 : ¬ k = 0 := by omega
      have d3 : ((k : Int) != 0) = true := by simp; omega
      clear hk
      go_wp2_with fail
      go_ret
      exact ⟨rfl, rfl⟩
set_option maxHeartbeats 4000000 in
theorem head8 (w : World) (hK : TK w) : Calls Tryd.prog 8 #[] w fun e w' => e = .returned (.bool true) ∧ Below w.heap.size w w' := by
  have h0 := hK.lt
  have hN : ∀ (w : World), Old w.heap.size w none [] := fun w => ⟨fun _ => rfl, Nat.le_refl _, fun a ha => by cases ha⟩
  have NB : Hid (∀ w, Calls Tryd.prog 9 #[.int .i64 7, .int .u8 1] w fun e w' => e = .returned (.pointer none) ∧ w' = w) := Lib.hid (fun w => new9n 7 1 w (by omega))
  have SB : Hid (∀ w, TK w → Calls Tryd.prog 16 #[.slice none 0 0, .int .i64 8] w fun e w' => ∃ b, e = .returned (.slice (some ⟨b, 0, none⟩) 8 8) ∧ Own w' w.heap.size (.slice (some ⟨b, 0, none⟩) 8 8) 8 (out 168 31 [] 8) ∧ Below w.heap.size w w') := Lib.hid (fun w h => shake16 [] none 0 0 8 w rfl (by omega) (by omega) (hN _) h)
  go_enter Tryd.func8, Tryd.ntmps8
  go_wp2_with (first
    | (go_at_call 17; (with_reducible refine (sum17 [] none 0 0 _ rfl (by omega) (hN _) hK).mono ?_); rintro e w1 ⟨v1, rfl, o1, b1⟩; obtain ⟨-, -, y1⟩ := own_at (g := 0) o1 (by omega))
    | (go_at_call 16; (with_reducible refine (SB.out _ (hK.below b1 h0)).mono ?_); rintro e w2 ⟨v2, rfl, o2, b2⟩; obtain ⟨-, -, y2⟩ := own_at (g := 0) o2 (by have := b1.size; omega);
       have hv1 : (convert 29 9 (.slice (some ⟨v1, 0, none⟩) 8 32)).run Tryd.prog w2 = .ok (.string ⟨#[167, 255, 198, 248, 191, 30, 215, 102]⟩) w2 := conv_byt (D := (out 136 6 [] 32).take 8) (by rw [List.length_take, out_length]; rfl) ((y1.below b2).take 8) |>.trans (by rw [numA]; rfl);
       have hv2 : (convert 29 9 (.slice (some ⟨v2, 0, none⟩) 8 8)).run Tryd.prog w2 = .ok (.string ⟨#[127, 156, 43, 164, 232, 143, 130, 125]⟩) w2 := conv_byt (D := out 168 31 [] 8) (by rw [out_length]) y2 |>.trans (by rw [numB]; rfl))
    | (go_at_call 18; (with_reducible refine (sum18 [] none 0 0 _ rfl (by omega) (hN _) ((hK.below b1 h0).below b2 (by have := b1.size; omega))).mono ?_); rintro e w3 ⟨v3, rfl, o3, b3⟩; obtain ⟨-, -, y3⟩ := own_at (g := 0) o3 (by have := b1.size; have := b2.size; omega))
    | (go_at_call 9; (with_reducible refine (NB.out _).mono ?_); rintro e w4 ⟨rfl, rfl⟩))
  go_ret
  exact ⟨rfl, (b1.trans (b2.mono b1.size)).trans (b3.mono (by have := b1.size; have := b2.size; omega))⟩
theorem great11 (bo : Option Addr) (m bc : Nat) (w : World) : Calls Tryd.prog 11 #[.slice bo m bc] w fun e w' => e = .returned (.bool (decide ((m : Int) > 5000))) ∧ w' = w := by
  go_enter Tryd.func11, Tryd.ntmps11
  go_wp2_with fail
  go_ret
  all_goals simp
end Go.Proofs.YtgjcofneecebjaaDoor
