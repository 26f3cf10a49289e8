/- KeccakBeginnings, walked. -/
import Derived.Test.YtgjcofneecebjaaDoorT
namespace Go.Proofs.YtgjcofneecebjaaDoor
open Go.ChangeShapes Go.WideShapes Go.ChangeAt Go.RowKit
set_option linter.unusedSimpArgs false
set_option linter.unusedVariables false
theorem gives_take (rt : Nat) (s : St) (n : Nat) : ∀ k, n ≤ k → (gives rt s k).1.take n = (gives rt s n).1 := by
  intro k
  induction k with
  | zero => intro h; obtain rfl : n = 0 := by omega
            rfl
  | succ k ih =>
    intro h
    by_cases e : n = k + 1
    · subst e
      rw [List.take_of_length_le (by rw [gives_length]; exact Nat.le_refl _)]
    · rw [← ih (by omega)]
      show ((gives rt s k).1 ++ _).take n = _
      rw [List.take_append_of_le_length (by rw [gives_length]; omega)]
theorem out_take (rt : Nat) (en : Int) (D : List (BitVec 8)) {n k : Nat} (h : n ≤ k) : (out rt en D k).take n = out rt en D n := gives_take _ _ _ _ h
/-- A text that came in, and two slices that were made. -/
structure P7 (w0 : World) (bo : Option Addr) (B : List (BitVec 8)) (x y k : Nat) (w : World) : Prop where
  b : Old w0.heap.size w bo B
  tk : TK w
  x : Byt w 0 (some ⟨x, 0, none⟩) (out 168 31 B k)
  y : Byt w 0 (some ⟨y, 0, none⟩) (out 136 31 B k)
  k : Below w0.heap.size w0 w
theorem P7.below {w0 w w' : World} {bo : Option Addr} {B : List (BitVec 8)} {x y k : Nat} (h : P7 w0 bo B x y k w) (r : Below w.heap.size w w') : P7 w0 bo B x y k w' :=
  ⟨h.b.below r h.k.size, h.tk.below r h.tk.lt, h.x.below r, h.y.below r, h.k.trans (r.mono h.k.size)⟩
def V7 (B : List (BitVec 8)) (bo : Option Addr) (m bc n k x y : Nat) : Nat → Value → World → Prop
  | 0, v, w => v = .bool true
  | 1, v, w => v = .bool true
  | 2, v, w => v = .slice bo m bc
  | 3, v, w => v = .int .u8 n
  | 4, v, w => v = .int .i64 n
  | 5, v, w => ∃ b, v = .slice (some ⟨b, 0, none⟩) n n ∧ Byt w 0 (some ⟨b, 0, none⟩) (out 168 31 B n)
  | 6, v, w => v = .string (strOf (out 168 31 B n))
  | 7, v, w => v = .slice (some ⟨x, 0, none⟩) k k
  | 8, v, w => v = .int .u8 n
  | 9, v, w => v = .slice (some ⟨x, 0, none⟩) n k
  | 10, v, w => v = .string (strOf (out 168 31 B n))
  | 11, v, w => v = .bool true
  | 12, v, w => v = .bool true
  | 13, v, w => v = .bool true
  | 14, v, w => v = .slice bo m bc
  | 15, v, w => v = .int .u8 n
  | 16, v, w => v = .int .i64 n
  | 17, v, w => ∃ b, v = .slice (some ⟨b, 0, none⟩) n n ∧ Byt w 0 (some ⟨b, 0, none⟩) (out 136 31 B n)
  | 18, v, w => v = .string (strOf (out 136 31 B n))
  | 19, v, w => v = .slice (some ⟨y, 0, none⟩) k k
  | 20, v, w => v = .int .u8 n
  | 21, v, w => v = .slice (some ⟨y, 0, none⟩) n k
  | 22, v, w => v = .string (strOf (out 136 31 B n))
  | 23, v, w => v = .bool true
  | 24, v, w => v = .bool true
  | 25, v, w => v = .bool true
  | _, _, _ => True
theorem V7_keep (B : List (BitVec 8)) (bo : Option Addr) (m bc n k x y : Nat) (i1 : Nat) (v : Value) (w w' : World) (h : V7 B bo m bc n k x y i1 v w) (r : (fun w w' => Below w.heap.size w w') w w') : V7 B bo m bc n k x y i1 v w' := by
  rcases i1 with _ | _ | _ | _ | _ | _ | _ | _ | _ | _ | _ | _ | _ | _ | _ | _ | _ | _ | _ | _ | _ | _ | _ | _ | _ | _ | _
  · exact h
  · exact h
  · exact h
  · exact h
  · exact h
  · exact (let ⟨a, e, y⟩ := h; ⟨a, e, y.below r⟩)
  · exact h
  · exact h
  · exact h
  · exact h
  · exact h
  · exact h
  · exact h
  · exact h
  · exact h
  · exact h
  · exact h
  · exact (let ⟨a, e, y⟩ := h; ⟨a, e, y.below r⟩)
  · exact h
  · exact h
  · exact h
  · exact h
  · exact h
  · exact h
  · exact h
  · exact h
  · trivial
set_option maxHeartbeats 4000000 in
theorem beginnings7 (B : List (BitVec 8)) (bo : Option Addr) (m bc n mo : Nat) (w : World) (hm : m = B.length) (hn : n < 256) (hmo : mo < 256) (hB : Old w.heap.size w bo B) (hK : TK w) :
    Calls Tryd.prog 7 #[.slice bo m bc, .int .u8 n, .int .u8 mo] w fun r w' => r = .returned (.bool true) ∧ Below w.heap.size w w' := by
  have h0 := hK.lt
  have HL := Lib.hid hm
  clear hm
  obtain ⟨x, hx⟩ : ∃ x, decide ((m : Int) > 5000) = x := ⟨_, rfl⟩
  have GA : Hid (∀ w, Calls Tryd.prog 11 #[.slice bo m bc] w fun e w' => e = .returned (.bool x) ∧ w' = w) := Lib.hid (fun w => hx ▸ great11 bo m bc w)
  have HX := Lib.hid hx
  clear hx
  go_enter Tryd.func7, Tryd.ntmps7
  cases x with
  | true =>
    go_wp2_with (first | (go_at_call 8; (with_reducible refine (head8 _ hK).mono ?_); rintro e w1 ⟨rfl, b1⟩) | (go_at_call 11; (with_reducible refine (GA.out _).mono ?_); rintro e w1 ⟨rfl, rfl⟩))
    go_ret
    exact ⟨rfl, b1⟩
  | false =>
    have hm2 : m ≤ 5000 := by have := HX.out; simp at this; omega
    obtain ⟨k, hk⟩ : ∃ k, n + mo = k := ⟨_, rfl⟩
    have hk510 : k ≤ 510 := by omega
    have e1 : (n : Int) + (mo : Int) = (k : Int) := by omega
    have e2 : IntKind.i64.wrap (n : Int) = (n : Int) := IntWalk.i64_in _ (by omega)
    have e3 : IntKind.i64.wrap (mo : Int) = (mo : Int) := IntWalk.i64_in _ (by omega)
    have e4 : IntKind.i64.wrap (k : Int) = (k : Int) := IntWalk.i64_in _ (by omega)
    have z1 : (0 : Int) ≤ (n : Int) := by omega
    have z2 : (n : Int) ≤ (k : Int) := by omega
    have HNK : Hid (n ≤ k) := Lib.hid (by omega)
    have HKN := Lib.hid hk
    clear hk
    go_upto_region 9 with (first
      | (go_at_call 8; (with_reducible refine (head8 _ hK).mono ?_); rintro e w1 ⟨rfl, b1⟩; have t1 := hK.below b1 h0; have o1 := hB.below b1 (Nat.le_refl _))
      | (go_at_call 11; (with_reducible refine (GA.out _).mono ?_); rintro e w1 ⟨rfl, rfl⟩)
      | (go_at_call 16; (with_reducible refine (shake16 B bo m bc k _ HL.out ?l1 ?l2 ?l3 t1).mono ?_); (case l1 => omega); (case l2 => omega); (case l3 => exact o1.mono b1.size (Nat.le_refl _)); rintro e w2 ⟨x, rfl, ox, b2⟩; have t2 := t1.below b2 t1.lt; have o2 := o1.below b2 b1.size; have k2 := b1.trans (b2.mono b1.size); obtain ⟨-, -, yx⟩ := own_at (g := 0) ox (by have := t1.lt; omega); clear ox b2)
      | (go_at_call 19; (with_reducible refine (shake19 B bo m bc k _ HL.out ?l1 ?l2 ?l3 t2).mono ?_); (case l1 => omega); (case l2 => omega); (case l3 => exact o2.mono k2.size (Nat.le_refl _)); rintro e w3 ⟨y, rfl, oy, b3⟩; have p3 : P7 w bo B x y k w3 := ⟨o2.below b3 k2.size, t2.below b3 t2.lt, yx.below b3, (own_at (g := 0) oy (by have := t2.lt; omega)).2.2, k2.trans (b3.mono k2.size)⟩; clear oy b3)
      | (go_at_call 16; (with_reducible refine (shake16n B bo m bc (-1) _ HL.out ?l1 ?l2 ?l3 p3.tk).mono ?_); (case l1 => omega); (case l2 => exact .inl (by omega)); (case l3 => exact p3.b.mono p3.k.size (Nat.le_refl _)); rintro e w4 ⟨rfl, b4⟩; have p4' := p3.below b4)
      | (go_at_call 19; (with_reducible refine (shake19n B bo m bc 65537 _ HL.out ?l1 ?l2 ?l3 p4'.tk).mono ?_); (case l1 => omega); (case l2 => exact .inr (by omega)); (case l3 => exact p4'.b.mono p4'.k.size (Nat.le_refl _)); rintro e w5 ⟨rfl, b5⟩; have p5 := p4'.below b5))
    have p4 := p5.below (w' := w5.drew) ((Below.refl _ _).drew)
    clear p3 p4' p5 t1 t2 o1 o2 yx k2 b1 hB hK
    refine region_monoL (fun z => P7 w bo B x y k z) (fun w w' => Below w.heap.size w w') (V7 B bo m bc n k x y) [(0, some 48), (1, some 49), (2, some 50), (3, some 51), (4, some 52), (5, some 53), (6, some 54), (7, some 55), (8, some 56), (9, some 57), (10, some 58), (11, some 59), (12, some 60), (13, some 61), (14, some 62), (15, some 63), (16, some 64), (17, some 65), (18, some 66), (19, some 67), (20, some 68), (21, some 69), (22, some 70), (23, some 71), (24, some 72), (25, some 6)] (by kernel_rfl) (by kernel_rfl) (by kernel_rfl) (fun _ _ h r => h.below r) (fun i1 v1 w1 w2 _ h1 r1 => V7_keep B bo m bc n k x y i1 v1 w1 w2 h1 r1) (p4) ?_ (fun vs w' hS hV => ?_)
    · refine StepsL.cons0  (by kernel_rfl)  ?_ ?_
      · rintro w1 hS  K hK
        (try simp only [Act.put, List.setIfInBounds_toArray, List.set_cons_zero, List.set_cons_succ])
        go_simp
        exact hK.out _ _ rfl (Below.refl _ _)
      refine StepsL.cons1 0 (some 48) (by kernel_rfl) rfl ?_ ?_
      · rintro w1 hS _ rfl K hK
        (try simp only [Act.put, List.setIfInBounds_toArray, List.set_cons_zero, List.set_cons_succ])
        go_simp
        exact hK.out _ _ rfl (Below.refl _ _)
      refine StepsL.cons1 1 (some 49) (by kernel_rfl) rfl ?_ ?_
      · rintro w1 hS _ rfl K hK
        (try simp only [Act.put, List.setIfInBounds_toArray, List.set_cons_zero, List.set_cons_succ])
        go_simp
        exact hK.out _ _ rfl (Below.refl _ _)
      refine StepsL.cons1 1 (some 49) (by kernel_rfl) rfl ?_ ?_
      · rintro w1 hS _ rfl K hK
        (try simp only [Act.put, List.setIfInBounds_toArray, List.set_cons_zero, List.set_cons_succ])
        go_simp
        exact hK.out _ _ rfl (Below.refl _ _)
      refine StepsL.cons2 1 (some 49) 3 (some 51) (by kernel_rfl) rfl rfl ?_ ?_
      · rintro w1 hS _ rfl _ rfl K hK
        (try simp only [Act.put, List.setIfInBounds_toArray, List.set_cons_zero, List.set_cons_succ])
        go_simp
        exact hK.out _ _ rfl (Below.refl _ _)
      refine StepsL.cons3 1 (some 49) 2 (some 50) 4 (some 52) (by kernel_rfl) rfl rfl rfl ?_ ?_
      · rintro w1 hS _ rfl _ rfl _ rfl K hK
        (try simp only [Act.put, List.setIfInBounds_toArray, List.set_cons_zero, List.set_cons_succ])
        go_simp
        go_at_call 16
        refine (shake16 B bo m bc n _ HL.out (by omega) (by omega) (hS.b.mono hS.k.size (Nat.le_refl _)) hS.tk).mono ?_
        rintro r w2 ⟨b2, rfl, o2, k2⟩
        obtain ⟨-, -, y2⟩ := own_at (g := 0) o2 (by have := hS.tk.lt; omega)
        exact hK.out _ _ ⟨_, rfl, y2⟩ k2
      refine StepsL.cons2 1 (some 49) 5 (some 53) (by kernel_rfl) rfl rfl ?_ ?_
      · rintro w1 hS _ rfl _ ⟨b5, rfl, y5⟩ K hK
        (try simp only [Act.put, List.setIfInBounds_toArray, List.set_cons_zero, List.set_cons_succ])
        have hcv := conv_byt (c := n) (n := n) (out_length 168 31 B n).symm y5
        go_simp
        exact hK.out _ _ rfl (Below.refl _ _)
      refine StepsL.cons1 1 (some 49) (by kernel_rfl) rfl ?_ ?_
      · rintro w1 hS _ rfl K hK
        (try simp only [Act.put, List.setIfInBounds_toArray, List.set_cons_zero, List.set_cons_succ])
        go_simp
        exact hK.out _ _ rfl (Below.refl _ _)
      refine StepsL.cons1 1 (some 49) (by kernel_rfl) rfl ?_ ?_
      · rintro w1 hS _ rfl K hK
        (try simp only [Act.put, List.setIfInBounds_toArray, List.set_cons_zero, List.set_cons_succ])
        go_simp
        exact hK.out _ _ rfl (Below.refl _ _)
      refine StepsL.cons3 1 (some 49) 7 (some 55) 8 (some 56) (by kernel_rfl) rfl rfl rfl ?_ ?_
      · rintro w1 hS _ rfl _ rfl _ rfl K hK
        (try simp only [Act.put, List.setIfInBounds_toArray, List.set_cons_zero, List.set_cons_succ])
        go_simp
        exact hK.out _ _ rfl (Below.refl _ _)
      refine StepsL.cons2 1 (some 49) 9 (some 57) (by kernel_rfl) rfl rfl ?_ ?_
      · rintro w1 hS _ rfl _ rfl K hK
        (try simp only [Act.put, List.setIfInBounds_toArray, List.set_cons_zero, List.set_cons_succ])
        have hcv := conv_byt (c := k) (n := n) (D := (out 168 31 B k).take n) (by rw [List.length_take, out_length]; omega) (hS.x.take n)
        rw [out_take _ _ _ HNK.out] at hcv
        go_simp
        exact hK.out _ _ rfl (Below.refl _ _)
      refine StepsL.cons3 1 (some 49) 6 (some 54) 10 (some 58) (by kernel_rfl) rfl rfl rfl ?_ ?_
      · rintro w1 hS _ rfl _ rfl _ rfl K hK
        (try simp only [Act.put, List.setIfInBounds_toArray, List.set_cons_zero, List.set_cons_succ])
        go_simp
        exact hK.out _ _ rfl (Below.refl _ _)
      refine StepsL.cons2 1 (some 49) 11 (some 59) (by kernel_rfl) rfl rfl ?_ ?_
      · rintro w1 hS _ rfl _ rfl K hK
        (try simp only [Act.put, List.setIfInBounds_toArray, List.set_cons_zero, List.set_cons_succ])
        go_simp
        exact hK.out _ _ rfl (Below.refl _ _)
      refine StepsL.cons1 12 (some 60) (by kernel_rfl) rfl ?_ ?_
      · rintro w1 hS _ rfl K hK
        (try simp only [Act.put, List.setIfInBounds_toArray, List.set_cons_zero, List.set_cons_succ])
        go_simp
        exact hK.out _ _ rfl (Below.refl _ _)
      refine StepsL.cons1 13 (some 61) (by kernel_rfl) rfl ?_ ?_
      · rintro w1 hS _ rfl K hK
        (try simp only [Act.put, List.setIfInBounds_toArray, List.set_cons_zero, List.set_cons_succ])
        go_simp
        exact hK.out _ _ rfl (Below.refl _ _)
      refine StepsL.cons1 13 (some 61) (by kernel_rfl) rfl ?_ ?_
      · rintro w1 hS _ rfl K hK
        (try simp only [Act.put, List.setIfInBounds_toArray, List.set_cons_zero, List.set_cons_succ])
        go_simp
        exact hK.out _ _ rfl (Below.refl _ _)
      refine StepsL.cons2 13 (some 61) 15 (some 63) (by kernel_rfl) rfl rfl ?_ ?_
      · rintro w1 hS _ rfl _ rfl K hK
        (try simp only [Act.put, List.setIfInBounds_toArray, List.set_cons_zero, List.set_cons_succ])
        go_simp
        exact hK.out _ _ rfl (Below.refl _ _)
      refine StepsL.cons3 13 (some 61) 14 (some 62) 16 (some 64) (by kernel_rfl) rfl rfl rfl ?_ ?_
      · rintro w1 hS _ rfl _ rfl _ rfl K hK
        (try simp only [Act.put, List.setIfInBounds_toArray, List.set_cons_zero, List.set_cons_succ])
        go_simp
        go_at_call 19
        refine (shake19 B bo m bc n _ HL.out (by omega) (by omega) (hS.b.mono hS.k.size (Nat.le_refl _)) hS.tk).mono ?_
        rintro r w2 ⟨b2, rfl, o2, k2⟩
        obtain ⟨-, -, y2⟩ := own_at (g := 0) o2 (by have := hS.tk.lt; omega)
        exact hK.out _ _ ⟨_, rfl, y2⟩ k2
      refine StepsL.cons2 13 (some 61) 17 (some 65) (by kernel_rfl) rfl rfl ?_ ?_
      · rintro w1 hS _ rfl _ ⟨b17, rfl, y17⟩ K hK
        (try simp only [Act.put, List.setIfInBounds_toArray, List.set_cons_zero, List.set_cons_succ])
        have hcv := conv_byt (c := n) (n := n) (out_length 136 31 B n).symm y17
        go_simp
        exact hK.out _ _ rfl (Below.refl _ _)
      refine StepsL.cons1 13 (some 61) (by kernel_rfl) rfl ?_ ?_
      · rintro w1 hS _ rfl K hK
        (try simp only [Act.put, List.setIfInBounds_toArray, List.set_cons_zero, List.set_cons_succ])
        go_simp
        exact hK.out _ _ rfl (Below.refl _ _)
      refine StepsL.cons1 13 (some 61) (by kernel_rfl) rfl ?_ ?_
      · rintro w1 hS _ rfl K hK
        (try simp only [Act.put, List.setIfInBounds_toArray, List.set_cons_zero, List.set_cons_succ])
        go_simp
        exact hK.out _ _ rfl (Below.refl _ _)
      refine StepsL.cons3 13 (some 61) 19 (some 67) 20 (some 68) (by kernel_rfl) rfl rfl rfl ?_ ?_
      · rintro w1 hS _ rfl _ rfl _ rfl K hK
        (try simp only [Act.put, List.setIfInBounds_toArray, List.set_cons_zero, List.set_cons_succ])
        go_simp
        exact hK.out _ _ rfl (Below.refl _ _)
      refine StepsL.cons2 13 (some 61) 21 (some 69) (by kernel_rfl) rfl rfl ?_ ?_
      · rintro w1 hS _ rfl _ rfl K hK
        (try simp only [Act.put, List.setIfInBounds_toArray, List.set_cons_zero, List.set_cons_succ])
        have hcv := conv_byt (c := k) (n := n) (D := (out 136 31 B k).take n) (by rw [List.length_take, out_length]; omega) (hS.y.take n)
        rw [out_take _ _ _ HNK.out] at hcv
        go_simp
        exact hK.out _ _ rfl (Below.refl _ _)
      refine StepsL.cons3 13 (some 61) 18 (some 66) 22 (some 70) (by kernel_rfl) rfl rfl rfl ?_ ?_
      · rintro w1 hS _ rfl _ rfl _ rfl K hK
        (try simp only [Act.put, List.setIfInBounds_toArray, List.set_cons_zero, List.set_cons_succ])
        go_simp
        exact hK.out _ _ rfl (Below.refl _ _)
      refine StepsL.cons2 13 (some 61) 23 (some 71) (by kernel_rfl) rfl rfl ?_ ?_
      · rintro w1 hS _ rfl _ rfl K hK
        (try simp only [Act.put, List.setIfInBounds_toArray, List.set_cons_zero, List.set_cons_succ])
        go_simp
        exact hK.out _ _ rfl (Below.refl _ _)
      refine StepsL.cons1 24 (some 72) (by kernel_rfl) rfl ?_ ?_
      · rintro w1 hS _ rfl K hK
        (try simp only [Act.put, List.setIfInBounds_toArray, List.set_cons_zero, List.set_cons_succ])
        go_simp
        exact hK.out _ _ rfl (Below.refl _ _)
      exact StepsL.nil
    · have e25 : vs 25 = .bool true := hV 25 (by simp)
      simp only [putl, List.foldl_cons, List.foldl_nil, Act.put, List.setIfInBounds_toArray, List.set_cons_zero, List.set_cons_succ, e25]
      go_wp2_with fail
      go_ret
      exact ⟨rfl, hS.k⟩
end Go.Proofs.YtgjcofneecebjaaDoor
