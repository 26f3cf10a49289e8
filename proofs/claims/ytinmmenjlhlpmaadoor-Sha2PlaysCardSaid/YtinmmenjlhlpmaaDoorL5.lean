/- Sha2Parts, walked. -/
import Derived.Test.YtinmmenjlhlpmaaDoorL
import Derived.Test.YtinmmenjlhlpmaaDoorM
namespace Go.Proofs.YtinmmenjlhlpmaaDoor
open Go.ChangeShapes Go.WideShapes Go.ChangeAt Go.RowKit
set_option linter.unusedSimpArgs false
set_option linter.unusedVariables false
theorem great8 (bo : Option Addr) (m bc : Nat) (w : World) : Calls Tryd.prog 8 #[.slice bo m bc] w fun e w' => e = .returned (.bool (decide ((m : Int) > 20000))) ∧ w' = w := by
  go_enter Tryd.func8, Tryd.ntmps8
  go_wp2_with fail
  go_ret
  all_goals simp
/-- Two hashes and three texts. -/
structure PS (w0 : World) (gx gy : Nat) (A B C : List (BitVec 8)) (ao bo co : Option Addr) (X Y : List (BitVec 8)) (w : World) : Prop where
  hx : Hash w gx X
  hy : Hash w gy Y
  tk : TK w
  a : Old w0.heap.size w ao A
  b : Old w0.heap.size w bo B
  c : Old w0.heap.size w co C
  k : Below w0.heap.size w0 w
  o1 : w0.heap.size ≤ gx
  o2 : gx < gy
  z : 0 < w0.heap.size
section
variable {w0 w w' : World} {gx gy : Nat} {A B C X Y : List (BitVec 8)} {ao bo co : Option Addr}
theorem PS.below (h : PS w0 gx gy A B C ao bo co X Y w) (j : Below w.heap.size w w') : PS w0 gx gy A B C ao bo co X Y w' :=
  ⟨h.hx.below j, h.hy.below j, h.tk.below j (tk_lt h.tk), h.a.below j h.k.size, h.b.below j h.k.size, h.c.below j h.k.size, h.k.trans (j.mono h.k.size), h.o1, h.o2, h.z⟩
theorem PS.wx (h : PS w0 gx gy A B C ao bo co X Y w) (j : w.grownBy w' (some gx)) {X' : List (BitVec 8)} (hx : Hash w' gx X') : PS w0 gx gy A B C ao bo co X' Y w' :=
  ⟨hx, h.hy.beside h.hx (by have := h.o2; omega) j, h.tk.grown j (by have := h.o1; have := h.z; simp; omega), h.a.grown j (fun b e => by injection e with e; have := h.o1; omega), h.b.grown j (fun b e => by injection e with e; have := h.o1; omega), h.c.grown j (fun b e => by injection e with e; have := h.o1; omega),
    h.k.grown j h.k.size (fun b e => by injection e with e; have := h.o1; omega), h.o1, h.o2, h.z⟩
theorem PS.wy (h : PS w0 gx gy A B C ao bo co X Y w) (j : w.grownBy w' (some gy)) {Y' : List (BitVec 8)} (hy : Hash w' gy Y') : PS w0 gx gy A B C ao bo co X Y' w' :=
  ⟨h.hx.beside h.hy (by have := h.o2; omega) j, hy, h.tk.grown j (by have := h.o1; have := h.o2; have := h.z; simp; omega), h.a.grown j (fun b e => by injection e with e; have := h.o1; have := h.o2; omega), h.b.grown j (fun b e => by injection e with e; have := h.o1; have := h.o2; omega), h.c.grown j (fun b e => by injection e with e; have := h.o1; have := h.o2; omega),
    h.k.grown j h.k.size (fun b e => by injection e with e; have := h.o1; have := h.o2; omega), h.o1, h.o2, h.z⟩
end
theorem own_new (w : World) : Own (w.alloc (.cells #[] 5)) w.heap.size (.slice (some ⟨w.heap.size, 0, none⟩) 0 0) 0 [] := World.ownsRow_made w #[] 0 (Nat.le_refl _) (by unfold maxLen; omega) (by simp)
/-- An own slice that has been appended to: the rest is as it was. -/
theorem own_below {w1 w w' : World} {n : Nat} {v : Value} {T : List (BitVec 8)} (h : Own w w1.heap.size v n T) (k : Below w1.heap.size w1 w) (j : w.grownBy w' v.ownBlock) : Below w1.heap.size w1 w' :=
  k.grown j k.size (fun b e => (h.lt b e).1)
def V5 (D : List (BitVec 8)) (gx gy : Nat) : Nat → Value → World → Prop
  | 0, v, w => v = .bool true
  | 1, v, w => v = .bool true
  | 2, v, w => v = .pointer (some ⟨gx, 0, none⟩)
  | 3, v, w => ∃ ad c, v = .slice (some ad) 32 c ∧ Byt w 0 (some ad) (dig D)
  | 4, v, w => v = .string (strOf (dig D))
  | 5, v, w => v = .pointer (some ⟨gy, 0, none⟩)
  | 6, v, w => ∃ ad c, v = .slice (some ad) 32 c ∧ Byt w 0 (some ad) (dig D)
  | 7, v, w => v = .string (strOf (dig D))
  | 8, v, w => v = .bool true
  | 9, v, w => v = .bool true
  | 10, v, w => v = .bool true
  | 11, v, w => v = .pointer (some ⟨gx, 0, none⟩)
  | 12, v, w => ∃ ad c, v = .slice (some ad) 32 c ∧ Byt w 0 (some ad) (dig D)
  | 13, v, w => v = .string (strOf (dig D))
  | 14, v, w => ∃ ad c, v = .slice ad D.length c ∧ Byt w 0 ad D
  | 15, v, w => ∃ ad c, v = .slice (some ad) 32 c ∧ Byt w 0 (some ad) (dig D)
  | 16, v, w => v = .string (strOf (dig D))
  | 17, v, w => v = .bool true
  | 18, v, w => v = .bool true
  | 19, v, w => v = .bool true
  | _, _, _ => True
theorem V5_keep (D : List (BitVec 8)) (gx gy : Nat) (S : World → Prop) (i : Nat) (v : Value) (w w' : World) (hS : (S) w) (h : V5 D gx gy i v w) (r : (fun w w' => Below w.heap.size w w') w w') : V5 D gx gy i v w' := by
  rcases i with _ | _ | _ | _ | _ | _ | _ | _ | _ | _ | _ | _ | _ | _ | _ | _ | _ | _ | _ | _ | _
  · exact h
  · exact h
  · exact h
  · exact (let ⟨a, c, e, y⟩ := h; ⟨a, c, e, y.below r⟩)
  · exact h
  · exact h
  · exact (let ⟨a, c, e, y⟩ := h; ⟨a, c, e, y.below r⟩)
  · exact h
  · exact h
  · exact h
  · exact h
  · exact h
  · exact (let ⟨a, c, e, y⟩ := h; ⟨a, c, e, y.below r⟩)
  · exact h
  · exact (let ⟨a, c, e, y⟩ := h; ⟨a, c, e, y.below r⟩)
  · exact (let ⟨a, c, e, y⟩ := h; ⟨a, c, e, y.below r⟩)
  · exact h
  · exact h
  · exact h
  · exact h
  · trivial
set_option maxHeartbeats 4000000 in
theorem parts5 (A B C : List (BitVec 8)) (ao bo co : Option Addr) (la lb lc ca cb cc : Nat) (w : World) (ha : la = A.length ∧ lb = B.length ∧ lc = C.length)
    (hA : Old w.heap.size w ao A) (hB : Old w.heap.size w bo B) (hC : Old w.heap.size w co C) (hK : TK w) :
    Calls Tryd.prog 5 #[.slice ao la ca, .slice bo lb cb, .slice co lc cc] w fun e w' => e = .returned (.bool true) ∧ Below w.heap.size w w' := by
  have h0 := tk_lt hK
  have HL := Lib.hid ha
  clear ha
  obtain ⟨x, hx⟩ : ∃ x, decide ((la : Int) > 20000) = x := ⟨_, rfl⟩
  obtain ⟨y, hy⟩ : ∃ x, decide ((lb : Int) > 20000) = x := ⟨_, rfl⟩
  obtain ⟨z, hz⟩ : ∃ x, decide ((lc : Int) > 20000) = x := ⟨_, rfl⟩
  have GA : Hid (∀ w, Calls Tryd.prog 8 #[.slice ao la ca] w fun e w' => e = .returned (.bool x) ∧ w' = w) := Lib.hid (fun w => hx ▸ great8 ao la ca w)
  have GB : Hid (∀ w, Calls Tryd.prog 8 #[.slice bo lb cb] w fun e w' => e = .returned (.bool y) ∧ w' = w) := Lib.hid (fun w => hy ▸ great8 bo lb cb w)
  have GC : Hid (∀ w, Calls Tryd.prog 8 #[.slice co lc cc] w fun e w' => e = .returned (.bool z) ∧ w' = w) := Lib.hid (fun w => hz ▸ great8 co lc cc w)
  have HX := Lib.hid (And.intro hx (And.intro hy hz))
  clear hx hy hz
  go_enter Tryd.func5, Tryd.ntmps5
  cases x with
  | true =>
    go_wp2_with (first | (go_at_call 7; (with_reducible refine (head7 _ hK).mono ?_); rintro e w1 ⟨rfl, b1⟩) | (go_at_call 8; (with_reducible refine (GA.out _).mono ?_); rintro e w2 ⟨rfl, rfl⟩))
    go_ret
    exact ⟨rfl, b1⟩
  | false =>
  cases y with
  | true =>
    go_wp2_with (first | (go_at_call 7; (with_reducible refine (head7 _ hK).mono ?_); rintro e w1 ⟨rfl, b1⟩) | (go_at_call 8; (with_reducible refine (GA.out _).mono ?_); rintro e w2 ⟨rfl, rfl⟩) | (go_at_call 8; (with_reducible refine (GB.out _).mono ?_); rintro e w2 ⟨rfl, rfl⟩))
    go_ret
    exact ⟨rfl, b1⟩
  | false =>
  cases z with
  | true =>
    go_wp2_with (first | (go_at_call 7; (with_reducible refine (head7 _ hK).mono ?_); rintro e w1 ⟨rfl, b1⟩) | (go_at_call 8; (with_reducible refine (GA.out _).mono ?_); rintro e w2 ⟨rfl, rfl⟩) | (go_at_call 8; (with_reducible refine (GB.out _).mono ?_); rintro e w2 ⟨rfl, rfl⟩) | (go_at_call 8; (with_reducible refine (GC.out _).mono ?_); rintro e w2 ⟨rfl, rfl⟩))
    go_ret
    exact ⟨rfl, b1⟩
  | false =>
    have HN : Hid (la ≤ 20000 ∧ lb ≤ 20000 ∧ lc ≤ 20000) := Lib.hid (by have := HX.out; simp at this; omega)
    go_upto_region 12 with (first
      | (go_at_call 7; (with_reducible refine (head7 _ hK).mono ?_); rintro e w1 ⟨rfl, b1⟩) | (go_at_call 8; (with_reducible refine (GA.out _).mono ?_); rintro e w2 ⟨rfl, rfl⟩) | (go_at_call 8; (with_reducible refine (GB.out _).mono ?_); rintro e w2 ⟨rfl, rfl⟩) | (go_at_call 8; (with_reducible refine (GC.out _).mono ?_); rintro e w2 ⟨rfl, rfl⟩)
      | (go_at_call 13; (with_reducible refine (sum13 gx _ _ ?s1 p4.hx p4.tk ?s2).mono ?_); (case s1 => have := HN.out; have := HL.out; simp; omega); (case s2 => have := p4.o1; have := p4.z; omega); rintro e w5 ⟨v5, rfl, -, b5⟩; have p5 := p4.below b5; clear b5 p4)
      | (go_at_call 12; (with_reducible refine (write12 gx _ C co lc cc _ HL.out.2.2 ?m1 p6.hx (p6.c.byt p6.o1) p6.tk ?m2).mono ?_); (case m1 => have := HN.out; have := HL.out; simp; omega); (case m2 => have := p6.o1; have := p6.z; omega); rintro e w7 ⟨rfl, x7, g7⟩; have p7 := p6.wx g7 x7; clear x7 g7 p6)
      | (go_at_call 12; (with_reducible refine (write12 gx _ B bo lb cb _ HL.out.2.1 ?m1 p5.hx (p5.b.byt p5.o1) p5.tk ?m2).mono ?_); (case m1 => have := HN.out; have := HL.out; simp; omega); (case m2 => have := p5.o1; have := p5.z; omega); rintro e w6 ⟨rfl, x6, g6⟩; have p6 := p5.wx g6 x6; clear x6 g6 p5)
      | (go_at_call 12; (with_reducible refine (write12 gx _ A ao la ca _ HL.out.1 ?m1 p3.hx (p3.a.byt p3.o1) p3.tk ?m2).mono ?_); (case m1 => have := HN.out; have := HL.out; simp; omega); (case m2 => have := p3.o1; have := p3.z; omega); rintro e w4 ⟨rfl, x4, g4⟩; have p4 := p3.wx g4 x4; clear x4 g4 p3)
      | (go_at_call 11; have := x2; (with_reducible refine (new11 _).mono ?_); rintro e w3 ⟨gy, rfl, hgy, y3, b3⟩; have p3 : PS w gx gy A B C ao bo co [] [] w3 := ⟨x2.below b3, y3, (hK.below b1 h0).below (b2.trans (b3.mono b2.size)) (by have := b1.size; omega), hA.below (b1.trans ((b2.trans (b3.mono b2.size)).mono b1.size)) (Nat.le_refl _), hB.below (b1.trans ((b2.trans (b3.mono b2.size)).mono b1.size)) (Nat.le_refl _), hC.below (b1.trans ((b2.trans (b3.mono b2.size)).mono b1.size)) (Nat.le_refl _), b1.trans ((b2.trans (b3.mono b2.size)).mono b1.size), by have := b1.size; omega, by have := x2.lt; omega, h0⟩; clear b1 b2 b3 x2 y3)
      | (go_at_call 11; (with_reducible refine (new11 _).mono ?_); rintro e w2 ⟨gx, rfl, hgx, x2, b2⟩))
    go_wp2_with (first
      | (at_builtin; refine app_own rfl (.tmp 43) (.tmp 44) rfl w7.heap.size (.slice (some ⟨w7.heap.size, 0, none⟩) 0 0) 0 [] rfl (own_new w7) w7.heap.size ao la ca A rfl ?q1 ?q2 ?q3 ?q4 ?_; (case q1 => exact HL.out.1); (case q2 => exact (p7.a.alloc _).byt p7.k.size); (case q3 => have := HN.out; omega); (case q4 => simp); intro v8 w8 o8 g8; have k8 : Below w7.heap.size w7 w8 := own_below (own_new w7) ((Below.refl _ _).alloc (Nat.le_refl _) _) g8; clear g8)
      | (at_builtin; refine app_own rfl (.tmp 45) (.tmp 46) rfl w7.heap.size v8 (0 + la) ([] ++ A) rfl o8 w7.heap.size bo lb cb B rfl ?q1 ?q2 ?q3 ?q4 ?_; (case q1 => exact HL.out.2.1); (case q2 => exact (p7.b.below k8 p7.k.size).byt p7.k.size); (case q3 => have := HN.out; omega); (case q4 => exact k8.size); intro v9 w9 o9 g9; have k9 := own_below o8 k8 g9; have p9 := p7.below k9; obtain ⟨a9, c9, rfl, e9, -, y9⟩ := own_byt (g := gy) o9 p7.hy.lt; have E9 := Lib.hid (show la + lb = _ from (by omega : la + lb = 0 + la + lb).trans e9); clear g9 k9 k8 o8 o9 p7 e9)
      | (at_builtin; refine app_own rfl (.tmp 52) (.tmp 53) rfl w11.heap.size (.slice (some ⟨w11.heap.size, 0, none⟩) 0 0) 0 [] rfl (own_new w11) w11.heap.size ao la ca A rfl ?q1 ?q2 ?q3 ?q4 ?_; (case q1 => exact HL.out.1); (case q2 => exact (p11.a.alloc _).byt p11.k.size); (case q3 => have := HN.out; omega); (case q4 => simp); intro v12 w12 o12 g12; have k12 : Below w11.heap.size w11 w12 := own_below (own_new w11) ((Below.refl _ _).alloc (Nat.le_refl _) _) g12; clear g12)
      | (at_builtin; refine app_own rfl (.tmp 54) (.tmp 55) rfl w11.heap.size v12 (0 + la) ([] ++ A) rfl o12 w11.heap.size bo lb cb B rfl ?q1 ?q2 ?q3 ?q4 ?_; (case q1 => exact HL.out.2.1); (case q2 => exact (p11.b.below k12 p11.k.size).byt p11.k.size); (case q3 => have := HN.out; omega); (case q4 => exact k12.size); intro v13 w13 o13 g13; have k13 := own_below o12 k12 g13; clear g13 k12 o12)
      | (at_builtin; refine app_own rfl (.tmp 56) (.tmp 57) rfl w11.heap.size v13 (0 + la + lb) ([] ++ A ++ B) rfl o13 w11.heap.size co lc cc C rfl ?q1 ?q2 ?q3 ?q4 ?_; (case q1 => exact HL.out.2.2); (case q2 => exact (p11.c.below k13 p11.k.size).byt p11.k.size); (case q3 => have := HN.out; omega); (case q4 => exact k13.size); intro v14 w14 o14 g14; have k14 := own_below o13 k13 g14; have p14 := p11.below k14; obtain ⟨a14, c14, rfl, e14, -, y14⟩ := own_byt (g := 0) o14 (by have := tk_lt p11.tk; omega); have E14 := Lib.hid (show la + lb + lc = _ from (by omega : la + lb + lc = 0 + la + lb + lc).trans e14); clear g14 k14 k13 o13 o14 p11 e14)
      | (go_at_call 12; (with_reducible refine (write12 gy _ C co lc cc _ HL.out.2.2 ?m1 p10.hy (p10.c.byt (Nat.le_trans p10.o1 (Nat.le_of_lt p10.o2))) p10.tk ?m2).mono ?_); (case m1 => have := HN.out; have := HL.out; simp; omega); (case m2 => have := p10.o1; have := p10.o2; have := p10.z; omega); rintro e w11 ⟨rfl, x11, g11⟩; have p11 := p10.wy g11 x11; clear x11 g11 p10)
      | (go_at_call 12; (with_reducible refine (write12 gy _ ([] ++ A ++ B) a9 (la + lb) c9 _ E9.out ?m1 p9.hy y9 p9.tk ?m2).mono ?_); (case m1 => have := HN.out; simp; omega); (case m2 => have := p9.o1; have := p9.o2; have := p9.z; omega); rintro e w10 ⟨rfl, x10, g10⟩; have p10 := p9.wy g10 x10; clear x10 g10 p9 y9 E9))
    have hXY : [] ++ ([] ++ A ++ B) ++ C = [] ++ A ++ B ++ C := by simp
    rw [hXY] at p14
    obtain ⟨D, hD⟩ : ∃ D, D = [] ++ A ++ B ++ C := ⟨_, rfl⟩
    rw [← hD] at p14 y14 E14
    have HD : Hid (D.length ≤ 4294967296) := Lib.hid (by have := HN.out; have := HL.out; rw [hD]; simp; omega)
    clear hXY hD hA hB hC hK
    have p15 := p14.below (w' := w14.drew) ((Below.refl _ _).drew)
    have y15 : Byt w14.drew 0 a14 D := y14.drew
    clear p14 y14
    refine region_monoL (fun x => PS w gx gy A B C ao bo co D D x ∧ Byt x 0 a14 D) (fun w w' => Below w.heap.size w w') (V5 D gx gy) [(0, some 59), (1, some 60), (2, some 61), (3, some 62), (4, some 63), (5, some 64), (6, some 65), (7, some 66), (8, some 67), (9, some 68), (10, some 69), (11, some 70), (12, some 71), (13, some 72), (14, some 73), (15, some 74), (16, some 75), (17, some 76), (18, some 77), (19, some 6)] (by kernel_rfl) (by kernel_rfl) (by kernel_rfl) (fun _ _ h r => ⟨h.1.below r, h.2.below r⟩) (V5_keep D gx gy _) (⟨p15, y15⟩) ?_ (fun vs w' hS hV => ?_)
    · refine StepsL.cons0  (by kernel_rfl)  ?_ ?_
      · rintro w hS  K hK
        (try simp only [Act.put, List.setIfInBounds_toArray, List.set_cons_zero, List.set_cons_succ])
        go_simp
        exact hK.out _ _ rfl (Below.refl _ _)
      refine StepsL.cons1 0 (some 59) (by kernel_rfl) rfl ?_ ?_
      · rintro w hS _ rfl K hK
        (try simp only [Act.put, List.setIfInBounds_toArray, List.set_cons_zero, List.set_cons_succ])
        go_simp
        exact hK.out _ _ rfl (Below.refl _ _)
      refine StepsL.cons1 1 (some 60) (by kernel_rfl) rfl ?_ ?_
      · rintro w hS _ rfl K hK
        (try simp only [Act.put, List.setIfInBounds_toArray, List.set_cons_zero, List.set_cons_succ])
        go_simp
        exact hK.out _ _ rfl (Below.refl _ _)
      refine StepsL.cons2 1 (some 60) 2 (some 61) (by kernel_rfl) rfl rfl ?_ ?_
      · rintro w hS _ rfl _ rfl K hK
        (try simp only [Act.put, List.setIfInBounds_toArray, List.set_cons_zero, List.set_cons_succ])
        go_simp
        go_at_call 13
        refine (sum13 gx _ _ HD.out hS.1.hx hS.1.tk (by have := hS.1.o1; have := hS.1.o2; have := hS.1.z; omega)).mono ?_
        rintro e w2 ⟨v2, rfl, o2, b2⟩
        obtain ⟨ad2, c2, rfl, -, e2, y2⟩ := own_str o2 (tk_lt hS.1.tk) (by omega)
        exact hK.out _ _ ⟨_, _, rfl, y2⟩ b2
      refine StepsL.cons2 1 (some 60) 3 (some 62) (by kernel_rfl) rfl rfl ?_ ?_
      · rintro w hS _ rfl _ ⟨a3, c3, rfl, y3⟩ K hK
        (try simp only [Act.put, List.setIfInBounds_toArray, List.set_cons_zero, List.set_cons_succ])
        have hcv := conv_byt (c := c3) (n := 32) (dig_length D).symm y3
        go_simp
        exact hK.out _ _ rfl (Below.refl _ _)
      refine StepsL.cons1 1 (some 60) (by kernel_rfl) rfl ?_ ?_
      · rintro w hS _ rfl K hK
        (try simp only [Act.put, List.setIfInBounds_toArray, List.set_cons_zero, List.set_cons_succ])
        go_simp
        exact hK.out _ _ rfl (Below.refl _ _)
      refine StepsL.cons2 1 (some 60) 5 (some 64) (by kernel_rfl) rfl rfl ?_ ?_
      · rintro w hS _ rfl _ rfl K hK
        (try simp only [Act.put, List.setIfInBounds_toArray, List.set_cons_zero, List.set_cons_succ])
        go_simp
        go_at_call 13
        refine (sum13 gy _ _ HD.out hS.1.hy hS.1.tk (by have := hS.1.o1; have := hS.1.o2; have := hS.1.z; omega)).mono ?_
        rintro e w2 ⟨v2, rfl, o2, b2⟩
        obtain ⟨ad2, c2, rfl, -, e2, y2⟩ := own_str o2 (tk_lt hS.1.tk) (by omega)
        exact hK.out _ _ ⟨_, _, rfl, y2⟩ b2
      refine StepsL.cons2 1 (some 60) 6 (some 65) (by kernel_rfl) rfl rfl ?_ ?_
      · rintro w hS _ rfl _ ⟨a6, c6, rfl, y6⟩ K hK
        (try simp only [Act.put, List.setIfInBounds_toArray, List.set_cons_zero, List.set_cons_succ])
        have hcv := conv_byt (c := c6) (n := 32) (dig_length D).symm y6
        go_simp
        exact hK.out _ _ rfl (Below.refl _ _)
      refine StepsL.cons3 1 (some 60) 4 (some 63) 7 (some 66) (by kernel_rfl) rfl rfl rfl ?_ ?_
      · rintro w hS _ rfl _ rfl _ rfl K hK
        (try simp only [Act.put, List.setIfInBounds_toArray, List.set_cons_zero, List.set_cons_succ])
        go_simp
        exact hK.out _ _ rfl (Below.refl _ _)
      refine StepsL.cons2 1 (some 60) 8 (some 67) (by kernel_rfl) rfl rfl ?_ ?_
      · rintro w hS _ rfl _ rfl K hK
        (try simp only [Act.put, List.setIfInBounds_toArray, List.set_cons_zero, List.set_cons_succ])
        go_simp
        exact hK.out _ _ rfl (Below.refl _ _)
      refine StepsL.cons1 9 (some 68) (by kernel_rfl) rfl ?_ ?_
      · rintro w hS _ rfl K hK
        (try simp only [Act.put, List.setIfInBounds_toArray, List.set_cons_zero, List.set_cons_succ])
        go_simp
        exact hK.out _ _ rfl (Below.refl _ _)
      refine StepsL.cons1 10 (some 69) (by kernel_rfl) rfl ?_ ?_
      · rintro w hS _ rfl K hK
        (try simp only [Act.put, List.setIfInBounds_toArray, List.set_cons_zero, List.set_cons_succ])
        go_simp
        exact hK.out _ _ rfl (Below.refl _ _)
      refine StepsL.cons2 10 (some 69) 11 (some 70) (by kernel_rfl) rfl rfl ?_ ?_
      · rintro w hS _ rfl _ rfl K hK
        (try simp only [Act.put, List.setIfInBounds_toArray, List.set_cons_zero, List.set_cons_succ])
        go_simp
        go_at_call 13
        refine (sum13 gx _ _ HD.out hS.1.hx hS.1.tk (by have := hS.1.o1; have := hS.1.o2; have := hS.1.z; omega)).mono ?_
        rintro e w2 ⟨v2, rfl, o2, b2⟩
        obtain ⟨ad2, c2, rfl, -, e2, y2⟩ := own_str o2 (tk_lt hS.1.tk) (by omega)
        exact hK.out _ _ ⟨_, _, rfl, y2⟩ b2
      refine StepsL.cons2 10 (some 69) 12 (some 71) (by kernel_rfl) rfl rfl ?_ ?_
      · rintro w hS _ rfl _ ⟨a12, c12, rfl, y12⟩ K hK
        (try simp only [Act.put, List.setIfInBounds_toArray, List.set_cons_zero, List.set_cons_succ])
        have hcv := conv_byt (c := c12) (n := 32) (dig_length D).symm y12
        go_simp
        exact hK.out _ _ rfl (Below.refl _ _)
      refine StepsL.cons1 10 (some 69) (by kernel_rfl) rfl ?_ ?_
      · rintro w hS _ rfl K hK
        (try simp only [Act.put, List.setIfInBounds_toArray, List.set_cons_zero, List.set_cons_succ])
        go_simp
        exact hK.out _ _ ⟨_, _, by rw [E14.out], hS.2⟩ (Below.refl _ _)
      refine StepsL.cons2 10 (some 69) 14 (some 73) (by kernel_rfl) rfl rfl ?_ ?_
      · rintro w hS _ rfl _ ⟨a14, c14, rfl, y14⟩ K hK
        (try simp only [Act.put, List.setIfInBounds_toArray, List.set_cons_zero, List.set_cons_succ])
        go_simp
        go_at_call 9
        refine (sum9 D _ 0 _ _ _ rfl (by have := HD.out; omega) y14 hS.1.tk).mono ?_
        rintro e w2 ⟨v2, rfl, o2, b2⟩
        obtain ⟨ad2, c2, rfl, -, e2, y2⟩ := own_str o2 (tk_lt hS.1.tk) (by omega)
        exact hK.out _ _ ⟨_, _, rfl, y2⟩ b2
      refine StepsL.cons2 10 (some 69) 15 (some 74) (by kernel_rfl) rfl rfl ?_ ?_
      · rintro w hS _ rfl _ ⟨a15, c15, rfl, y15⟩ K hK
        (try simp only [Act.put, List.setIfInBounds_toArray, List.set_cons_zero, List.set_cons_succ])
        have hcv := conv_byt (c := c15) (n := 32) (dig_length D).symm y15
        go_simp
        exact hK.out _ _ rfl (Below.refl _ _)
      refine StepsL.cons3 10 (some 69) 13 (some 72) 16 (some 75) (by kernel_rfl) rfl rfl rfl ?_ ?_
      · rintro w hS _ rfl _ rfl _ rfl K hK
        (try simp only [Act.put, List.setIfInBounds_toArray, List.set_cons_zero, List.set_cons_succ])
        go_simp
        exact hK.out _ _ rfl (Below.refl _ _)
      refine StepsL.cons2 10 (some 69) 17 (some 76) (by kernel_rfl) rfl rfl ?_ ?_
      · rintro w hS _ rfl _ rfl K hK
        (try simp only [Act.put, List.setIfInBounds_toArray, List.set_cons_zero, List.set_cons_succ])
        go_simp
        exact hK.out _ _ rfl (Below.refl _ _)
      refine StepsL.cons1 18 (some 77) (by kernel_rfl) rfl ?_ ?_
      · rintro w hS _ rfl K hK
        (try simp only [Act.put, List.setIfInBounds_toArray, List.set_cons_zero, List.set_cons_succ])
        go_simp
        exact hK.out _ _ rfl (Below.refl _ _)
      exact StepsL.nil
    · have e19 : vs 19 = .bool true := hV 19 (by simp)
      simp only [putl, List.foldl_cons, List.foldl_nil, Act.put, List.setIfInBounds_toArray, List.set_cons_zero, List.set_cons_succ, e19]
      go_wp2_with fail
      go_ret
      exact ⟨rfl, hS.1.k⟩
end Go.Proofs.YtinmmenjlhlpmaaDoor
