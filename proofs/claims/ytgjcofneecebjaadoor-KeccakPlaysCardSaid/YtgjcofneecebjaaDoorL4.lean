/- KeccakGives, walked. -/
import Derived.Test.YtgjcofneecebjaaDoorL7
namespace Go.Proofs.YtgjcofneecebjaaDoor
open Go.ChangeShapes Go.WideShapes Go.ChangeAt Go.RowKit
set_option linter.unusedSimpArgs false
set_option linter.unusedVariables false
theorem gives_add (rt : Nat) (s : St) (n : Nat) : ∀ k, gives rt s (n + k) = ((gives rt s n).1 ++ (gives rt (gives rt s n).2 k).1, (gives rt (gives rt s n).2 k).2) := by
  intro k
  induction k with
  | zero => simp [gives]
  | succ k ih =>
    have st : ∀ (s : St) (k : Nat), gives rt s (k + 1) = ((gives rt s k).1 ++ [byteAt (trn rt (gives rt s k).2)], ((trn rt (gives rt s k).2).1, (trn rt (gives rt s k).2).2 + 1)) := fun _ _ => rfl
    show gives rt s (n + k + 1) = _
    rw [st, ih, st]
    simp only [List.append_assoc]
theorem read14i (g rt : Nat) (en : Int) (s : St) (gv : Bool) (n : Nat) (z : Int) (hz : z = n) (w : World) (hS : Spg w g rt en s.1 s.2 gv) (hs : s.2 ≤ rt) (hs' : gv = false → s.2 < rt) (h8 : 8 ≤ rt) (hrt : rt ≤ 192) (hn : n ≤ 65536) (he : 0 ≤ en ∧ en < 256) (hK : TK w) (hg : 3 ≤ g) :
    Calls Tryd.prog 14 #[.pointer (some ⟨g, 0, none⟩), .int .i64 z] w fun e w' => ∃ b, e = .returned (.slice (some ⟨b, 0, none⟩) n n) ∧ Own w' w.heap.size (.slice (some ⟨b, 0, none⟩) n n) n (gives rt (if gv then s else pad rt en s) n).1 ∧
      Spg w' g rt en (gives rt (if gv then s else pad rt en s) n).2.1 (gives rt (if gv then s else pad rt en s) n).2.2 true ∧ w.grownBy w' (some g) := by
  subst hz; exact read14 g rt en s gv n w hS hs hs' h8 hrt hn he hK hg
theorem new9i (rt : Nat) (z en : Int) (hz : z = rt) (w : World) (h8 : 8 ≤ rt) (h192 : rt ≤ 192) (hm : rt % 8 = 0) :
    Calls Tryd.prog 9 #[.int .i64 z, .int .u8 en] w fun e w' => ∃ g, e = .returned (.pointer (some ⟨g, 0, none⟩)) ∧ w.heap.size ≤ g ∧ Spg w' g rt en st0.1 st0.2 false ∧ Below w.heap.size w w' := by
  subst hz; exact new9 rt en w h8 h192 hm
theorem write12g (g : Nat) (rt en at_ : Int) (W : Nat → Int) (v : Value) (w : World) (hS : Spg w g rt en W at_ true) :
    Calls Tryd.prog 12 #[.pointer (some ⟨g, 0, none⟩), v] w fun e w' => e = .returned (.tuple #[]) ∧ w' = w := by
  have hc := hS.gives
  go_enter Tryd.func12, Tryd.ntmps12
  go_wp2_with fail
  exact bodyPost_ret (v := .tuple #[]) (by simp [results, Tryd.results12, go_sem]) rfl ⟨rfl, rfl⟩
theorem wp_app_full {o : Oper} {a : Act} {w : World} {K : Act → World → Prop} {Q : Exit → Act → World → Prop} (s x : Operand)
    (ho : o.op = .call { callee := .builtin .append, args := #[s, x], argTypes := #[29, 29] })
    (g : Nat) (bo : Option Addr) (n : Nat) (T : List (BitVec 8)) (hs : a.eval s = .slice bo n n) (hn : n = T.length) (hT : Byt w g bo T) (ao : Option Addr) (m c : Nat) (D : List (BitVec 8)) (hx : a.eval x = .slice ao m c) (hm : m = D.length) (hD : Byt w g ao D)
    (hg : g < w.heap.size) (h47 : n + m ≤ 140737488355328)
    (h : ∀ bo' c' w', n + m ≤ c' → Byt w' g bo' (T ++ D) → w.grownBy w' none → K (a.put o.dst (.slice bo' (n + m) c')) w') : o.wp Tryd.prog a w K Q := by
  obtain ⟨bo', c', w', hr, h2, h3, h4⟩ := run_app_full w o.type g bo n T hn hT ao m c D hm hD hg h47
  unfold Oper.wp execOp
  simp only [ho, resolve, invoke, builtin, Sem.run_bind, Sem.run_pure, Result.andThen_ok, List.map_toArray, List.map_cons, List.map_nil, hs, hx, hr]
  exact h bo' c' w' h2 h3 h4
/-- A sponge and two texts. -/
structure G4 (w0 : World) (rt : Nat) (en : Int) (g : Nat) (s : St) (gv : Bool) (ao bo : Option Addr) (A B : List (BitVec 8)) (w : World) : Prop where
  sp : Spg w g rt en s.1 s.2 gv
  a : Old w0.heap.size w ao A
  b : Old w0.heap.size w bo B
  tk : TK w
  k : Below w0.heap.size w0 w
  o : w0.heap.size ≤ g
  z : 3 ≤ w0.heap.size
section
variable {w0 w w' : World} {rt g : Nat} {en : Int} {s : St} {gv : Bool} {ao bo : Option Addr} {A B : List (BitVec 8)}
theorem G4.wr (h : G4 w0 rt en g s gv ao bo A B w) (j : w.grownBy w' (some g)) {s' : St} {gv' : Bool} (hs : Spg w' g rt en s'.1 s'.2 gv') : G4 w0 rt en g s' gv' ao bo A B w' :=
  ⟨hs, h.a.grown j (fun b e => by injection e with e; have := h.o; omega), h.b.grown j (fun b e => by injection e with e; have := h.o; omega), h.tk.grown j (fun b e => by injection e with e; have := h.o; have := h.z; omega), h.k.grown j h.k.size (fun b e => by injection e with e; have := h.o; omega), h.o, h.z⟩
end
structure P4 (w0 : World) (ao : Option Addr) (A : List (BitVec 8)) (x y : Nat) (X Y : List (BitVec 8)) (w : World) : Prop where
  a : Old w0.heap.size w ao A
  tk : TK w
  x : Byt w 0 (some ⟨x, 0, none⟩) X
  y : Byt w 0 (some ⟨y, 0, none⟩) Y
  k : Below w0.heap.size w0 w
theorem P4.below {w0 w w' : World} {ao : Option Addr} {A : List (BitVec 8)} {x y : Nat} {X Y : List (BitVec 8)} (h : P4 w0 ao A x y X Y w) (r : Below w.heap.size w w') : P4 w0 ao A x y X Y w' :=
  ⟨h.a.below r h.k.size, h.tk.below r h.tk.lt, h.x.below r, h.y.below r, h.k.trans (r.mono h.k.size)⟩
def V4 (A : List (BitVec 8)) (ao : Option Addr) (la ca n x y : Nat) : Nat → Value → World → Prop
  | 0, v, w => v = .bool true
  | 1, v, w => v = .bool true
  | 2, v, w => v = .slice (some ⟨x, 0, none⟩) n n
  | 3, v, w => v = .slice (some ⟨y, 0, none⟩) 9 9
  | 4, v, w => ∃ ad c, v = .slice (some ad) (n + 9) c ∧ Byt w 0 (some ad) (out 168 31 A (n + 9))
  | 5, v, w => v = .string (strOf (out 168 31 A (n + 9)))
  | 6, v, w => v = .slice ao la ca
  | 7, v, w => v = .int .u8 n
  | 8, v, w => v = .int .i64 n
  | 9, v, w => v = .int .i64 (n + 9 : Nat)
  | 10, v, w => ∃ ad c, v = .slice (some ad) (n + 9) c ∧ Byt w 0 (some ad) (out 168 31 A (n + 9))
  | 11, v, w => v = .string (strOf (out 168 31 A (n + 9)))
  | 12, v, w => v = .bool true
  | 13, v, w => v = .bool true
  | 14, v, w => v = .bool true
  | 15, v, w => v = .slice ao la ca
  | 16, v, w => ∃ b, v = .slice (some ⟨b, 0, none⟩) 32 32
  | 17, v, w => v = .int .i64 32
  | 18, v, w => v = .bool true
  | 19, v, w => v = .bool true
  | 20, v, w => v = .bool true
  | 21, v, w => v = .slice ao la ca
  | 22, v, w => ∃ b, v = .slice (some ⟨b, 0, none⟩) 64 64
  | 23, v, w => v = .int .i64 64
  | 24, v, w => v = .bool true
  | 25, v, w => v = .bool true
  | 26, v, w => v = .bool true
  | _, _, _ => True
theorem V4_keep (A : List (BitVec 8)) (ao : Option Addr) (la ca n x y : Nat) (i1 : Nat) (v : Value) (w w' : World) (h : V4 A ao la ca n x y i1 v w) (r : (fun w w' => Below w.heap.size w w') w w') : V4 A ao la ca n x y i1 v w' := by
  rcases i1 with _ | _ | _ | _ | _ | _ | _ | _ | _ | _ | _ | _ | _ | _ | _ | _ | _ | _ | _ | _ | _ | _ | _ | _ | _ | _ | _ | _
  · exact h
  · exact h
  · exact h
  · exact h
  · exact (let ⟨a, c, e, y⟩ := h; ⟨a, c, e, y.below r⟩)
  · exact h
  · exact h
  · exact h
  · exact h
  · exact h
  · exact (let ⟨a, c, e, y⟩ := h; ⟨a, c, e, y.below r⟩)
  · exact h
  · exact h
  · exact h
  · exact h
  · exact h
  · exact h
  · exact h
  · exact h
  · exact h
  · exact h
  · exact h
  · exact h
  · exact h
  · exact h
  · exact h
  · exact h
  · trivial
set_option maxHeartbeats 4000000 in
theorem gives4 (A B : List (BitVec 8)) (ao bo : Option Addr) (la lb ca cb n : Nat) (w : World) (ha : la = A.length ∧ lb = B.length) (hn : n < 256) (hA : Old w.heap.size w ao A) (hB : Old w.heap.size w bo B) (hK : TK w) :
    Calls Tryd.prog 4 #[.slice ao la ca, .slice bo lb cb, .int .u8 n] w fun r w' => r = .returned (.bool true) ∧ Below w.heap.size w w' := by
  have h0 := hK.lt
  have HL := Lib.hid ha
  clear ha
  obtain ⟨x, hx⟩ : ∃ x, decide ((la : Int) > 5000) = x := ⟨_, rfl⟩
  obtain ⟨y, hy⟩ : ∃ x, decide ((lb : Int) > 5000) = x := ⟨_, rfl⟩
  have GA : Hid (∀ w, Calls Tryd.prog 11 #[.slice ao la ca] w fun e w' => e = .returned (.bool x) ∧ w' = w) := Lib.hid (fun w => hx ▸ great11 ao la ca w)
  have GB : Hid (∀ w, Calls Tryd.prog 11 #[.slice bo lb cb] w fun e w' => e = .returned (.bool y) ∧ w' = w) := Lib.hid (fun w => hy ▸ great11 bo lb cb w)
  have HX := Lib.hid (And.intro hx hy)
  clear hx hy
  go_enter Tryd.func4, Tryd.ntmps4
  cases x with
  | true =>
    go_wp2_with (first | (go_at_call 8; (with_reducible refine (head8 _ hK).mono ?_); rintro e w1 ⟨rfl, b1⟩) | (go_at_call 11; (with_reducible refine (GA.out _).mono ?_); rintro e w1 ⟨rfl, rfl⟩))
    go_ret
    exact ⟨rfl, b1⟩
  | false =>
  cases y with
  | true =>
    go_wp2_with (first | (go_at_call 8; (with_reducible refine (head8 _ hK).mono ?_); rintro e w1 ⟨rfl, b1⟩) | (go_at_call 11; (with_reducible refine (GA.out _).mono ?_); rintro e w1 ⟨rfl, rfl⟩) | (go_at_call 11; (with_reducible refine (GB.out _).mono ?_); rintro e w1 ⟨rfl, rfl⟩))
    go_ret
    exact ⟨rfl, b1⟩
  | false =>
    have hm2 : la ≤ 5000 ∧ lb ≤ 5000 := by have := HX.out; simp at this; omega
    have HM2 := Lib.hid hm2
    obtain ⟨hla, hlb⟩ := hm2
    have e2 : IntKind.i64.wrap (n : Int) = (n : Int) := IntWalk.i64_in _ (by omega)
    have e3 : IntKind.i64.wrap ((n : Int) + 9) = (n : Int) + 9 := IntWalk.i64_in _ (by omega)
    have hN : ∀ (w : World), Byt w 0 none [] := fun w => ⟨fun _ => rfl, fun a ha => by cases ha⟩
    have HN := Lib.hid hN
    obtain ⟨s1, hs1⟩ : ∃ s1, s1 = takes 168 st0 A := ⟨_, rfl⟩
    have hl1 : s1.2 < 168 := by rw [hs1]; exact takes_lt (by omega) (by show 0 < 168; omega) A
    obtain ⟨s2, hs2⟩ : ∃ s2, s2 = gives 168 (pad 168 31 s1) n := ⟨_, rfl⟩
    have hl2 : s2.2.2 ≤ 168 := by rw [hs2]; exact gives_le (by omega) (by show 0 ≤ 168; omega) n
    have HS1 := Lib.hid (And.intro hs1 hs2)
    have HS2 := Lib.hid (And.intro hl1 hl2)
    clear hs1 hs2 hl1 hl2 hN
    go_upto_region 14 with (first
      | (go_at_call 8; (with_reducible refine (head8 _ hK).mono ?_); rintro e w1 ⟨rfl, b1⟩)
      | (go_at_call 11; (with_reducible refine (GA.out _).mono ?_); rintro e w1 ⟨rfl, rfl⟩)
      | (go_at_call 11; (with_reducible refine (GB.out _).mono ?_); rintro e w1 ⟨rfl, rfl⟩)
      | (go_at_call 9; (with_reducible refine (new9i 168 168 31 rfl _ ?l1 ?l2 ?l3).mono ?_); (case l1 => omega); (case l2 => omega); (case l3 => omega); rintro e w2 ⟨g, rfl, hg, hsp, b2⟩; have p2 : G4 w 168 31 g st0 false ao bo A B w2 := ⟨hsp, (hA.below b1 (Nat.le_refl _)).below b2 b1.size, (hB.below b1 (Nat.le_refl _)).below b2 b1.size, (hK.below b1 h0).below b2 (by have := b1.size; omega), b1.trans (b2.mono b1.size), Nat.le_trans b1.size hg, h0⟩; clear b2 hsp hg)
      | (go_at_call 12; (with_reducible refine (write12 g 168 31 st0 A ao la ca _ HL.out.1 ?l1 p2.sp ?l2 ?l3 (p2.a.byt p2.o) p2.tk ?l4).mono ?_); (case l1 => omega); (case l2 => show 0 < 168; omega); (case l3 => omega); (case l4 => have := p2.o; have := p2.z; omega); rintro e w3 ⟨rfl, h3, g3⟩; have p3 := p2.wr g3 h3; rw [← HS1.out.1] at p3; clear h3 g3 p2)
      | (go_at_call 12; (with_reducible refine (write12 g 168 31 s1 [] none 0 0 _ rfl ?l1 p3.sp HS2.out.1 ?l3 ?l5 p3.tk ?l4).mono ?_); (case l1 => omega); (case l3 => omega); (case l5 => exact Byt.mono (HN.out _) (fun a ha => by cases ha)); (case l4 => have := p3.o; have := p3.z; omega); rintro e w4 ⟨rfl, h4, g4⟩; have p4 : G4 w 168 31 g s1 false ao bo A B w4 := p3.wr g4 h4; clear h4 g4 p3)
      | (go_at_call 14; (with_reducible refine (read14i g 168 31 s1 false n n rfl _ p4.sp ?l1 (fun _ => HS2.out.1) ?l2 ?l3 ?l4 ?l5 p4.tk ?l6).mono ?_); (case l1 => exact Nat.le_of_lt HS2.out.1); (case l2 => omega); (case l3 => omega); (case l4 => omega); (case l5 => omega); (case l6 => have := p4.o; have := p4.z; omega); rintro e w5 ⟨x, rfl, ox, h5, g5⟩; simp only [Bool.false_eq_true, if_false] at ox h5; rw [← HS1.out.2] at ox h5; have hx0 := p4.tk.lt; have hxg := p4.sp.lt; have p5 := p4.wr (s' := s2.2) g5 h5; clear h5 g5 p4)
      | (go_at_call 12; (with_reducible refine (write12g g _ _ _ _ _ _ p5.sp).mono ?_); rintro e w6 ⟨rfl, rfl⟩)
      | (go_at_call 14; (with_reducible refine (read14i g 168 31 s2.2 true 0 0 rfl _ p5.sp HS2.out.2 ?l1 ?l2 ?l3 ?l4 ?l5 p5.tk ?l6).mono ?_); (case l1 => exact fun h => by cases h); (case l2 => omega); (case l3 => omega); (case l4 => omega); (case l5 => omega); (case l6 => have := p5.o; have := p5.z; omega); rintro e w7 ⟨x0, rfl, -, h7, g7⟩; have ox7 := ox.kept g7 (.inr (fun e => by have := ox.lt _ e; omega)); have p7 : G4 w 168 31 g s2.2 true ao bo A B w7 := p5.wr g7 h7; clear h7 g7 p5 ox)
      | (go_at_call 14; (with_reducible refine (read14n g (-1) ?lb _).mono ?_); (case lb => exact Or.inl (by omega)); rintro e w8 ⟨rfl, rfl⟩)
      | (go_at_call 14; (with_reducible refine (read14i g 168 31 s2.2 true 9 9 rfl _ p7.sp HS2.out.2 ?l1 ?l2 ?l3 ?l4 ?l5 p7.tk ?l6).mono ?_); (case l1 => exact fun h => by cases h); (case l2 => omega); (case l3 => omega); (case l4 => omega); (case l5 => omega); (case l6 => have := p7.o; have := p7.z; omega); rintro e w9 ⟨y, rfl, oy, h9, g9⟩; have ox9 := ox7.kept g9 (.inr (fun e => by have := ox7.lt _ e; omega)); have hy0 := p7.tk.lt; have p9 := p7.wr g9 h9; clear h9 g9 p7 ox7))
    simp only [if_true] at oy
    obtain ⟨X, hX⟩ : ∃ X, X = s2.1 := ⟨_, rfl⟩
    obtain ⟨Y, hY⟩ : ∃ Y, Y = (gives 168 s2.2 9).1 := ⟨_, rfl⟩
    rw [← hX] at ox9
    rw [← hY] at oy
    have HXY : Hid (n = X.length ∧ 9 = Y.length ∧ X ++ Y = out 168 31 A (n + 9)) := Lib.hid ⟨by rw [hX, HS1.out.2, gives_length], by rw [hY, gives_length], by
      unfold out
      rw [gives_add, ← HS1.out.1, ← HS1.out.2, hX, hY]⟩
    have p4' : P4 w ao A x y X Y w9 := ⟨p9.a, p9.tk, (own_at (g := 0) ox9 (by omega)).2.2, (own_at (g := 0) oy (by omega)).2.2, p9.k⟩
    have p4 := p4'.below (w' := w9.drew) ((Below.refl _ _).drew)
    clear p9 p4' ox9 oy hX hY hA hB hK b1
    refine region_monoL (fun z => P4 w ao A x y X Y z) (fun w w' => Below w.heap.size w w') (V4 A ao la ca n x y) [(0, some 40), (1, some 41), (2, some 42), (3, some 43), (4, some 44), (5, some 45), (6, some 46), (7, some 47), (8, some 48), (9, some 49), (10, some 50), (11, some 51), (12, some 52), (13, some 53), (14, some 54), (15, some 55), (16, some 56), (17, some 57), (18, some 58), (19, some 59), (20, some 60), (21, some 61), (22, some 62), (23, some 63), (24, some 64), (25, some 65), (26, some 6)] (by kernel_rfl) (by kernel_rfl) (by kernel_rfl) (fun _ _ h r => h.below r) (fun i1 v1 w1 w2 _ h1 r1 => V4_keep A ao la ca n x y i1 v1 w1 w2 h1 r1) (p4) ?_ (fun vs w' hS hV => ?_)
    · refine StepsL.cons0  (by kernel_rfl)  ?_ ?_
      · rintro w1 hS  K hK
        (try simp only [Act.put, List.setIfInBounds_toArray, List.set_cons_zero, List.set_cons_succ])
        go_simp
        exact hK.out _ _ rfl (Below.refl _ _)
      refine StepsL.cons1 0 (some 40) (by kernel_rfl) rfl ?_ ?_
      · rintro w1 hS _ rfl K hK
        (try simp only [Act.put, List.setIfInBounds_toArray, List.set_cons_zero, List.set_cons_succ])
        go_simp
        exact hK.out _ _ rfl (Below.refl _ _)
      refine StepsL.cons1 1 (some 41) (by kernel_rfl) rfl ?_ ?_
      · rintro w1 hS _ rfl K hK
        (try simp only [Act.put, List.setIfInBounds_toArray, List.set_cons_zero, List.set_cons_succ])
        go_simp
        exact hK.out _ _ rfl (Below.refl _ _)
      refine StepsL.cons1 1 (some 41) (by kernel_rfl) rfl ?_ ?_
      · rintro w1 hS _ rfl K hK
        (try simp only [Act.put, List.setIfInBounds_toArray, List.set_cons_zero, List.set_cons_succ])
        go_simp
        exact hK.out _ _ rfl (Below.refl _ _)
      refine StepsL.cons3 1 (some 41) 2 (some 42) 3 (some 43) (by kernel_rfl) rfl rfl rfl ?_ ?_
      · rintro w1 hS _ rfl _ rfl _ rfl K hK
        (try simp only [Act.put, List.setIfInBounds_toArray, List.set_cons_zero, List.set_cons_succ])
        rw [if_pos (by rfl)]
        refine wp_app_full (.tmp 42) (.tmp 43) rfl 0 (some ⟨x, 0, none⟩) n X rfl HXY.out.1 hS.x (some ⟨y, 0, none⟩) 9 9 Y rfl HXY.out.2.1 hS.y (by have := hS.tk.lt; omega) (by omega) ?_
        intro bo' c' w' hc hb hg
        obtain ⟨ad, rfl⟩ : ∃ ad, bo' = some ad := by
          cases bo' with
          | none => have h9 := congrArg List.length (hb.nil rfl); have := HXY.out; rw [List.length_nil, List.length_append] at h9; omega
          | some ad => exact ⟨ad, rfl⟩
        rw [HXY.out.2.2] at hb
        exact hK.out _ _ ⟨_, _, rfl, hb⟩ ⟨hg.os, hg.tape, hg.output, hg.size, fun k hk => hg.block k hk (by simp)⟩
      refine StepsL.cons2 1 (some 41) 4 (some 44) (by kernel_rfl) rfl rfl ?_ ?_
      · rintro w1 hS _ rfl _ ⟨b4, c4, rfl, y4⟩ K hK
        (try simp only [Act.put, List.setIfInBounds_toArray, List.set_cons_zero, List.set_cons_succ])
        have hcv := conv_byt (c := c4) (n := n + 9) (out_length 168 31 A (n + 9)).symm y4
        go_simp
        exact hK.out _ _ rfl (Below.refl _ _)
      refine StepsL.cons1 1 (some 41) (by kernel_rfl) rfl ?_ ?_
      · rintro w1 hS _ rfl K hK
        (try simp only [Act.put, List.setIfInBounds_toArray, List.set_cons_zero, List.set_cons_succ])
        go_simp
        exact hK.out _ _ rfl (Below.refl _ _)
      refine StepsL.cons1 1 (some 41) (by kernel_rfl) rfl ?_ ?_
      · rintro w1 hS _ rfl K hK
        (try simp only [Act.put, List.setIfInBounds_toArray, List.set_cons_zero, List.set_cons_succ])
        go_simp
        exact hK.out _ _ rfl (Below.refl _ _)
      refine StepsL.cons2 1 (some 41) 7 (some 47) (by kernel_rfl) rfl rfl ?_ ?_
      · rintro w1 hS _ rfl _ rfl K hK
        (try simp only [Act.put, List.setIfInBounds_toArray, List.set_cons_zero, List.set_cons_succ])
        go_simp
        exact hK.out _ _ rfl (Below.refl _ _)
      refine StepsL.cons2 1 (some 41) 8 (some 48) (by kernel_rfl) rfl rfl ?_ ?_
      · rintro w1 hS _ rfl _ rfl K hK
        (try simp only [Act.put, List.setIfInBounds_toArray, List.set_cons_zero, List.set_cons_succ])
        go_simp
        exact hK.out _ _ rfl (Below.refl _ _)
      refine StepsL.cons3 1 (some 41) 6 (some 46) 9 (some 49) (by kernel_rfl) rfl rfl rfl ?_ ?_
      · rintro w1 hS _ rfl _ rfl _ rfl K hK
        (try simp only [Act.put, List.setIfInBounds_toArray, List.set_cons_zero, List.set_cons_succ])
        go_simp
        go_at_call 16
        refine (shake16 A ao la ca (n + 9) _ HL.out.1 (by omega) (by omega) (hS.a.mono hS.k.size (Nat.le_refl _)) hS.tk).mono ?_
        rintro r w2 ⟨b2, rfl, o2, k2⟩
        obtain ⟨-, -, y2⟩ := own_at (g := 0) o2 (by have := hS.tk.lt; omega)
        exact hK.out _ _ ⟨_, _, rfl, y2⟩ k2
      refine StepsL.cons2 1 (some 41) 10 (some 50) (by kernel_rfl) rfl rfl ?_ ?_
      · rintro w1 hS _ rfl _ ⟨b10, c10, rfl, y10⟩ K hK
        (try simp only [Act.put, List.setIfInBounds_toArray, List.set_cons_zero, List.set_cons_succ])
        have hcv := conv_byt (c := c10) (n := n + 9) (out_length 168 31 A (n + 9)).symm y10
        go_simp
        exact hK.out _ _ rfl (Below.refl _ _)
      refine StepsL.cons3 1 (some 41) 5 (some 45) 11 (some 51) (by kernel_rfl) rfl rfl rfl ?_ ?_
      · rintro w1 hS _ rfl _ rfl _ rfl K hK
        (try simp only [Act.put, List.setIfInBounds_toArray, List.set_cons_zero, List.set_cons_succ])
        go_simp
        exact hK.out _ _ rfl (Below.refl _ _)
      refine StepsL.cons2 1 (some 41) 12 (some 52) (by kernel_rfl) rfl rfl ?_ ?_
      · rintro w1 hS _ rfl _ rfl K hK
        (try simp only [Act.put, List.setIfInBounds_toArray, List.set_cons_zero, List.set_cons_succ])
        go_simp
        exact hK.out _ _ rfl (Below.refl _ _)
      refine StepsL.cons1 13 (some 53) (by kernel_rfl) rfl ?_ ?_
      · rintro w1 hS _ rfl K hK
        (try simp only [Act.put, List.setIfInBounds_toArray, List.set_cons_zero, List.set_cons_succ])
        go_simp
        exact hK.out _ _ rfl (Below.refl _ _)
      refine StepsL.cons1 14 (some 54) (by kernel_rfl) rfl ?_ ?_
      · rintro w1 hS _ rfl K hK
        (try simp only [Act.put, List.setIfInBounds_toArray, List.set_cons_zero, List.set_cons_succ])
        go_simp
        exact hK.out _ _ rfl (Below.refl _ _)
      refine StepsL.cons2 14 (some 54) 15 (some 55) (by kernel_rfl) rfl rfl ?_ ?_
      · rintro w1 hS _ rfl _ rfl K hK
        (try simp only [Act.put, List.setIfInBounds_toArray, List.set_cons_zero, List.set_cons_succ])
        go_simp
        go_at_call 17
        refine (sum17 A ao la ca _ HL.out.1 (by omega) (hS.a.mono hS.k.size (Nat.le_refl _)) hS.tk).mono ?_
        rintro r w2 ⟨b2, rfl, o2, k2⟩
        exact hK.out _ _ ⟨_, rfl⟩ k2
      refine StepsL.cons2 14 (some 54) 16 (some 56) (by kernel_rfl) rfl rfl ?_ ?_
      · rintro w1 hS _ rfl _ ⟨b16, rfl⟩ K hK
        (try simp only [Act.put, List.setIfInBounds_toArray, List.set_cons_zero, List.set_cons_succ])
        go_simp
        exact hK.out _ _ rfl (Below.refl _ _)
      refine StepsL.cons2 14 (some 54) 17 (some 57) (by kernel_rfl) rfl rfl ?_ ?_
      · rintro w1 hS _ rfl _ rfl K hK
        (try simp only [Act.put, List.setIfInBounds_toArray, List.set_cons_zero, List.set_cons_succ])
        go_simp
        exact hK.out _ _ rfl (Below.refl _ _)
      refine StepsL.cons2 14 (some 54) 18 (some 58) (by kernel_rfl) rfl rfl ?_ ?_
      · rintro w1 hS _ rfl _ rfl K hK
        (try simp only [Act.put, List.setIfInBounds_toArray, List.set_cons_zero, List.set_cons_succ])
        go_simp
        exact hK.out _ _ rfl (Below.refl _ _)
      refine StepsL.cons1 19 (some 59) (by kernel_rfl) rfl ?_ ?_
      · rintro w1 hS _ rfl K hK
        (try simp only [Act.put, List.setIfInBounds_toArray, List.set_cons_zero, List.set_cons_succ])
        go_simp
        exact hK.out _ _ rfl (Below.refl _ _)
      refine StepsL.cons1 20 (some 60) (by kernel_rfl) rfl ?_ ?_
      · rintro w1 hS _ rfl K hK
        (try simp only [Act.put, List.setIfInBounds_toArray, List.set_cons_zero, List.set_cons_succ])
        go_simp
        exact hK.out _ _ rfl (Below.refl _ _)
      refine StepsL.cons2 20 (some 60) 21 (some 61) (by kernel_rfl) rfl rfl ?_ ?_
      · rintro w1 hS _ rfl _ rfl K hK
        (try simp only [Act.put, List.setIfInBounds_toArray, List.set_cons_zero, List.set_cons_succ])
        go_simp
        go_at_call 18
        refine (sum18 A ao la ca _ HL.out.1 (by omega) (hS.a.mono hS.k.size (Nat.le_refl _)) hS.tk).mono ?_
        rintro r w2 ⟨b2, rfl, o2, k2⟩
        exact hK.out _ _ ⟨_, rfl⟩ k2
      refine StepsL.cons2 20 (some 60) 22 (some 62) (by kernel_rfl) rfl rfl ?_ ?_
      · rintro w1 hS _ rfl _ ⟨b22, rfl⟩ K hK
        (try simp only [Act.put, List.setIfInBounds_toArray, List.set_cons_zero, List.set_cons_succ])
        go_simp
        exact hK.out _ _ rfl (Below.refl _ _)
      refine StepsL.cons2 20 (some 60) 23 (some 63) (by kernel_rfl) rfl rfl ?_ ?_
      · rintro w1 hS _ rfl _ rfl K hK
        (try simp only [Act.put, List.setIfInBounds_toArray, List.set_cons_zero, List.set_cons_succ])
        go_simp
        exact hK.out _ _ rfl (Below.refl _ _)
      refine StepsL.cons2 20 (some 60) 24 (some 64) (by kernel_rfl) rfl rfl ?_ ?_
      · rintro w1 hS _ rfl _ rfl K hK
        (try simp only [Act.put, List.setIfInBounds_toArray, List.set_cons_zero, List.set_cons_succ])
        go_simp
        exact hK.out _ _ rfl (Below.refl _ _)
      refine StepsL.cons1 25 (some 65) (by kernel_rfl) rfl ?_ ?_
      · rintro w1 hS _ rfl K hK
        (try simp only [Act.put, List.setIfInBounds_toArray, List.set_cons_zero, List.set_cons_succ])
        go_simp
        exact hK.out _ _ rfl (Below.refl _ _)
      exact StepsL.nil
    · have e26 : vs 26 = .bool true := hV 26 (by simp)
      simp only [putl, List.foldl_cons, List.foldl_nil, Act.put, List.setIfInBounds_toArray, List.set_cons_zero, List.set_cons_succ, e26]
      go_wp2_with fail
      go_ret
      exact ⟨rfl, hS.k⟩
end Go.Proofs.YtgjcofneecebjaaDoor
