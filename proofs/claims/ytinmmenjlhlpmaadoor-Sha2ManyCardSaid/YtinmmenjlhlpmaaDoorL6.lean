/- Sha2Many, walked. -/
import Derived.Test.YtinmmenjlhlpmaaDoorL5
namespace Go.Proofs.YtinmmenjlhlpmaaDoor
open Go.ChangeShapes Go.WideShapes Go.ChangeAt Go.RowKit
set_option linter.unusedSimpArgs false
set_option linter.unusedVariables false
/-- One hash and a text. -/
structure MS (w0 : World) (g : Nat) (B : List (BitVec 8)) (bo : Option Addr) (X : List (BitVec 8)) (w : World) : Prop where
  hx : Hash w g X
  tk : TK w
  b : Old w0.heap.size w bo B
  k : Below w0.heap.size w0 w
  o1 : w0.heap.size ≤ g
  z : 0 < w0.heap.size
section
variable {w0 w w' : World} {g : Nat} {B X : List (BitVec 8)} {bo : Option Addr}
theorem MS.below (h : MS w0 g B bo X w) (j : Below w.heap.size w w') : MS w0 g B bo X w' :=
  ⟨h.hx.below j, h.tk.below j (tk_lt h.tk), h.b.below j h.k.size, h.k.trans (j.mono h.k.size), h.o1, h.z⟩
theorem MS.wx (h : MS w0 g B bo X w) (j : w.grownBy w' (some g)) {X' : List (BitVec 8)} (hx : Hash w' g X') : MS w0 g B bo X' w' :=
  ⟨hx, h.tk.grown j (by have := h.o1; have := h.z; simp; omega), h.b.grown j (fun b e => by injection e with e; have := h.o1; omega),
    h.k.grown j h.k.size (fun b e => by injection e with e; have := h.o1; omega), h.o1, h.z⟩
end
def V6t (B : List (BitVec 8)) (ad : Addr) (g m bc e i : Nat) (q : Int) : Nat → Value → World → Prop
  | 0, v, w => v = .int .i64 i
  | 1, v, w => v = .int .u8 e
  | 2, v, w => v = .int .i64 e
  | 3, v, w => v = .int .i64 (1 + e)
  | 4, v, w => v = .int .i64 q
  | 5, v, w => v = .bool true
  | 6, v, w => v = .bool true
  | 7, v, w => v = .pointer (some ⟨g, 0, none⟩)
  | 8, v, w => ∃ ad c, v = .slice (some ad) 32 c ∧ Byt w 0 (some ad) (dig (B.take (i + 1)))
  | 9, v, w => v = .string (strOf (dig (B.take (i + 1))))
  | 10, v, w => v = .slice (some ad) m bc
  | 11, v, w => v = .int .i64 i
  | 12, v, w => v = .int .i64 (i + 1 : Int)
  | 13, v, w => v = .slice (some ad) (i + 1) bc
  | 14, v, w => ∃ ad c, v = .slice (some ad) 32 c ∧ Byt w 0 (some ad) (dig (B.take (i + 1)))
  | 15, v, w => v = .string (strOf (dig (B.take (i + 1))))
  | 16, v, w => v = .bool false
  | 17, v, w => v = .bool false
  | _, _, _ => True
theorem V6t_keep (B : List (BitVec 8)) (ad : Addr) (g m bc e i : Nat) (q : Int) (i1 : Nat) (v : Value) (w w' : World) (h : V6t B ad g m bc e i q i1 v w) (r : (fun w w' => Below w.heap.size w w') w w') : V6t B ad g m bc e i q i1 v w' := by
  rcases i1 with _ | _ | _ | _ | _ | _ | _ | _ | _ | _ | _ | _ | _ | _ | _ | _ | _ | _ | _
  · exact h
  · exact h
  · exact h
  · exact h
  · exact h
  · exact h
  · exact h
  · exact h
  · exact (let ⟨a, c, e, y⟩ := h; ⟨a, c, e, y.below r⟩)
  · exact h
  · exact h
  · exact h
  · exact h
  · exact h
  · exact (let ⟨a, c, e, y⟩ := h; ⟨a, c, e, y.below r⟩)
  · exact h
  · exact h
  · exact h
  · trivial
def V6f (B : List (BitVec 8)) (ad : Addr) (g m bc e i : Nat) (q : Int) : Nat → Value → World → Prop
  | 0, v, w => v = .int .i64 i
  | 1, v, w => v = .int .u8 e
  | 2, v, w => v = .int .i64 e
  | 3, v, w => v = .int .i64 (1 + e)
  | 4, v, w => v = .int .i64 q
  | 5, v, w => v = .bool false
  | 6, v, w => v = .bool false
  | 7, v, w => True
  | 8, v, w => True
  | 9, v, w => True
  | 10, v, w => True
  | 11, v, w => True
  | 12, v, w => True
  | 13, v, w => True
  | 14, v, w => True
  | 15, v, w => True
  | 16, v, w => True
  | 17, v, w => v = .bool false
  | _, _, _ => True
theorem V6f_keep (B : List (BitVec 8)) (ad : Addr) (g m bc e i : Nat) (q : Int) (i1 : Nat) (v : Value) (w w' : World) (h : V6f B ad g m bc e i q i1 v w) (r : (fun w w' => Below w.heap.size w w') w w') : V6f B ad g m bc e i q i1 v w' := by
  rcases i1 with _ | _ | _ | _ | _ | _ | _ | _ | _ | _ | _ | _ | _ | _ | _ | _ | _ | _ | _
  · exact h
  · exact h
  · exact h
  · exact h
  · exact h
  · exact h
  · exact h
  · exact h
  · exact h
  · exact h
  · exact h
  · exact h
  · exact h
  · exact h
  · exact h
  · exact h
  · exact h
  · exact h
  · trivial
def V6e (B : List (BitVec 8)) (bo : Option Addr) (g m bc : Nat) : Nat → Value → World → Prop
  | 0, v, w => v = .bool true
  | 1, v, w => v = .bool true
  | 2, v, w => v = .pointer (some ⟨g, 0, none⟩)
  | 3, v, w => ∃ ad c, v = .slice (some ad) 32 c ∧ Byt w 0 (some ad) (dig B)
  | 4, v, w => v = .string (strOf (dig B))
  | 5, v, w => v = .slice bo m bc
  | 6, v, w => ∃ ad c, v = .slice (some ad) 32 c ∧ Byt w 0 (some ad) (dig B)
  | 7, v, w => v = .string (strOf (dig B))
  | 8, v, w => v = .bool true
  | 9, v, w => v = .bool true
  | 10, v, w => v = .bool true
  | 11, v, w => v = .pointer (some ⟨g, 0, none⟩)
  | 12, v, w => ∃ ad c, v = .slice (some ad) 32 c
  | 13, v, w => v = .int .i64 32
  | 14, v, w => v = .bool true
  | 15, v, w => v = .bool true
  | 16, v, w => v = .bool true
  | _, _, _ => True
theorem V6e_keep (B : List (BitVec 8)) (bo : Option Addr) (g m bc : Nat) (i1 : Nat) (v : Value) (w w' : World) (h : V6e B bo g m bc i1 v w) (r : (fun w w' => Below w.heap.size w w') w w') : V6e B bo g m bc i1 v w' := by
  rcases i1 with _ | _ | _ | _ | _ | _ | _ | _ | _ | _ | _ | _ | _ | _ | _ | _ | _ | _
  · exact h
  · exact h
  · exact h
  · exact (let ⟨a, c, e, y⟩ := h; ⟨a, c, e, y.below r⟩)
  · exact h
  · exact h
  · exact (let ⟨a, c, e, y⟩ := h; ⟨a, c, e, y.below r⟩)
  · exact h
  · exact h
  · exact h
  · exact h
  · exact h
  · exact h
  · exact h
  · exact h
  · exact h
  · exact h
  · trivial
set_option maxHeartbeats 4000000 in
theorem many6 (B : List (BitVec 8)) (bo : Option Addr) (m bc : Nat) (e : Nat) (w : World) (hm : m = B.length) (hbc : m ≤ bc) (he : e < 256)
    (hB : Old w.heap.size w bo B) (hK : TK w) :
    Calls Tryd.prog 6 #[.slice bo m bc, .int .u8 e] w fun r w' => r = .returned (.bool true) ∧ Below w.heap.size w w' := by
  have h0 := tk_lt hK
  have HL := Lib.hid hm
  clear hm
  go_enter Tryd.func6, Tryd.ntmps6
  by_cases hbig : 2000 < m
  · have hd : decide ((m : Int) > 2000) = true := by simp; omega
    go_wp2_with (first | (go_at_call 7; (with_reducible refine (head7 _ hK).mono ?_); rintro e w1 ⟨rfl, b1⟩))
    go_ret
    exact ⟨rfl, b1⟩
  · have hd : decide ((m : Int) > 2000) = false := by simp; omega
    have hm2 : m ≤ 2000 := by omega
    go_wp2_with (first 
      | (go_at_call 7; (with_reducible refine (head7 _ hK).mono ?_); rintro e w1 ⟨rfl, b1⟩)
      | (go_at_call 11; (with_reducible refine (new11 _).mono ?_); rintro e w2 ⟨g, rfl, hg, x2, b2⟩))
    have p2 : MS w g B bo [] w2 := ⟨x2, (hK.below b1 h0).below b2 (by have := b1.size; omega), (hB.below b1 (Nat.le_refl _)).below b2 b1.size, b1.trans (b2.mono b1.size), by have := b1.size; omega, h0⟩
    clear hd hbig b1 b2 x2 hg hB hK
    go_loopg [7] m (fun k v wr => ∃ i : Nat, v = .int .i64 i ∧ i + k = m ∧ MS w g B bo (B.take i) wr)
    case atStart => exact ⟨0, rfl, by omega, by simpa using p2⟩
    case round =>
      clear p2
      obtain ⟨i, rfl, hi, p3⟩ := hrel
      by_cases hlt : i < m
      · obtain ⟨ad, rfl⟩ : ∃ ad, bo = some ad := by
          cases bo with
          | none => have h1 := congrArg List.length (p3.b.nil rfl); have h2 := HL.out; rw [h1] at h2; simp at h2; omega
          | some ad => exact ⟨ad, rfl⟩
        have e1 : IntKind.i64.wrap ((i : Int) + 1) = (i : Int) + 1 := IntWalk.i64_in _ (by omega)
        have hd1 : decide ((i : Int) < (m : Int)) = true := by simp; omega
        have hbi : ¬ bc = i := by omega
        have y3 := (p3.b.drop i bc (by have := HL.out; omega) (by have := HL.out; omega)).take 1
        rw [if_neg hbi, Option.map_some] at y3
        have hT1 : B.take i ++ (B.drop i).take 1 = B.take (i + 1) := by rw [← List.take_add]
        have HT : Hid ((B.take (i + 1)).length ≤ 4294967296) := Lib.hid (by have := HL.out; simp; omega)
        have HT1 : Hid ((B.take i).length + 1 ≤ 4294967296) := Lib.hid (by have := HL.out; simp; omega)
        have HN : Hid (i + 1 = (B.take (i + 1)).length) := Lib.hid (by have := HL.out; simp; omega)
        have HN1 : Hid (1 = ((B.drop i).take 1).length) := Lib.hid (by have := HL.out; simp; omega)
        have HI := Lib.hid hi
        have HT1' := Lib.hid hT1
        clear hT1 hi
        go_upto_region 11 with (first 
          | (go_at_call 12; (with_reducible refine (write12 g _ ((B.drop i).take 1) (some (ad.add i)) 1 (bc - i) _ HN1.out HT1.out p3.hx (y3.byt p3.o1) p3.tk ?m2).mono ?_); (case m2 => have := p3.o1; have := p3.z; omega); rintro r w4 ⟨rfl, x4, g4⟩; have p4 := p3.wx g4 x4; clear x4 g4 y3 p3))
        rw [HT1'.out] at p4
        have e1b : (i : Int) + 1 ≤ (bc : Int) := by have := HI.out; omega
        have e1c : (0 : Int) ≤ (i : Int) + 1 := by omega
        have e2 : IntKind.i64.wrap (e : Int) = (e : Int) := IntWalk.i64_in _ (by omega)
        have e3 : IntKind.i64.wrap (1 + (e : Int)) = 1 + (e : Int) := IntWalk.i64_in _ (by omega)
        have e4 : ¬ (1 + (e : Int)) = 0 := by omega
        obtain ⟨q, hq⟩ : ∃ q, (i : Int).tmod (1 + (e : Int)) = q := ⟨_, rfl⟩
        have p5 := p4.below (w' := w4.drew) ((Below.refl _ _).drew)
        clear p4
        cases hc : (q == 0) with
        | true =>
          refine region_monoL (fun x => MS w g B (some ad) (B.take (i + 1)) x) (fun w w' => Below w.heap.size w w') (V6t B ad g m bc e i q) [(0, some 29), (1, some 30), (2, some 31), (3, some 32), (4, some 33), (5, some 34), (6, some 35), (7, some 36), (8, some 37), (9, some 38), (10, some 39), (11, some 40), (12, some 41), (13, some 42), (14, some 43), (15, some 44), (16, some 45), (17, some 46)] (by kernel_rfl) (by kernel_rfl) (by kernel_rfl) (fun _ _ h r => h.below r) (fun i1 v1 w1 w2 _ h1 r1 => V6t_keep B ad g m bc e i q i1 v1 w1 w2 h1 r1) (p5) ?_ (fun vs w' hS hV => ?_)
          · refine StepsL.cons0  (by kernel_rfl)  ?_ ?_
            · rintro w hS  K hK
              (try simp only [Act.put, List.setIfInBounds_toArray, List.set_cons_zero, List.set_cons_succ])
              go_simp
              exact hK.out _ _ rfl (Below.refl _ _)
            refine StepsL.cons0  (by kernel_rfl)  ?_ ?_
            · rintro w hS  K hK
              (try simp only [Act.put, List.setIfInBounds_toArray, List.set_cons_zero, List.set_cons_succ])
              go_simp
              exact hK.out _ _ rfl (Below.refl _ _)
            refine StepsL.cons1 1 (some 30) (by kernel_rfl) rfl ?_ ?_
            · rintro w hS _ rfl K hK
              (try simp only [Act.put, List.setIfInBounds_toArray, List.set_cons_zero, List.set_cons_succ])
              go_simp
              exact hK.out _ _ rfl (Below.refl _ _)
            refine StepsL.cons1 2 (some 31) (by kernel_rfl) rfl ?_ ?_
            · rintro w hS _ rfl K hK
              (try simp only [Act.put, List.setIfInBounds_toArray, List.set_cons_zero, List.set_cons_succ])
              go_simp
              exact hK.out _ _ rfl (Below.refl _ _)
            refine StepsL.cons2 0 (some 29) 3 (some 32) (by kernel_rfl) rfl rfl ?_ ?_
            · rintro w hS _ rfl _ rfl K hK
              (try simp only [Act.put, List.setIfInBounds_toArray, List.set_cons_zero, List.set_cons_succ])
              go_simp
              exact hK.out _ _ rfl (Below.refl _ _)
            refine StepsL.cons1 4 (some 33) (by kernel_rfl) rfl ?_ ?_
            · rintro w hS _ rfl K hK
              (try simp only [Act.put, List.setIfInBounds_toArray, List.set_cons_zero, List.set_cons_succ])
              go_simp
              exact hK.out _ _ rfl (Below.refl _ _)
            refine StepsL.cons1 5 (some 34) (by kernel_rfl) rfl ?_ ?_
            · rintro w hS _ rfl K hK
              (try simp only [Act.put, List.setIfInBounds_toArray, List.set_cons_zero, List.set_cons_succ])
              go_simp
              exact hK.out _ _ rfl (Below.refl _ _)
            refine StepsL.cons1 6 (some 35) (by kernel_rfl) rfl ?_ ?_
            · rintro w hS _ rfl K hK
              (try simp only [Act.put, List.setIfInBounds_toArray, List.set_cons_zero, List.set_cons_succ])
              go_simp
              exact hK.out _ _ rfl (Below.refl _ _)
            refine StepsL.cons2 6 (some 35) 7 (some 36) (by kernel_rfl) rfl rfl ?_ ?_
            · rintro w hS _ rfl _ rfl K hK
              (try simp only [Act.put, List.setIfInBounds_toArray, List.set_cons_zero, List.set_cons_succ])
              go_simp
              go_at_call 13
              refine (sum13 g _ _ HT.out hS.hx hS.tk (by have := hS.o1; have := hS.z; omega)).mono ?_
              rintro r w2 ⟨v2, rfl, o2, b2⟩
              obtain ⟨ad2, c2, rfl, -, e2, y2⟩ := own_str o2 (tk_lt hS.tk) (by omega)
              exact hK.out _ _ ⟨_, _, rfl, y2⟩ b2
            refine StepsL.cons2 6 (some 35) 8 (some 37) (by kernel_rfl) rfl rfl ?_ ?_
            · rintro w hS _ rfl _ ⟨a8, c8, rfl, y8⟩ K hK
              (try simp only [Act.put, List.setIfInBounds_toArray, List.set_cons_zero, List.set_cons_succ])
              have hcv := conv_byt (c := c8) (n := 32) (dig_length (B.take (i + 1))).symm y8
              go_simp
              exact hK.out _ _ rfl (Below.refl _ _)
            refine StepsL.cons1 6 (some 35) (by kernel_rfl) rfl ?_ ?_
            · rintro w hS _ rfl K hK
              (try simp only [Act.put, List.setIfInBounds_toArray, List.set_cons_zero, List.set_cons_succ])
              go_simp
              exact hK.out _ _ rfl (Below.refl _ _)
            refine StepsL.cons1 6 (some 35) (by kernel_rfl) rfl ?_ ?_
            · rintro w hS _ rfl K hK
              (try simp only [Act.put, List.setIfInBounds_toArray, List.set_cons_zero, List.set_cons_succ])
              go_simp
              exact hK.out _ _ rfl (Below.refl _ _)
            refine StepsL.cons2 6 (some 35) 11 (some 40) (by kernel_rfl) rfl rfl ?_ ?_
            · rintro w hS _ rfl _ rfl K hK
              (try simp only [Act.put, List.setIfInBounds_toArray, List.set_cons_zero, List.set_cons_succ])
              go_simp
              exact hK.out _ _ rfl (Below.refl _ _)
            refine StepsL.cons3 6 (some 35) 10 (some 39) 12 (some 41) (by kernel_rfl) rfl rfl rfl ?_ ?_
            · rintro w hS _ rfl _ rfl _ rfl K hK
              (try simp only [Act.put, List.setIfInBounds_toArray, List.set_cons_zero, List.set_cons_succ])
              go_simp
              exact hK.out _ _ rfl (Below.refl _ _)
            refine StepsL.cons2 6 (some 35) 13 (some 42) (by kernel_rfl) rfl rfl ?_ ?_
            · rintro w hS _ rfl _ rfl K hK
              (try simp only [Act.put, List.setIfInBounds_toArray, List.set_cons_zero, List.set_cons_succ])
              go_simp
              go_at_call 9
              refine (sum9 (B.take (i + 1)) _ g _ _ _ HN.out (by omega) ((hS.b.take (i + 1)).byt hS.o1) hS.tk).mono ?_
              rintro r w2 ⟨v2, rfl, o2, b2⟩
              obtain ⟨ad2, c2, rfl, -, e2, y2⟩ := own_str o2 (tk_lt hS.tk) (by omega)
              exact hK.out _ _ ⟨_, _, rfl, y2⟩ b2
            refine StepsL.cons2 6 (some 35) 14 (some 43) (by kernel_rfl) rfl rfl ?_ ?_
            · rintro w hS _ rfl _ ⟨a14, c14, rfl, y14⟩ K hK
              (try simp only [Act.put, List.setIfInBounds_toArray, List.set_cons_zero, List.set_cons_succ])
              have hcv := conv_byt (c := c14) (n := 32) (dig_length (B.take (i + 1))).symm y14
              go_simp
              exact hK.out _ _ rfl (Below.refl _ _)
            refine StepsL.cons3 6 (some 35) 9 (some 38) 15 (some 44) (by kernel_rfl) rfl rfl rfl ?_ ?_
            · rintro w hS _ rfl _ rfl _ rfl K hK
              (try simp only [Act.put, List.setIfInBounds_toArray, List.set_cons_zero, List.set_cons_succ])
              go_simp
              exact hK.out _ _ rfl (Below.refl _ _)
            refine StepsL.cons2 6 (some 35) 16 (some 45) (by kernel_rfl) rfl rfl ?_ ?_
            · rintro w hS _ rfl _ rfl K hK
              (try simp only [Act.put, List.setIfInBounds_toArray, List.set_cons_zero, List.set_cons_succ])
              go_simp
              exact hK.out _ _ rfl (Below.refl _ _)
            exact StepsL.nil
          · have e17 : vs 17 = .bool false := hV 17 (by simp)
            simp only [putl, List.foldl_cons, List.foldl_nil, Act.put, List.setIfInBounds_toArray, List.set_cons_zero, List.set_cons_succ, e17]
            clear hV e17
            go_wp2_with fail
            go_roundg (gk - 1)
            case measure => have := HI.out; omega
            case rel => exact ⟨i + 1, by simp, by have := HI.out; omega, hS⟩
        | false =>
          refine region_monoL (fun x => MS w g B (some ad) (B.take (i + 1)) x) (fun w w' => Below w.heap.size w w') (V6f B ad g m bc e i q) [(0, some 29), (1, some 30), (2, some 31), (3, some 32), (4, some 33), (5, some 34), (6, some 35), (7, some 36), (8, some 37), (9, some 38), (10, some 39), (11, some 40), (12, some 41), (13, some 42), (14, some 43), (15, some 44), (16, some 45), (17, some 46)] (by kernel_rfl) (by kernel_rfl) (by kernel_rfl) (fun _ _ h r => h.below r) (fun i1 v1 w1 w2 _ h1 r1 => V6f_keep B ad g m bc e i q i1 v1 w1 w2 h1 r1) (p5) ?_ (fun vs w' hS hV => ?_)
          · refine StepsL.cons0  (by kernel_rfl)  ?_ ?_
            · rintro w hS  K hK
              (try simp only [Act.put, List.setIfInBounds_toArray, List.set_cons_zero, List.set_cons_succ])
              go_simp
              exact hK.out _ _ rfl (Below.refl _ _)
            refine StepsL.cons0  (by kernel_rfl)  ?_ ?_
            · rintro w hS  K hK
              (try simp only [Act.put, List.setIfInBounds_toArray, List.set_cons_zero, List.set_cons_succ])
              go_simp
              exact hK.out _ _ rfl (Below.refl _ _)
            refine StepsL.cons1 1 (some 30) (by kernel_rfl) rfl ?_ ?_
            · rintro w hS _ rfl K hK
              (try simp only [Act.put, List.setIfInBounds_toArray, List.set_cons_zero, List.set_cons_succ])
              go_simp
              exact hK.out _ _ rfl (Below.refl _ _)
            refine StepsL.cons1 2 (some 31) (by kernel_rfl) rfl ?_ ?_
            · rintro w hS _ rfl K hK
              (try simp only [Act.put, List.setIfInBounds_toArray, List.set_cons_zero, List.set_cons_succ])
              go_simp
              exact hK.out _ _ rfl (Below.refl _ _)
            refine StepsL.cons2 0 (some 29) 3 (some 32) (by kernel_rfl) rfl rfl ?_ ?_
            · rintro w hS _ rfl _ rfl K hK
              (try simp only [Act.put, List.setIfInBounds_toArray, List.set_cons_zero, List.set_cons_succ])
              go_simp
              exact hK.out _ _ rfl (Below.refl _ _)
            refine StepsL.cons1 4 (some 33) (by kernel_rfl) rfl ?_ ?_
            · rintro w hS _ rfl K hK
              (try simp only [Act.put, List.setIfInBounds_toArray, List.set_cons_zero, List.set_cons_succ])
              go_simp
              exact hK.out _ _ rfl (Below.refl _ _)
            refine StepsL.cons1 5 (some 34) (by kernel_rfl) rfl ?_ ?_
            · rintro w hS _ rfl K hK
              (try simp only [Act.put, List.setIfInBounds_toArray, List.set_cons_zero, List.set_cons_succ])
              go_simp
              exact hK.out _ _ rfl (Below.refl _ _)
            refine StepsL.cons1 6 (some 35) (by kernel_rfl) rfl ?_ ?_
            · rintro w hS _ rfl K hK
              (try simp only [Act.put, List.setIfInBounds_toArray, List.set_cons_zero, List.set_cons_succ])
              go_simp
              exact hK.out _ _ trivial (Below.refl _ _)
            refine StepsL.cons2 6 (some 35) 7 (some 36) (by kernel_rfl) rfl rfl ?_ ?_
            · rintro w hS _ rfl _ - K hK
              (try simp only [Act.put, List.setIfInBounds_toArray, List.set_cons_zero, List.set_cons_succ])
              go_simp
              exact hK.out _ _ trivial (Below.refl _ _)
            refine StepsL.cons2 6 (some 35) 8 (some 37) (by kernel_rfl) rfl rfl ?_ ?_
            · rintro w hS _ rfl _ - K hK
              (try simp only [Act.put, List.setIfInBounds_toArray, List.set_cons_zero, List.set_cons_succ])
              go_simp
              exact hK.out _ _ trivial (Below.refl _ _)
            refine StepsL.cons1 6 (some 35) (by kernel_rfl) rfl ?_ ?_
            · rintro w hS _ rfl K hK
              (try simp only [Act.put, List.setIfInBounds_toArray, List.set_cons_zero, List.set_cons_succ])
              go_simp
              exact hK.out _ _ trivial (Below.refl _ _)
            refine StepsL.cons1 6 (some 35) (by kernel_rfl) rfl ?_ ?_
            · rintro w hS _ rfl K hK
              (try simp only [Act.put, List.setIfInBounds_toArray, List.set_cons_zero, List.set_cons_succ])
              go_simp
              exact hK.out _ _ trivial (Below.refl _ _)
            refine StepsL.cons2 6 (some 35) 11 (some 40) (by kernel_rfl) rfl rfl ?_ ?_
            · rintro w hS _ rfl _ - K hK
              (try simp only [Act.put, List.setIfInBounds_toArray, List.set_cons_zero, List.set_cons_succ])
              go_simp
              exact hK.out _ _ trivial (Below.refl _ _)
            refine StepsL.cons3 6 (some 35) 10 (some 39) 12 (some 41) (by kernel_rfl) rfl rfl rfl ?_ ?_
            · rintro w hS _ rfl _ - _ - K hK
              (try simp only [Act.put, List.setIfInBounds_toArray, List.set_cons_zero, List.set_cons_succ])
              go_simp
              exact hK.out _ _ trivial (Below.refl _ _)
            refine StepsL.cons2 6 (some 35) 13 (some 42) (by kernel_rfl) rfl rfl ?_ ?_
            · rintro w hS _ rfl _ - K hK
              (try simp only [Act.put, List.setIfInBounds_toArray, List.set_cons_zero, List.set_cons_succ])
              go_simp
              exact hK.out _ _ trivial (Below.refl _ _)
            refine StepsL.cons2 6 (some 35) 14 (some 43) (by kernel_rfl) rfl rfl ?_ ?_
            · rintro w hS _ rfl _ - K hK
              (try simp only [Act.put, List.setIfInBounds_toArray, List.set_cons_zero, List.set_cons_succ])
              go_simp
              exact hK.out _ _ trivial (Below.refl _ _)
            refine StepsL.cons3 6 (some 35) 9 (some 38) 15 (some 44) (by kernel_rfl) rfl rfl rfl ?_ ?_
            · rintro w hS _ rfl _ - _ - K hK
              (try simp only [Act.put, List.setIfInBounds_toArray, List.set_cons_zero, List.set_cons_succ])
              go_simp
              exact hK.out _ _ trivial (Below.refl _ _)
            refine StepsL.cons2 6 (some 35) 16 (some 45) (by kernel_rfl) rfl rfl ?_ ?_
            · rintro w hS _ rfl _ - K hK
              (try simp only [Act.put, List.setIfInBounds_toArray, List.set_cons_zero, List.set_cons_succ])
              go_simp
              exact hK.out _ _ rfl (Below.refl _ _)
            exact StepsL.nil
          · have e17 : vs 17 = .bool false := hV 17 (by simp)
            simp only [putl, List.foldl_cons, List.foldl_nil, Act.put, List.setIfInBounds_toArray, List.set_cons_zero, List.set_cons_succ, e17]
            clear hV e17
            go_wp2_with fail
            go_roundg (gk - 1)
            case measure => have := HI.out; omega
            case rel => exact ⟨i + 1, by simp, by have := HI.out; omega, hS⟩
      · have hd1 : decide ((i : Int) < (m : Int)) = false := by simp; omega
        have him : i = m := by omega
        have hTm : B.take i = B := by rw [him, HL.out, List.take_length]
        rw [hTm] at p3
        have HT : Hid (B.length ≤ 4294967296) := Lib.hid (by have := HL.out; omega)
        have p5 := p3.below (w' := wr.drew) ((Below.refl _ _).drew)
        clear p3 hTm him hi
        go_upto_region 13 with (fail)
        refine region_monoL (fun x => MS w g B bo B x) (fun w w' => Below w.heap.size w w') (V6e B bo g m bc) [(0, some 47), (1, some 48), (2, some 49), (3, some 50), (4, some 51), (5, some 52), (6, some 53), (7, some 54), (8, some 55), (9, some 56), (10, some 57), (11, some 58), (12, some 59), (13, some 60), (14, some 61), (15, some 62), (16, some 4)] (by kernel_rfl) (by kernel_rfl) (by kernel_rfl) (fun _ _ h r => h.below r) (fun i1 v1 w1 w2 _ h1 r1 => V6e_keep B bo g m bc i1 v1 w1 w2 h1 r1) (p5) ?_ (fun vs w' hS hV => ?_)
        · refine StepsL.cons0  (by kernel_rfl)  ?_ ?_
          · rintro w hS  K hK
            (try simp only [Act.put, List.setIfInBounds_toArray, List.set_cons_zero, List.set_cons_succ])
            go_simp
            exact hK.out _ _ rfl (Below.refl _ _)
          refine StepsL.cons1 0 (some 47) (by kernel_rfl) rfl ?_ ?_
          · rintro w hS _ rfl K hK
            (try simp only [Act.put, List.setIfInBounds_toArray, List.set_cons_zero, List.set_cons_succ])
            go_simp
            exact hK.out _ _ rfl (Below.refl _ _)
          refine StepsL.cons1 1 (some 48) (by kernel_rfl) rfl ?_ ?_
          · rintro w hS _ rfl K hK
            (try simp only [Act.put, List.setIfInBounds_toArray, List.set_cons_zero, List.set_cons_succ])
            go_simp
            exact hK.out _ _ rfl (Below.refl _ _)
          refine StepsL.cons2 1 (some 48) 2 (some 49) (by kernel_rfl) rfl rfl ?_ ?_
          · rintro w hS _ rfl _ rfl K hK
            (try simp only [Act.put, List.setIfInBounds_toArray, List.set_cons_zero, List.set_cons_succ])
            go_simp
            go_at_call 13
            refine (sum13 g _ _ HT.out hS.hx hS.tk (by have := hS.o1; have := hS.z; omega)).mono ?_
            rintro r w2 ⟨v2, rfl, o2, b2⟩
            obtain ⟨ad2, c2, rfl, -, e2, y2⟩ := own_str o2 (tk_lt hS.tk) (by omega)
            exact hK.out _ _ ⟨_, _, rfl, y2⟩ b2
          refine StepsL.cons2 1 (some 48) 3 (some 50) (by kernel_rfl) rfl rfl ?_ ?_
          · rintro w hS _ rfl _ ⟨a3, c3, rfl, y3⟩ K hK
            (try simp only [Act.put, List.setIfInBounds_toArray, List.set_cons_zero, List.set_cons_succ])
            have hcv := conv_byt (c := c3) (n := 32) (dig_length B).symm y3
            go_simp
            exact hK.out _ _ rfl (Below.refl _ _)
          refine StepsL.cons1 1 (some 48) (by kernel_rfl) rfl ?_ ?_
          · rintro w hS _ rfl K hK
            (try simp only [Act.put, List.setIfInBounds_toArray, List.set_cons_zero, List.set_cons_succ])
            go_simp
            exact hK.out _ _ rfl (Below.refl _ _)
          refine StepsL.cons2 1 (some 48) 5 (some 52) (by kernel_rfl) rfl rfl ?_ ?_
          · rintro w hS _ rfl _ rfl K hK
            (try simp only [Act.put, List.setIfInBounds_toArray, List.set_cons_zero, List.set_cons_succ])
            go_simp
            go_at_call 9
            refine (sum9 B _ g _ _ _ HL.out (by omega) (hS.b.byt hS.o1) hS.tk).mono ?_
            rintro r w2 ⟨v2, rfl, o2, b2⟩
            obtain ⟨ad2, c2, rfl, -, e2, y2⟩ := own_str o2 (tk_lt hS.tk) (by omega)
            exact hK.out _ _ ⟨_, _, rfl, y2⟩ b2
          refine StepsL.cons2 1 (some 48) 6 (some 53) (by kernel_rfl) rfl rfl ?_ ?_
          · rintro w hS _ rfl _ ⟨a6, c6, rfl, y6⟩ K hK
            (try simp only [Act.put, List.setIfInBounds_toArray, List.set_cons_zero, List.set_cons_succ])
            have hcv := conv_byt (c := c6) (n := 32) (dig_length B).symm y6
            go_simp
            exact hK.out _ _ rfl (Below.refl _ _)
          refine StepsL.cons3 1 (some 48) 4 (some 51) 7 (some 54) (by kernel_rfl) rfl rfl rfl ?_ ?_
          · rintro w hS _ rfl _ rfl _ rfl K hK
            (try simp only [Act.put, List.setIfInBounds_toArray, List.set_cons_zero, List.set_cons_succ])
            go_simp
            exact hK.out _ _ rfl (Below.refl _ _)
          refine StepsL.cons2 1 (some 48) 8 (some 55) (by kernel_rfl) rfl rfl ?_ ?_
          · rintro w hS _ rfl _ rfl K hK
            (try simp only [Act.put, List.setIfInBounds_toArray, List.set_cons_zero, List.set_cons_succ])
            go_simp
            exact hK.out _ _ rfl (Below.refl _ _)
          refine StepsL.cons1 9 (some 56) (by kernel_rfl) rfl ?_ ?_
          · rintro w hS _ rfl K hK
            (try simp only [Act.put, List.setIfInBounds_toArray, List.set_cons_zero, List.set_cons_succ])
            go_simp
            exact hK.out _ _ rfl (Below.refl _ _)
          refine StepsL.cons1 10 (some 57) (by kernel_rfl) rfl ?_ ?_
          · rintro w hS _ rfl K hK
            (try simp only [Act.put, List.setIfInBounds_toArray, List.set_cons_zero, List.set_cons_succ])
            go_simp
            exact hK.out _ _ rfl (Below.refl _ _)
          refine StepsL.cons2 10 (some 57) 11 (some 58) (by kernel_rfl) rfl rfl ?_ ?_
          · rintro w hS _ rfl _ rfl K hK
            (try simp only [Act.put, List.setIfInBounds_toArray, List.set_cons_zero, List.set_cons_succ])
            go_simp
            go_at_call 13
            refine (sum13 g _ _ HT.out hS.hx hS.tk (by have := hS.o1; have := hS.z; omega)).mono ?_
            rintro r w2 ⟨v2, rfl, o2, b2⟩
            obtain ⟨ad2, c2, rfl, -, e2, y2⟩ := own_str o2 (tk_lt hS.tk) (by omega)
            exact hK.out _ _ ⟨_, _, rfl⟩ b2
          refine StepsL.cons2 10 (some 57) 12 (some 59) (by kernel_rfl) rfl rfl ?_ ?_
          · rintro w hS _ rfl _ ⟨a12, c12, rfl⟩ K hK
            (try simp only [Act.put, List.setIfInBounds_toArray, List.set_cons_zero, List.set_cons_succ])
            go_simp
            exact hK.out _ _ rfl (Below.refl _ _)
          refine StepsL.cons2 10 (some 57) 13 (some 60) (by kernel_rfl) rfl rfl ?_ ?_
          · rintro w hS _ rfl _ rfl K hK
            (try simp only [Act.put, List.setIfInBounds_toArray, List.set_cons_zero, List.set_cons_succ])
            go_simp
            exact hK.out _ _ rfl (Below.refl _ _)
          refine StepsL.cons2 10 (some 57) 14 (some 61) (by kernel_rfl) rfl rfl ?_ ?_
          · rintro w hS _ rfl _ rfl K hK
            (try simp only [Act.put, List.setIfInBounds_toArray, List.set_cons_zero, List.set_cons_succ])
            go_simp
            exact hK.out _ _ rfl (Below.refl _ _)
          refine StepsL.cons1 15 (some 62) (by kernel_rfl) rfl ?_ ?_
          · rintro w hS _ rfl K hK
            (try simp only [Act.put, List.setIfInBounds_toArray, List.set_cons_zero, List.set_cons_succ])
            go_simp
            exact hK.out _ _ rfl (Below.refl _ _)
          exact StepsL.nil
        · have e16 : vs 16 = .bool true := hV 16 (by simp)
          simp only [putl, List.foldl_cons, List.foldl_nil, Act.put, List.setIfInBounds_toArray, List.set_cons_zero, List.set_cons_succ, e16]
          go_wp2_with fail
          go_ret
          exact ⟨rfl, hS.k⟩
end Go.Proofs.YtinmmenjlhlpmaaDoor
