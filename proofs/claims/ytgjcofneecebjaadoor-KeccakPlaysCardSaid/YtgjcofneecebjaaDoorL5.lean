/- KeccakSums, walked. -/
import Derived.Test.YtgjcofneecebjaaDoorU
import Derived.Outline
namespace Go.Proofs.YtgjcofneecebjaaDoor
open Go.ChangeShapes Go.WideShapes Go.ChangeAt Go.RowKit
set_option linter.unusedSimpArgs false
set_option linter.unusedVariables false
/-- The text, and an own one of its bytes. -/
structure Q5 (w0 : World) (ao bo : Option Addr) (D : List (BitVec 8)) (base m cc g : Nat) (w : World) : Prop where
  a : Old w0.heap.size w bo D
  tk : TK w
  own : Byt w 0 ao D
  row : Own w base (.slice ao m cc) m D
  k : Below w0.heap.size w0 w
  gl : g < w.heap.size
theorem Q5.below {w0 w w' : World} {ao bo : Option Addr} {D : List (BitVec 8)} {base m cc g : Nat} (h : Q5 w0 ao bo D base m cc g w) (r : Below w.heap.size w w') : Q5 w0 ao bo D base m cc g w' :=
  ⟨h.a.below r h.k.size, h.tk.below r h.tk.lt, h.own.below r, own_keep h.row r, h.k.trans (r.mono h.k.size), Nat.lt_of_lt_of_le h.gl r.size⟩
/-- The text, and what the sums gave, in no cell of block g. -/
structure P5 (w0 : World) (bo : Option Addr) (D : List (BitVec 8)) (g : Nat) (a1 a2 a3 a4 : Option Addr) (X1 X2 X3 X4 : List (BitVec 8)) (w : World) : Prop where
  a : Old w0.heap.size w bo D
  x1 : Byt w g a1 X1
  x2 : Byt w g a2 X2
  x3 : Byt w g a3 X3
  x4 : Byt w g a4 X4
  k : Below w0.heap.size w0 w
  gl : g < w.heap.size
  ge : w0.heap.size ≤ g
section
variable {w0 w w' : World} {bo a1 a2 a3 a4 : Option Addr} {D X1 X2 X3 X4 : List (BitVec 8)} {g : Nat}
theorem P5.below (h : P5 w0 bo D g a1 a2 a3 a4 X1 X2 X3 X4 w) (r : Below w.heap.size w w') : P5 w0 bo D g a1 a2 a3 a4 X1 X2 X3 X4 w' :=
  ⟨h.a.below r h.k.size, h.x1.below r, h.x2.below r, h.x3.below r, h.x4.below r, h.k.trans (r.mono h.k.size), Nat.lt_of_lt_of_le h.gl r.size, h.ge⟩
theorem P5.set (h : P5 w0 bo D g a1 a2 a3 a4 X1 X2 X3 X4 w) (i : Nat) (v : Value) : P5 w0 bo D g a1 a2 a3 a4 X1 X2 X3 X4 (w.setCell ⟨g, i, none⟩ v) :=
  ⟨h.a.keep (by simp) (fun k hk => heap_setCell_other w ⟨g, i, none⟩ k v (by have := h.ge; show k ≠ g; omega)), h.x1.set i v, h.x2.set i v, h.x3.set i v, h.x4.set i v, Below.setCell h.k (p := ⟨g, i, none⟩) h.ge v, by simpa using h.gl, h.ge⟩
end
def V5 (g : Nat) (bo a1 a2 a3 a4 : Option Addr) (m bc l1 l2 l3 l4 c1 c2 c3 c4 : Nat) (z : Int) (X1 X2 X3 X4 : List (BitVec 8)) : Nat → Value → World → Prop
  | 0, v, w => v = .bool true
  | 1, v, w => v = .bool true
  | 2, v, w => v = .slice a1 l1 c1
  | 3, v, w => v = .string (strOf X1)
  | 4, v, w => v = .slice bo m bc
  | 5, v, w => ∃ ao c, v = .slice ao l1 c ∧ Byt w g ao X1
  | 6, v, w => v = .string (strOf X1)
  | 7, v, w => v = .bool true
  | 8, v, w => v = .bool true
  | 9, v, w => v = .bool true
  | 10, v, w => v = .slice a2 l2 c2
  | 11, v, w => v = .string (strOf X2)
  | 12, v, w => v = .slice bo m bc
  | 13, v, w => ∃ ao c, v = .slice ao l2 c ∧ Byt w g ao X2
  | 14, v, w => v = .string (strOf X2)
  | 15, v, w => v = .bool true
  | 16, v, w => v = .bool true
  | 17, v, w => v = .bool true
  | 18, v, w => v = .slice a3 l3 c3
  | 19, v, w => v = .string (strOf X3)
  | 20, v, w => v = .slice bo m bc
  | 21, v, w => v = .int .i64 z
  | 22, v, w => ∃ ao c, v = .slice ao l3 c ∧ Byt w g ao X3
  | 23, v, w => v = .string (strOf X3)
  | 24, v, w => v = .bool true
  | 25, v, w => v = .bool true
  | 26, v, w => v = .bool true
  | 27, v, w => v = .slice a4 l4 c4
  | 28, v, w => v = .string (strOf X4)
  | 29, v, w => v = .slice bo m bc
  | 30, v, w => v = .int .i64 z
  | 31, v, w => ∃ ao c, v = .slice ao l4 c ∧ Byt w g ao X4
  | 32, v, w => v = .string (strOf X4)
  | 33, v, w => v = .bool true
  | 34, v, w => v = .bool true
  | 35, v, w => v = .bool true
  | _, _, _ => True
theorem V5_keep (g : Nat) (bo a1 a2 a3 a4 : Option Addr) (m bc l1 l2 l3 l4 c1 c2 c3 c4 : Nat) (z : Int) (X1 X2 X3 X4 : List (BitVec 8)) (i1 : Nat) (v : Value) (w w' : World) (h : V5 g bo a1 a2 a3 a4 m bc l1 l2 l3 l4 c1 c2 c3 c4 z X1 X2 X3 X4 i1 v w) (r : (fun w w' => Below w.heap.size w w') w w') : V5 g bo a1 a2 a3 a4 m bc l1 l2 l3 l4 c1 c2 c3 c4 z X1 X2 X3 X4 i1 v w' := by
  rcases i1 with _ | _ | _ | _ | _ | _ | _ | _ | _ | _ | _ | _ | _ | _ | _ | _ | _ | _ | _ | _ | _ | _ | _ | _ | _ | _ | _ | _ | _ | _ | _ | _ | _ | _ | _ | _ | _
  · exact h
  · exact h
  · exact h
  · exact h
  · exact h
  · exact (let ⟨a, c, e, y⟩ := h; ⟨a, c, e, y.below r⟩)
  · exact h
  · exact h
  · exact h
  · exact h
  · exact h
  · exact h
  · exact h
  · exact (let ⟨a, c, e, y⟩ := h; ⟨a, c, e, y.below r⟩)
  · exact h
  · exact h
  · exact h
  · exact h
  · exact h
  · exact h
  · exact h
  · exact h
  · exact (let ⟨a, c, e, y⟩ := h; ⟨a, c, e, y.below r⟩)
  · exact h
  · exact h
  · exact h
  · exact h
  · exact h
  · exact h
  · exact h
  · exact h
  · exact (let ⟨a, c, e, y⟩ := h; ⟨a, c, e, y.below r⟩)
  · exact h
  · exact h
  · exact h
  · exact h
  · trivial
set_option maxRecDepth 20000 in
set_option maxHeartbeats 4000000 in
theorem sums5 (D : List (BitVec 8)) (bo : Option Addr) (m bc : Nat) (z : Int) (w : World) (hm : m = D.length) (hD : Old w.heap.size w bo D) (hK : TK w) :
    Calls Tryd.prog 5 #[.slice bo m bc, .int .i64 z] w fun r w' => r = .returned (.bool true) ∧ Below w.heap.size w w' := by
  have h0 := hK.lt
  have HM := Lib.hid hm
  clear hm
  obtain ⟨x, hx⟩ : ∃ x, decide ((m : Int) > 5000) = x := ⟨_, rfl⟩
  have GA : Hid (∀ w, Calls Tryd.prog 11 #[.slice bo m bc] w fun e w' => e = .returned (.bool x) ∧ w' = w) := Lib.hid (fun w => hx ▸ great11 bo m bc w)
  have HX := Lib.hid hx
  clear hx
  go_enter Tryd.func5, Tryd.ntmps5
  cases x with
  | true =>
    go_wp2_with (first | (go_at_call 8; (with_reducible refine (head8 _ hK).mono ?_); rintro e w1 ⟨rfl, b1⟩) | (go_at_call 11; (with_reducible refine (GA.out _).mono ?_); rintro e w1 ⟨rfl, rfl⟩))
    go_ret
    exact ⟨rfl, b1⟩
  | false =>
  have hm5 : m ≤ 5000 := by have := HX.out; simp at this; omega
  have hm2 : D.length ≤ 5000 := by have := HM.out; omega
  obtain ⟨X1, l1, hx1, S1, R1⟩ := both17 D (by omega)
  obtain ⟨X2, l2, hx2, S2, R2⟩ := both18 D (by omega)
  obtain ⟨X3, l3, hx3, S3, R3⟩ := both16 D z (by omega)
  obtain ⟨X4, l4, hx4, S4, R4⟩ := both19 D z (by omega)
  have HX1 := Lib.hid hx1
  have HX2 := Lib.hid hx2
  have HX3 := Lib.hid hx3
  have HX4 := Lib.hid hx4
  have HL := Lib.hid (And.intro HM.out (show m ≤ 4294967296 by omega))
  clear hx1 hx2 hx3 hx4 hm2
  by_cases hz : z > 3000 ∧ z ≤ 65536
  · have d1 : decide (z > 3000) = true := decide_eq_true hz.1
    have d2 : decide (z ≤ 65536) = true := decide_eq_true hz.2
    go_wp2_with (first | (go_at_call 8; (with_reducible refine (head8 _ hK).mono ?_); rintro e w1 ⟨rfl, b1⟩) | (go_at_call 11; (with_reducible refine (GA.out _).mono ?_); rintro e w1 ⟨rfl, rfl⟩))
    go_ret
    exact ⟨rfl, b1⟩
  by_cases hz1 : z > 3000
  · have d1 : decide (z > 3000) = true := decide_eq_true hz1
    have d2 : decide (z ≤ 65536) = false := decide_eq_false (fun h => hz ⟨hz1, h⟩)
    clear hz
    go_upto_region 5 with (first
      | (go_at_call 8; (with_reducible refine (head8 _ hK).mono ?_); rintro e w1 ⟨rfl, b1⟩; have t1 := hK.below b1 h0; have o1 := hD.below b1 (Nat.le_refl _))
      | (go_at_call 11; (with_reducible refine (GA.out _).mono ?_); rintro e w1 ⟨rfl, rfl⟩)
      | (at_builtin; refine app_own rfl (.tmp 24) (.tmp 25) rfl w1.heap.size (.slice (some ⟨w1.heap.size, 0, none⟩) 0 0) 0 [] rfl (own_new w1) w1.heap.size bo m bc D rfl ?q1 ?q2 ?q3 ?q4 ?_; (case q1 => exact HL.out.1); (case q2 => exact (o1.alloc _).byt b1.size); (case q3 => have := HL.out; omega); (case q4 => simp); intro v2 w2 o2 g2))
    have hw2 : w1.heap.size < w2.heap.size := by have := g2.size; simp at this; omega
    have o2 : Own w2 w1.heap.size v2 m D := by simpa using o2
    obtain ⟨ao, cc, rfl, hy⟩ := own_form o2
    obtain ⟨g, hg1, hg2, hg3⟩ := own_block o2 (by omega)
    have hb1 := b1.size
    have kk : Below w.heap.size w w2 := (b1.alloc hb1 _).grown g2 (by simp; omega) (fun b e => by injection e with e; have e : w1.heap.size = b := e; omega)
    have j2 : Below w1.heap.size w1 w2 := ((Below.refl _ _).alloc (Nat.le_refl _) _).grown g2 (by simp) (fun b e => by injection e with e; have e : w1.heap.size = b := e; omega)
    have q0 : Q5 w ao bo D w1.heap.size m cc g w2 := ⟨o1.below j2 hb1, t1.below j2 (by have := t1.lt; omega), hy 0 (by have := t1.lt; omega), o2, kk, hg2⟩
    have HG := Lib.hid (And.intro hg3 (And.intro hg1 hb1))
    clear o2 g2 hy kk j2 hw2 o1 t1 hg3 hg1 hg2 hb1 b1 hD hK
    go_upto_region 9 with (first
      | (go_at_call 17; (with_reducible refine (S1.out ao m cc _ HL.out.1 ?l1 q0.tk).mono ?_); (case l1 => exact Old.of q0.own); rintro e w3 ⟨a1, c1, rfl, y1, k1⟩; have y1 := y1 g q0.gl; have q1 := q0.below k1; clear k1 q0)
      | (go_at_call 18; (with_reducible refine (S2.out ao m cc _ HL.out.1 ?l1 q1.tk).mono ?_); (case l1 => exact Old.of q1.own); rintro e w4 ⟨a2, c2, rfl, y2, k2⟩; have y2 := y2 g q1.gl; have q2 := q1.below k2; have y1' := y1.below k2; clear y1; have y1 := y1'; clear y1'; clear k2 q1)
      | (go_at_call 16; (with_reducible refine (S3.out ao m cc _ HL.out.1 ?l1 q2.tk).mono ?_); (case l1 => exact Old.of q2.own); rintro e w5 ⟨a3, c3, rfl, y3, k3⟩; have y3 := y3 g q2.gl; have q3 := q2.below k3; have y1' := y1.below k3; clear y1; have y1 := y1'; clear y1'; have y2' := y2.below k3; clear y2; have y2 := y2'; clear y2'; clear k3 q2)
      | (go_at_call 19; (with_reducible refine (S4.out ao m cc _ HL.out.1 ?l1 q3.tk).mono ?_); (case l1 => exact Old.of q3.own); rintro e w6 ⟨a4, c4, rfl, y4, k4⟩; have y4 := y4 g q3.gl; have q4 := q3.below k4; have y1' := y1.below k4; clear y1; have y1 := y1'; clear y1'; have y2' := y2.below k4; clear y2; have y2 := y2'; clear y2'; have y3' := y3.below k4; clear y3; have y3 := y3'; clear y3'; clear k4 q3))
    have p6 : P5 w bo D g a1 a2 a3 a4 X1 X2 X3 X4 w6 := ⟨q4.a, y1, y2, y3, y4, q4.k, q4.gl, by have := HG.out.2; omega⟩
    have r6 : w6.ownsRow w1.heap.size 5 1 (.slice ao m cc) m (D.map c8) := q4.row
    have u6 : ∀ u ∈ D.map c8, ∃ y, u = .int .u8 y := fun u hu => by
      obtain ⟨x, _, rfl⟩ := List.mem_map.1 hu
      exact ⟨_, rfl⟩
    clear q4 y1 y2 y3 y4
    obtain ⟨ba, hba⟩ : ∃ b, b = w1.heap.size := ⟨_, rfl⟩
    rw [← hba] at r6
    clear hba
    go_wp2_with fail
    go_loopg [11] m (fun k v wr => ∃ j : Nat, v = .int .i64 j ∧ j + k = m ∧ P5 w bo D g a1 a2 a3 a4 X1 X2 X3 X4 wr ∧ ∃ xs, wr.ownsRow ba 5 1 (.slice ao m cc) m xs ∧ (∀ u ∈ xs, ∃ y, u = .int .u8 y))
    case atStart => exact ⟨0, rfl, by omega, p6, _, r6, u6⟩
    case round =>
      clear p6 r6 u6
      obtain ⟨j, rfl, hj, p7, xs, r7, u7⟩ := hrel
      have HJ := Lib.hid hj
      clear hj
      by_cases hlt : j < m
      · obtain rfl := HG.out.1 (by omega)
        have hxl : xs.length = m * 1 := r7.1
        have hjx : j < xs.length := by omega
        obtain ⟨y, hy⟩ := u7 xs[j] (List.getElem_mem hjx)
        have hcell : wr.cell? ⟨g, j, none⟩ = some (.int .u8 y) := by rw [r7.cellAt j (by omega), List.getElem?_eq_getElem hjx, hy]
        have hff := r7.frozenAt j
        have e1 : IntKind.i64.wrap ((j : Int) + 1) = (j : Int) + 1 := IntWalk.i64_in _ (by omega)
        have z1 : (0 : Int) ≤ (j : Int) := by omega
        have z2 : (j : Int) < (m : Int) := by omega
        have r8 := (r7.stored j (.int .u8 (IntKind.u8.wrap (y + 1)))).1
        have p8 := p7.set j (.int .u8 (IntKind.u8.wrap (y + 1)))
        have u8 : ∀ u ∈ xs.set j (.int .u8 (IntKind.u8.wrap (y + 1))), ∃ y, u = .int .u8 y := fun u hu => by
          rcases List.mem_or_eq_of_mem_set hu with h | h
          · exact u7 u h
          · exact ⟨_, h⟩
        obtain ⟨b, hb⟩ : ∃ b, IntKind.u8.wrap (y + 1) = b := ⟨_, rfl⟩
        rw [hb] at r8 p8 u8
        clear hy hxl hjx r7 p7
        go_wp2_with fail
        go_roundg (gk - 1)
        case measure => have := HJ.out; omega
        case rel => exact ⟨j + 1, by simp, by have := HJ.out; omega, p8, _, r8, u8⟩
      · have hd : decide (j < m) = false := by simp; omega
        obtain rfl : m = j := by have := HJ.out; omega
        clear r7 u7
        go_upto_region 13 with fail
        have p9 := p7.below (w' := wr.drew) ((Below.refl _ _).drew)
        clear p7
        refine region_monoL (fun x => P5 w bo D g a1 a2 a3 a4 X1 X2 X3 X4 x) (fun w w' => Below w.heap.size w w') (V5 g bo a1 a2 a3 a4 m bc l1 l2 l3 l4 c1 c2 c3 c4 z X1 X2 X3 X4) [(0, some 49), (1, some 50), (2, some 51), (3, some 52), (4, some 53), (5, some 54), (6, some 55), (7, some 56), (8, some 57), (9, some 58), (10, some 59), (11, some 60), (12, some 61), (13, some 62), (14, some 63), (15, some 64), (16, some 65), (17, some 66), (18, some 67), (19, some 68), (20, some 69), (21, some 70), (22, some 71), (23, some 72), (24, some 73), (25, some 74), (26, some 75), (27, some 76), (28, some 77), (29, some 78), (30, some 79), (31, some 80), (32, some 81), (33, some 82), (34, some 83), (35, some 4)] (by kernel_rfl) (by kernel_rfl) (by kernel_rfl) (fun _ _ h r => h.below r) (fun i1 v1 w1 w2 _ h1 r1 => V5_keep g bo a1 a2 a3 a4 m bc l1 l2 l3 l4 c1 c2 c3 c4 z X1 X2 X3 X4 i1 v1 w1 w2 h1 r1) (p9) ?_ (fun vs w' hS hV => ?_)
        · refine StepsL.cons0  (by kernel_rfl)  ?_ ?_
          · rintro w1 hS  K hK
            (try simp only [Act.put, List.setIfInBounds_toArray, List.set_cons_zero, List.set_cons_succ])
            go_simp
            exact hK.out _ _ rfl (Below.refl _ _)
          refine StepsL.cons1 0 (some 49) (by kernel_rfl) rfl ?_ ?_
          · rintro w1 hS _ rfl K hK
            (try simp only [Act.put, List.setIfInBounds_toArray, List.set_cons_zero, List.set_cons_succ])
            go_simp
            exact hK.out _ _ rfl (Below.refl _ _)
          refine StepsL.cons1 1 (some 50) (by kernel_rfl) rfl ?_ ?_
          · rintro w1 hS _ rfl K hK
            (try simp only [Act.put, List.setIfInBounds_toArray, List.set_cons_zero, List.set_cons_succ])
            go_simp
            exact hK.out _ _ rfl (Below.refl _ _)
          refine StepsL.cons2 1 (some 50) 2 (some 51) (by kernel_rfl) rfl rfl ?_ ?_
          · rintro w1 hS _ rfl _ rfl K hK
            (try simp only [Act.put, List.setIfInBounds_toArray, List.set_cons_zero, List.set_cons_succ])
            have hcv := conv_any (c := c1) (n := l1) HX1.out hS.x1
            go_simp
            exact hK.out _ _ rfl (Below.refl _ _)
          refine StepsL.cons1 1 (some 50) (by kernel_rfl) rfl ?_ ?_
          · rintro w1 hS _ rfl K hK
            (try simp only [Act.put, List.setIfInBounds_toArray, List.set_cons_zero, List.set_cons_succ])
            go_simp
            exact hK.out _ _ rfl (Below.refl _ _)
          refine StepsL.cons2 1 (some 50) 4 (some 53) (by kernel_rfl) rfl rfl ?_ ?_
          · rintro w1 hS _ rfl _ rfl K hK
            (try simp only [Act.put, List.setIfInBounds_toArray, List.set_cons_zero, List.set_cons_succ])
            go_simp
            go_at_call 20
            refine (R1.out bo m bc _ HL.out.1 (hS.a.mono hS.k.size (Nat.le_refl _))).mono ?_
            rintro r w2 ⟨b2, d2, rfl, y2, k2⟩
            exact hK.out _ _ ⟨_, _, rfl, y2 g hS.gl⟩ k2
          refine StepsL.cons2 1 (some 50) 5 (some 54) (by kernel_rfl) rfl rfl ?_ ?_
          · rintro w1 hS _ rfl _ ⟨b5, d5, rfl, y5⟩ K hK
            (try simp only [Act.put, List.setIfInBounds_toArray, List.set_cons_zero, List.set_cons_succ])
            have hcv := conv_any (c := d5) (n := l1) HX1.out y5
            go_simp
            exact hK.out _ _ rfl (Below.refl _ _)
          refine StepsL.cons3 1 (some 50) 3 (some 52) 6 (some 55) (by kernel_rfl) rfl rfl rfl ?_ ?_
          · rintro w1 hS _ rfl _ rfl _ rfl K hK
            (try simp only [Act.put, List.setIfInBounds_toArray, List.set_cons_zero, List.set_cons_succ])
            go_simp
            exact hK.out _ _ rfl (Below.refl _ _)
          refine StepsL.cons2 1 (some 50) 7 (some 56) (by kernel_rfl) rfl rfl ?_ ?_
          · rintro w1 hS _ rfl _ rfl K hK
            (try simp only [Act.put, List.setIfInBounds_toArray, List.set_cons_zero, List.set_cons_succ])
            go_simp
            exact hK.out _ _ rfl (Below.refl _ _)
          refine StepsL.cons1 8 (some 57) (by kernel_rfl) rfl ?_ ?_
          · rintro w1 hS _ rfl K hK
            (try simp only [Act.put, List.setIfInBounds_toArray, List.set_cons_zero, List.set_cons_succ])
            go_simp
            exact hK.out _ _ rfl (Below.refl _ _)
          refine StepsL.cons1 9 (some 58) (by kernel_rfl) rfl ?_ ?_
          · rintro w1 hS _ rfl K hK
            (try simp only [Act.put, List.setIfInBounds_toArray, List.set_cons_zero, List.set_cons_succ])
            go_simp
            exact hK.out _ _ rfl (Below.refl _ _)
          refine StepsL.cons2 9 (some 58) 10 (some 59) (by kernel_rfl) rfl rfl ?_ ?_
          · rintro w1 hS _ rfl _ rfl K hK
            (try simp only [Act.put, List.setIfInBounds_toArray, List.set_cons_zero, List.set_cons_succ])
            have hcv := conv_any (c := c2) (n := l2) HX2.out hS.x2
            go_simp
            exact hK.out _ _ rfl (Below.refl _ _)
          refine StepsL.cons1 9 (some 58) (by kernel_rfl) rfl ?_ ?_
          · rintro w1 hS _ rfl K hK
            (try simp only [Act.put, List.setIfInBounds_toArray, List.set_cons_zero, List.set_cons_succ])
            go_simp
            exact hK.out _ _ rfl (Below.refl _ _)
          refine StepsL.cons2 9 (some 58) 12 (some 61) (by kernel_rfl) rfl rfl ?_ ?_
          · rintro w1 hS _ rfl _ rfl K hK
            (try simp only [Act.put, List.setIfInBounds_toArray, List.set_cons_zero, List.set_cons_succ])
            go_simp
            go_at_call 21
            refine (R2.out bo m bc _ HL.out.1 (hS.a.mono hS.k.size (Nat.le_refl _))).mono ?_
            rintro r w2 ⟨b2, d2, rfl, y2, k2⟩
            exact hK.out _ _ ⟨_, _, rfl, y2 g hS.gl⟩ k2
          refine StepsL.cons2 9 (some 58) 13 (some 62) (by kernel_rfl) rfl rfl ?_ ?_
          · rintro w1 hS _ rfl _ ⟨b13, d13, rfl, y13⟩ K hK
            (try simp only [Act.put, List.setIfInBounds_toArray, List.set_cons_zero, List.set_cons_succ])
            have hcv := conv_any (c := d13) (n := l2) HX2.out y13
            go_simp
            exact hK.out _ _ rfl (Below.refl _ _)
          refine StepsL.cons3 9 (some 58) 11 (some 60) 14 (some 63) (by kernel_rfl) rfl rfl rfl ?_ ?_
          · rintro w1 hS _ rfl _ rfl _ rfl K hK
            (try simp only [Act.put, List.setIfInBounds_toArray, List.set_cons_zero, List.set_cons_succ])
            go_simp
            exact hK.out _ _ rfl (Below.refl _ _)
          refine StepsL.cons2 9 (some 58) 15 (some 64) (by kernel_rfl) rfl rfl ?_ ?_
          · rintro w1 hS _ rfl _ rfl K hK
            (try simp only [Act.put, List.setIfInBounds_toArray, List.set_cons_zero, List.set_cons_succ])
            go_simp
            exact hK.out _ _ rfl (Below.refl _ _)
          refine StepsL.cons1 16 (some 65) (by kernel_rfl) rfl ?_ ?_
          · rintro w1 hS _ rfl K hK
            (try simp only [Act.put, List.setIfInBounds_toArray, List.set_cons_zero, List.set_cons_succ])
            go_simp
            exact hK.out _ _ rfl (Below.refl _ _)
          refine StepsL.cons1 17 (some 66) (by kernel_rfl) rfl ?_ ?_
          · rintro w1 hS _ rfl K hK
            (try simp only [Act.put, List.setIfInBounds_toArray, List.set_cons_zero, List.set_cons_succ])
            go_simp
            exact hK.out _ _ rfl (Below.refl _ _)
          refine StepsL.cons2 17 (some 66) 18 (some 67) (by kernel_rfl) rfl rfl ?_ ?_
          · rintro w1 hS _ rfl _ rfl K hK
            (try simp only [Act.put, List.setIfInBounds_toArray, List.set_cons_zero, List.set_cons_succ])
            have hcv := conv_any (c := c3) (n := l3) HX3.out hS.x3
            go_simp
            exact hK.out _ _ rfl (Below.refl _ _)
          refine StepsL.cons1 17 (some 66) (by kernel_rfl) rfl ?_ ?_
          · rintro w1 hS _ rfl K hK
            (try simp only [Act.put, List.setIfInBounds_toArray, List.set_cons_zero, List.set_cons_succ])
            go_simp
            exact hK.out _ _ rfl (Below.refl _ _)
          refine StepsL.cons1 17 (some 66) (by kernel_rfl) rfl ?_ ?_
          · rintro w1 hS _ rfl K hK
            (try simp only [Act.put, List.setIfInBounds_toArray, List.set_cons_zero, List.set_cons_succ])
            go_simp
            exact hK.out _ _ rfl (Below.refl _ _)
          refine StepsL.cons3 17 (some 66) 20 (some 69) 21 (some 70) (by kernel_rfl) rfl rfl rfl ?_ ?_
          · rintro w1 hS _ rfl _ rfl _ rfl K hK
            (try simp only [Act.put, List.setIfInBounds_toArray, List.set_cons_zero, List.set_cons_succ])
            go_simp
            go_at_call 22
            refine (R3.out bo m bc _ HL.out.1 (hS.a.mono hS.k.size (Nat.le_refl _))).mono ?_
            rintro r w2 ⟨b2, d2, rfl, y2, k2⟩
            exact hK.out _ _ ⟨_, _, rfl, y2 g hS.gl⟩ k2
          refine StepsL.cons2 17 (some 66) 22 (some 71) (by kernel_rfl) rfl rfl ?_ ?_
          · rintro w1 hS _ rfl _ ⟨b22, d22, rfl, y22⟩ K hK
            (try simp only [Act.put, List.setIfInBounds_toArray, List.set_cons_zero, List.set_cons_succ])
            have hcv := conv_any (c := d22) (n := l3) HX3.out y22
            go_simp
            exact hK.out _ _ rfl (Below.refl _ _)
          refine StepsL.cons3 17 (some 66) 19 (some 68) 23 (some 72) (by kernel_rfl) rfl rfl rfl ?_ ?_
          · rintro w1 hS _ rfl _ rfl _ rfl K hK
            (try simp only [Act.put, List.setIfInBounds_toArray, List.set_cons_zero, List.set_cons_succ])
            go_simp
            exact hK.out _ _ rfl (Below.refl _ _)
          refine StepsL.cons2 17 (some 66) 24 (some 73) (by kernel_rfl) rfl rfl ?_ ?_
          · rintro w1 hS _ rfl _ rfl K hK
            (try simp only [Act.put, List.setIfInBounds_toArray, List.set_cons_zero, List.set_cons_succ])
            go_simp
            exact hK.out _ _ rfl (Below.refl _ _)
          refine StepsL.cons1 25 (some 74) (by kernel_rfl) rfl ?_ ?_
          · rintro w1 hS _ rfl K hK
            (try simp only [Act.put, List.setIfInBounds_toArray, List.set_cons_zero, List.set_cons_succ])
            go_simp
            exact hK.out _ _ rfl (Below.refl _ _)
          refine StepsL.cons1 26 (some 75) (by kernel_rfl) rfl ?_ ?_
          · rintro w1 hS _ rfl K hK
            (try simp only [Act.put, List.setIfInBounds_toArray, List.set_cons_zero, List.set_cons_succ])
            go_simp
            exact hK.out _ _ rfl (Below.refl _ _)
          refine StepsL.cons2 26 (some 75) 27 (some 76) (by kernel_rfl) rfl rfl ?_ ?_
          · rintro w1 hS _ rfl _ rfl K hK
            (try simp only [Act.put, List.setIfInBounds_toArray, List.set_cons_zero, List.set_cons_succ])
            have hcv := conv_any (c := c4) (n := l4) HX4.out hS.x4
            go_simp
            exact hK.out _ _ rfl (Below.refl _ _)
          refine StepsL.cons1 26 (some 75) (by kernel_rfl) rfl ?_ ?_
          · rintro w1 hS _ rfl K hK
            (try simp only [Act.put, List.setIfInBounds_toArray, List.set_cons_zero, List.set_cons_succ])
            go_simp
            exact hK.out _ _ rfl (Below.refl _ _)
          refine StepsL.cons1 26 (some 75) (by kernel_rfl) rfl ?_ ?_
          · rintro w1 hS _ rfl K hK
            (try simp only [Act.put, List.setIfInBounds_toArray, List.set_cons_zero, List.set_cons_succ])
            go_simp
            exact hK.out _ _ rfl (Below.refl _ _)
          refine StepsL.cons3 26 (some 75) 29 (some 78) 30 (some 79) (by kernel_rfl) rfl rfl rfl ?_ ?_
          · rintro w1 hS _ rfl _ rfl _ rfl K hK
            (try simp only [Act.put, List.setIfInBounds_toArray, List.set_cons_zero, List.set_cons_succ])
            go_simp
            go_at_call 23
            refine (R4.out bo m bc _ HL.out.1 (hS.a.mono hS.k.size (Nat.le_refl _))).mono ?_
            rintro r w2 ⟨b2, d2, rfl, y2, k2⟩
            exact hK.out _ _ ⟨_, _, rfl, y2 g hS.gl⟩ k2
          refine StepsL.cons2 26 (some 75) 31 (some 80) (by kernel_rfl) rfl rfl ?_ ?_
          · rintro w1 hS _ rfl _ ⟨b31, d31, rfl, y31⟩ K hK
            (try simp only [Act.put, List.setIfInBounds_toArray, List.set_cons_zero, List.set_cons_succ])
            have hcv := conv_any (c := d31) (n := l4) HX4.out y31
            go_simp
            exact hK.out _ _ rfl (Below.refl _ _)
          refine StepsL.cons3 26 (some 75) 28 (some 77) 32 (some 81) (by kernel_rfl) rfl rfl rfl ?_ ?_
          · rintro w1 hS _ rfl _ rfl _ rfl K hK
            (try simp only [Act.put, List.setIfInBounds_toArray, List.set_cons_zero, List.set_cons_succ])
            go_simp
            exact hK.out _ _ rfl (Below.refl _ _)
          refine StepsL.cons2 26 (some 75) 33 (some 82) (by kernel_rfl) rfl rfl ?_ ?_
          · rintro w1 hS _ rfl _ rfl K hK
            (try simp only [Act.put, List.setIfInBounds_toArray, List.set_cons_zero, List.set_cons_succ])
            go_simp
            exact hK.out _ _ rfl (Below.refl _ _)
          refine StepsL.cons1 34 (some 83) (by kernel_rfl) rfl ?_ ?_
          · rintro w1 hS _ rfl K hK
            (try simp only [Act.put, List.setIfInBounds_toArray, List.set_cons_zero, List.set_cons_succ])
            go_simp
            exact hK.out _ _ rfl (Below.refl _ _)
          exact StepsL.nil
        · have e35 : vs 35 = .bool true := hV 35 (by simp)
          simp only [putl, List.foldl_cons, List.foldl_nil, Act.put, List.setIfInBounds_toArray, List.set_cons_zero, List.set_cons_succ, e35]
          go_wp2_with fail
          go_ret
          exact ⟨rfl, hS.k⟩
  · have d1 : decide (z > 3000) = false := decide_eq_false hz1
    clear hz
    go_upto_region 5 with (first
      | (go_at_call 8; (with_reducible refine (head8 _ hK).mono ?_); rintro e w1 ⟨rfl, b1⟩; have t1 := hK.below b1 h0; have o1 := hD.below b1 (Nat.le_refl _))
      | (go_at_call 11; (with_reducible refine (GA.out _).mono ?_); rintro e w1 ⟨rfl, rfl⟩)
      | (at_builtin; refine app_own rfl (.tmp 24) (.tmp 25) rfl w1.heap.size (.slice (some ⟨w1.heap.size, 0, none⟩) 0 0) 0 [] rfl (own_new w1) w1.heap.size bo m bc D rfl ?q1 ?q2 ?q3 ?q4 ?_; (case q1 => exact HL.out.1); (case q2 => exact (o1.alloc _).byt b1.size); (case q3 => have := HL.out; omega); (case q4 => simp); intro v2 w2 o2 g2))
    have hw2 : w1.heap.size < w2.heap.size := by have := g2.size; simp at this; omega
    have o2 : Own w2 w1.heap.size v2 m D := by simpa using o2
    obtain ⟨ao, cc, rfl, hy⟩ := own_form o2
    obtain ⟨g, hg1, hg2, hg3⟩ := own_block o2 (by omega)
    have hb1 := b1.size
    have kk : Below w.heap.size w w2 := (b1.alloc hb1 _).grown g2 (by simp; omega) (fun b e => by injection e with e; have e : w1.heap.size = b := e; omega)
    have j2 : Below w1.heap.size w1 w2 := ((Below.refl _ _).alloc (Nat.le_refl _) _).grown g2 (by simp) (fun b e => by injection e with e; have e : w1.heap.size = b := e; omega)
    have q0 : Q5 w ao bo D w1.heap.size m cc g w2 := ⟨o1.below j2 hb1, t1.below j2 (by have := t1.lt; omega), hy 0 (by have := t1.lt; omega), o2, kk, hg2⟩
    have HG := Lib.hid (And.intro hg3 (And.intro hg1 hb1))
    clear o2 g2 hy kk j2 hw2 o1 t1 hg3 hg1 hg2 hb1 b1 hD hK
    go_upto_region 9 with (first
      | (go_at_call 17; (with_reducible refine (S1.out ao m cc _ HL.out.1 ?l1 q0.tk).mono ?_); (case l1 => exact Old.of q0.own); rintro e w3 ⟨a1, c1, rfl, y1, k1⟩; have y1 := y1 g q0.gl; have q1 := q0.below k1; clear k1 q0)
      | (go_at_call 18; (with_reducible refine (S2.out ao m cc _ HL.out.1 ?l1 q1.tk).mono ?_); (case l1 => exact Old.of q1.own); rintro e w4 ⟨a2, c2, rfl, y2, k2⟩; have y2 := y2 g q1.gl; have q2 := q1.below k2; have y1' := y1.below k2; clear y1; have y1 := y1'; clear y1'; clear k2 q1)
      | (go_at_call 16; (with_reducible refine (S3.out ao m cc _ HL.out.1 ?l1 q2.tk).mono ?_); (case l1 => exact Old.of q2.own); rintro e w5 ⟨a3, c3, rfl, y3, k3⟩; have y3 := y3 g q2.gl; have q3 := q2.below k3; have y1' := y1.below k3; clear y1; have y1 := y1'; clear y1'; have y2' := y2.below k3; clear y2; have y2 := y2'; clear y2'; clear k3 q2)
      | (go_at_call 19; (with_reducible refine (S4.out ao m cc _ HL.out.1 ?l1 q3.tk).mono ?_); (case l1 => exact Old.of q3.own); rintro e w6 ⟨a4, c4, rfl, y4, k4⟩; have y4 := y4 g q3.gl; have q4 := q3.below k4; have y1' := y1.below k4; clear y1; have y1 := y1'; clear y1'; have y2' := y2.below k4; clear y2; have y2 := y2'; clear y2'; have y3' := y3.below k4; clear y3; have y3 := y3'; clear y3'; clear k4 q3))
    have p6 : P5 w bo D g a1 a2 a3 a4 X1 X2 X3 X4 w6 := ⟨q4.a, y1, y2, y3, y4, q4.k, q4.gl, by have := HG.out.2; omega⟩
    have r6 : w6.ownsRow w1.heap.size 5 1 (.slice ao m cc) m (D.map c8) := q4.row
    have u6 : ∀ u ∈ D.map c8, ∃ y, u = .int .u8 y := fun u hu => by
      obtain ⟨x, _, rfl⟩ := List.mem_map.1 hu
      exact ⟨_, rfl⟩
    clear q4 y1 y2 y3 y4
    obtain ⟨ba, hba⟩ : ∃ b, b = w1.heap.size := ⟨_, rfl⟩
    rw [← hba] at r6
    clear hba
    go_wp2_with fail
    go_loopg [11] m (fun k v wr => ∃ j : Nat, v = .int .i64 j ∧ j + k = m ∧ P5 w bo D g a1 a2 a3 a4 X1 X2 X3 X4 wr ∧ ∃ xs, wr.ownsRow ba 5 1 (.slice ao m cc) m xs ∧ (∀ u ∈ xs, ∃ y, u = .int .u8 y))
    case atStart => exact ⟨0, rfl, by omega, p6, _, r6, u6⟩
    case round =>
      clear p6 r6 u6
      obtain ⟨j, rfl, hj, p7, xs, r7, u7⟩ := hrel
      have HJ := Lib.hid hj
      clear hj
      by_cases hlt : j < m
      · obtain rfl := HG.out.1 (by omega)
        have hxl : xs.length = m * 1 := r7.1
        have hjx : j < xs.length := by omega
        obtain ⟨y, hy⟩ := u7 xs[j] (List.getElem_mem hjx)
        have hcell : wr.cell? ⟨g, j, none⟩ = some (.int .u8 y) := by rw [r7.cellAt j (by omega), List.getElem?_eq_getElem hjx, hy]
        have hff := r7.frozenAt j
        have e1 : IntKind.i64.wrap ((j : Int) + 1) = (j : Int) + 1 := IntWalk.i64_in _ (by omega)
        have z1 : (0 : Int) ≤ (j : Int) := by omega
        have z2 : (j : Int) < (m : Int) := by omega
        have r8 := (r7.stored j (.int .u8 (IntKind.u8.wrap (y + 1)))).1
        have p8 := p7.set j (.int .u8 (IntKind.u8.wrap (y + 1)))
        have u8 : ∀ u ∈ xs.set j (.int .u8 (IntKind.u8.wrap (y + 1))), ∃ y, u = .int .u8 y := fun u hu => by
          rcases List.mem_or_eq_of_mem_set hu with h | h
          · exact u7 u h
          · exact ⟨_, h⟩
        obtain ⟨b, hb⟩ : ∃ b, IntKind.u8.wrap (y + 1) = b := ⟨_, rfl⟩
        rw [hb] at r8 p8 u8
        clear hy hxl hjx r7 p7
        go_wp2_with fail
        go_roundg (gk - 1)
        case measure => have := HJ.out; omega
        case rel => exact ⟨j + 1, by simp, by have := HJ.out; omega, p8, _, r8, u8⟩
      · have hd : decide (j < m) = false := by simp; omega
        obtain rfl : m = j := by have := HJ.out; omega
        clear r7 u7
        go_upto_region 13 with fail
        have p9 := p7.below (w' := wr.drew) ((Below.refl _ _).drew)
        clear p7
        refine region_monoL (fun x => P5 w bo D g a1 a2 a3 a4 X1 X2 X3 X4 x) (fun w w' => Below w.heap.size w w') (V5 g bo a1 a2 a3 a4 m bc l1 l2 l3 l4 c1 c2 c3 c4 z X1 X2 X3 X4) [(0, some 49), (1, some 50), (2, some 51), (3, some 52), (4, some 53), (5, some 54), (6, some 55), (7, some 56), (8, some 57), (9, some 58), (10, some 59), (11, some 60), (12, some 61), (13, some 62), (14, some 63), (15, some 64), (16, some 65), (17, some 66), (18, some 67), (19, some 68), (20, some 69), (21, some 70), (22, some 71), (23, some 72), (24, some 73), (25, some 74), (26, some 75), (27, some 76), (28, some 77), (29, some 78), (30, some 79), (31, some 80), (32, some 81), (33, some 82), (34, some 83), (35, some 4)] (by kernel_rfl) (by kernel_rfl) (by kernel_rfl) (fun _ _ h r => h.below r) (fun i1 v1 w1 w2 _ h1 r1 => V5_keep g bo a1 a2 a3 a4 m bc l1 l2 l3 l4 c1 c2 c3 c4 z X1 X2 X3 X4 i1 v1 w1 w2 h1 r1) (p9) ?_ (fun vs w' hS hV => ?_)
        · refine StepsL.cons0  (by kernel_rfl)  ?_ ?_
          · rintro w1 hS  K hK
            (try simp only [Act.put, List.setIfInBounds_toArray, List.set_cons_zero, List.set_cons_succ])
            go_simp
            exact hK.out _ _ rfl (Below.refl _ _)
          refine StepsL.cons1 0 (some 49) (by kernel_rfl) rfl ?_ ?_
          · rintro w1 hS _ rfl K hK
            (try simp only [Act.put, List.setIfInBounds_toArray, List.set_cons_zero, List.set_cons_succ])
            go_simp
            exact hK.out _ _ rfl (Below.refl _ _)
          refine StepsL.cons1 1 (some 50) (by kernel_rfl) rfl ?_ ?_
          · rintro w1 hS _ rfl K hK
            (try simp only [Act.put, List.setIfInBounds_toArray, List.set_cons_zero, List.set_cons_succ])
            go_simp
            exact hK.out _ _ rfl (Below.refl _ _)
          refine StepsL.cons2 1 (some 50) 2 (some 51) (by kernel_rfl) rfl rfl ?_ ?_
          · rintro w1 hS _ rfl _ rfl K hK
            (try simp only [Act.put, List.setIfInBounds_toArray, List.set_cons_zero, List.set_cons_succ])
            have hcv := conv_any (c := c1) (n := l1) HX1.out hS.x1
            go_simp
            exact hK.out _ _ rfl (Below.refl _ _)
          refine StepsL.cons1 1 (some 50) (by kernel_rfl) rfl ?_ ?_
          · rintro w1 hS _ rfl K hK
            (try simp only [Act.put, List.setIfInBounds_toArray, List.set_cons_zero, List.set_cons_succ])
            go_simp
            exact hK.out _ _ rfl (Below.refl _ _)
          refine StepsL.cons2 1 (some 50) 4 (some 53) (by kernel_rfl) rfl rfl ?_ ?_
          · rintro w1 hS _ rfl _ rfl K hK
            (try simp only [Act.put, List.setIfInBounds_toArray, List.set_cons_zero, List.set_cons_succ])
            go_simp
            go_at_call 20
            refine (R1.out bo m bc _ HL.out.1 (hS.a.mono hS.k.size (Nat.le_refl _))).mono ?_
            rintro r w2 ⟨b2, d2, rfl, y2, k2⟩
            exact hK.out _ _ ⟨_, _, rfl, y2 g hS.gl⟩ k2
          refine StepsL.cons2 1 (some 50) 5 (some 54) (by kernel_rfl) rfl rfl ?_ ?_
          · rintro w1 hS _ rfl _ ⟨b5, d5, rfl, y5⟩ K hK
            (try simp only [Act.put, List.setIfInBounds_toArray, List.set_cons_zero, List.set_cons_succ])
            have hcv := conv_any (c := d5) (n := l1) HX1.out y5
            go_simp
            exact hK.out _ _ rfl (Below.refl _ _)
          refine StepsL.cons3 1 (some 50) 3 (some 52) 6 (some 55) (by kernel_rfl) rfl rfl rfl ?_ ?_
          · rintro w1 hS _ rfl _ rfl _ rfl K hK
            (try simp only [Act.put, List.setIfInBounds_toArray, List.set_cons_zero, List.set_cons_succ])
            go_simp
            exact hK.out _ _ rfl (Below.refl _ _)
          refine StepsL.cons2 1 (some 50) 7 (some 56) (by kernel_rfl) rfl rfl ?_ ?_
          · rintro w1 hS _ rfl _ rfl K hK
            (try simp only [Act.put, List.setIfInBounds_toArray, List.set_cons_zero, List.set_cons_succ])
            go_simp
            exact hK.out _ _ rfl (Below.refl _ _)
          refine StepsL.cons1 8 (some 57) (by kernel_rfl) rfl ?_ ?_
          · rintro w1 hS _ rfl K hK
            (try simp only [Act.put, List.setIfInBounds_toArray, List.set_cons_zero, List.set_cons_succ])
            go_simp
            exact hK.out _ _ rfl (Below.refl _ _)
          refine StepsL.cons1 9 (some 58) (by kernel_rfl) rfl ?_ ?_
          · rintro w1 hS _ rfl K hK
            (try simp only [Act.put, List.setIfInBounds_toArray, List.set_cons_zero, List.set_cons_succ])
            go_simp
            exact hK.out _ _ rfl (Below.refl _ _)
          refine StepsL.cons2 9 (some 58) 10 (some 59) (by kernel_rfl) rfl rfl ?_ ?_
          · rintro w1 hS _ rfl _ rfl K hK
            (try simp only [Act.put, List.setIfInBounds_toArray, List.set_cons_zero, List.set_cons_succ])
            have hcv := conv_any (c := c2) (n := l2) HX2.out hS.x2
            go_simp
            exact hK.out _ _ rfl (Below.refl _ _)
          refine StepsL.cons1 9 (some 58) (by kernel_rfl) rfl ?_ ?_
          · rintro w1 hS _ rfl K hK
            (try simp only [Act.put, List.setIfInBounds_toArray, List.set_cons_zero, List.set_cons_succ])
            go_simp
            exact hK.out _ _ rfl (Below.refl _ _)
          refine StepsL.cons2 9 (some 58) 12 (some 61) (by kernel_rfl) rfl rfl ?_ ?_
          · rintro w1 hS _ rfl _ rfl K hK
            (try simp only [Act.put, List.setIfInBounds_toArray, List.set_cons_zero, List.set_cons_succ])
            go_simp
            go_at_call 21
            refine (R2.out bo m bc _ HL.out.1 (hS.a.mono hS.k.size (Nat.le_refl _))).mono ?_
            rintro r w2 ⟨b2, d2, rfl, y2, k2⟩
            exact hK.out _ _ ⟨_, _, rfl, y2 g hS.gl⟩ k2
          refine StepsL.cons2 9 (some 58) 13 (some 62) (by kernel_rfl) rfl rfl ?_ ?_
          · rintro w1 hS _ rfl _ ⟨b13, d13, rfl, y13⟩ K hK
            (try simp only [Act.put, List.setIfInBounds_toArray, List.set_cons_zero, List.set_cons_succ])
            have hcv := conv_any (c := d13) (n := l2) HX2.out y13
            go_simp
            exact hK.out _ _ rfl (Below.refl _ _)
          refine StepsL.cons3 9 (some 58) 11 (some 60) 14 (some 63) (by kernel_rfl) rfl rfl rfl ?_ ?_
          · rintro w1 hS _ rfl _ rfl _ rfl K hK
            (try simp only [Act.put, List.setIfInBounds_toArray, List.set_cons_zero, List.set_cons_succ])
            go_simp
            exact hK.out _ _ rfl (Below.refl _ _)
          refine StepsL.cons2 9 (some 58) 15 (some 64) (by kernel_rfl) rfl rfl ?_ ?_
          · rintro w1 hS _ rfl _ rfl K hK
            (try simp only [Act.put, List.setIfInBounds_toArray, List.set_cons_zero, List.set_cons_succ])
            go_simp
            exact hK.out _ _ rfl (Below.refl _ _)
          refine StepsL.cons1 16 (some 65) (by kernel_rfl) rfl ?_ ?_
          · rintro w1 hS _ rfl K hK
            (try simp only [Act.put, List.setIfInBounds_toArray, List.set_cons_zero, List.set_cons_succ])
            go_simp
            exact hK.out _ _ rfl (Below.refl _ _)
          refine StepsL.cons1 17 (some 66) (by kernel_rfl) rfl ?_ ?_
          · rintro w1 hS _ rfl K hK
            (try simp only [Act.put, List.setIfInBounds_toArray, List.set_cons_zero, List.set_cons_succ])
            go_simp
            exact hK.out _ _ rfl (Below.refl _ _)
          refine StepsL.cons2 17 (some 66) 18 (some 67) (by kernel_rfl) rfl rfl ?_ ?_
          · rintro w1 hS _ rfl _ rfl K hK
            (try simp only [Act.put, List.setIfInBounds_toArray, List.set_cons_zero, List.set_cons_succ])
            have hcv := conv_any (c := c3) (n := l3) HX3.out hS.x3
            go_simp
            exact hK.out _ _ rfl (Below.refl _ _)
          refine StepsL.cons1 17 (some 66) (by kernel_rfl) rfl ?_ ?_
          · rintro w1 hS _ rfl K hK
            (try simp only [Act.put, List.setIfInBounds_toArray, List.set_cons_zero, List.set_cons_succ])
            go_simp
            exact hK.out _ _ rfl (Below.refl _ _)
          refine StepsL.cons1 17 (some 66) (by kernel_rfl) rfl ?_ ?_
          · rintro w1 hS _ rfl K hK
            (try simp only [Act.put, List.setIfInBounds_toArray, List.set_cons_zero, List.set_cons_succ])
            go_simp
            exact hK.out _ _ rfl (Below.refl _ _)
          refine StepsL.cons3 17 (some 66) 20 (some 69) 21 (some 70) (by kernel_rfl) rfl rfl rfl ?_ ?_
          · rintro w1 hS _ rfl _ rfl _ rfl K hK
            (try simp only [Act.put, List.setIfInBounds_toArray, List.set_cons_zero, List.set_cons_succ])
            go_simp
            go_at_call 22
            refine (R3.out bo m bc _ HL.out.1 (hS.a.mono hS.k.size (Nat.le_refl _))).mono ?_
            rintro r w2 ⟨b2, d2, rfl, y2, k2⟩
            exact hK.out _ _ ⟨_, _, rfl, y2 g hS.gl⟩ k2
          refine StepsL.cons2 17 (some 66) 22 (some 71) (by kernel_rfl) rfl rfl ?_ ?_
          · rintro w1 hS _ rfl _ ⟨b22, d22, rfl, y22⟩ K hK
            (try simp only [Act.put, List.setIfInBounds_toArray, List.set_cons_zero, List.set_cons_succ])
            have hcv := conv_any (c := d22) (n := l3) HX3.out y22
            go_simp
            exact hK.out _ _ rfl (Below.refl _ _)
          refine StepsL.cons3 17 (some 66) 19 (some 68) 23 (some 72) (by kernel_rfl) rfl rfl rfl ?_ ?_
          · rintro w1 hS _ rfl _ rfl _ rfl K hK
            (try simp only [Act.put, List.setIfInBounds_toArray, List.set_cons_zero, List.set_cons_succ])
            go_simp
            exact hK.out _ _ rfl (Below.refl _ _)
          refine StepsL.cons2 17 (some 66) 24 (some 73) (by kernel_rfl) rfl rfl ?_ ?_
          · rintro w1 hS _ rfl _ rfl K hK
            (try simp only [Act.put, List.setIfInBounds_toArray, List.set_cons_zero, List.set_cons_succ])
            go_simp
            exact hK.out _ _ rfl (Below.refl _ _)
          refine StepsL.cons1 25 (some 74) (by kernel_rfl) rfl ?_ ?_
          · rintro w1 hS _ rfl K hK
            (try simp only [Act.put, List.setIfInBounds_toArray, List.set_cons_zero, List.set_cons_succ])
            go_simp
            exact hK.out _ _ rfl (Below.refl _ _)
          refine StepsL.cons1 26 (some 75) (by kernel_rfl) rfl ?_ ?_
          · rintro w1 hS _ rfl K hK
            (try simp only [Act.put, List.setIfInBounds_toArray, List.set_cons_zero, List.set_cons_succ])
            go_simp
            exact hK.out _ _ rfl (Below.refl _ _)
          refine StepsL.cons2 26 (some 75) 27 (some 76) (by kernel_rfl) rfl rfl ?_ ?_
          · rintro w1 hS _ rfl _ rfl K hK
            (try simp only [Act.put, List.setIfInBounds_toArray, List.set_cons_zero, List.set_cons_succ])
            have hcv := conv_any (c := c4) (n := l4) HX4.out hS.x4
            go_simp
            exact hK.out _ _ rfl (Below.refl _ _)
          refine StepsL.cons1 26 (some 75) (by kernel_rfl) rfl ?_ ?_
          · rintro w1 hS _ rfl K hK
            (try simp only [Act.put, List.setIfInBounds_toArray, List.set_cons_zero, List.set_cons_succ])
            go_simp
            exact hK.out _ _ rfl (Below.refl _ _)
          refine StepsL.cons1 26 (some 75) (by kernel_rfl) rfl ?_ ?_
          · rintro w1 hS _ rfl K hK
            (try simp only [Act.put, List.setIfInBounds_toArray, List.set_cons_zero, List.set_cons_succ])
            go_simp
            exact hK.out _ _ rfl (Below.refl _ _)
          refine StepsL.cons3 26 (some 75) 29 (some 78) 30 (some 79) (by kernel_rfl) rfl rfl rfl ?_ ?_
          · rintro w1 hS _ rfl _ rfl _ rfl K hK
            (try simp only [Act.put, List.setIfInBounds_toArray, List.set_cons_zero, List.set_cons_succ])
            go_simp
            go_at_call 23
            refine (R4.out bo m bc _ HL.out.1 (hS.a.mono hS.k.size (Nat.le_refl _))).mono ?_
            rintro r w2 ⟨b2, d2, rfl, y2, k2⟩
            exact hK.out _ _ ⟨_, _, rfl, y2 g hS.gl⟩ k2
          refine StepsL.cons2 26 (some 75) 31 (some 80) (by kernel_rfl) rfl rfl ?_ ?_
          · rintro w1 hS _ rfl _ ⟨b31, d31, rfl, y31⟩ K hK
            (try simp only [Act.put, List.setIfInBounds_toArray, List.set_cons_zero, List.set_cons_succ])
            have hcv := conv_any (c := d31) (n := l4) HX4.out y31
            go_simp
            exact hK.out _ _ rfl (Below.refl _ _)
          refine StepsL.cons3 26 (some 75) 28 (some 77) 32 (some 81) (by kernel_rfl) rfl rfl rfl ?_ ?_
          · rintro w1 hS _ rfl _ rfl _ rfl K hK
            (try simp only [Act.put, List.setIfInBounds_toArray, List.set_cons_zero, List.set_cons_succ])
            go_simp
            exact hK.out _ _ rfl (Below.refl _ _)
          refine StepsL.cons2 26 (some 75) 33 (some 82) (by kernel_rfl) rfl rfl ?_ ?_
          · rintro w1 hS _ rfl _ rfl K hK
            (try simp only [Act.put, List.setIfInBounds_toArray, List.set_cons_zero, List.set_cons_succ])
            go_simp
            exact hK.out _ _ rfl (Below.refl _ _)
          refine StepsL.cons1 34 (some 83) (by kernel_rfl) rfl ?_ ?_
          · rintro w1 hS _ rfl K hK
            (try simp only [Act.put, List.setIfInBounds_toArray, List.set_cons_zero, List.set_cons_succ])
            go_simp
            exact hK.out _ _ rfl (Below.refl _ _)
          exact StepsL.nil
        · have e35 : vs 35 = .bool true := hV 35 (by simp)
          simp only [putl, List.foldl_cons, List.foldl_nil, Act.put, List.setIfInBounds_toArray, List.set_cons_zero, List.set_cons_succ, e35]
          go_wp2_with fail
          go_ret
          exact ⟨rfl, hS.k⟩
end Go.Proofs.YtgjcofneecebjaaDoor
