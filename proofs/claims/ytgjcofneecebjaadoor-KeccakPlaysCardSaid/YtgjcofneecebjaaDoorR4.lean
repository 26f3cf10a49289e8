/- The document's sponge in memory; a new one, a byte laid into it: walked. -/
import Derived.Test.YtgjcofneecebjaaDoorR3
namespace Go.Proofs.YtgjcofneecebjaaDoor
open Go.ChangeShapes Go.WideShapes Go.ChangeAt Go.RowKit
set_option linter.unusedSimpArgs false
set_option linter.unusedVariables false
/-- Block g: a sponge with rate rt, end en, the words W, so many bytes since its last change, and whether it gives. -/
structure Spr (w : World) (g : Nat) (rt en : Int) (W : Nat → Int) (at_ : Int) (gv : Bool) : Prop where
  is : w.heap[g]? = some (.cells (#[.int .i64 rt, .int .u8 en] ++ (arr .u64 25 W ++ #[.int .i64 at_, .bool gv])) 49 (0, 0))
section
variable {w w' : World} {g : Nat} {rt en at_ : Int} {W : Nat → Int} {gv : Bool}
theorem Spr.lt (h : Spr w g rt en W at_ gv) : g < w.heap.size := by
  rcases Nat.lt_or_ge g w.heap.size with k | k
  · exact k
  · have := h.is; rw [Array.getElem?_eq_none k] at this; cases this
theorem Spr.rate (h : Spr w g rt en W at_ gv) : w.cell? ⟨g, 0, none⟩ = some (.int .i64 rt) := by
  rw [cell_of_row w g 0 _ 49 _ h.is, Array.getElem?_append_left (by simp)]; rfl
theorem Spr.end_ (h : Spr w g rt en W at_ gv) : w.cell? ⟨g, 1, none⟩ = some (.int .u8 en) := by
  rw [cell_of_row w g 1 _ 49 _ h.is, Array.getElem?_append_left (by simp)]; rfl
theorem Spr.cell (h : Spr w g rt en W at_ gv) (i : Nat) (hi : i < 25) : w.cell? ⟨g, 2 + i, none⟩ = some (.int .u64 (W i)) := by
  rw [cell_of_row w g (2 + i) _ 49 _ h.is, Array.getElem?_append_right (by simp), Array.getElem?_append_left (by rw [arr_size]; simp; omega)]
  have : 2 + i - (#[Value.int .i64 rt, .int .u8 en] : Array Value).size = i := by simp
  rw [this, arr_get _ _ _ _ hi]
theorem Spr.cellA (h : Spr w g rt en W at_ gv) (i : Nat) (hi : i < 25) : w.cell? ((⟨g, 2, none⟩ : Addr).add i) = some (.int .u64 (W i)) := by
  rw [Addr.add_mid]; exact h.cell i hi
theorem Spr.at27 (h : Spr w g rt en W at_ gv) : w.cell? ⟨g, 27, none⟩ = some (.int .i64 at_) := by
  rw [cell_of_row w g 27 _ 49 _ h.is, Array.getElem?_append_right (by simp), Array.getElem?_append_right (by rw [arr_size]; simp)]
  simp [arr_size]
theorem Spr.gives (h : Spr w g rt en W at_ gv) : w.cell? ⟨g, 28, none⟩ = some (.bool gv) := by
  rw [cell_of_row w g 28 _ 49 _ h.is, Array.getElem?_append_right (by simp), Array.getElem?_append_right (by rw [arr_size]; simp)]
  simp [arr_size]
theorem Spr.frozen (h : Spr w g rt en W at_ gv) (i : Nat) : w.frozen? ⟨g, i, none⟩ = false := frozen_of_row w g i _ 49 h.is
theorem Spr.frozenA (h : Spr w g rt en W at_ gv) (i : Nat) : w.frozen? ((⟨g, 2, none⟩ : Addr).add i) = false := by rw [Addr.add_mid]; exact h.frozen _
theorem Spr.set (h : Spr w g rt en W at_ gv) (i : Nat) (v : Int) (hi : i < 25) : Spr (w.setCell ⟨g, 2 + i, none⟩ (.int .u64 v)) g rt en (upd W i v) at_ gv :=
  ⟨by rw [heap_setCell_same w g (2 + i) _ 49 _ h.is, ← arr_set]
      have := pre_set #[.int .i64 rt, .int .u8 en] (arr .u64 25 W) #[.int .i64 at_, .bool gv] i (.int .u64 v) (by rw [arr_size]; exact hi)
      exact congrArg (fun a => some (Obj.cells a 49 (0, 0))) this⟩
theorem Spr.setA (h : Spr w g rt en W at_ gv) (i : Nat) (v : Int) (hi : i < 25) : Spr (w.setCell ((⟨g, 2, none⟩ : Addr).add i) (.int .u64 v)) g rt en (upd W i v) at_ gv := by
  rw [Addr.add_mid]; exact h.set i v hi
theorem Spr.setAt (h : Spr w g rt en W at_ gv) (v : Int) : Spr (w.setCell ⟨g, 27, none⟩ (.int .i64 v)) g rt en W v gv :=
  ⟨by rw [heap_setCell_same w g 27 _ 49 _ h.is]
      have := pre_setTl #[.int .i64 rt, .int .u8 en] (arr .u64 25 W) #[.int .i64 at_, .bool gv] 0 (.int .i64 v)
      rw [arr_size] at this
      exact congrArg (fun a => some (Obj.cells a 49 (0, 0))) this⟩
theorem Spr.setGives (h : Spr w g rt en W at_ gv) (v : Bool) : Spr (w.setCell ⟨g, 28, none⟩ (.bool v)) g rt en W at_ v :=
  ⟨by rw [heap_setCell_same w g 28 _ 49 _ h.is]
      have := pre_setTl #[.int .i64 rt, .int .u8 en] (arr .u64 25 W) #[.int .i64 at_, .bool gv] 1 (.bool v)
      rw [arr_size] at this
      exact congrArg (fun a => some (Obj.cells a 49 (0, 0))) this⟩
theorem Spr.keep (h : Spr w g rt en W at_ gv) (k : w'.heap[g]? = w.heap[g]?) : Spr w' g rt en W at_ gv := ⟨k.trans h.is⟩
theorem Spr.other (h : Spr w g rt en W at_ gv) (a : Addr) (v : Value) (hb : g ≠ a.block) : Spr (w.setCell a v) g rt en W at_ gv := h.keep (heap_setCell_other w a g v hb)
theorem Spr.alloc (h : Spr w g rt en W at_ gv) (o : Obj) : Spr (w.alloc o) g rt en W at_ gv := h.keep (Below.heap_alloc w o g h.lt)
theorem Spr.drew (h : Spr w g rt en W at_ gv) : Spr w.drew g rt en W at_ gv := ⟨h.is⟩
theorem Spr.below {B : Nat} (h : Spr w g rt en W at_ gv) (j : Below B w w') (hb : g < B) : Spr w' g rt en W at_ gv := h.keep (j.block g hb)
theorem Spr.grown {r : Option Nat} (h : Spr w g rt en W at_ gv) (j : w.grownBy w' r) (hb : some g ≠ r) : Spr w' g rt en W at_ gv := h.keep (j.block g h.lt hb)
theorem Spr.congr {V : Nat → Int} (h : Spr w g rt en W at_ gv) (e : ∀ i, i < 25 → W i = V i) : Spr w g rt en V at_ gv := ⟨by rw [← arr_congr e]; exact h.is⟩
end
def Vlr (g t q x y r8 s : Nat) (a c m : Int) : Nat → Value → World → Prop
  | 0, v, w => v = .pointer (some ⟨g, 0, none⟩)
  | 1, v, w => v = .int .i64 q
  | 2, v, w => v = .int .i64 x
  | 3, v, w => v = .int .i64 q
  | 4, v, w => v = .int .i64 y
  | 5, v, w => v = .pointer (some ⟨g, 0, none⟩)
  | 6, v, w => v = .int .i64 q
  | 7, v, w => v = .int .i64 x
  | 8, v, w => v = .int .i64 q
  | 9, v, w => v = .int .i64 y
  | 10, v, w => v = .pointer (some ⟨g, 0, none⟩)
  | 11, v, w => v = .pointer (some ⟨g, 2, none⟩)
  | 12, v, w => v = .pointer (some ⟨g, 2 + x * 5, none⟩)
  | 13, v, w => v = .pointer (some ⟨g, 2 + x * 5 + y, none⟩)
  | 14, v, w => v = .int .u64 a
  | 15, v, w => v = .int .u8 c
  | 16, v, w => v = .int .u64 c
  | 17, v, w => v = .int .i64 t
  | 18, v, w => v = .int .i64 r8
  | 19, v, w => v = .int .i64 s
  | 20, v, w => v = .int .u64 m
  | 21, v, w => v = .int .u64 (bits .xor .u64 a m)
  | 22, v, w => v = .pointer (some ⟨g, 0, none⟩)
  | 23, v, w => v = .pointer (some ⟨g, 2, none⟩)
  | 24, v, w => v = .pointer (some ⟨g, 2 + x * 5, none⟩)
  | 25, v, w => v = .pointer (some ⟨g, 2 + x * 5 + y, none⟩)
  | _, _, _ => True
theorem Vlr_keep (g t q x y r8 s : Nat) (a c m : Int) (i1 : Nat) (v : Value) (w w' : World) (h : Vlr g t q x y r8 s a c m i1 v w) (r : (fun w w' => Below w.heap.size w w') w w') : Vlr g t q x y r8 s a c m i1 v w' := by
  rcases i1 with _ | _ | _ | _ | _ | _ | _ | _ | _ | _ | _ | _ | _ | _ | _ | _ | _ | _ | _ | _ | _ | _ | _ | _ | _ | _ | _
  · exact h
  · exact h
  · exact h
  · exact h
  · exact h
  · exact h
  · exact h
  · exact h
  · exact h
  · exact h
  · exact h
  · exact h
  · exact h
  · exact h
  · exact h
  · exact h
  · exact h
  · exact h
  · exact h
  · exact h
  · exact h
  · exact h
  · exact h
  · exact h
  · exact h
  · exact h
  · trivial
theorem zero49 (w : World) : (zeroValue 49).run Tryd.prog w = .ok (.agg (#[Value.int .i64 0, .int .u8 0] ++ (arr .u64 25 (fun _ => 0) ++ #[Value.int .i64 0, .bool false]))) w := by kernel_rfl
theorem new10 (rt : Nat) (en : Int) (w : World) (h8 : 8 ≤ rt) (h192 : rt ≤ 192) (hm : rt % 8 = 0) :
    Calls Tryd.prog 10 #[.int .i64 rt, .int .u8 en] w fun e w' => ∃ g, e = .returned (.pointer (some ⟨g, 0, none⟩)) ∧ w.heap.size ≤ g ∧ Spr w' g rt en (fun _ => 0) 0 false ∧ Below w.heap.size w w' := by
  have hz := zero49
  have e1 : (rt : Int) % 8 = 0 := by omega
  have e2 : (rt : Int).tmod 8 = 0 := by rw [Int.tmod_eq_emod_of_nonneg (by omega)]; omega
  have d1 : decide ((rt : Int) < 8) = false := by simp; omega
  have d2 : decide ((rt : Int) > 192) = false := by simp; omega
  go_enter Tryd.func10, Tryd.ntmps10
  go_wp2_with fail
  go_ret
  refine ⟨_, rfl, Nat.le_refl _, ⟨?_⟩, (Below.refl _ _).alloc (Nat.le_refl _) _⟩
  rw [heap_alloc_new]
/-- A byte laid into the document's order of the words. -/
theorem layf_ta (W : Nat → Int) (t : Nat) (c : Int) (ht : t < 200) : ∀ i, i < 25 → upd (Zt W) (t / 8 % 5 * 5 + t / 8 / 5) (bits .xor .u64 (W (t / 8)) (IntKind.u64.wrap (c * 2 ^ (t % 8 * 8)))) i = Zt (layf W t c) i := by
  intro i hi
  unfold Zt layf upd
  by_cases h : i = t / 8 % 5 * 5 + t / 8 / 5
  · rw [if_pos h, if_pos (by unfold ta; omega)]
  · rw [if_neg h, if_neg (by unfold ta; omega)]
set_option maxRecDepth 20000 in
set_option maxHeartbeats 4000000 in
theorem lay26 (g t : Nat) (rt en at_ : Int) (gv : Bool) (V : Nat → Int) (c : Int) (w : World) (hS : Spr w g rt en (Zt V) at_ gv) (ht : t < 200) (hc : 0 ≤ c ∧ c < 256) :
    Calls Tryd.prog 26 #[.pointer (some ⟨g, 0, none⟩), .int .i64 t, .int .u8 c] w fun e w' => e = .returned (.tuple #[]) ∧ Spr w' g rt en (Zt (layf V t c)) at_ gv ∧ w.grownBy w' (some g) := by
  have HT := Lib.hid (layf_ta V t c ht)
  obtain ⟨q, hq⟩ : ∃ q, t / 8 = q := ⟨_, rfl⟩
  obtain ⟨r8, hr⟩ : ∃ r, t % 8 = r := ⟨_, rfl⟩
  obtain ⟨s, hs⟩ : ∃ s, r8 * 8 = s := ⟨_, rfl⟩
  obtain ⟨x, hx⟩ : ∃ x, q % 5 = x := ⟨_, rfl⟩
  obtain ⟨y, hy⟩ : ∃ y, q / 5 = y := ⟨_, rfl⟩
  obtain ⟨m, hm⟩ : ∃ m, IntKind.u64.wrap (c * 2 ^ s) = m := ⟨_, rfl⟩
  obtain ⟨a, ha⟩ : ∃ a, V q = a := ⟨_, rfl⟩
  obtain ⟨W, hW⟩ : ∃ W, Zt V = W := ⟨_, rfl⟩
  have HA : Hid (some (Value.int .u64 (W (x * 5 + y))) = some (.int .u64 a)) := Lib.hid (by rw [← hW, ← ha]; show some (Value.int .u64 (V (ta (x * 5 + y)))) = _; rw [show ta (x * 5 + y) = q by unfold ta; omega])
  rw [hq, hr, hs, hx, hy, hm, ha, hW] at HT
  rw [hW] at hS
  have hx5 : x < 5 := by omega
  have hy5 : y < 5 := by omega
  have t1 : (t : Int) / 8 = (q : Int) := by omega
  have t2 : (t : Int).tdiv 8 = (q : Int) := by rw [Int.tdiv_eq_ediv_of_nonneg (by omega)]; omega
  have t3 : (t : Int) % 8 = (r8 : Int) := by omega
  have t4 : (t : Int).tmod 8 = (r8 : Int) := by rw [Int.tmod_eq_emod_of_nonneg (by omega)]; omega
  have t5 : 8 * (r8 : Int) = (s : Int) := by omega
  have t6 : (q : Int) % 5 = (x : Int) := by omega
  have t7 : (q : Int).tmod 5 = (x : Int) := by rw [Int.tmod_eq_emod_of_nonneg (by omega)]; omega
  have t8 : (q : Int) / 5 = (y : Int) := by omega
  have t9 : (q : Int).tdiv 5 = (y : Int) := by rw [Int.tdiv_eq_ediv_of_nonneg (by omega)]; omega
  have z0 : (0 : Int) ≤ (x : Int) := by omega
  have z1 : (x : Int) < 5 := by omega
  have z3 : (0 : Int) ≤ (y : Int) := by omega
  have z4 : (y : Int) < 5 := by omega
  have z2 : (0 : Int) ≤ (s : Int) := by omega
  have e1 : IntKind.i64.wrap (q : Int) = (q : Int) := IntWalk.i64_in _ (by omega)
  have e2 : IntKind.i64.wrap (s : Int) = (s : Int) := IntWalk.i64_in _ (by omega)
  have e4 : IntKind.i64.wrap (x : Int) = (x : Int) := IntWalk.i64_in _ (by omega)
  have e5 : IntKind.i64.wrap (y : Int) = (y : Int) := IntWalk.i64_in _ (by omega)
  have e3 : IntKind.u64.wrap c = c := by rw [IntKind.wrap_u64]; omega
  have hs64 : s < 64 := by omega
  have h2 := hS.drew
  have g2 := grown_below (World.grownBy.refl w (some g)) ((Below.refl w.heap.size w).drew)
  clear hq hr hs hx hy ha hS hW
  go_enter Tryd.func26, Tryd.ntmps26
  go_upto_region 1 with fail
  refine region_monoT 26 (fun x1 => Spr x1 g rt en W at_ gv ∧ w.grownBy x1 (some g)) (fun w w' => Below w.heap.size w w') (Vlr g t q x y r8 s a c m) [(0, some 9), (1, some 10), (2, some 11), (3, some 12), (4, some 13), (5, some 14), (6, some 15), (7, some 16), (8, some 17), (9, some 18), (10, some 19), (11, some 20), (12, some 21), (13, some 22), (14, some 23), (15, some 24), (16, some 25), (17, some 26), (18, some 27), (19, some 28), (20, some 29), (21, some 30), (22, some 31), (23, some 32), (24, some 33), (25, some 34)] (by kernel_rfl) (by kernel_rfl) (by kernel_rfl) (by kernel_rfl) (fun _ _ h r => ⟨h.1.below r h.1.lt, grown_below h.2 r⟩) (fun i1 v1 w1 w2 _ h1 r1 => Vlr_keep g t q x y r8 s a c m i1 v1 w1 w2 h1 r1) (⟨h2, g2⟩) ?_ (fun vs w' hS hV => ?_)
  · refine StepsL.cons0  (by kernel_rfl)  ?_ ?_
    · rintro w1 hS  K hK
      (try simp only [Act.put, List.setIfInBounds_toArray, List.set_cons_zero, List.set_cons_succ])
      go_simp
      exact hK.out _ _ rfl (Below.refl _ _)
    refine StepsL.cons0  (by kernel_rfl)  ?_ ?_
    · rintro w1 hS  K hK
      (try simp only [Act.put, List.setIfInBounds_toArray, List.set_cons_zero, List.set_cons_succ])
      go_simp
      exact hK.out _ _ rfl (Below.refl _ _)
    refine StepsL.cons1 1 (some 10) (by kernel_rfl) rfl ?_ ?_
    · rintro w1 hS _ rfl K hK
      (try simp only [Act.put, List.setIfInBounds_toArray, List.set_cons_zero, List.set_cons_succ])
      go_simp
      exact hK.out _ _ rfl (Below.refl _ _)
    refine StepsL.cons0  (by kernel_rfl)  ?_ ?_
    · rintro w1 hS  K hK
      (try simp only [Act.put, List.setIfInBounds_toArray, List.set_cons_zero, List.set_cons_succ])
      go_simp
      exact hK.out _ _ rfl (Below.refl _ _)
    refine StepsL.cons1 3 (some 12) (by kernel_rfl) rfl ?_ ?_
    · rintro w1 hS _ rfl K hK
      (try simp only [Act.put, List.setIfInBounds_toArray, List.set_cons_zero, List.set_cons_succ])
      go_simp
      exact hK.out _ _ rfl (Below.refl _ _)
    refine StepsL.cons0  (by kernel_rfl)  ?_ ?_
    · rintro w1 hS  K hK
      (try simp only [Act.put, List.setIfInBounds_toArray, List.set_cons_zero, List.set_cons_succ])
      go_simp
      exact hK.out _ _ rfl (Below.refl _ _)
    refine StepsL.cons0  (by kernel_rfl)  ?_ ?_
    · rintro w1 hS  K hK
      (try simp only [Act.put, List.setIfInBounds_toArray, List.set_cons_zero, List.set_cons_succ])
      go_simp
      exact hK.out _ _ rfl (Below.refl _ _)
    refine StepsL.cons1 6 (some 15) (by kernel_rfl) rfl ?_ ?_
    · rintro w1 hS _ rfl K hK
      (try simp only [Act.put, List.setIfInBounds_toArray, List.set_cons_zero, List.set_cons_succ])
      go_simp
      exact hK.out _ _ rfl (Below.refl _ _)
    refine StepsL.cons0  (by kernel_rfl)  ?_ ?_
    · rintro w1 hS  K hK
      (try simp only [Act.put, List.setIfInBounds_toArray, List.set_cons_zero, List.set_cons_succ])
      go_simp
      exact hK.out _ _ rfl (Below.refl _ _)
    refine StepsL.cons1 8 (some 17) (by kernel_rfl) rfl ?_ ?_
    · rintro w1 hS _ rfl K hK
      (try simp only [Act.put, List.setIfInBounds_toArray, List.set_cons_zero, List.set_cons_succ])
      go_simp
      exact hK.out _ _ rfl (Below.refl _ _)
    refine StepsL.cons1 5 (some 14) (by kernel_rfl) rfl ?_ ?_
    · rintro w1 hS _ rfl K hK
      (try simp only [Act.put, List.setIfInBounds_toArray, List.set_cons_zero, List.set_cons_succ])
      go_simp
      exact hK.out _ _ rfl (Below.refl _ _)
    refine StepsL.cons1 10 (some 19) (by kernel_rfl) rfl ?_ ?_
    · rintro w1 hS _ rfl K hK
      (try simp only [Act.put, List.setIfInBounds_toArray, List.set_cons_zero, List.set_cons_succ])
      go_simp
      exact hK.out _ _ rfl (Below.refl _ _)
    refine StepsL.cons2 7 (some 16) 11 (some 20) (by kernel_rfl) rfl rfl ?_ ?_
    · rintro w1 hS _ rfl _ rfl K hK
      (try simp only [Act.put, List.setIfInBounds_toArray, List.set_cons_zero, List.set_cons_succ])
      go_simp
      exact hK.out _ _ rfl (Below.refl _ _)
    refine StepsL.cons2 9 (some 18) 12 (some 21) (by kernel_rfl) rfl rfl ?_ ?_
    · rintro w1 hS _ rfl _ rfl K hK
      (try simp only [Act.put, List.setIfInBounds_toArray, List.set_cons_zero, List.set_cons_succ])
      go_simp
      exact hK.out _ _ rfl (Below.refl _ _)
    refine StepsL.cons1 13 (some 22) (by kernel_rfl) rfl ?_ ?_
    · rintro w1 hS _ rfl K hK
      (try simp only [Act.put, List.setIfInBounds_toArray, List.set_cons_zero, List.set_cons_succ])
      have hcl := hS.1.cell (x * 5 + y) (by omega) |>.trans HA.out
      rw [← Nat.add_assoc] at hcl
      go_simp
      exact hK.out _ _ rfl (Below.refl _ _)
    refine StepsL.cons0  (by kernel_rfl)  ?_ ?_
    · rintro w1 hS  K hK
      (try simp only [Act.put, List.setIfInBounds_toArray, List.set_cons_zero, List.set_cons_succ])
      go_simp
      exact hK.out _ _ rfl (Below.refl _ _)
    refine StepsL.cons1 15 (some 24) (by kernel_rfl) rfl ?_ ?_
    · rintro w1 hS _ rfl K hK
      (try simp only [Act.put, List.setIfInBounds_toArray, List.set_cons_zero, List.set_cons_succ])
      go_simp
      exact hK.out _ _ rfl (Below.refl _ _)
    refine StepsL.cons0  (by kernel_rfl)  ?_ ?_
    · rintro w1 hS  K hK
      (try simp only [Act.put, List.setIfInBounds_toArray, List.set_cons_zero, List.set_cons_succ])
      go_simp
      exact hK.out _ _ rfl (Below.refl _ _)
    refine StepsL.cons1 17 (some 26) (by kernel_rfl) rfl ?_ ?_
    · rintro w1 hS _ rfl K hK
      (try simp only [Act.put, List.setIfInBounds_toArray, List.set_cons_zero, List.set_cons_succ])
      go_simp
      exact hK.out _ _ rfl (Below.refl _ _)
    refine StepsL.cons1 18 (some 27) (by kernel_rfl) rfl ?_ ?_
    · rintro w1 hS _ rfl K hK
      (try simp only [Act.put, List.setIfInBounds_toArray, List.set_cons_zero, List.set_cons_succ])
      go_simp
      exact hK.out _ _ rfl (Below.refl _ _)
    refine StepsL.cons2 16 (some 25) 19 (some 28) (by kernel_rfl) rfl rfl ?_ ?_
    · rintro w1 hS _ rfl _ rfl K hK
      (try simp only [Act.put, List.setIfInBounds_toArray, List.set_cons_zero, List.set_cons_succ])
      go_simp
      exact hK.out _ _ rfl (Below.refl _ _)
    refine StepsL.cons2 14 (some 23) 20 (some 29) (by kernel_rfl) rfl rfl ?_ ?_
    · rintro w1 hS _ rfl _ rfl K hK
      (try simp only [Act.put, List.setIfInBounds_toArray, List.set_cons_zero, List.set_cons_succ])
      go_simp
      exact hK.out _ _ rfl (Below.refl _ _)
    refine StepsL.cons1 0 (some 9) (by kernel_rfl) rfl ?_ ?_
    · rintro w1 hS _ rfl K hK
      (try simp only [Act.put, List.setIfInBounds_toArray, List.set_cons_zero, List.set_cons_succ])
      go_simp
      exact hK.out _ _ rfl (Below.refl _ _)
    refine StepsL.cons1 22 (some 31) (by kernel_rfl) rfl ?_ ?_
    · rintro w1 hS _ rfl K hK
      (try simp only [Act.put, List.setIfInBounds_toArray, List.set_cons_zero, List.set_cons_succ])
      go_simp
      exact hK.out _ _ rfl (Below.refl _ _)
    refine StepsL.cons2 2 (some 11) 23 (some 32) (by kernel_rfl) rfl rfl ?_ ?_
    · rintro w1 hS _ rfl _ rfl K hK
      (try simp only [Act.put, List.setIfInBounds_toArray, List.set_cons_zero, List.set_cons_succ])
      go_simp
      exact hK.out _ _ rfl (Below.refl _ _)
    refine StepsL.cons2 4 (some 13) 24 (some 33) (by kernel_rfl) rfl rfl ?_ ?_
    · rintro w1 hS _ rfl _ rfl K hK
      (try simp only [Act.put, List.setIfInBounds_toArray, List.set_cons_zero, List.set_cons_succ])
      go_simp
      exact hK.out _ _ rfl (Below.refl _ _)
    exact StepsL.nil
  · have e13 : vs 21 = .int .u64 (bits .xor .u64 a m) := hV 21 (by omega)
    have e16 : vs 25 = .pointer (some ⟨g, 2 + x * 5 + y, none⟩) := hV 25 (by omega)
    simp only [putl, List.foldl_cons, List.foldl_nil, Act.put, List.setIfInBounds_toArray, List.set_cons_zero, List.set_cons_succ, e13, e16]
    simp only [List.drop_succ_cons, List.drop_zero]
    obtain ⟨h3, g3⟩ := hS
    have hcl := h3.cell (x * 5 + y) (by omega)
    have hff := h3.frozen (2 + (x * 5 + y))
    have h4 := (h3.set (x * 5 + y) (bits .xor .u64 a m) (by omega)).congr HT.out
    have g4 := grown_set' g3 ⟨g, 2 + (x * 5 + y), none⟩ (.int .u64 (bits .xor .u64 a m)) (.inl rfl)
    rw [← Nat.add_assoc] at hcl hff h4 g4
    clear hV e13 e16 h3 g3
    go_wp2_with fail
    go_end0
    exact ⟨rfl, h4, g4⟩
end Go.Proofs.YtgjcofneecebjaaDoor
