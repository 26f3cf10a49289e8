/- Put. -/
import Derived.Test.YtjabkfccfecmgaaV
namespace Go.Proofs.Ytjabkfccfecmgaa
open Go.ChangeShapes Go.WideShapes Go.ChangeAt Go.RowKit
set_option linter.unusedSimpArgs false
set_option linter.unusedVariables false
def V7 (B g vb p pc m c : Nat) (ao : Option Addr) : Nat → Value → World → Prop
  | 0, v, w => v = .pointer (some ⟨vb, 0, none⟩)
  | 1, v, w => v = .pointer (some ⟨vb, 0, none⟩)
  | 2, v, w => v = .pointer (some ⟨vb, 0, none⟩)
  | 3, v, w => v = .pointer (some ⟨g, 0, none⟩)
  | 4, v, w => v = .pointer (some ⟨vb, 0, none⟩)
  | 5, v, w => v = .pointer (some ⟨vb, 0, none⟩)
  | 6, v, w => v = .pointer (some ⟨vb, 0, none⟩)
  | 7, v, w => v = .pointer (some ⟨g, 0, none⟩)
  | 8, v, w => v = .int .i64 (p : Nat)
  | 9, v, w => v = .int .i64 (pc : Nat)
  | 10, v, w => v = .slice ao m c
  | 11, v, w => ∃ (Y q : World), LI q Y (q.heap.size + 2) (q.heap.size + 1) q.heap.size g pc (ao.getD ⟨0, 0, none⟩) m (List.range (nP m)) w ∧ w.heap[q.heap.size + 2]? = some (.cells #[v] 51 (0, 0)) ∧ q.heap.size + 5 ≤ Y.heap.size ∧ B ≤ q.heap.size
  | 12, v, w => ∃ (Y q : World), LI q Y (q.heap.size + 2) (q.heap.size + 1) q.heap.size g pc (ao.getD ⟨0, 0, none⟩) m (List.range (nP m)) w ∧ w.heap[q.heap.size + 2]? = some (.cells #[v] 51 (0, 0)) ∧ q.heap.size + 5 ≤ Y.heap.size ∧ B ≤ q.heap.size
  | _, _, _ => True
theorem V7_keep (B g vb p pc m c : Nat) (ao : Option Addr) (i1 : Nat) (v : Value) (w w' : World) (h : V7 B g vb p pc m c ao i1 v w) (r : (fun w w' => Below w.heap.size w w') w w') : V7 B g vb p pc m c ao i1 v w' := by
  rcases i1 with _ | _ | _ | _ | _ | _ | _ | _ | _ | _ | _ | _ | _ | _
  · exact h
  · exact h
  · exact h
  · exact h
  · exact h
  · exact h
  · exact h
  · exact h
  · exact h
  · exact h
  · exact h
  · obtain ⟨Y, q, i1, i2, i3, i4⟩ := h; exact ⟨Y, q, i1.kc (kc_below r) (i1.b.trans (r.mono i1.b.size)) r.size, kc_below r _ _ _ _ i2, i3, i4⟩
  · obtain ⟨Y, q, i1, i2, i3, i4⟩ := h; exact ⟨Y, q, i1.kc (kc_below r) (i1.b.trans (r.mono i1.b.size)) r.size, kc_below r _ _ _ _ i2, i3, i4⟩
  · trivial
def V8 (g vb xv xp xh : Nat) (lv : Value) : Nat → Value → World → Prop
  | 0, v, w => v = lv
  | 1, v, w => v = .pointer (some ⟨vb, 0, none⟩)
  | 2, v, w => v = .pointer (some ⟨vb, 0, none⟩)
  | 3, v, w => v = .pointer (some ⟨vb, 0, none⟩)
  | 4, v, w => v = .pointer (some ⟨g, 0, none⟩)
  | 5, v, w => v = .func (.func 25) #[.pointer (some ⟨g, 0, none⟩)] #[]
  | 6, v, w => v = .func (.func 26) #[] #[.pointer (some ⟨xv, 0, none⟩), .pointer (some ⟨xp, 0, none⟩), .pointer (some ⟨xh, 0, none⟩)]
  | 7, v, w => v = .pointer (some ⟨vb, 0, none⟩)
  | 8, v, w => v = .pointer (some ⟨vb, 0, none⟩)
  | 9, v, w => v = .pointer (some ⟨vb, 0, none⟩)
  | 10, v, w => v = .pointer (some ⟨g, 0, none⟩)
  | 11, v, w => v = .func (.func 25) #[.pointer (some ⟨g, 0, none⟩)] #[]
  | 12, v, w => ∃ q, v = .slice (some ⟨q, 0, none⟩) 3 3 ∧ w.heap[q]? = some (.cells #[.func (.func 25) #[.pointer (some ⟨g, 0, none⟩)] #[], .func (.func 26) #[] #[.pointer (some ⟨xv, 0, none⟩), .pointer (some ⟨xp, 0, none⟩), .pointer (some ⟨xh, 0, none⟩)], .func (.func 25) #[.pointer (some ⟨g, 0, none⟩)] #[]] 68 (0, 0))
  | _, _, _ => True
theorem V8_keep (g vb xv xp xh : Nat) (lv : Value) (i1 : Nat) (v : Value) (w w' : World) (h : V8 g vb xv xp xh lv i1 v w) (r : (fun w w' => Below w.heap.size w w') w w') : V8 g vb xv xp xh lv i1 v w' := by
  rcases i1 with _ | _ | _ | _ | _ | _ | _ | _ | _ | _ | _ | _ | _ | _
  · exact h
  · exact h
  · exact h
  · exact h
  · exact h
  · exact h
  · exact h
  · exact h
  · exact h
  · exact h
  · exact h
  · exact h
  · obtain ⟨q, h1, h2⟩ := h; exact ⟨q, h1, (r.block q (Array.getElem?_eq_some_iff.1 h2).1).trans h2⟩
  · trivial
def V9 (g vb p p2 m c : Nat) (so : Option Addr) (r : Bool) : Nat → Value → World → Prop
  | 0, v, w => v = .pointer (some ⟨vb, 0, none⟩)
  | 1, v, w => v = .slice so m c
  | 2, v, w => v = .pointer (some ⟨vb, 0, none⟩)
  | 3, v, w => v = .pointer (some ⟨vb, 0, none⟩)
  | 4, v, w => v = .pointer (some ⟨vb, 0, none⟩)
  | 5, v, w => v = .pointer (some ⟨g, 0, none⟩)
  | 6, v, w => v = .int .i64 (p : Nat)
  | 7, v, w => v = .int .i64 (p2 : Nat)
  | 8, v, w => ∃ so m c, v = .slice so m c
  | 9, v, w => ∃ so m c, v = .slice so m c
  | 10, v, w => v = .bool (!r)
  | 11, v, w => v = .bool r
  | 12, v, w => v = .pointer (some ⟨vb, 0, none⟩)
  | 13, v, w => v = .pointer (some ⟨vb, 2, none⟩)
  | 14, v, w => True
  | _, _, _ => True
theorem V9_w {g vb p p2 m c : Nat} {so : Option Addr} {r : Bool} {i : Nat} {v : Value} {w w' : World} (h : V9 g vb p p2 m c so r i v w) : V9 g vb p p2 m c so r i v w' := by
  rcases i with _ | _ | _ | _ | _ | _ | _ | _ | _ | _ | _ | _ | _ | _ | _ | _
  · exact h
  · exact h
  · exact h
  · exact h
  · exact h
  · exact h
  · exact h
  · exact h
  · exact h
  · exact h
  · exact h
  · exact h
  · exact h
  · exact h
  · exact h
  · exact h
theorem V9_k {g vb p p2 m c : Nat} {so : Option Addr} {r : Bool} {i : Nat} {v : Value} {w w' : World} (h : i < 15 → V9 g vb p p2 m c so r i v w) : V9 g vb p p2 m c so r i v w' := by
  by_cases h8 : i < 15
  · exact V9_w (h h8)
  · obtain ⟨j, rfl⟩ : ∃ j, i = j + 15 := ⟨i - 15, by omega⟩
    trivial
/-- Where the last statement of Put stands. -/
structure S9 (A : Nat → Prop) (g b n vb xv p2 : Nat) (vo vn : Array Value) (ao : Option Addr) (D : List Byte) (L : List Ac) (d' : DS) (w0 w9 : World) (l8 : Bool) (v8 : Value) (l9 : Bool) (v9 : Value) (l10 : Bool) (v10 v11 : Value) (l14 : Bool) (w : World) : Prop where
  x : w.heap[xv]? = some (.cells #[.pointer (some ⟨vb, 0, none⟩)] 27 (0, 0))
  u8 : l8 = false → v8 = undef
  u9 : l9 = false → v9 = undef
  u10 : l10 = false → v10 = undef ∧ v11 = undef
  bl : l9 = false → Below w9.heap.size w9 w
  p8 : l8 = true → l9 = false → P8 g b n p2 w9 v8 w
  p9 : l9 = true → l10 = false → P9 g b vb ao D w0 L v9 w
  p10 : l10 = true → l14 = false → Dk A w g b n d' ∧ Frm A g b w0 w ∧ w.heap[vb]? = some (.cells vo 57 (0, 0))
  p14 : l14 = true → Dk A w g b n d' ∧ Frm (fun k => A k ∨ k = vb) g b w0 w ∧ w.heap[vb]? = some (.cells vn 57 (0, 0))
theorem bool_no {a x y : Bool} (h : a = x) (e : a = y) (hne : x ≠ y) : False := hne (h.symm.trans e)
theorem bool_undef {v : Value} {a : Bool} (h : a = false → v = undef) (e : v ≠ undef) : a = true := by
  cases a with
  | true => rfl
  | false => exact absurd (h rfl) e
section
variable {A : Nat → Prop} {w w' : World} {g b n : Nat} {d : DS}
theorem frm_or {vb : Nat} (h : Frm A g b w w') : Frm (fun k => A k ∨ k = vb) g b w w' := ⟨h.os, h.tape, h.output, h.size, fun k h1 h2 h3 h4 => h.block k h1 h2 h3 (fun e => h4 (.inl e))⟩
/-- What Put leaves. -/
structure PutO (A : Nat → Prop) (w : World) (g b n vb count : Nat) (D : List Byte) (d : DS) (e : Ending) (w' : World) : Prop where
  dk : Dk A w' g b n (runA n d (putS n (count + 1) D)).2
  frm : Frm (fun k => A k ∨ k = vb) g b w w'
  yes : (runA n d (putS n (count + 1) D)).1 = false → e = .returned (.int .i64 0) ∧ w'.heap[vb]? = some (.cells #[.pointer (some ⟨g, 0, none⟩), .int .i64 ((count + 1 : Nat) : Int), .bool false] 57 (0, 0))
  no : (runA n d (putS n (count + 1) D)).1 = true → e = .returned (.int .i64 201) ∧ w'.heap[vb]? = some (.cells #[.pointer (some ⟨g, 0, none⟩), .int .i64 (count : Int), .bool true] 57 (0, 0))
set_option maxRecDepth 20000 in
set_option maxHeartbeats 16000000 in
theorem put10 (hD : Dk A w g b n d) (hA : ∀ k, w.heap.size ≤ k → A k) (hn : 4 ≤ n) (hn2 : n ≤ 100) (hW : d.W.length ≤ 400) (vb count : Nat) (hv : w.heap[vb]? = some (.cells #[.pointer (some ⟨g, 0, none⟩), .int .i64 (count : Int), .bool false] 57 (0, 0)))
    (hva : ¬ A vb) (hcn : count + 1 < 4611686018427387904) (ao : Option Addr) (m c : Nat) (D : List Byte) (hm : m = D.length) (hmc : m ≤ c) (hO : Obs A g b w ao D) (hfit : m ≤ (n - 2) / 2 * 512) :
    Calls Try.prog 10 #[.pointer (some ⟨vb, 0, none⟩), .slice ao m c] w (PutO A w g b n vb count D d) := by
  have hgl := hD.lt
  have hgb := hD.bg
  have hvg : vb ≠ g := fun e => by
    obtain ⟨wv, h1, _⟩ := hD.at_
    rw [e, h1] at hv
    injection hv with hv
    injection hv with h1 h2
    cases h2
  have hvbb : vb ≠ b := fun e => by
    have h0 := hD.sec.rng 0 (by omega) 0 _ (List.getElem?_eq_getElem (by rw [List.length_map, hD.sec.len 0 (by omega)]; decide))
    have h1 : w.cell? ⟨b, 0, none⟩ = some (.pointer (some ⟨g, 0, none⟩)) := by rw [← e, cell_of_row _ _ _ _ _ _ hv]; rfl
    rw [show 0 * 512 + 0 = 0 from rfl, h1] at h0
    injection h0 with h0
    rw [List.getElem_map] at h0
    cases h0
  have hvl := (Array.getElem?_eq_some_iff.1 hv).1
  obtain ⟨w1, hw1⟩ : ∃ w1, w.alloc (.cells #[.pointer (some ⟨vb, 0, none⟩)] 27) = w1 := ⟨_, rfl⟩
  have b1 : Below w.heap.size w w1 := by rw [← hw1]; exact (Below.refl _ w).alloc (Nat.le_refl _) _
  have v1 := (b1.block vb hvl).trans hv
  have H11 := room11 (hD.below b1) (by omega) hn2 v1
  obtain ⟨xv, hxv⟩ : ∃ xv, xv = w.heap.size := ⟨_, rfl⟩
  have x1 : w1.heap[xv]? = some (.cells #[.pointer (some ⟨vb, 0, none⟩)] 27 (0, 0)) := by rw [← hw1, hxv]; exact heap_alloc_new w _
  have c0 : w1.cell? ⟨xv, 0, none⟩ = some (.pointer (some ⟨vb, 0, none⟩)) := by rw [cell_of_row _ _ _ _ _ _ x1]; rfl
  have c1 : w1.cell? ⟨vb, 0, none⟩ = some (.pointer (some ⟨g, 0, none⟩)) := by rw [cell_of_row _ _ _ _ _ _ v1]; rfl
  have c2 : w1.cell? ⟨vb, 1, none⟩ = some (.int .i64 (count : Int)) := by rw [cell_of_row _ _ _ _ _ _ v1]; rfl
  have c3 : w1.cell? ⟨vb, 2, none⟩ = some (.bool false) := by rw [cell_of_row _ _ _ _ _ _ v1]; rfl
  obtain ⟨rm, hrm⟩ : ∃ rm, rm = (n - 2) / 2 * 512 := ⟨_, rfl⟩
  rw [← hrm] at H11 hfit
  obtain ⟨C, hC⟩ : ∃ C, C = count + 1 := ⟨_, rfl⟩
  have e1 : IntKind.i64.wrap ((count : Int) + 1) = (C : Int) := by rw [IntWalk.i64_in _ (by omega), hC]; push_cast; rfl
  have f1 : decide ((m : Int) > (rm : Int)) = false := by simp; omega
  have f2 : decide (rm < m) = false := by simp; omega
  have HD := Lib.hid (And.intro hA (And.intro hn (And.intro hn2 hW)))
  have HV := Lib.hid (And.intro hD (And.intro hv (And.intro hva (And.intro hvg (And.intro hvbb hvl)))))
  have HB := Lib.hid (And.intro hm (And.intro hmc (And.intro hO (And.intro hfit hrm))))
  have H1 := Lib.hid (And.intro b1 (And.intro x1 (And.intro v1 (And.intro hxv (And.intro hC hcn)))))
  clear hD hA hn hn2 hW hv hva hvg hvbb hvl hm hmc hO hfit hrm b1 x1 v1 hC hcn hgl hgb
  go_enter Try.func10, Try.ntmps10
  go_upto_region 1 with fail
  rw [← hxv]
  clear hw1 hxv
  go_upto_region 7 with (first
    | (go_at_call 11; (with_reducible refine H11.mono ?_); rintro e w3 ⟨rfl, hw⟩; obtain rfl : w1 = w3 := hw.symm))
  obtain ⟨p, hp⟩ : ∃ p, p = C % 2 := ⟨_, rfl⟩
  rw [show (C : Int) % 2 = (p : Int) by omega]
  obtain ⟨w8, hw8⟩ : ∃ w8, (w1.alloc (.cells #[.int .i64 (C : Int), .int .i64 (m : Int)] 46)).alloc (.cells #[.int .i64 (p : Int)] 3) = w8 := ⟨_, rfl⟩
  obtain ⟨xh, hxh⟩ : ∃ q, q = w1.heap.size := ⟨_, rfl⟩
  obtain ⟨xp, hxp⟩ : ∃ q, q = w1.heap.size + 1 := ⟨_, rfl⟩
  have b8 : Below w1.heap.size w1 w8 := by rw [← hw8]; exact ((Below.refl _ w1).alloc (Nat.le_refl _) _).alloc (by simp) _
  have h8h : w8.heap[xh]? = some (.cells #[.int .i64 (C : Int), .int .i64 (m : Int)] 46 (0, 0)) := by rw [← hw8, hxh]; exact (Below.heap_alloc _ _ _ (by simp)).trans (heap_alloc_new w1 _)
  have h8p : w8.heap[xp]? = some (.cells #[.int .i64 (p : Int)] 3 (0, 0)) := by rw [← hw8, hxp]; have := heap_alloc_new (w1.alloc (.cells #[.int .i64 (C : Int), .int .i64 (m : Int)] 46)) (.cells #[.int .i64 (p : Int)] 3); rwa [World.size_alloc] at this
  have h8x := (b8.block xv (Array.getElem?_eq_some_iff.1 H1.out.2.1).1).trans H1.out.2.1
  have h8v := (b8.block vb (Array.getElem?_eq_some_iff.1 H1.out.2.2.1).1).trans H1.out.2.2.1
  rw [hw8, ← hxp, ← hxh]
  have hs1 := H1.out.1.size
  have H8 := Lib.hid (And.intro (below_then H1.out.1 b8) (And.intro h8x (And.intro h8v (And.intro h8h (And.intro h8p (And.intro (show w.heap.size ≤ xh ∧ w.heap.size ≤ xp by omega) (show w.heap.size ≤ xv by rw [H1.out.2.2.2.1]; exact Nat.le_refl _)))))))
  have H7 := Lib.hid (And.intro (HV.out.1.below H8.out.1) HD.out.2.1)
  obtain ⟨pc, hpc⟩ : ∃ pc, 2 + p * ((n - 2) / 2) = pc := ⟨_, rfl⟩
  have hpl : pc ≤ 1000 := by
    rw [← hpc]
    have h2 := HD.out.2.2.1
    have : p * ((n - 2) / 2) ≤ 1 * ((n - 2) / 2) := Nat.mul_le_mul_right _ (by omega)
    omega
  have HE := Lib.hid (And.intro hpc (show p < 2 ∧ pc ≤ 1000 by omega))
  have HPC := Lib.hid hp
  have HM := Lib.hid (show (0 < m → ao = some (ao.getD ⟨0, 0, none⟩)) ∧ m ≤ c ∧ m ≤ 100000 from ⟨fun h => by
    cases ao with
    | some a => rfl
    | none => have := HB.out.2.2.1.nil rfl; have := HB.out.1; simp_all, HB.out.2.1, by have := HB.out.2.2.2; have := HD.out.2.2.1; omega⟩)
  have KEY := Lib.hid (show ∀ W, Below w8.heap.size w8 W → W.cell? ⟨xv, 0, none⟩ = some (.pointer (some ⟨vb, 0, none⟩)) ∧ W.cell? ⟨vb, 0, none⟩ = some (.pointer (some ⟨g, 0, none⟩)) ∧ W.cell? ⟨xp, 0, none⟩ = some (.int .i64 (p : Int)) ∧ True from fun W bb =>
    ⟨cell_below (by rw [cell_of_row _ _ _ _ _ _ h8x]; rfl) bb, cell_below (by rw [cell_of_row _ _ _ _ _ _ h8v]; rfl) bb, cell_below (by rw [cell_of_row _ _ _ _ _ _ h8p]; rfl) bb, trivial⟩)
  clear hw8 hxh hxp b8 h8h h8p h8x h8v hs1 hp hpc hpl c0 c1 c2 c3 f1 f2 H11
  refine region_monoL (fun w1 => Below w8.heap.size w8 w1) (fun w w' => Below w.heap.size w w') (V7 w8.heap.size g vb p pc m c ao) [(0, some 30), (1, some 31), (2, some 32), (3, some 33), (4, some 34), (5, some 35), (6, some 36), (7, some 37), (8, some 38), (9, some 39), (10, some 40), (11, some 41), (12, some 7)] (by kernel_rfl) (by kernel_rfl) (by kernel_rfl) (fun _ _ h r => below_then h r) (fun i1 v1 w1 w2 _ h1 r1 => V7_keep w8.heap.size g vb p pc m c ao i1 v1 w1 w2 h1 r1) ((Below.refl _ w8).drew) ?_ (fun vs WQ hS hV => ?_)
  · refine StepsL.cons0  (by kernel_rfl)  ?_ ?_
    · rintro w1 hS  K hK
      (try simp only [Act.put, List.setIfInBounds_toArray, List.set_cons_zero, List.set_cons_succ])
      obtain ⟨kx, kv, kp, _⟩ := KEY.out _ hS
      go_simp
      exact hK.out _ _ rfl (Below.refl _ _)
    refine StepsL.cons1 0 (some 30) (by kernel_rfl) rfl ?_ ?_
    · rintro w1 hS _ rfl K hK
      (try simp only [Act.put, List.setIfInBounds_toArray, List.set_cons_zero, List.set_cons_succ])
      go_simp
      exact hK.out _ _ rfl (Below.refl _ _)
    refine StepsL.cons1 1 (some 31) (by kernel_rfl) rfl ?_ ?_
    · rintro w1 hS _ rfl K hK
      (try simp only [Act.put, List.setIfInBounds_toArray, List.set_cons_zero, List.set_cons_succ])
      go_simp
      exact hK.out _ _ rfl (Below.refl _ _)
    refine StepsL.cons1 2 (some 32) (by kernel_rfl) rfl ?_ ?_
    · rintro w1 hS _ rfl K hK
      (try simp only [Act.put, List.setIfInBounds_toArray, List.set_cons_zero, List.set_cons_succ])
      obtain ⟨kx, kv, kp, _⟩ := KEY.out _ hS
      go_simp
      exact hK.out _ _ rfl (Below.refl _ _)
    refine StepsL.cons0  (by kernel_rfl)  ?_ ?_
    · rintro w1 hS  K hK
      (try simp only [Act.put, List.setIfInBounds_toArray, List.set_cons_zero, List.set_cons_succ])
      obtain ⟨kx, kv, kp, _⟩ := KEY.out _ hS
      go_simp
      exact hK.out _ _ rfl (Below.refl _ _)
    refine StepsL.cons1 4 (some 34) (by kernel_rfl) rfl ?_ ?_
    · rintro w1 hS _ rfl K hK
      (try simp only [Act.put, List.setIfInBounds_toArray, List.set_cons_zero, List.set_cons_succ])
      go_simp
      exact hK.out _ _ rfl (Below.refl _ _)
    refine StepsL.cons1 5 (some 35) (by kernel_rfl) rfl ?_ ?_
    · rintro w1 hS _ rfl K hK
      (try simp only [Act.put, List.setIfInBounds_toArray, List.set_cons_zero, List.set_cons_succ])
      go_simp
      exact hK.out _ _ rfl (Below.refl _ _)
    refine StepsL.cons1 6 (some 36) (by kernel_rfl) rfl ?_ ?_
    · rintro w1 hS _ rfl K hK
      (try simp only [Act.put, List.setIfInBounds_toArray, List.set_cons_zero, List.set_cons_succ])
      obtain ⟨kx, kv, kp, _⟩ := KEY.out _ hS
      go_simp
      exact hK.out _ _ rfl (Below.refl _ _)
    refine StepsL.cons0  (by kernel_rfl)  ?_ ?_
    · rintro w1 hS  K hK
      (try simp only [Act.put, List.setIfInBounds_toArray, List.set_cons_zero, List.set_cons_succ])
      obtain ⟨kx, kv, kp, _⟩ := KEY.out _ hS
      go_simp
      exact hK.out _ _ rfl (Below.refl _ _)
    refine StepsL.cons2 7 (some 37) 8 (some 38) (by kernel_rfl) rfl rfl ?_ ?_
    · rintro w1 hS _ rfl _ rfl K hK
      (try simp only [Act.put, List.setIfInBounds_toArray, List.set_cons_zero, List.set_cons_succ])
      have HC := (show _ from HE.out.1 ▸ place22 (H7.out.1.below hS) (by have := H7.out.2; omega) p HE.out.2.1)
      go_simp
      go_at_call 22
      (with_reducible refine HC.mono ?_)
      rintro e w2 ⟨rfl, hw⟩
      obtain rfl : w1 = w2 := hw.symm
      exact hK.out _ _ rfl (Below.refl _ _)
    refine StepsL.cons0  (by kernel_rfl)  ?_ ?_
    · rintro w1 hS  K hK
      (try simp only [Act.put, List.setIfInBounds_toArray, List.set_cons_zero, List.set_cons_succ])
      go_simp
      exact hK.out _ _ rfl (Below.refl _ _)
    refine StepsL.cons3 3 (some 33) 9 (some 39) 10 (some 40) (by kernel_rfl) rfl rfl rfl ?_ ?_
    · rintro w1 hS _ rfl _ rfl _ rfl K hK
      (try simp only [Act.put, List.setIfInBounds_toArray, List.set_cons_zero, List.set_cons_succ])
      have HC := lay24 w1 g pc ao m c (ao.getD ⟨0, 0, none⟩) HM.out.1 HM.out.2.1 (by have := HM.out.2.2; omega) (by have := HE.out.2.2; omega)
      go_simp
      go_at_call 24
      (with_reducible refine HC.mono ?_)
      rintro e w2 ⟨lv, rfl, Y, i1, i2, i3⟩
      exact hK.out _ _ ⟨Y, w1, i1, i2, i3, hS.size⟩ i1.b
    refine StepsL.cons1 11 (some 41) (by kernel_rfl) rfl ?_ ?_
    · rintro w1 hS _ ⟨Y, q, i1, i2, i3, i4⟩ K hK
      (try simp only [Act.put, List.setIfInBounds_toArray, List.set_cons_zero, List.set_cons_succ])
      go_simp
      exact hK.out _ _ ⟨Y, q, i1, i2, i3, i4⟩ (Below.refl _ _)
    exact StepsL.nil
  obtain ⟨Y, q, i1, i2, i3, i4⟩ := hV 12 (by decide)
  obtain ⟨lv, hlv⟩ : ∃ lv, vs 12 = lv := ⟨_, rfl⟩
  rw [hlv] at i2
  have bQ : Below w8.heap.size w8 WQ := hS
  simp only [putl, List.foldl_cons, List.foldl_nil, Act.put, List.setIfInBounds_toArray, List.set_cons_zero, List.set_cons_succ]
  rw [hlv]
  clear hV hS hlv
  have hmD := HB.out.1
  have hsq := H8.out.1.size
  obtain ⟨valsL, oL, fzL⟩ : ∃ vals, WQ.ownsRow Y.heap.size 68 1 lv (nP D.length) vals ∧ Fz w.heap.size g vb ao D WQ vals (layA pc D) :=
    LI.fz (by rw [← hmD]; exact i1) i2 (by omega) (by omega) (by rw [← hmD]; exact HM.out.1)
  have oL2 := own_le oL (show w.heap.size ≤ Y.heap.size by omega)
  obtain ⟨NL, hNL⟩ : ∃ NL, NL = nP D.length := ⟨_, rfl⟩
  rw [← hNL] at oL2
  obtain ⟨lo, lc, rfl⟩ := row_form oL2
  have HQ := Lib.hid (And.intro bQ (And.intro oL2 (And.intro fzL hNL)))
  have HK := Lib.hid (show ∀ W, Below WQ.heap.size WQ W → (W.heap[xv]? = some (.cells #[.pointer (some ⟨vb, 0, none⟩)] 27 (0, 0)) ∧ W.heap[xh]? = some (.cells #[.int .i64 (C : Int), .int .i64 (m : Int)] 46 (0, 0))) ∧ W.heap[xp]? = some (.cells #[.int .i64 (p : Int)] 3 (0, 0)) ∧ W.heap[vb]? = some (.cells #[.pointer (some ⟨g, 0, none⟩), .int .i64 (count : Int), .bool false] 57 (0, 0)) from fun W bb => by
    have k := kc_below (bQ.trans (bb.mono bQ.size))
    exact ⟨⟨k _ _ _ _ H8.out.2.1, k _ _ _ _ H8.out.2.2.2.1⟩, k _ _ _ _ H8.out.2.2.2.2.1, k _ _ _ _ H8.out.2.2.1⟩)
  have KEY8 := Lib.hid (show ∀ W, Below WQ.heap.size WQ W → W.cell? ⟨xv, 0, none⟩ = some (.pointer (some ⟨vb, 0, none⟩)) ∧ W.cell? ⟨vb, 0, none⟩ = some (.pointer (some ⟨g, 0, none⟩)) ∧ W.cell? ⟨xp, 0, none⟩ = some (.int .i64 (p : Int)) ∧ True from fun W bb =>
    ⟨by rw [cell_of_row _ _ _ _ _ _ (HK.out W bb).1.1]; rfl, by rw [cell_of_row _ _ _ _ _ _ (HK.out W bb).2.2]; rfl, by rw [cell_of_row _ _ _ _ _ _ (HK.out W bb).2.1]; rfl, trivial⟩)
  clear bQ oL oL2 fzL hNL i1 i2 i3 i4 hmD hsq
  go_upto_region 8 with fail
  refine region_monoT 13 (fun w1 => Below WQ.heap.size WQ w1) (fun w w' => Below w.heap.size w w') (V8 g vb xv xp xh (.slice lo NL lc)) [(0, some 42), (1, some 43), (2, some 44), (3, some 45), (4, some 46), (5, some 47), (6, some 48), (7, some 49), (8, some 50), (9, some 51), (10, some 52), (11, some 53), (12, some 54)] (by kernel_rfl) (by kernel_rfl) (by kernel_rfl) (by kernel_rfl) (fun _ _ h r => below_then h r) (fun i1 v1 w1 w2 _ h1 r1 => V8_keep g vb xv xp xh (.slice lo NL lc) i1 v1 w1 w2 h1 r1) ((Below.refl _ WQ).drew) ?_ (fun vs w2 hS hV => ?_)
  · refine StepsL.cons0  (by kernel_rfl)  ?_ ?_
    · rintro w1 hS  K hK
      (try simp only [Act.put, List.setIfInBounds_toArray, List.set_cons_zero, List.set_cons_succ])
      go_simp
      exact hK.out _ _ rfl (Below.refl _ _)
    refine StepsL.cons0  (by kernel_rfl)  ?_ ?_
    · rintro w1 hS  K hK
      (try simp only [Act.put, List.setIfInBounds_toArray, List.set_cons_zero, List.set_cons_succ])
      obtain ⟨kx, kv, kp, kw⟩ := KEY8.out _ hS
      go_simp
      exact hK.out _ _ rfl (Below.refl _ _)
    refine StepsL.cons1 1 (some 43) (by kernel_rfl) rfl ?_ ?_
    · rintro w1 hS _ rfl K hK
      (try simp only [Act.put, List.setIfInBounds_toArray, List.set_cons_zero, List.set_cons_succ])
      go_simp
      exact hK.out _ _ rfl (Below.refl _ _)
    refine StepsL.cons1 2 (some 44) (by kernel_rfl) rfl ?_ ?_
    · rintro w1 hS _ rfl K hK
      (try simp only [Act.put, List.setIfInBounds_toArray, List.set_cons_zero, List.set_cons_succ])
      go_simp
      exact hK.out _ _ rfl (Below.refl _ _)
    refine StepsL.cons1 3 (some 45) (by kernel_rfl) rfl ?_ ?_
    · rintro w1 hS _ rfl K hK
      (try simp only [Act.put, List.setIfInBounds_toArray, List.set_cons_zero, List.set_cons_succ])
      obtain ⟨kx, kv, kp, kw⟩ := KEY8.out _ hS
      go_simp
      exact hK.out _ _ rfl (Below.refl _ _)
    refine StepsL.cons1 4 (some 46) (by kernel_rfl) rfl ?_ ?_
    · rintro w1 hS _ rfl K hK
      (try simp only [Act.put, List.setIfInBounds_toArray, List.set_cons_zero, List.set_cons_succ])
      go_simp
      exact hK.out _ _ rfl (Below.refl _ _)
    refine StepsL.cons0  (by kernel_rfl)  ?_ ?_
    · rintro w1 hS  K hK
      (try simp only [Act.put, List.setIfInBounds_toArray, List.set_cons_zero, List.set_cons_succ])
      go_simp
      exact hK.out _ _ rfl (Below.refl _ _)
    refine StepsL.cons0  (by kernel_rfl)  ?_ ?_
    · rintro w1 hS  K hK
      (try simp only [Act.put, List.setIfInBounds_toArray, List.set_cons_zero, List.set_cons_succ])
      obtain ⟨kx, kv, kp, kw⟩ := KEY8.out _ hS
      go_simp
      exact hK.out _ _ rfl (Below.refl _ _)
    refine StepsL.cons1 7 (some 49) (by kernel_rfl) rfl ?_ ?_
    · rintro w1 hS _ rfl K hK
      (try simp only [Act.put, List.setIfInBounds_toArray, List.set_cons_zero, List.set_cons_succ])
      go_simp
      exact hK.out _ _ rfl (Below.refl _ _)
    refine StepsL.cons1 8 (some 50) (by kernel_rfl) rfl ?_ ?_
    · rintro w1 hS _ rfl K hK
      (try simp only [Act.put, List.setIfInBounds_toArray, List.set_cons_zero, List.set_cons_succ])
      go_simp
      exact hK.out _ _ rfl (Below.refl _ _)
    refine StepsL.cons1 9 (some 51) (by kernel_rfl) rfl ?_ ?_
    · rintro w1 hS _ rfl K hK
      (try simp only [Act.put, List.setIfInBounds_toArray, List.set_cons_zero, List.set_cons_succ])
      obtain ⟨kx, kv, kp, kw⟩ := KEY8.out _ hS
      go_simp
      exact hK.out _ _ rfl (Below.refl _ _)
    refine StepsL.cons1 10 (some 52) (by kernel_rfl) rfl ?_ ?_
    · rintro w1 hS _ rfl K hK
      (try simp only [Act.put, List.setIfInBounds_toArray, List.set_cons_zero, List.set_cons_succ])
      go_simp
      exact hK.out _ _ rfl (Below.refl _ _)
    refine StepsL.cons3 5 (some 47) 6 (some 48) 11 (some 53) (by kernel_rfl) rfl rfl rfl ?_ ?_
    · rintro w1 hS _ rfl _ rfl _ rfl K hK
      (try simp only [Act.put, List.setIfInBounds_toArray, List.set_cons_zero, List.set_cons_succ])
      go_simp
      exact hK.out _ _ ⟨w1.heap.size, rfl, heap_alloc_new w1 _⟩ ((Below.refl _ _).alloc (Nat.le_refl _) _)
    exact StepsL.nil
  obtain ⟨q12, e12, h12⟩ := hV 12 (by decide)
  have e0 : vs 0 = .slice lo NL lc := hV 0 (by decide)
  have b2 : Below WQ.heap.size WQ w2 := hS
  simp only [putl, List.foldl_cons, List.foldl_nil, Act.put, List.setIfInBounds_toArray, List.set_cons_zero, List.set_cons_succ, List.drop_succ_cons, List.drop_zero]
  rw [e0, e12]
  clear hV hS e0 e12
  obtain ⟨i0, hin, hz0, hz1, hz2⟩ := info_parts info68
  have o2 : w2.ownsRow w.heap.size 68 1 (.slice lo NL lc) NL valsL := rowKeep HQ.out.2.1 fun q hq => b2.block q (own_lt HQ.out.2.1 hq).1
  have sr := srow_cells (n := 3) (xs := [.func (.func 25) #[.pointer (some ⟨g, 0, none⟩)] #[], .func (.func 26) #[] #[.pointer (some ⟨xv, 0, none⟩), .pointer (some ⟨xp, 0, none⟩), .pointer (some ⟨xh, 0, none⟩)], .func (.func 25) #[.pointer (some ⟨g, 0, none⟩)] #[]]) h12 rfl rfl (by intro u hu; simp at hu; rcases hu with rfl | rfl | rfl <;> rfl)
  have hNLb : NL ≤ 60 := by rw [HQ.out.2.2.2]; have h1 := HB.out.1; have h2 := HB.out.2.2.2.1; have h3 := HB.out.2.2.2.2; have h4 := HD.out.2.2.1; unfold nP; omega
  have hsw := H8.out.1.size
  have hsq := HQ.out.1.size
  have hs2 := b2.size
  refine wpList_app_any rfl (.tmp 42) (.tmp 54) 51 rfl w.heap.size 68 i0 .nilFunc 1 8 Try.underlying51 hin hz0 hz1 hz2 rfl (by decide) (.slice lo NL lc) NL valsL rfl o2 (some ⟨q12, 0, none⟩) 3 3 _ rfl (by rw [sr.len]) sr.nil sr.news sr.one (by unfold maxLen; omega) (by omega) (by omega) ?_
  intro v9 w9 o9 g9
  obtain ⟨so8, c8, rfl⟩ := row_form o9
  have hr : ∀ k, (Value.slice lo NL lc).ownBlock = some k → w.heap.size ≤ k ∧ T68 w2 k := fun k hk => by
    obtain ⟨l1, cs, l2⟩ := own_lt o2 hk
    refine ⟨?_, cs, _, l2⟩
    rcases o2.2 with ⟨e, _⟩ | ⟨q', cap, cur, e, hb, _⟩
    · rw [e] at hk; cases hk
    · rw [e] at hk; injection hk with hk; rw [← hk]; exact hb
  have bw2 : Below w.heap.size w w2 := below_then (below_then H8.out.1 HQ.out.1) b2
  have b9 : Below w.heap.size w w9 := bw2.grown g9 (by omega) (fun k e => (hr k e).1)
  have hbl : ∀ a, ao = some a → D ≠ [] → a.block < w.heap.size := fun a ha hne => by
    cases D with
    | nil => exact absurd rfl hne
    | cons x r => exact (HB.out.2.2.1.cells a ha 0 x rfl).1.lt
  have fz2 := (HQ.out.2.2.1.below b2 HV.out.2.2.2.2.2 hbl (by omega)).grow _ g9 hr HV.out.2.2.2.2.2 hbl (by omega)
  have stay : ∀ (k : Nat) (cs : Array Value) (t : TypeId), t ≠ 68 → w2.heap[k]? = some (.cells cs t (0, 0)) → w9.heap[k]? = some (.cells cs t (0, 0)) := fun k cs t ht hk => (g9.block k (Array.getElem?_eq_some_iff.1 hk).1 (fun e => not68 hk ht (hr k e.symm).2)).trans hk
  obtain ⟨⟨s1, s2⟩, s3, s4⟩ := HK.out w2 b2
  have k1 := stay _ _ _ (by decide) s1
  have k2 := stay _ _ _ (by decide) s2
  have k3 := stay _ _ _ (by decide) s3
  have k4 := stay _ _ _ (by decide) s4
  have hfz : Fz w.heap.size g vb ao D w9 (valsL ++ [.func (.func 25) #[.pointer (some ⟨g, 0, none⟩)] #[], .func (.func 26) #[] #[.pointer (some ⟨xv, 0, none⟩), .pointer (some ⟨xp, 0, none⟩), .pointer (some ⟨xh, 0, none⟩)], .func (.func 25) #[.pointer (some ⟨g, 0, none⟩)] #[]]) (putA n C D) := by
    unfold putA
    rw [← HPC.out, HE.out.1]
    refine fz2.app fun A' b' hk hvb hobs => ?_
    have okx := hk xv H8.out.2.2.2.2.2.2 (Array.getElem?_eq_some_iff.1 k1).1 (not68 k1 (by decide))
    have okh := hk xh H8.out.2.2.2.2.2.1.1 (Array.getElem?_eq_some_iff.1 k2).1 (not68 k2 (by decide))
    have okp := hk xp H8.out.2.2.2.2.2.1.2 (Array.getElem?_eq_some_iff.1 k3).1 (not68 k3 (by decide))
    obtain ⟨y0, y1, _, _⟩ := two_of k2
    have hmD := HB.out.1
    have hmr := HB.out.2.2.2.1
    have hrr := HB.out.2.2.2.2
    have hcc := H1.out.2.2.2.2.1
    have hcn := H1.out.2.2.2.2.2
    have hn2 := HD.out.2.2.1
    refine (fv_one (a := .sy) rfl).app ((fv_one (a := .wr p (hd C D.length)) (.inr (.inr ⟨C, D.length, xv, vb, xp, xh, rfl, rfl, ⟨by omega, by omega⟩, okx, hvb, okp, okh, ?_, ?_, ?_, y0, by rw [← hmD]; exact y1⟩))).app (fv_one (a := .sy) rfl))
    · rw [cell_of_row _ _ _ _ _ _ k1]; rfl
    · rw [cell_of_row _ _ _ _ _ _ k4]; rfl
    · rw [cell_of_row _ _ _ _ _ _ k3]; rfl
  obtain ⟨N8, hN8⟩ : ∃ N8, N8 = NL + 3 := ⟨_, rfl⟩
  rw [← hN8] at o9 ⊢
  obtain ⟨vals8, hvals8⟩ : ∃ vals8, vals8 = valsL ++ [.func (.func 25) #[.pointer (some ⟨g, 0, none⟩)] #[], .func (.func 26) #[] #[.pointer (some ⟨xv, 0, none⟩), .pointer (some ⟨xp, 0, none⟩), .pointer (some ⟨xh, 0, none⟩)], .func (.func 25) #[.pointer (some ⟨g, 0, none⟩)] #[]] := ⟨_, rfl⟩
  rw [← hvals8] at o9 hfz
  obtain ⟨p2, hp2⟩ : ∃ p2, p2 = 1 - p := ⟨_, rfl⟩
  have hp2l := HE.out.2.1
  obtain ⟨r, d2, hrd⟩ : ∃ r d2, runA n d (putA n C D ++ eraseA n p2) = (r, d2) := ⟨_, _, rfl⟩
  have hPS : runA n d (putS n (count + 1) D) = (r, d2) := by unfold putS; rw [← H1.out.2.2.2.2.1, ← HPC.out, ← hp2]; exact hrd
  have HPS := Lib.hid hPS
  have hel : (eraseA n p2).length ≤ 60 := by rw [eraseA_len]; have := HD.out.2.2.1; unfold nP; omega
  have hpal : (putA n C D).length = N8 := by rw [putA_len, hN8, HQ.out.2.2.2]
  have HI := Lib.hid (And.intro hin (And.intro hz0 (And.intro hz1 hz2)))
  have H9D := Lib.hid (And.intro HV.out.1 (And.intro b9 (show p2 < 2 by omega)))
  have HP9 := Lib.hid (And.intro b9 (And.intro o9 (And.intro hfz (And.intro hpal.symm (And.intro HV.out.2.2.2.2.2 (And.intro hbl (show N8 ≤ 100 ∧ (eraseA n p2).length ≤ 60 by omega)))))))
  have HLL := Lib.hid (And.intro (show (putA n C D ++ eraseA n p2).length ≤ 1000 by rw [List.length_append]; omega) (And.intro (show Ok A g b w vb from ⟨HV.out.2.2.2.2.2, HV.out.2.2.2.1, HV.out.2.2.2.2.1, HV.out.2.2.1⟩) HB.out.2.2.1))
  have HR2 := Lib.hid (And.intro hrd HV.out.2.1)
  have HX9 := Lib.hid H8.out.2.2.2.2.2.2
  have HVX := Lib.hid (show vb ≠ xv from fun e => by have h1 := HV.out.2.2.2.2.2; have h2 := H8.out.2.2.2.2.2.2; omega)
  have HOB := Lib.hid (show ∀ w1 w2 : World, w1.grownBy w2 (Value.slice so8 N8 c8).ownBlock → xv < w1.heap.size → w2.heap[xv]? = w1.heap[xv]? from fun w1 w2 j hl => j.block xv hl (fun e => by
    obtain ⟨_, cs, l2⟩ := own_lt o9 e.symm
    exact not68 k1 (by decide) ⟨cs, _, l2⟩))
  have KEY9 := Lib.hid (show ∀ W, Below w9.heap.size w9 W → W.cell? ⟨xv, 0, none⟩ = some (.pointer (some ⟨vb, 0, none⟩)) ∧ W.cell? ⟨vb, 0, none⟩ = some (.pointer (some ⟨g, 0, none⟩)) ∧ W.cell? ⟨xp, 0, none⟩ = some (.int .i64 (p : Int)) ∧ True from fun W bb =>
    ⟨cell_below (by rw [cell_of_row _ _ _ _ _ _ k1]; rfl) bb, cell_below (by rw [cell_of_row _ _ _ _ _ _ k4]; rfl) bb, cell_below (by rw [cell_of_row _ _ _ _ _ _ k3]; rfl) bb, trivial⟩)
  have H9S := Lib.hid (show S9 A g b n vb xv p2 #[.pointer (some ⟨g, 0, none⟩), .int .i64 (count : Int), .bool false] #[.pointer (some ⟨g, 0, none⟩), .int .i64 (count : Int), .bool r] ao D (putA n C D ++ eraseA n p2) d2 w w9 false undef false undef false undef undef false w9.drew from
    ⟨k1, fun _ => rfl, fun _ => rfl, fun _ => ⟨rfl, rfl⟩, fun _ => (Below.refl _ w9).drew, (fun e => by cases e), (fun e => by cases e), (fun e => by cases e), (fun e => by cases e)⟩)
  have hwp : IntKind.i64.wrap (1 - (p : Int)) = (p2 : Int) := by rw [IntWalk.i64_in _ (by omega)]; omega
  clear o2 sr hNLb hsw hsq hs2 hr bw2 b9 hbl fz2 stay s1 s2 s3 s4 k1 k2 k3 k4 hfz hN8 hvals8 hp2 hp2l hrd hPS hel hpal hin hz0 hz1 hz2 o9 g9 b2 h12
  go_upto_region 9 with fail
  refine region_monoI (fun vs L x9 => S9 A g b n vb xv p2 #[.pointer (some ⟨g, 0, none⟩), .int .i64 (count : Int), .bool false] #[.pointer (some ⟨g, 0, none⟩), .int .i64 (count : Int), .bool r] ao D (putA n C D ++ eraseA n p2) d2 w w9 (L 8) (vs 8) (L 9) (vs 9) (L 10) (vs 10) (vs 11) (L 14) x9) (fun _ _ _ _ _ => True) (fun _ _ => V9 g vb p p2 N8 c8 so8 r) [(0, some 56), (1, some 57), (2, some 58), (3, some 59), (4, some 60), (5, some 61), (6, some 62), (7, some 63), (8, some 64), (9, some 65), (10, some 66), (11, some 67), (12, some 68), (13, some 69), (14, none)] (by kernel_rfl) (by kernel_rfl) (by kernel_rfl) (fun L vs k1 i1 v' w1 w2 hk hC hC2 hLk hLi hA r1 => V9_k (fun h8 => hA i1 h8 hLi)) (fun L vs i1 v1 w1 hL h => h) H9S.out ?_ (fun vs WF L hS hLL hV => ?_)
  · refine StepsI.cons0  (by kernel_rfl)  ?_ ?_
    · rintro L hC hL vs w1 hS hAll  K hK
      (try simp only [Act.put, List.setIfInBounds_toArray, List.set_cons_zero, List.set_cons_succ])
      have kx : w1.cell? ⟨xv, 0, none⟩ = some (.pointer (some ⟨vb, 0, none⟩)) := (by rw [cell_of_row _ _ _ _ _ _ hS.x]; rfl)
      go_simp
      exact hK.out _ _ rfl ⟨hS, trivial⟩
    refine StepsI.cons0  (by kernel_rfl)  ?_ ?_
    · rintro L hC hL vs w1 hS hAll  K hK
      (try simp only [Act.put, List.setIfInBounds_toArray, List.set_cons_zero, List.set_cons_succ])
      go_simp
      exact hK.out _ _ rfl ⟨hS, trivial⟩
    refine StepsI.cons0  (by kernel_rfl)  ?_ ?_
    · rintro L hC hL vs w1 hS hAll  K hK
      (try simp only [Act.put, List.setIfInBounds_toArray, List.set_cons_zero, List.set_cons_succ])
      have kx : w1.cell? ⟨xv, 0, none⟩ = some (.pointer (some ⟨vb, 0, none⟩)) := (by rw [cell_of_row _ _ _ _ _ _ hS.x]; rfl)
      go_simp
      exact hK.out _ _ rfl ⟨hS, trivial⟩
    refine StepsI.cons1 2 (some 58) (by kernel_rfl) rfl ?_ ?_
    · rintro L hC hL vs w1 hS hAll y2 x2 rfl K hK
      (try simp only [Act.put, List.setIfInBounds_toArray, List.set_cons_zero, List.set_cons_succ])
      go_simp
      exact hK.out _ _ rfl ⟨hS, trivial⟩
    refine StepsI.cons1 3 (some 59) (by kernel_rfl) rfl ?_ ?_
    · rintro L hC hL vs w1 hS hAll y3 x3 rfl K hK
      (try simp only [Act.put, List.setIfInBounds_toArray, List.set_cons_zero, List.set_cons_succ])
      go_simp
      exact hK.out _ _ rfl ⟨hS, trivial⟩
    refine StepsI.cons1 4 (some 60) (by kernel_rfl) rfl ?_ ?_
    · rintro L hC hL vs w1 hS hAll y4 x4 rfl K hK
      (try simp only [Act.put, List.setIfInBounds_toArray, List.set_cons_zero, List.set_cons_succ])
      obtain ⟨kx, kv, kp, kw⟩ := KEY9.out _ (hS.bl (hC.no (hC.no hL (j := 8) rfl (by kernel_rfl)) (j := 9) rfl (by kernel_rfl)))
      go_simp
      exact hK.out _ _ rfl ⟨hS, trivial⟩
    refine StepsI.cons0  (by kernel_rfl)  ?_ ?_
    · rintro L hC hL vs w1 hS hAll  K hK
      (try simp only [Act.put, List.setIfInBounds_toArray, List.set_cons_zero, List.set_cons_succ])
      obtain ⟨kx, kv, kp, kw⟩ := KEY9.out _ (hS.bl (hC.no (hC.no (hC.no hL (j := 7) rfl (by kernel_rfl)) (j := 8) rfl (by kernel_rfl)) (j := 9) rfl (by kernel_rfl)))
      go_simp
      exact hK.out _ _ rfl ⟨hS, trivial⟩
    refine StepsI.cons1 6 (some 62) (by kernel_rfl) rfl ?_ ?_
    · rintro L hC hL vs w1 hS hAll y6 x6 rfl K hK
      (try simp only [Act.put, List.setIfInBounds_toArray, List.set_cons_zero, List.set_cons_succ])
      go_simp
      exact hK.out _ _ rfl ⟨hS, trivial⟩
    refine StepsI.cons2 5 (some 61) 7 (some 63) (by kernel_rfl) rfl rfl ?_ ?_
    · rintro L hC hL vs w1 hS hAll y5 x5 rfl y7 x7 rfl K hK
      (try simp only [Act.put, List.setIfInBounds_toArray, List.set_cons_zero, List.set_cons_succ])
      have h9 := (hC.no hL (j := 9) rfl (by kernel_rfl))
      have h10 := (hC.no (hC.no hL (j := 9) rfl (by kernel_rfl)) (j := 10) rfl (by kernel_rfl))
      have h14 := (hC.no (hC.no (hC.no (hC.no hL (j := 9) rfl (by kernel_rfl)) (j := 10) rfl (by kernel_rfl)) (j := 11) rfl (by kernel_rfl)) (j := 14) rfl (by kernel_rfl))
      have b1 := hS.bl h9
      have HC := erase21 ((H9D.out.1.below H9D.out.2.1).below b1) HD.out.2.1 HD.out.2.2.1 p2 H9D.out.2.2
      go_simp
      go_at_call 21
      (with_reducible refine HC.mono ?_)
      rintro e w2 ⟨v2, m2, vals2, rfl, o2, b2, f2⟩
      obtain ⟨sa2, ca2, rfl⟩ := row_form o2
      exact hK.out _ _ ⟨sa2, m2, ca2, rfl⟩ ⟨⟨(b2.block xv (Array.getElem?_eq_some_iff.1 hS.x).1).trans hS.x, (fun e => by cases e), hS.u9, hS.u10, fun _ => below_then b1 b2, fun _ _ => ⟨sa2, m2, ca2, vals2, rfl, own_le o2 b1.size, f2 _ (fun k h1 h2 h3 => by have := b1.size; have h3 : k < w9.heap.size := h3; omega)⟩, (fun e => (bool_no h9 e (by decide)).elim), (fun e => (bool_no h10 e (by decide)).elim), (fun e => (bool_no h14 e (by decide)).elim)⟩, trivial⟩
    refine StepsI.cons2 1 (some 57) 8 (some 64) (by kernel_rfl) rfl rfl ?_ ?_
    · rintro L hC hL vs w1 hS hAll y1 x1 rfl y8 x8 ⟨so9', m8, cc8, rfl⟩ K hK
      (try simp only [Act.put, List.setIfInBounds_toArray, List.set_cons_zero, List.set_cons_succ])
      have h9 : L 9 = false := hL
      have h10 := (hC.no hL (j := 10) rfl (by kernel_rfl))
      have h14 := (hC.no (hC.no (hC.no hL (j := 10) rfl (by kernel_rfl)) (j := 11) rfl (by kernel_rfl)) (j := 14) rfl (by kernel_rfl))
      have b1 := hS.bl h9
      have h8 := bool_undef hS.u8 (by rw [x8]; exact fun e => by cases e)
      have p8 := hS.p8 h8 h9
      rw [x8] at p8
      obtain ⟨vals2, o1, sr, hml, hfin⟩ := put_app HP9.out.1 b1 HP9.out.2.1 HP9.out.2.2.1 HP9.out.2.2.2.1 HP9.out.2.2.2.2.1 HP9.out.2.2.2.2.2.1 p8
      rw [if_pos (by rfl)]
      refine wp_app_any (.tmp 57) (.tmp 64) 51 rfl w.heap.size 68 i0 .nilFunc 1 8 Try.underlying51 HI.out.1 HI.out.2.1 HI.out.2.2.1 HI.out.2.2.2 rfl (by decide) (.slice so8 N8 c8) N8 vals8 rfl o1 so9' m8 cc8 vals2 rfl (by rw [sr.len]; omega) sr.nil sr.news sr.one ?q1 ?q2 ?q3 ?_
      · have := HP9.out.2.2.2.2.2.2; unfold maxLen; omega
      · have := HP9.out.2.2.2.2.2.2; omega
      · exact Nat.le_trans HP9.out.1.size b1.size
      · intro v' w2 o2 g2
        obtain ⟨a9, c9, rfl⟩ := row_form o2
        exact hK.out _ _ ⟨a9, _, c9, rfl⟩ ⟨⟨(HOB.out w1 w2 g2 (Array.getElem?_eq_some_iff.1 hS.x).1).trans hS.x, hS.u8, (fun e => by cases e), hS.u10, (fun e => by cases e), (fun _ e => by cases e), fun _ _ => hfin _ _ o2 g2, (fun e => (bool_no h10 e (by decide)).elim), (fun e => (bool_no h14 e (by decide)).elim)⟩, trivial⟩
    refine StepsI.cons1 9 (some 65) (by kernel_rfl) rfl ?_ ?_
    · rintro L hC hL vs w1 hS hAll y9 x9 ⟨so9, m9, cc9, rfl⟩ K hK
      (try simp only [Act.put, List.setIfInBounds_toArray, List.set_cons_zero, List.set_cons_succ])
      have h10 : L 10 = false := hL
      have h14 := (hC.no (hC.no hL (j := 11) rfl (by kernel_rfl)) (j := 14) rfl (by kernel_rfl))
      have h9 := bool_undef hS.u9 (by rw [x9]; exact fun e => by cases e)
      have p9 := hS.p9 h9 h10
      rw [x9] at p9
      have hb9 := p9.choose_spec.choose_spec.choose_spec.choose_spec.2.2.2.1
      have HC := put_run H9D.out.1 HD.out.1 (by have := HD.out.2.2.2; omega) HLL.out.1 p9 HLL.out.2.1 HLL.out.2.2
      rw [HR2.out.1] at HC
      go_simp
      go_at_call 20
      (with_reducible refine HC.mono ?_)
      rintro e w2 ⟨rfl, hD2, hF2, hK2⟩
      exact hK.out _ _ rfl ⟨⟨(hK2 xv HX9.out (Array.getElem?_eq_some_iff.1 hS.x).1).trans hS.x, hS.u8, hS.u9, (fun e => by cases e), (fun e => (bool_no h9 e (by decide)).elim), (fun _ e => (bool_no h9 e (by decide)).elim), (fun _ e => by cases e), fun _ _ => ⟨hD2, hF2, (HLL.out.2.1.keep hF2).trans HR2.out.2⟩, (fun e => (bool_no h14 e (by decide)).elim)⟩, trivial⟩
    refine StepsI.cons1 10 (some 66) (by kernel_rfl) rfl ?_ ?_
    · rintro L hC hL vs w1 hS hAll y10 x10 rfl K hK
      (try simp only [Act.put, List.setIfInBounds_toArray, List.set_cons_zero, List.set_cons_succ])
      have h10 := bool_undef (fun e => (hS.u10 e).1) (by rw [x10]; exact fun e => by cases e)
      go_simp
      exact hK.out _ _ rfl ⟨⟨hS.x, hS.u8, hS.u9, (fun e => (bool_no h10 e (by decide)).elim), hS.bl, hS.p8, hS.p9, hS.p10, hS.p14⟩, trivial⟩
    refine StepsI.cons1 0 (some 56) (by kernel_rfl) rfl ?_ ?_
    · rintro L hC hL vs w1 hS hAll y0 x0 rfl K hK
      (try simp only [Act.put, List.setIfInBounds_toArray, List.set_cons_zero, List.set_cons_succ])
      go_simp
      exact hK.out _ _ rfl ⟨hS, trivial⟩
    refine StepsI.cons1 12 (some 68) (by kernel_rfl) rfl ?_ ?_
    · rintro L hC hL vs w1 hS hAll y12 x12 rfl K hK
      (try simp only [Act.put, List.setIfInBounds_toArray, List.set_cons_zero, List.set_cons_succ])
      go_simp
      exact hK.out _ _ rfl ⟨hS, trivial⟩
    refine StepsI.cons2 11 (some 67) 13 (some 69) (by kernel_rfl) rfl rfl ?_ ?_
    · rintro L hC hL vs w1 hS hAll y11 x11 rfl y13 x13 rfl K hK
      (try simp only [Act.put, List.setIfInBounds_toArray, List.set_cons_zero, List.set_cons_succ])
      have h14 : L 14 = false := hL
      have h10 := bool_undef (fun e => (hS.u10 e).2) (by rw [x11]; exact fun e => by cases e)
      obtain ⟨hD1, hF1, hv1⟩ := hS.p10 h10 h14
      have k2 : w1.cell? ⟨vb, 2, none⟩ = some (.bool false) := (by rw [cell_of_row _ _ _ _ _ _ hv1]; rfl)
      have kf : w1.frozen? ⟨vb, 2, none⟩ = false := frozen_of_row _ _ _ _ _ hv1
      go_simp
      exact hK.out undef _ trivial ⟨⟨(heap_setCell_other _ _ xv _ (fun e => HVX.out e.symm)).trans hS.x, hS.u8, hS.u9, (fun e => (bool_no h10 e (by decide)).elim), (fun e => (bool_no (hC 10 _ rfl h10 9 (by kernel_rfl)) e (by decide)).elim), (fun _ e => (bool_no (hC 10 _ rfl h10 9 (by kernel_rfl)) e (by decide)).elim), (fun _ e => (bool_no h10 e (by decide)).elim), (fun _ e => by cases e), fun _ => ⟨hD1.keep (by simp) (fun k hk hh => heap_setCell_other _ _ k _ (fun e => by subst e; exact hh.elim HLL.out.2.1.ng (fun hh => hh.elim HLL.out.2.1.nb HLL.out.2.1.na))), (frm_or hF1).setCell ⟨vb, 2, none⟩ _ (.inr (.inr (.inr rfl))), by rw [heap_setCell_same _ vb 2 _ 57 _ hv1]; rfl⟩⟩, trivial⟩
    exact StepsI.nil
  obtain ⟨hDf, hFf, hvf⟩ := hS.p14 (hLL 14 (by decide))
  have kx : WF.cell? ⟨xv, 0, none⟩ = some (.pointer (some ⟨vb, 0, none⟩)) := by rw [cell_of_row _ _ _ _ _ _ hS.x]; rfl
  have kv1 : WF.cell? ⟨vb, 1, none⟩ = some (.int .i64 (count : Int)) := by rw [cell_of_row _ _ _ _ _ _ hvf]; rfl
  have kv2 : WF.cell? ⟨vb, 2, none⟩ = some (.bool r) := by rw [cell_of_row _ _ _ _ _ _ hvf]; rfl
  have kf := frozen_of_row WF vb 1 _ _ hvf
  have HF := Lib.hid (And.intro hDf (And.intro hFf hvf))
  simp only [putl, List.foldl_cons, List.foldl_nil, Act.put, List.setIfInBounds_toArray, List.set_cons_zero, List.set_cons_succ]
  clear hV hS hLL hDf hFf hvf
  cases r with
  | true =>
    go_wp2_with fail
    go_ret
    refine ⟨by rw [HPS.out]; exact HF.out.1, HF.out.2.1, (fun e => by rw [HPS.out] at e; cases e), fun _ => ⟨rfl, HF.out.2.2⟩⟩
  | false =>
    go_wp2_with fail
    go_ret
    refine ⟨by rw [HPS.out]; exact HF.out.1.keep (by simp) (fun k hk hh => heap_setCell_other _ _ k _ (fun e => by subst e; exact hh.elim HLL.out.2.1.ng (fun hh => hh.elim HLL.out.2.1.nb HLL.out.2.1.na))), HF.out.2.1.setCell ⟨vb, 1, none⟩ _ (.inr (.inr (.inr rfl))), fun _ => ⟨rfl, ?_⟩, (fun e => by rw [HPS.out] at e; cases e)⟩
    rw [heap_setCell_same _ vb 1 _ 57 _ HF.out.2.2, H1.out.2.2.2.2.1.symm]; rfl
end
end Go.Proofs.Ytjabkfccfecmgaa
