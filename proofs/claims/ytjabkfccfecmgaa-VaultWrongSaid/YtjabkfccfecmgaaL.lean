/- The bytes of a head; how many sectors a part has; where it begins. -/
import Derived.Test.YtjabkfccfecmgaaK
import Derived.Test.YtjabkfccfecmgaaM3
import Derived.Lib.SlBytesConst
namespace Go.Proofs.Ytjabkfccfecmgaa
open Go.ChangeShapes Go.WideShapes Go.ChangeAt Go.RowKit
set_option linter.unusedSimpArgs false
set_option linter.unusedVariables false
abbrev SC : Array Value := #[.int .u8 83, .int .u8 79, .int .u8 68, .int .u8 65]
def sg : List Byte := [83#8, 79#8, 68#8, 65#8]
def h16 (c l : Nat) : List Byte := sg ++ be 8 c ++ be 4 l
def hd (c l : Nat) : List Byte := h16 c l ++ List.replicate 496 0#8
theorem h16_len (c l : Nat) : (h16 c l).length = 16 := by simp [h16, sg, be_len]
theorem hd_len (c l : Nat) : (hd c l).length = 512 := by unfold hd; rw [List.length_append, h16_len, List.length_replicate]
theorem run_conv (w : World) (q : Nat) (C : Array Value) (n c : Nat) (hq : w.heap[q]? = some (.cells C 5 (0, 0))) :
    (convert 23 23 (.slice (some ⟨q, 0, none⟩) n c)).run Try.prog w = .ok (.slice (some ⟨q, 0, none⟩) n c) (w.freeze ⟨q, C.size, none⟩ 1) := by
  have hsh : w.shape? q = some (5, C.size) := by
    unfold World.shape?
    rw [hq]
  simp [convert, run_underlying Try.underlying23, run_underlying Try.underlying5, markStringish, hsh]
theorem frz_same (w : World) (q : Nat) (C : Array Value) (hq : w.heap[q]? = some (.cells C 5 (0, 0))) : (w.freeze ⟨q, C.size, none⟩ 1).heap[q]? = some (.cells C 5 (C.size, C.size + 1)) := by
  unfold World.freeze
  rw [if_neg (by decide)]
  show (w.heap.modify q _)[q]? = _
  rw [Array.getElem?_modify, if_pos rfl, hq]
  rfl
theorem frz_other (w : World) (q k : Nat) (j : Nat) (hj : j ≠ q) : (w.freeze ⟨q, k, none⟩ 1).heap[j]? = w.heap[j]? := by
  unfold World.freeze
  rw [if_neg (by decide)]
  show (w.heap.modify q _)[j]? = _
  rw [Array.getElem?_modify, if_neg (fun e => hj e.symm)]
theorem frz_size (w : World) (q k : Nat) : (w.freeze ⟨q, k, none⟩ 1).heap.size = w.heap.size := by
  unfold World.freeze
  rw [if_neg (by decide)]
  show (w.heap.modify q _).size = _
  rw [Array.size_modify]
def S28 (w8 : World) (_ : Nat → Bool) (w : World) : Prop := Below w8.heap.size w8 w
theorem below_frz {B : Nat} {w8 w : World} (h : Below B w8 w) (q : Nat) (hq : B ≤ q) (k : Nat) : Below B w8 (w.freeze ⟨q, k, none⟩ 1) :=
  ⟨by unfold World.freeze; rw [if_neg (by decide)]; exact h.os, by unfold World.freeze; rw [if_neg (by decide)]; exact h.tape, by unfold World.freeze; rw [if_neg (by decide)]; exact h.output, by rw [frz_size]; exact h.size, fun j hj => (frz_other w q k j (by omega)).trans (h.block j hj)⟩
def R28 (k : Nat) (w w' : World) : Prop := (k ≠ 1 → Below w.heap.size w w') ∧ ∀ (j : Nat) o, w.heap[j]? = some o → o ≠ .cells SC 5 (0, 0) → w'.heap[j]? = some o
theorem R28.below {k : Nat} {w w' : World} (h : Below w.heap.size w w') : R28 k w w' := ⟨fun _ => h, fun j o ho _ => (h.block j (Array.getElem?_eq_some_iff.1 ho).1).trans ho⟩
theorem R28.frz (w : World) (q : Nat) (hq : w.heap[q]? = some (.cells SC 5 (0, 0))) : R28 1 w (w.freeze ⟨q, SC.size, none⟩ 1) :=
  ⟨fun e => absurd rfl e, fun j o ho hn => (frz_other w q _ j (fun e => hn (by rw [e, hq] at ho; injection ho with ho; exact ho.symm))).trans ho⟩
theorem R28.own {k : Nat} {w w' : World} (r : R28 k w w') {B : Nat} {v : Value} {T : List Byte} (h : Own w B v 16 T) : Own w' B v 16 T := by
  refine ⟨h.1, h.2.imp id ?_⟩
  rintro ⟨g, cap, cur, h1, h2, h3, h4, h5, h6, h7⟩
  refine ⟨g, cap, cur, h1, h2, r.2 _ _ h3 (fun e => ?_), h4, h5, h6, h7⟩
  injection e with e
  rw [e] at h6
  have : SC.size = 4 := rfl
  omega
theorem be8_ne (c : Nat) : Obj.cells ((be 8 c).map c8).toArray 5 (0, 0) ≠ .cells SC 5 (0, 0) := fun e => by
  injection e with e
  have := congrArg Array.size e
  simp [be_len] at this
theorem be4_ne {l : Nat} (hl : l < 2 ^ 24) : Obj.cells ((be 4 l).map c8).toArray 5 (0, 0) ≠ .cells SC 5 (0, 0) := fun e => by
  injection e with e
  have h := congrArg (fun a => a[0]?) e
  have h0 : byteN l 3 = 0#8 := by unfold byteN; rw [Nat.div_eq_of_lt (by omega)]
  simp [be, List.range_succ, h0, c8, bt] at h
def V28 (B g : Nat) (c l : Nat) (L : Nat → Bool) : Nat → Value → World → Prop
  | 0, v, w => ∃ q, v = .slice (some ⟨q, 0, none⟩) 4 4 ∧ B ≤ q ∧ (L 1 = false → w.heap[q]? = some (.cells SC 5 (0, 0)))
  | 1, v, w => ∃ q, v = .slice (some ⟨q, 0, none⟩) 4 4 ∧ w.heap[q]? = some (.cells SC 5 (4, 5))
  | 2, v, w => v = .pointer (some ⟨g, 0, none⟩)
  | 3, v, w => v = .int .i64 (c : Nat)
  | 4, v, w => ∃ q, v = .slice (some ⟨q, 0, none⟩) 8 8 ∧ Nb w q (be 8 c)
  | 5, v, w => v = .pointer (some ⟨g, 1, none⟩)
  | 6, v, w => v = .int .i64 (l : Nat)
  | 7, v, w => ∃ q, v = .slice (some ⟨q, 0, none⟩) 4 4 ∧ Nb w q (be 4 l)
  | 8, v, w => ∃ q q1 q4 q7, v = .slice (some ⟨q, 0, none⟩) 3 3 ∧ w.heap[q]? = some (.cells #[.slice (some ⟨q1, 0, none⟩) 4 4, .slice (some ⟨q4, 0, none⟩) 8 8, .slice (some ⟨q7, 0, none⟩) 4 4] 23 (0, 0)) ∧ w.heap[q1]? = some (.cells SC 5 (4, 5)) ∧ Nb w q4 (be 8 c) ∧ Nb w q7 (be 4 l)
  | 9, v, w => ∃ ao cap, v = .slice ao 16 cap ∧ Own w B v 16 (h16 c l)
  | 10, v, w => ∃ ao cap, v = .slice ao 16 cap ∧ Own w B v 16 (h16 c l)
  | _, _, _ => True
theorem V28_in (B g : Nat) (c l : Nat) (L : Nat → Bool) (i : Nat) (v : Value) (w : World) (h : V28 B g c l L i v w) : V28 B g c l (fun j => j == i || L j) i v w := by
  rcases i with _ | _ | _ | _ | _ | _ | _ | _ | _ | _ | _ | _
  · exact h
  · exact h
  · exact h
  · exact h
  · exact h
  · exact h
  · exact h
  · exact h
  · exact h
  · exact h
  · exact h
  · trivial
theorem V28_keep (B g : Nat) (c l : Nat) (L : Nat → Bool) (k1 i1 : Nat) (v : Value) (w w' : World) (hl : l < 2 ^ 24) (h : V28 B g c l L i1 v w) (r : R28 k1 w w') : V28 B g c l (fun j => j == k1 || L j) i1 v w' := by
  rcases i1 with _ | _ | _ | _ | _ | _ | _ | _ | _ | _ | _ | _
  · obtain ⟨q, h1, h2, h3⟩ := h
    refine ⟨q, h1, h2, fun e => ?_⟩
    simp only [Bool.or_eq_false_iff, beq_eq_false_iff_ne] at e
    have := h3 e.2
    exact ((r.1 (fun x => e.1 x.symm)).block q (Array.getElem?_eq_some_iff.1 this).1).trans this
  · obtain ⟨q, h1, h2⟩ := h
    exact ⟨q, h1, r.2 _ _ h2 (by simp)⟩
  · exact h
  · exact h
  · obtain ⟨q, h1, h2⟩ := h
    exact ⟨q, h1, ⟨r.2 _ _ h2.row (be8_ne c)⟩⟩
  · exact h
  · exact h
  · obtain ⟨q, h1, h2⟩ := h
    exact ⟨q, h1, ⟨r.2 _ _ h2.row (be4_ne hl)⟩⟩
  · obtain ⟨q, q1, q4, q7, h1, h2, h3, h4, h5⟩ := h
    exact ⟨q, q1, q4, q7, h1, r.2 _ _ h2 (by simp), r.2 _ _ h3 (by simp), ⟨r.2 _ _ h4.row (be8_ne c)⟩, ⟨r.2 _ _ h5.row (be4_ne hl)⟩⟩
  · obtain ⟨ao, cap, h1, h2⟩ := h
    exact ⟨ao, cap, h1, r.own h2⟩
  · obtain ⟨ao, cap, h1, h2⟩ := h
    exact ⟨ao, cap, h1, r.own h2⟩
  · trivial
theorem src3 {w : World} {q : Nat} {a b c : Option Addr} {m1 m2 m3 c1 c2 c3 : Nat} {x1 x2 x3 : List Value} (h : w.heap[q]? = some (.cells #[.slice a m1 c1, .slice b m2 c2, .slice c m3 c3] 23 (0, 0))) :
    ∀ (j : Nat) x, ([(a, m1, c1, x1), (b, m2, c2, x2), (c, m3, c3, x3)] : Srcs)[j]? = some x → w.cell? ⟨q, j, none⟩ = some (.slice x.1 x.2.1 x.2.2.1) := fun j x hx => by
  rw [cell_of_row _ _ _ _ _ _ h]
  rcases j with _ | _ | _ | j
  · simp at hx; subst hx; rfl
  · simp at hx; subst hx; rfl
  · simp at hx; subst hx; rfl
  · simp at hx
theorem srow_row {w : World} {q n : Nat} {C : Array Value} {fz : Nat × Nat} {D : List Byte} (h : w.heap[q]? = some (.cells C 5 fz)) (hn : D.length = n) (hc : C = (D.map c8).toArray) : Srow w (some ⟨q, 0, none⟩) n (D.map c8) :=
  ⟨by simp [hn], (fun e => by cases e), fun ad ha j u hu => by
    injection ha with ha
    subst ha
    rw [Addr.add_mid, Nat.zero_add, cell_of_row _ _ _ _ _ _ h, hc]
    simpa using hu, c8_one D⟩
set_option maxRecDepth 20000 in
set_option maxHeartbeats 8000000 in
theorem bytes28 (c l : Nat) (hc : c < 2 ^ 63) (hl : l < 2 ^ 24) (w : World) : Calls Try.prog 28 #[.agg #[.int .i64 (c : Int), .int .i64 (l : Int)]] w fun e w' => ∃ ao cap, e = .returned (.slice ao 512 cap) ∧ Own w' w.heap.size (.slice ao 512 cap) 512 (hd c l) ∧ Below w.heap.size w w' := by
  have HL := Lib.hid (And.intro hc hl)
  have bA := (Below.refl w.heap.size w).alloc (Nat.le_refl _) (.cells #[.int .i64 (c : Int), .int .i64 (l : Int)] 46)
  have hg0 : (w.alloc (.cells #[.int .i64 (c : Int), .int .i64 (l : Int)] 46)).cell? ⟨w.heap.size, 0, none⟩ = some (.int .i64 (c : Int)) := by simp
  have hg1 : (w.alloc (.cells #[.int .i64 (c : Int), .int .i64 (l : Int)] 46)).cell? ⟨w.heap.size, 1, none⟩ = some (.int .i64 (l : Int)) := by simp
  have hgl : w.heap.size < (w.alloc (.cells #[.int .i64 (c : Int), .int .i64 (l : Int)] 46)).heap.size := by simp
  have HG := Lib.hid (And.intro hgl (And.intro hg0 hg1))
  have HB := Lib.hid bA
  clear hc hl hgl hg0 hg1 bA
  go_enter Try.func28, Try.ntmps28
  go_upto_region 1 with fail
  obtain ⟨w8, hw8⟩ : ∃ w8, w.alloc (.cells #[.int .i64 (c : Int), .int .i64 (l : Int)] 46) = w8 := ⟨_, rfl⟩
  obtain ⟨g, hg⟩ : ∃ g, g = w.heap.size := ⟨_, rfl⟩
  rw [hw8] at HB
  rw [hw8, ← hg] at HG ⊢
  clear hw8 hg
  refine region_monoP (S28 w8) (R28) (V28 w8.heap.size g c l) [(0, some 4), (1, some 5), (2, some 6), (3, some 7), (4, some 8), (5, some 9), (6, some 10), (7, some 11), (8, some 12), (9, some 13), (10, some 3)] (by kernel_rfl) (by kernel_rfl) (by kernel_rfl) (fun L k1 i1 v1 w1 w2 hk hC hC2 hLk hLi h1 r1 => V28_keep _ g c l L k1 i1 v1 w1 w2 HL.out.2 h1 r1) (fun L i1 v1 w1 hL h => V28_in _ g c l L i1 v1 w1 h) ((Below.refl _ w8).drew) ?_ (fun vs w' L hS hLL hV => ?_)
  · refine StepsP.cons0  (by kernel_rfl)  ?_ ?_
    · rintro L hC hL w1 hS  K hK
      (try simp only [Act.put, List.setIfInBounds_toArray, List.set_cons_zero, List.set_cons_succ])
      go_simp
      exact hK.out _ _ ⟨w1.heap.size, rfl, hS.size, fun _ => heap_alloc_new w1 _⟩ ⟨hS.alloc hS.size _, R28.below ((Below.refl _ _).alloc (Nat.le_refl _) _)⟩
    refine StepsP.cons1 0 (some 4) (by kernel_rfl) rfl ?_ ?_
    · rintro L hC hL w1 hS _ ⟨q0, rfl, k0, h0⟩ K hK
      (try simp only [Act.put, List.setIfInBounds_toArray, List.set_cons_zero, List.set_cons_succ])
      have hh0 := h0 hL
      have hr := run_conv w1 q0 SC 4 4 hh0
      go_simp
      exact hK.out _ _ ⟨q0, rfl, frz_same w1 q0 SC hh0⟩ ⟨below_frz hS q0 k0 _, R28.frz w1 q0 hh0⟩
    refine StepsP.cons0  (by kernel_rfl)  ?_ ?_
    · rintro L hC hL w1 hS  K hK
      (try simp only [Act.put, List.setIfInBounds_toArray, List.set_cons_zero, List.set_cons_succ])
      go_simp
      exact hK.out _ _ rfl ⟨hS, R28.below (Below.refl _ _)⟩
    refine StepsP.cons1 2 (some 6) (by kernel_rfl) rfl ?_ ?_
    · rintro L hC hL w1 hS _ rfl K hK
      (try simp only [Act.put, List.setIfInBounds_toArray, List.set_cons_zero, List.set_cons_succ])
      have hx := (hS.cell (p := ⟨g, 0, none⟩) HG.out.1).trans HG.out.2.1
      go_simp
      exact hK.out _ _ rfl ⟨hS, R28.below (Below.refl _ _)⟩
    refine StepsP.cons1 3 (some 7) (by kernel_rfl) rfl ?_ ?_
    · rintro L hC hL w1 hS _ rfl K hK
      (try simp only [Act.put, List.setIfInBounds_toArray, List.set_cons_zero, List.set_cons_succ])
      have HC := number8 c HL.out.1 w1
      go_simp
      go_at_call 42
      (with_reducible refine HC.mono ?_)
      rintro e w2 ⟨q, rfl, k2, n2, b2⟩
      exact hK.out _ _ ⟨q, rfl, n2⟩ ⟨below_then hS b2, R28.below b2⟩
    refine StepsP.cons0  (by kernel_rfl)  ?_ ?_
    · rintro L hC hL w1 hS  K hK
      (try simp only [Act.put, List.setIfInBounds_toArray, List.set_cons_zero, List.set_cons_succ])
      go_simp
      exact hK.out _ _ rfl ⟨hS, R28.below (Below.refl _ _)⟩
    refine StepsP.cons1 5 (some 9) (by kernel_rfl) rfl ?_ ?_
    · rintro L hC hL w1 hS _ rfl K hK
      (try simp only [Act.put, List.setIfInBounds_toArray, List.set_cons_zero, List.set_cons_succ])
      have hx := (hS.cell (p := ⟨g, 1, none⟩) HG.out.1).trans HG.out.2.2
      go_simp
      exact hK.out _ _ rfl ⟨hS, R28.below (Below.refl _ _)⟩
    refine StepsP.cons1 6 (some 10) (by kernel_rfl) rfl ?_ ?_
    · rintro L hC hL w1 hS _ rfl K hK
      (try simp only [Act.put, List.setIfInBounds_toArray, List.set_cons_zero, List.set_cons_succ])
      have HC := number4 l (by have := HL.out.2; omega) w1
      go_simp
      go_at_call 42
      (with_reducible refine HC.mono ?_)
      rintro e w2 ⟨q, rfl, k2, n2, b2⟩
      exact hK.out _ _ ⟨q, rfl, n2⟩ ⟨below_then hS b2, R28.below b2⟩
    refine StepsP.cons3 1 (some 5) 4 (some 8) 7 (some 11) (by kernel_rfl) rfl rfl rfl ?_ ?_
    · rintro L hC hL w1 hS _ ⟨q1, rfl, h1⟩ _ ⟨q4, rfl, h4⟩ _ ⟨q7, rfl, h7⟩ K hK
      (try simp only [Act.put, List.setIfInBounds_toArray, List.set_cons_zero, List.set_cons_succ])
      go_simp
      exact hK.out _ _ ⟨w1.heap.size, q1, q4, q7, rfl, heap_alloc_new w1 _, (Below.heap_alloc w1 _ q1 (Array.getElem?_eq_some_iff.1 h1).1).trans h1, ⟨(Below.heap_alloc w1 _ q4 (Array.getElem?_eq_some_iff.1 h4.row).1).trans h4.row⟩, ⟨(Below.heap_alloc w1 _ q7 (Array.getElem?_eq_some_iff.1 h7.row).1).trans h7.row⟩⟩ ⟨hS.alloc hS.size _, R28.below ((Below.refl _ _).alloc (Nat.le_refl _) _)⟩
    refine StepsP.cons1 8 (some 12) (by kernel_rfl) rfl ?_ ?_
    · rintro L hC hL w1 hS _ ⟨q8, q1, q4, q7, rfl, h8, h1, h4, h7⟩ K hK
      (try simp only [Act.put, List.setIfInBounds_toArray, List.set_cons_zero, List.set_cons_succ])
      have HC := concat41 [(some ⟨q1, 0, none⟩, 4, 4, sg.map c8), (some ⟨q4, 0, none⟩, 8, 8, (be 8 c).map c8), (some ⟨q7, 0, none⟩, 4, 4, (be 4 l).map c8)] q8 w1 (src3 h8) (by
        intro x hx
        simp only [List.mem_cons, List.not_mem_nil, or_false] at hx
        rcases hx with rfl | rfl | rfl
        · exact srow_row h1 (D := sg) rfl rfl
        · exact srow_row h4.row (by rw [be_len]) rfl
        · exact srow_row h7.row (by rw [be_len]) rfl) (by show 16 ≤ 100000; omega) 3 rfl (by omega)
      go_simp
      go_at_call 41
      (with_reducible refine HC.mono ?_)
      rintro e w2 ⟨v2, rfl, o2, b2⟩
      obtain ⟨a2, c2, rfl⟩ := row_form o2
      have et : tot [(some (⟨q1, 0, none⟩ : Addr), 4, 4, sg.map c8), (some ⟨q4, 0, none⟩, 8, 8, (be 8 c).map c8), (some ⟨q7, 0, none⟩, 4, 4, (be 4 l).map c8)] = 16 := rfl
      have ef : flat [(some (⟨q1, 0, none⟩ : Addr), 4, 4, sg.map c8), (some ⟨q4, 0, none⟩, 8, 8, (be 8 c).map c8), (some ⟨q7, 0, none⟩, 4, 4, (be 4 l).map c8)] = (h16 c l).map c8 := by simp [flat, h16]
      rw [et, ef] at o2
      rw [et]
      exact hK.out _ _ ⟨a2, c2, rfl, own_mono o2 hS.size⟩ ⟨below_then hS b2, R28.below b2⟩
    refine StepsP.cons1 9 (some 13) (by kernel_rfl) rfl ?_ ?_
    · rintro L hC hL w1 hS _ ⟨a9, c9, rfl, h9⟩ K hK
      (try simp only [Act.put, List.setIfInBounds_toArray, List.set_cons_zero, List.set_cons_succ])
      go_simp
      exact hK.out _ _ ⟨a9, c9, rfl, h9⟩ ⟨hS, R28.below (Below.refl _ _)⟩
    exact StepsP.nil
  obtain ⟨a9, c9, hv, ho⟩ := hV 10 (by decide)
  have BX := Lib.hid (And.intro (show Below w8.heap.size w8 w' from hS) (by rw [hv] at ho; exact ho))
  simp only [putl, List.foldl_cons, List.foldl_nil, Act.put, List.setIfInBounds_toArray, List.set_cons_zero, List.set_cons_succ]
  rw [hv]
  clear hV hS hLL hv ho
  obtain ⟨v2, w2, hr, o2, g2, -⟩ := run_app_zeros w' w8.heap.size 23 (.slice a9 16 c9) 16 (h16 c l) BX.out.2 496 (by omega) BX.out.1.size
  obtain ⟨a2, c2, rfl⟩ := row_form o2
  have HR := Lib.hid hr
  have O2 := Lib.hid (And.intro (show Own w2 w8.heap.size (.slice a2 512 c2) 512 (hd c l) from o2) (BX.out.1.grown g2 BX.out.1.size (fun q hq => (BX.out.2.lt q hq).1)))
  clear hr o2 g2
  go_wp2_with (first
    | (at_builtin; refine wpList_app_run rfl (.tmp 14) (.tmp 17) 23 3 rfl (.slice a9 16 c9) (.int .i64 496) (.slice a2 (16 + 496) c2) w2 rfl rfl HR.out ?_))
  go_ret
  exact ⟨a2, c2, rfl, own_mono O2.out.1 HB.out.size, below_then HB.out O2.out.2⟩
section
variable {A : Nat → Prop} {w : World} {g b n : Nat} {d : DS}
theorem sectors29 (h : Dk A w g b n d) (hn : 2 ≤ n) : Calls Try.prog 29 #[.pointer (some ⟨g, 0, none⟩)] w fun e w' => e = .returned (.int .i64 (((n - 2) / 2 : Nat) : Int)) ∧ w' = w := by
  have H := many24 h
  have hb := h.nb
  have e1 : IntKind.i64.wrap ((n : Int) - 2) = ((n - 2 : Nat) : Int) := by rw [IntWalk.i64_in _ (by omega)]; omega
  have e2 : IntKind.i64.wrap ((((n - 2 : Nat) : Int)).tdiv 2) = (((n - 2) / 2 : Nat) : Int) := by
    rw [show (((n - 2 : Nat) : Int)).tdiv 2 = (((n - 2) / 2 : Nat) : Int) from rfl]
    exact IntWalk.i64_in _ (by omega)
  obtain ⟨x, hx⟩ : ∃ x, (n - 2 : Nat) = x := ⟨_, rfl⟩
  obtain ⟨y, hy⟩ : ∃ y, (n - 2) / 2 = y := ⟨_, rfl⟩
  rw [hy] at e2 ⊢
  rw [hx] at e1 e2
  have h2 : (((x : Nat) : Int)).tdiv 2 = (y : Int) := by rw [← hy, hx]; rfl
  have e3 : IntKind.i64.wrap (y : Int) = (y : Int) := IntWalk.i64_in _ (by omega)
  clear hx hy hb
  go_enter Try.func29, Try.ntmps29
  go_wp2_with (first
    | (go_at_call 18; (with_reducible refine H.mono ?_); rintro e w1 ⟨rfl, hw⟩; obtain rfl : w = w1 := hw.symm))
  go_ret
  exact ⟨rfl, rfl⟩
theorem place22 (h : Dk A w g b n d) (hn : 2 ≤ n) (p : Nat) (hp : p < 2) : Calls Try.prog 22 #[.pointer (some ⟨g, 0, none⟩), .int .i64 (p : Int)] w fun e w' => e = .returned (.int .i64 ((2 + p * ((n - 2) / 2) : Nat) : Int)) ∧ w' = w := by
  have H := sectors29 h hn
  have hb := h.nb
  obtain ⟨y, hy⟩ : ∃ y, (n - 2) / 2 = y := ⟨_, rfl⟩
  rw [hy] at H ⊢
  obtain ⟨z, hz⟩ : ∃ z, p * y = z := ⟨_, rfl⟩
  have hzl : z ≤ 4096 := by have : p = 0 ∨ p = 1 := by omega
                            rcases this with rfl | rfl <;> omega
  have hz2 : (p : Int) * (y : Int) = (z : Int) := by rw [← hz]; push_cast; rfl
  rw [hz]
  have e1 : IntKind.i64.wrap (z : Int) = (z : Int) := IntWalk.i64_in _ (by omega)
  have e2 : IntKind.i64.wrap (2 + (z : Int)) = (2 + (z : Int)) := IntWalk.i64_in _ (by omega)
  clear hz hy hb
  go_enter Try.func22, Try.ntmps22
  go_wp2_with (first
    | (go_at_call 29; (with_reducible refine H.mono ?_); rintro e w1 ⟨rfl, hw⟩; obtain rfl : w = w1 := hw.symm))
  go_ret
  exact ⟨by push_cast; rfl, rfl⟩
end
end Go.Proofs.Ytjabkfccfecmgaa
