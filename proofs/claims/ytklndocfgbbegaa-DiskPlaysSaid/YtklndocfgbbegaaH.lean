/- The law's head. -/
import Derived.Test.YtklndocfgbbegaaG
namespace Go.Proofs.Ytklndocfgbbegaa
open Go.ChangeShapes Go.WideShapes Go.ChangeAt Go.RowKit
set_option linter.unusedSimpArgs false
set_option linter.unusedVariables false
theorem Bys.below {w w' : World} {ao : Option Addr} {D : List (BitVec 8)} (h : Bys w ao D) (j : Below w.heap.size w w') : Bys w' ao D :=
  ⟨h.nil, fun a ha i x hx => by
    have hc := h.cells a ha i x hx
    have hb := World.block_lt_of_cell? w _ hc
    rw [add_block] at hb
    exact (World.cell?_of_block (by rw [add_block]; exact j.block _ hb)).trans hc⟩
theorem convnone (c : Nat) (w : World) : (convert 28 9 (.slice none 0 c)).run Try.prog w = .ok (.string (strOf [])) w := by
  first
    | kernel_rfl
    | rfl
    | (simp [convert, run_underlying Try.underlying28, run_underlying Try.underlying5, run_underlying Try.underlying9, strOf, Sem.run_bind]; done)
theorem conv_bys {w : World} {n c : Nat} {ao : Option Addr} {D : List (BitVec 8)} (hn : n = D.length) (h : Bys w ao D) : (convert 28 9 (.slice ao n c)).run Try.prog w = .ok (.string (strOf D)) w := by
  cases ao with
  | none =>
    have hD := h.nil rfl
    subst hn
    subst hD
    exact convnone c w
  | some ad =>
    have := run_convert_bytes_back (P := Try.prog) w 28 9 5 ad c (D.map UInt8.ofBitVec) Try.underlying28 Try.underlying5 Try.underlying9 (fun j hj => by
      have hj2 : j < D.length := by simpa using hj
      have := h.cells ad rfl j D[j] (List.getElem?_eq_getElem hj2)
      rw [this]
      simp [c8, bt])
    rw [List.length_map, ← hn] at this
    exact this
theorem bys_own {w : World} {base n c : Nat} {ao : Option Addr} {T : List (BitVec 8)} (h : Own w base (.slice ao n c) n T) : Bys w ao T := by
  have hl : n = T.length := by have := h.1; simp at this; omega
  rcases h.2 with ⟨e, e0⟩ | ⟨b, cap, cur, e, hb, hh, hnc, hrest⟩
  · injection e with e1
    subst e1
    have : T = [] := List.eq_nil_of_length_eq_zero (by omega)
    exact ⟨fun _ => this, fun a ha => by cases ha⟩
  · injection e with e1
    subst e1
    exact ⟨(fun e => by cases e), fun a ha j x hx => by injection ha with ha; subst ha; exact h.cells (g := b) rfl j (c8 x) (by rw [List.getElem?_map, hx]; rfl)⟩
theorem made5 (n k : Nat) (hk : k < n) : (madeCells (Value.int .u8 0).cells n).toList[k]? = some (.int .u8 0) := by
  refine made_at (Value.int .u8 0).cells (.int .u8 0) 1 n k rfl (by omega) (fun j hj => ?_) hk
  obtain rfl : j = 0 := by omega
  rfl
theorem kc1 (w : World) : (convert 28 28 (.slice (some ⟨w.heap.size + 1, 0, none⟩) 1 1)).run Try.prog ((w.alloc (.cells #[.int .u8 1] 5)).alloc (.cells #[.int .u8 97] 5)) = .ok (.slice (some ⟨w.heap.size + 1, 0, none⟩) 1 1) ((w.alloc (.cells #[.int .u8 1] 5)).alloc (.cells #[.int .u8 97] 5 (1, 2))) := by
  have := Lib.run_convert_bytes_const (P := Try.prog) (w.alloc (.cells #[.int .u8 1] 5)) 28 5 #[.int .u8 97] 1 1 Try.underlying28 Try.underlying5
  simpa using this
theorem make28 (w : World) (n : Nat) (hn : n ≤ 1000000000) : (Instr.makeSlice 28 (.int .i64 (n : Int)) (.int .i64 (n : Int))).run Try.prog w = .ok (.slice (some ⟨w.heap.size, 0, none⟩) n n) (w.alloc (.cells (madeCells (Value.int .u8 0).cells n) 5)) := by
  obtain ⟨i0, hi, hz0, hz1, hz2⟩ := info_parts info5
  have := run_make (P := Try.prog) w 28 5 i0 _ Try.underlying28 hi hz0 .i64 .i64 n n (by omega) (Int.le_refl _) (by rw [hz2]; omega) (by omega)
  rw [hz1, Int.toNat_natCast, Nat.mul_one] at this
  exact this
theorem bys_made (w : World) (n : Nat) : Bys (w.alloc (.cells (madeCells (Value.int .u8 0).cells n) 5)) (some ⟨w.heap.size, 0, none⟩) (List.replicate n 0#8) :=
  ⟨(fun e => by cases e), fun a ha j x hx => by
    injection ha with ha
    subst ha
    rw [List.getElem?_replicate] at hx
    split at hx
    · rename_i hj
      injection hx with hx
      subst hx
      rw [Addr.add_mid, Nat.zero_add, cell_of_row _ _ j _ 5 _ (heap_alloc_new w _)]
      have := made5 n j hj
      rw [← Array.getElem?_toList]; exact this
    · cases hx⟩
theorem img_zs : ∀ k, img (fun _ => zs) k = List.replicate (k * 512) 0#8 := by
  intro k
  induction k with
  | zero => rfl
  | succ k ih => rw [img_succ, ih]; unfold zs; rw [List.replicate_append_replicate, show (k + 1) * 512 = k * 512 + 512 by omega]
theorem of19n (ao : Option Addr) (m c : Nat) (w : World) (h : m % 512 ≠ 0) : Calls Try.prog 19 #[.slice ao m c] w fun e w' => e = .returned (.pointer none) ∧ w' = w := by
  have e1 : ((m : Int).tmod 512 != 0) = true := by rw [Int.tmod_eq_emod_of_nonneg (by omega)]; simp; omega
  have e2 : ((m : Int) % 512 != 0) = true := by simp; omega
  go_enter Try.func19, Try.ntmps19
  go_wp2_with fail
  go_ret
  exact ⟨rfl, rfl⟩
def da : DS := { d0 with W := [(1, padd [97#8])] }
def dz : DS := ⟨fun _ => zs, [], -1, true⟩
theorem Dk.re {A A' : Nat → Prop} {w : World} {g b n : Nat} {d : DS} (h : Dk A w g b n d) (hA : ∀ k, k < w.heap.size → A k → A' k) : Dk A' w g b n d := by
  obtain ⟨wv, h1, h2, h3⟩ := h.at_
  exact ⟨⟨wv, h1, h2, fun k hk => hA k (h2.lt k hk).2 (h3 k hk)⟩, h.sec, h.bg, h.wl, h.nb, h.fb⟩
theorem wrote_a : wrote 2 d0 1 [97#8] = (0, da) := by kernel_rfl
theorem headW (A : Nat → Prop) (w : World) (g b : Nat) (p : Dk A w g b 2 d0) (hA : ∀ k, w.heap.size ≤ k → A k) (ao : Option Addr) (hb : Byg g w ao [97#8]) :
    Calls Try.prog 10 #[.pointer (some ⟨g, 0, none⟩), .int .i64 1, .slice ao 1 1] w fun e w' => e = .returned (.int .i64 0) ∧ Dk A w' g b 2 da ∧ Frm A g b w w' := by
  have := write10 A w g b 2 d0 p hA 1 ao 1 1 [97#8] rfl hb (by decide)
  rw [wrote_a] at this
  exact this
theorem headR (A : Nat → Prop) (w : World) (g b : Nat) (p : Dk A w g b 2 da) :
    Calls Try.prog 15 #[.pointer (some ⟨g, 0, none⟩), .int .i64 1] w fun e w' => ∃ q, e = .returned (.tuple #[.slice (some ⟨q, 0, none⟩) 512 512, .int .i64 0]) ∧ w.heap.size ≤ q ∧ q < w'.heap.size ∧ w'.cell? ⟨q, 0, none⟩ = some (.int .u8 97) ∧ Below w.heap.size w w' := by
  refine (read15 A w g b 2 da p 1 (by omega) rfl (by decide)).mono ?_
  rintro e w' ⟨q, rfl, h1, h2, h3, h4⟩
  exact ⟨q, rfl, h1, h2, h3 0 _ rfl, h4⟩
theorem headC (A : Nat → Prop) (w : World) (g b : Nat) (p : Dk A w g b 2 da) (hA : ∀ k, w.heap.size ≤ k → A k) :
    Calls Try.prog 16 #[.pointer (some ⟨g, 0, none⟩), .int .i64 0] w fun e w' => e = .returned (.tuple #[]) ∧ Dk A w' g b 2 dz ∧ Frm A g b w w' := crash16 A w g b 2 da p hA 0
theorem headE (A : Nat → Prop) (w : World) (g b : Nat) (p : Dk A w g b 2 dz) :
    Calls Try.prog 15 #[.pointer (some ⟨g, 0, none⟩), .int .i64 1] w fun e w' => e = .returned (.tuple #[.slice none 0 0, .int .i64 201]) ∧ Below w.heap.size w w' := read15n A w g b 2 dz p 1 (by decide)
theorem byg1 (g : Nat) (w : World) (x : BitVec 8) (v : Value) (fz : Nat × Nat) (hg : g < w.heap.size) (hv : v = c8 x) : Byg g (w.alloc (.cells #[v] 5 fz)) (some ⟨w.heap.size, 0, none⟩) [x] :=
  ⟨(fun e => by cases e), fun a ha j y hy => by
    injection ha with ha
    subst ha
    cases j with
    | zero =>
      simp at hy
      subst hy
      refine ⟨by show w.heap.size ≠ g; omega, ?_⟩
      rw [Addr.add_mid, Nat.zero_add, cell_of_row _ _ 0 _ 5 _ (heap_alloc_new w _), hv]
      rfl
    | succ j => simp at hy⟩
def V7 (g q : Nat) : Nat → Value → World → Prop
  | 0, v, w => v = .int .i64 0
  | 1, v, w => v = .bool true
  | 2, v, w => v = .bool true
  | 3, v, w => v = .int .i64 0
  | 4, v, w => v = .bool true
  | 5, v, w => v = .bool true
  | 6, v, w => v = .bool true
  | 7, v, w => v = .slice (some ⟨q, 0, none⟩) 512 512
  | 8, v, w => v = .int .i64 512
  | 9, v, w => v = .bool true
  | 10, v, w => v = .bool true
  | 11, v, w => v = .bool true
  | 12, v, w => v = .slice (some ⟨q, 0, none⟩) 512 512
  | 13, v, w => v = .pointer (some ⟨q, 0, none⟩)
  | 14, v, w => v = .int .u8 97
  | 15, v, w => v = .bool true
  | 16, v, w => v = .bool true
  | 17, v, w => v = .bool true
  | 18, v, w => v = .int .i64 201
  | 19, v, w => v = .bool true
  | 20, v, w => v = .bool true
  | 21, v, w => v = .bool true
  | 22, v, w => v = .pointer (some ⟨g, 0, none⟩)
  | 23, v, w => v = .bool true
  | 24, v, w => v = .bool true
  | 25, v, w => v = .bool true
  | 26, v, w => v = .pointer (some ⟨g, 0, none⟩)
  | 27, v, w => v = .int .i64 2
  | 28, v, w => v = .bool true
  | 29, v, w => v = .bool true
  | 30, v, w => v = .bool true
  | 31, v, w => v = .pointer (some ⟨g, 0, none⟩)
  | 32, v, w => ∃ ao c, v = .slice ao 1024 c ∧ Bys w ao (List.replicate 1024 0#8)
  | 33, v, w => v = .string (strOf (List.replicate 1024 0#8))
  | 34, v, w => ∃ ao c, v = .slice ao 1024 c ∧ Bys w ao (List.replicate 1024 0#8)
  | 35, v, w => v = .string (strOf (List.replicate 1024 0#8))
  | 36, v, w => v = .bool true
  | 37, v, w => v = .bool true
  | 38, v, w => v = .bool true
  | _, _, _ => True
theorem V7_keep (g q : Nat) (i1 : Nat) (v : Value) (w w' : World) (h : V7 g q i1 v w) (r : (fun w w' => Below w.heap.size w w') w w') : V7 g q i1 v w' := by
  rcases i1 with _ | _ | _ | _ | _ | _ | _ | _ | _ | _ | _ | _ | _ | _ | _ | _ | _ | _ | _ | _ | _ | _ | _ | _ | _ | _ | _ | _ | _ | _ | _ | _ | _ | _ | _ | _ | _ | _ | _ | _
  · exact h
  · exact h
  · exact h
  · exact h
  · exact h
  · exact h
  · exact h
  · exact h
  · exact h
  · exact h
  · exact h
  · exact h
  · exact h
  · exact h
  · exact h
  · exact h
  · exact h
  · exact h
  · exact h
  · exact h
  · exact h
  · exact h
  · exact h
  · exact h
  · exact h
  · exact h
  · exact h
  · exact h
  · exact h
  · exact h
  · exact h
  · exact h
  · exact (let ⟨a, c, e, y⟩ := h; ⟨a, c, e, y.below r⟩)
  · exact h
  · exact (let ⟨a, c, e, y⟩ := h; ⟨a, c, e, y.below r⟩)
  · exact h
  · exact h
  · exact h
  · exact h
  · trivial
set_option maxRecDepth 4000 in
set_option maxHeartbeats 4000000 in
theorem head7 (w : World) : Calls Try.prog 7 #[] w fun e w' => e = .returned (.bool true) ∧ Below w.heap.size w w' := by
  have N2 : Hid (∀ w, Calls Try.prog 8 #[.int .i64 2] w fun e w' => ∃ g b, e = .returned (.pointer (some ⟨g, 0, none⟩)) ∧ w.heap.size ≤ b ∧ (∀ A, Dk A w' g b 2 d0) ∧ Below w.heap.size w w') := Lib.hid (fun w => new8 2 w (by omega))
  have N0 : Hid (∀ w, Calls Try.prog 8 #[.int .i64 0] w fun e w' => e = .returned (.pointer none) ∧ w' = w) := Lib.hid (fun w => new8n 0 w (by omega))
  have hkc := kc1
  have HIMG : Hid (img dz.S 2 = List.replicate 1024 0#8) := Lib.hid ((img_zs 2).trans (congrArg (fun n => List.replicate n 0#8) (by decide)))
  go_enter Try.func7, Try.ntmps7
  go_upto_region 39 with (first
    | (go_at_call 8; (with_reducible refine (N2.out _).mono ?_); rintro e w1 ⟨g, b, rfl, hb, hD, b1⟩; have p1 := hD (fun k => w.heap.size ≤ k))
    | (go_at_call 8; (with_reducible refine (N0.out _).mono ?_); rintro e w2 ⟨rfl, rfl⟩)
    | (go_at_call 19; (with_reducible refine (of19n _ _ _ _ (by omega)).mono ?_); rintro e w3 ⟨rfl, rfl⟩)
    | (go_at_call 10; (with_reducible refine (headW _ _ g b ((p1.alloc _).alloc _) ?hs _ ?hb).mono ?_); (case hs => exact fun k hk => by have := b1.size; simp at hk; omega); (case hb => have hbb := byg1 g (w2.alloc (.cells #[.int .u8 1] 5)) 97#8 (.int .u8 97) (1, 2) (by have := p1.lt; simp; omega) rfl; simp only [World.size_alloc] at hbb; exact hbb); rintro e w4 ⟨rfl, p4, f4⟩)
    | (go_at_call 15; (with_reducible refine (headR _ _ g b p4).mono ?_); rintro e w5 ⟨q, rfl, hq, hq2, hr, b5⟩; have p5 := (p4.re (A' := fun k => w.heap.size ≤ k ∧ k ≠ q) (fun k h1 h2 => ⟨h2, by omega⟩)).below b5; have hqg := p4.lt; have hqb := p4.sec.lt)
    | (go_at_call 16; (with_reducible refine (headC _ _ g b p5 ?hs2).mono ?_); (case hs2 => exact fun k hk => ⟨by have := b5.size; have := f4.size; have := b1.size; simp at *; omega, by omega⟩); rintro e w6 ⟨rfl, p6, f6⟩)
    | (go_at_call 15; (with_reducible refine (headE _ _ g b p6).mono ?_); rintro e w7 ⟨rfl, b7⟩))
  have p7 := p6.below b7
  have hr6 : w6.cell? ⟨q, 0, none⟩ = some (.int .u8 97) := (World.cell?_of_block (a := ⟨q, 0, none⟩) (f6.block q hq2 (by omega) (by omega) (fun h => h.2 rfl))).trans hr
  have hr7 : w7.cell? ⟨q, 0, none⟩ = some (.int .u8 97) := (World.cell?_of_block (a := ⟨q, 0, none⟩) (b7.block q (World.block_lt_of_cell? _ _ hr6))).trans hr6
  have p8 : Dk (fun k => w.heap.size ≤ k ∧ k ≠ q) w7.drew g b 2 dz ∧ w7.drew.cell? ⟨q, 0, none⟩ = some (.int .u8 97) := ⟨p7.drew, hr7⟩
  have hbb : Below w.heap.size w w7.drew := by
    have h1 := b1.size
    have hbg := p1.bg
    have g4 := f4.toBelow (B := w.heap.size) (by simp; omega) (by omega) hb (fun k hk h => by omega)
    have g6 := f6.toBelow (B := w.heap.size) (by have := b5.size; have := f4.size; simp at *; omega) (by omega) hb (fun k hk h => by have := h.1; omega)
    have hs4 := f4.size
    have hs5 := b5.size
    have hs6 := f6.size
    simp only [World.size_alloc] at hs4
    exact ((((b1.alloc h1 _).alloc (by simp; omega) _).trans g4).trans ((b5.mono (by omega)).trans (g6.trans (b7.mono (by omega))))).drew
  clear p7 hr hr6 hr7 p6 p5 p4 p1 hD b1 b5 b7 f4 f6 hb
  refine region_monoL (fun z => Dk (fun k => w.heap.size ≤ k ∧ k ≠ q) z g b 2 dz ∧ z.cell? ⟨q, 0, none⟩ = some (.int .u8 97) ∧ Below w.heap.size w z) (fun w w' => Below w.heap.size w w') (V7 g q) [(0, some 35), (1, some 36), (2, some 37), (3, some 38), (4, some 39), (5, some 40), (6, some 41), (7, some 42), (8, some 43), (9, some 44), (10, some 45), (11, some 46), (12, some 47), (13, some 48), (14, some 49), (15, some 50), (16, some 51), (17, some 52), (18, some 53), (19, some 54), (20, some 55), (21, some 56), (22, some 57), (23, some 58), (24, some 59), (25, some 60), (26, some 61), (27, some 62), (28, some 63), (29, some 64), (30, some 65), (31, some 66), (32, some 67), (33, some 68), (34, some 69), (35, some 70), (36, some 71), (37, some 72), (38, some 0)] (by kernel_rfl) (by kernel_rfl) (by kernel_rfl) (fun _ _ h r => ⟨h.1.below r, (World.cell?_of_block (a := ⟨q, 0, none⟩) (r.block q (World.block_lt_of_cell? _ _ h.2.1))).trans h.2.1, h.2.2.trans (r.mono h.2.2.size)⟩) (fun i1 v1 w1 w2 _ h1 r1 => V7_keep g q i1 v1 w1 w2 h1 r1) (⟨p8.1, p8.2, hbb⟩) ?_ (fun vs w9 hS hV => ?_)
  · refine StepsL.cons0  (by kernel_rfl)  ?_ ?_
    · rintro w1 hS  K hK
      (try simp only [Act.put, List.setIfInBounds_toArray, List.set_cons_zero, List.set_cons_succ])
      go_simp
      exact hK.out _ _ rfl (Below.refl _ _)
    refine StepsL.cons1 0 (some 35) (by kernel_rfl) rfl ?_ ?_
    · rintro w1 hS _ rfl K hK
      (try simp only [Act.put, List.setIfInBounds_toArray, List.set_cons_zero, List.set_cons_succ])
      go_simp
      exact hK.out _ _ rfl (Below.refl _ _)
    refine StepsL.cons1 1 (some 36) (by kernel_rfl) rfl ?_ ?_
    · rintro w1 hS _ rfl K hK
      (try simp only [Act.put, List.setIfInBounds_toArray, List.set_cons_zero, List.set_cons_succ])
      go_simp
      exact hK.out _ _ rfl (Below.refl _ _)
    refine StepsL.cons1 2 (some 37) (by kernel_rfl) rfl ?_ ?_
    · rintro w1 hS _ rfl K hK
      (try simp only [Act.put, List.setIfInBounds_toArray, List.set_cons_zero, List.set_cons_succ])
      go_simp
      exact hK.out _ _ rfl (Below.refl _ _)
    refine StepsL.cons2 2 (some 37) 3 (some 38) (by kernel_rfl) rfl rfl ?_ ?_
    · rintro w1 hS _ rfl _ rfl K hK
      (try simp only [Act.put, List.setIfInBounds_toArray, List.set_cons_zero, List.set_cons_succ])
      go_simp
      exact hK.out _ _ rfl (Below.refl _ _)
    refine StepsL.cons2 2 (some 37) 4 (some 39) (by kernel_rfl) rfl rfl ?_ ?_
    · rintro w1 hS _ rfl _ rfl K hK
      (try simp only [Act.put, List.setIfInBounds_toArray, List.set_cons_zero, List.set_cons_succ])
      go_simp
      exact hK.out _ _ rfl (Below.refl _ _)
    refine StepsL.cons1 5 (some 40) (by kernel_rfl) rfl ?_ ?_
    · rintro w1 hS _ rfl K hK
      (try simp only [Act.put, List.setIfInBounds_toArray, List.set_cons_zero, List.set_cons_succ])
      go_simp
      exact hK.out _ _ rfl (Below.refl _ _)
    refine StepsL.cons1 6 (some 41) (by kernel_rfl) rfl ?_ ?_
    · rintro w1 hS _ rfl K hK
      (try simp only [Act.put, List.setIfInBounds_toArray, List.set_cons_zero, List.set_cons_succ])
      go_simp
      exact hK.out _ _ rfl (Below.refl _ _)
    refine StepsL.cons2 6 (some 41) 7 (some 42) (by kernel_rfl) rfl rfl ?_ ?_
    · rintro w1 hS _ rfl _ rfl K hK
      (try simp only [Act.put, List.setIfInBounds_toArray, List.set_cons_zero, List.set_cons_succ])
      go_simp
      exact hK.out _ _ rfl (Below.refl _ _)
    refine StepsL.cons2 6 (some 41) 8 (some 43) (by kernel_rfl) rfl rfl ?_ ?_
    · rintro w1 hS _ rfl _ rfl K hK
      (try simp only [Act.put, List.setIfInBounds_toArray, List.set_cons_zero, List.set_cons_succ])
      go_simp
      exact hK.out _ _ rfl (Below.refl _ _)
    refine StepsL.cons2 6 (some 41) 9 (some 44) (by kernel_rfl) rfl rfl ?_ ?_
    · rintro w1 hS _ rfl _ rfl K hK
      (try simp only [Act.put, List.setIfInBounds_toArray, List.set_cons_zero, List.set_cons_succ])
      go_simp
      exact hK.out _ _ rfl (Below.refl _ _)
    refine StepsL.cons1 10 (some 45) (by kernel_rfl) rfl ?_ ?_
    · rintro w1 hS _ rfl K hK
      (try simp only [Act.put, List.setIfInBounds_toArray, List.set_cons_zero, List.set_cons_succ])
      go_simp
      exact hK.out _ _ rfl (Below.refl _ _)
    refine StepsL.cons1 11 (some 46) (by kernel_rfl) rfl ?_ ?_
    · rintro w1 hS _ rfl K hK
      (try simp only [Act.put, List.setIfInBounds_toArray, List.set_cons_zero, List.set_cons_succ])
      go_simp
      exact hK.out _ _ rfl (Below.refl _ _)
    refine StepsL.cons2 11 (some 46) 12 (some 47) (by kernel_rfl) rfl rfl ?_ ?_
    · rintro w1 hS _ rfl _ rfl K hK
      (try simp only [Act.put, List.setIfInBounds_toArray, List.set_cons_zero, List.set_cons_succ])
      go_simp
      exact hK.out _ _ rfl (Below.refl _ _)
    refine StepsL.cons2 11 (some 46) 13 (some 48) (by kernel_rfl) rfl rfl ?_ ?_
    · rintro w1 hS _ rfl _ rfl K hK
      (try simp only [Act.put, List.setIfInBounds_toArray, List.set_cons_zero, List.set_cons_succ])
      have hcq := hS.2.1
      go_simp
      exact hK.out _ _ rfl (Below.refl _ _)
    refine StepsL.cons2 11 (some 46) 14 (some 49) (by kernel_rfl) rfl rfl ?_ ?_
    · rintro w1 hS _ rfl _ rfl K hK
      (try simp only [Act.put, List.setIfInBounds_toArray, List.set_cons_zero, List.set_cons_succ])
      go_simp
      exact hK.out _ _ rfl (Below.refl _ _)
    refine StepsL.cons2 11 (some 46) 15 (some 50) (by kernel_rfl) rfl rfl ?_ ?_
    · rintro w1 hS _ rfl _ rfl K hK
      (try simp only [Act.put, List.setIfInBounds_toArray, List.set_cons_zero, List.set_cons_succ])
      go_simp
      exact hK.out _ _ rfl (Below.refl _ _)
    refine StepsL.cons1 16 (some 51) (by kernel_rfl) rfl ?_ ?_
    · rintro w1 hS _ rfl K hK
      (try simp only [Act.put, List.setIfInBounds_toArray, List.set_cons_zero, List.set_cons_succ])
      go_simp
      exact hK.out _ _ rfl (Below.refl _ _)
    refine StepsL.cons1 17 (some 52) (by kernel_rfl) rfl ?_ ?_
    · rintro w1 hS _ rfl K hK
      (try simp only [Act.put, List.setIfInBounds_toArray, List.set_cons_zero, List.set_cons_succ])
      go_simp
      exact hK.out _ _ rfl (Below.refl _ _)
    refine StepsL.cons2 17 (some 52) 18 (some 53) (by kernel_rfl) rfl rfl ?_ ?_
    · rintro w1 hS _ rfl _ rfl K hK
      (try simp only [Act.put, List.setIfInBounds_toArray, List.set_cons_zero, List.set_cons_succ])
      go_simp
      exact hK.out _ _ rfl (Below.refl _ _)
    refine StepsL.cons2 17 (some 52) 19 (some 54) (by kernel_rfl) rfl rfl ?_ ?_
    · rintro w1 hS _ rfl _ rfl K hK
      (try simp only [Act.put, List.setIfInBounds_toArray, List.set_cons_zero, List.set_cons_succ])
      go_simp
      exact hK.out _ _ rfl (Below.refl _ _)
    refine StepsL.cons1 20 (some 55) (by kernel_rfl) rfl ?_ ?_
    · rintro w1 hS _ rfl K hK
      (try simp only [Act.put, List.setIfInBounds_toArray, List.set_cons_zero, List.set_cons_succ])
      go_simp
      exact hK.out _ _ rfl (Below.refl _ _)
    refine StepsL.cons1 21 (some 56) (by kernel_rfl) rfl ?_ ?_
    · rintro w1 hS _ rfl K hK
      (try simp only [Act.put, List.setIfInBounds_toArray, List.set_cons_zero, List.set_cons_succ])
      go_simp
      exact hK.out _ _ rfl (Below.refl _ _)
    refine StepsL.cons2 21 (some 56) 22 (some 57) (by kernel_rfl) rfl rfl ?_ ?_
    · rintro w1 hS _ rfl _ rfl K hK
      (try simp only [Act.put, List.setIfInBounds_toArray, List.set_cons_zero, List.set_cons_succ])
      go_simp
      go_at_call 17
      refine (down17 hS.1).mono ?_
      rintro r w2 ⟨rfl, rfl⟩
      exact hK.out _ _ rfl (Below.refl _ _)
    refine StepsL.cons2 21 (some 56) 23 (some 58) (by kernel_rfl) rfl rfl ?_ ?_
    · rintro w1 hS _ rfl _ rfl K hK
      (try simp only [Act.put, List.setIfInBounds_toArray, List.set_cons_zero, List.set_cons_succ])
      go_simp
      exact hK.out _ _ rfl (Below.refl _ _)
    refine StepsL.cons1 24 (some 59) (by kernel_rfl) rfl ?_ ?_
    · rintro w1 hS _ rfl K hK
      (try simp only [Act.put, List.setIfInBounds_toArray, List.set_cons_zero, List.set_cons_succ])
      go_simp
      exact hK.out _ _ rfl (Below.refl _ _)
    refine StepsL.cons1 25 (some 60) (by kernel_rfl) rfl ?_ ?_
    · rintro w1 hS _ rfl K hK
      (try simp only [Act.put, List.setIfInBounds_toArray, List.set_cons_zero, List.set_cons_succ])
      go_simp
      exact hK.out _ _ rfl (Below.refl _ _)
    refine StepsL.cons2 25 (some 60) 26 (some 61) (by kernel_rfl) rfl rfl ?_ ?_
    · rintro w1 hS _ rfl _ rfl K hK
      (try simp only [Act.put, List.setIfInBounds_toArray, List.set_cons_zero, List.set_cons_succ])
      go_simp
      go_at_call 24
      refine (many24 hS.1).mono ?_
      rintro r w2 ⟨rfl, rfl⟩
      exact hK.out _ _ rfl (Below.refl _ _)
    refine StepsL.cons2 25 (some 60) 27 (some 62) (by kernel_rfl) rfl rfl ?_ ?_
    · rintro w1 hS _ rfl _ rfl K hK
      (try simp only [Act.put, List.setIfInBounds_toArray, List.set_cons_zero, List.set_cons_succ])
      go_simp
      exact hK.out _ _ rfl (Below.refl _ _)
    refine StepsL.cons2 25 (some 60) 28 (some 63) (by kernel_rfl) rfl rfl ?_ ?_
    · rintro w1 hS _ rfl _ rfl K hK
      (try simp only [Act.put, List.setIfInBounds_toArray, List.set_cons_zero, List.set_cons_succ])
      go_simp
      exact hK.out _ _ rfl (Below.refl _ _)
    refine StepsL.cons1 29 (some 64) (by kernel_rfl) rfl ?_ ?_
    · rintro w1 hS _ rfl K hK
      (try simp only [Act.put, List.setIfInBounds_toArray, List.set_cons_zero, List.set_cons_succ])
      go_simp
      exact hK.out _ _ rfl (Below.refl _ _)
    refine StepsL.cons1 30 (some 65) (by kernel_rfl) rfl ?_ ?_
    · rintro w1 hS _ rfl K hK
      (try simp only [Act.put, List.setIfInBounds_toArray, List.set_cons_zero, List.set_cons_succ])
      go_simp
      exact hK.out _ _ rfl (Below.refl _ _)
    refine StepsL.cons2 30 (some 65) 31 (some 66) (by kernel_rfl) rfl rfl ?_ ?_
    · rintro w1 hS _ rfl _ rfl K hK
      (try simp only [Act.put, List.setIfInBounds_toArray, List.set_cons_zero, List.set_cons_succ])
      go_simp
      go_at_call 11
      refine (image11 _ _ _ _ _ _ hS.1).mono ?_
      rintro r w2 ⟨v2, rfl, o2, b2⟩
      obtain ⟨a2, c2, rfl⟩ := row_form o2
      have y2 := bys_own o2
      rw [HIMG.out] at y2
      exact hK.out _ _ ⟨_, _, rfl, y2⟩ b2
    refine StepsL.cons2 30 (some 65) 32 (some 67) (by kernel_rfl) rfl rfl ?_ ?_
    · rintro w1 hS _ rfl _ ⟨b32, c32, rfl, y32⟩ K hK
      (try simp only [Act.put, List.setIfInBounds_toArray, List.set_cons_zero, List.set_cons_succ])
      have hcv := conv_bys (c := c32) (n := 1024) (List.length_replicate).symm y32
      go_simp
      exact hK.out _ _ rfl (Below.refl _ _)
    refine StepsL.cons1 30 (some 65) (by kernel_rfl) rfl ?_ ?_
    · rintro w1 hS _ rfl K hK
      (try simp only [Act.put, List.setIfInBounds_toArray, List.set_cons_zero, List.set_cons_succ])
      have hmk := make28 w1 1024 (by omega)
      go_simp
      exact hK.out _ _ ⟨_, _, rfl, bys_made w1 1024⟩ ((Below.refl _ _).alloc (Nat.le_refl _) _)
    refine StepsL.cons2 30 (some 65) 34 (some 69) (by kernel_rfl) rfl rfl ?_ ?_
    · rintro w1 hS _ rfl _ ⟨b34, c34, rfl, y34⟩ K hK
      (try simp only [Act.put, List.setIfInBounds_toArray, List.set_cons_zero, List.set_cons_succ])
      have hcv := conv_bys (c := c34) (n := 1024) (List.length_replicate).symm y34
      go_simp
      exact hK.out _ _ rfl (Below.refl _ _)
    refine StepsL.cons3 30 (some 65) 33 (some 68) 35 (some 70) (by kernel_rfl) rfl rfl rfl ?_ ?_
    · rintro w1 hS _ rfl _ rfl _ rfl K hK
      (try simp only [Act.put, List.setIfInBounds_toArray, List.set_cons_zero, List.set_cons_succ])
      go_simp
      exact hK.out _ _ rfl (Below.refl _ _)
    refine StepsL.cons2 30 (some 65) 36 (some 71) (by kernel_rfl) rfl rfl ?_ ?_
    · rintro w1 hS _ rfl _ rfl K hK
      (try simp only [Act.put, List.setIfInBounds_toArray, List.set_cons_zero, List.set_cons_succ])
      go_simp
      exact hK.out _ _ rfl (Below.refl _ _)
    refine StepsL.cons1 37 (some 72) (by kernel_rfl) rfl ?_ ?_
    · rintro w1 hS _ rfl K hK
      (try simp only [Act.put, List.setIfInBounds_toArray, List.set_cons_zero, List.set_cons_succ])
      go_simp
      exact hK.out _ _ rfl (Below.refl _ _)
    exact StepsL.nil
  · have e38 : vs 38 = .bool true := hV 38 (by simp)
    simp only [putl, List.foldl_cons, List.foldl_nil, Act.put, List.setIfInBounds_toArray, List.set_cons_zero, List.set_cons_succ, e38]
    clear hV e38
    go_wp2_with fail
    go_ret
    exact ⟨rfl, hS.2.2⟩
end Go.Proofs.Ytklndocfgbbegaa
