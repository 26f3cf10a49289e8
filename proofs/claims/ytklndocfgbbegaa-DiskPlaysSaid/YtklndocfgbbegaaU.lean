/- The document's Write. -/
import Derived.Test.YtklndocfgbbegaaT
import Derived.Test.YtklndocfgbbegaaR
namespace Go.Proofs.Ytklndocfgbbegaa
open Go.ChangeShapes Go.WideShapes Go.ChangeAt Go.RowKit
set_option linter.unusedSimpArgs false
set_option linter.unusedVariables false
theorem own_k12 {w w' : World} {base n m : Nat} {v : Value} {T : List Byte} (h : Own w base v n T) (hn : n ≤ m) (k : K12 m w w') : Own w' base v n T := by
  refine ⟨h.1, ?_⟩
  rcases h.2 with hn' | ⟨q, cap, cur, rfl, hb, hq, hnc, hcm, hcs, htake⟩
  · exact .inl hn'
  · obtain ⟨cs', h1, h2, h3⟩ := k q cur _ hq
    refine .inr ⟨q, cap, cs', rfl, hb, h1, hnc, hcm, h2.trans hcs, ?_⟩
    rw [Nat.mul_one] at htake ⊢
    have := congrArg (List.take n) h3
    rw [List.take_take, List.take_take, Nat.min_eq_left hn] at this
    exact this.trans htake
theorem below_le {B B' : Nat} {w w' : World} (h : Below B w w') (hb : B' ≤ B) : Below B' w w' := ⟨h.os, h.tape, h.output, h.size, fun k hk => h.block k (by omega)⟩
theorem grown_le {B : Nat} {w w' : World} {r : Option Nat} (j : w.grownBy w' r) (hB : B ≤ w.heap.size) (hr : ∀ q, r = some q → B ≤ q) : Below B w w' :=
  ⟨j.os, j.tape, j.output, j.size, fun k hk => j.block k (by omega) (fun e => by have := hr k e.symm; omega)⟩
theorem run_app_bys (w : World) (base : Nat) (ty : TypeId) (v : Value) (n : Nat) (T : List (BitVec 8)) (hown : Own w base v n T) (ao : Option Addr) (m c : Nat) (D : List (BitVec 8)) (hm : m = D.length) (hD : Bys w ao D)
    (h47 : n + m ≤ 140737488355328) (hbase : base ≤ w.heap.size) :
    ∃ v' w', (Builtin.append_ #[28, 28] ty #[v, .slice ao m c]).run Try.prog w = .ok v' w' ∧ Own w' base v' (n + m) (T ++ D) ∧ w.grownBy w' v.ownBlock := by
  obtain ⟨i0, hi, hz0, hz1, hz2⟩ := info_parts info5
  cases ao with
  | none =>
    obtain rfl := hD.nil rfl
    obtain rfl : m = 0 := hm
    refine ⟨v, w, ?_, by simpa using hown, World.grownBy.refl _ _⟩
    rcases hown.2 with ⟨rfl, rfl⟩ | ⟨b, cap, cur, rfl, _, _, hnc, _⟩
    · simp [Builtin.append_, run_underlying Try.underlying28, sizeOf, typeInfo, hi, Builtin.lenOf, Builtin.firstCells]
    · simp [Builtin.append_, run_underlying Try.underlying28, sizeOf, typeInfo, hi, Builtin.lenOf, Builtin.firstCells, hnc, storeCells]
  | some a =>
    have h3 := hD.cells a rfl
    obtain ⟨v', w', hr, k1, k2, _⟩ := run_append_own (P := Try.prog) w base 28 ty 5 i0 (.int .u8 0) 1 1 Try.underlying28 hi hz0 hz1 hz2 rfl (by decide) v n (T.map c8) hown a m c (D.map c8) (by simp [hm])
      (fun j u hu => by obtain ⟨x, hx, rfl⟩ := c8_at hu; exact h3 j x hx) (c8_one D) (by unfold maxLen; omega) (by omega) hbase
    exact ⟨v', w', hr, by simpa [Own] using k1, k2⟩
theorem wp_app_fresh {o : Oper} {a : Act} {w : World} {K : Act → World → Prop} {Q : Exit → Act → World → Prop} (s x : Operand)
    (ho : o.op = .call { callee := .builtin .append, args := #[s, x], argTypes := #[28, 28] })
    (base y : Nat) (hs : a.eval s = .slice (some ⟨y, 0, none⟩) 0 0) (hown : Own w base (.slice (some ⟨y, 0, none⟩) 0 0) 0 []) (ao : Option Addr) (m c : Nat) (D : List (BitVec 8)) (hx : a.eval x = .slice ao m c) (hm : m = D.length) (hD : Bys w ao D)
    (h47 : m ≤ 140737488355328) (hbase : base ≤ w.heap.size)
    (h : ∀ v' w', Own w' base v' m D → Below w.heap.size w w' → K (a.put o.dst v') w') : o.wp Try.prog a w K Q := by
  obtain ⟨v', w', hr, h2, h3⟩ := run_app_bys w base o.type _ 0 [] hown ao m c D hm hD (by omega) hbase
  have hB : Below w.heap.size w w' := by
    obtain ⟨i0, hi, hz0, hz1, hz2⟩ := info_parts info5
    cases ao with
    | none =>
      obtain rfl := hD.nil rfl
      obtain rfl : m = 0 := hm
      have : (Builtin.append_ #[28, 28] o.type #[.slice (some ⟨y, 0, none⟩) 0 0, .slice none 0 c]).run Try.prog w = .ok (.slice (some ⟨y, 0, none⟩) 0 0) w := by
        simp [Builtin.append_, run_underlying Try.underlying28, sizeOf, typeInfo, hi, Builtin.lenOf, Builtin.firstCells, storeCells]
      rw [this] at hr
      injection hr with _ e
      subst e
      exact Below.refl _ _
    | some a' =>
      have h3' := hD.cells a' rfl
      by_cases hm0 : m = 0
      · subst hm0
        have := run_append_room_cells (P := Try.prog) w 28 o.type 5 i0 Try.underlying28 hi y 0 0 0 a' 0 c [] (by simp) (by simp) (by simp) (by omega) (by simp) (by simp)
        rw [this] at hr
        injection hr with _ e
        subst e
        exact Below.refl _ _
      · have := run_append_grow (P := Try.prog) w 28 o.type 5 i0 _ Try.underlying28 hi hz0 ⟨y, 0, none⟩ 0 0 [] (by simp) (by simp) a' m c (D.map c8) (by rw [List.length_map, hz1, hm, Nat.mul_one]) (fun j u hu => by obtain ⟨x, hx, rfl⟩ := c8_at hu; exact h3' j x hx) (by omega) (by omega) (growslice_fits (by omega) (by rw [hz2]; omega))
        rw [this] at hr
        injection hr with _ e
        rw [← e]
        exact ⟨rfl, rfl, rfl, by simp, fun k hk => Below.heap_alloc w.drew _ k hk⟩
  unfold Oper.wp execOp
  simp only [ho, resolve, invoke, builtin, Sem.run_bind, Sem.run_pure, Result.andThen_ok, List.map_toArray, List.map_cons, List.map_nil, hs, hx, hr]
  exact h v' w' (by simpa using h2) hB
theorem wp_app_zeros {o : Oper} {a : Act} {w : World} {K : Act → World → Prop} {Q : Exit → Act → World → Prop} (s x : Operand)
    (ho : o.op = .call { callee := .builtin .append, args := #[s, x], argTypes := #[28, 3] })
    (base : Nat) (v : Value) (n : Nat) (T : List Byte) (hs : a.eval s = v) (hown : Own w base v n T) (m : Nat) (hx : a.eval x = .int .i64 (m : Int)) (hnm : n + m ≤ 1000000) (hbase : base ≤ w.heap.size)
    (h : ∀ v' w', Own w' base v' (n + m) (T ++ List.replicate m 0#8) → w.grownBy w' v.ownBlock → K12 n w w' → K (a.put o.dst v') w') : o.wp Try.prog a w K Q := by
  obtain ⟨v', w', hr, h2, h3, h4⟩ := run_app_zeros w base o.type v n T hown m hnm hbase
  unfold Oper.wp execOp
  simp only [ho, resolve, invoke, builtin, Sem.run_bind, Sem.run_pure, Result.andThen_ok, List.map_toArray, List.map_cons, List.map_nil, hs, hx, hr]
  exact h v' w' h2 h3 h4
theorem info66 : (Try.prog.info? 66).map (fun i => (i.zero, i.size, i.bytes)) = some (some (.agg #[.int .i64 0, .slice none 0 0]), 2, 32) := by kernel_rfl
theorem wp_bs66 {o : Oper} {a : Act} {w : World} {K : Act → World → Prop} {Q : Exit → Act → World → Prop} (x : Operand) (ho : o.op = .buildSlice 49 1 #[(0, x)])
    (z : Int) (u : Value) (hx : a.eval x = .agg #[.int .i64 z, u]) (hu : u.cells = #[u]) (h : K (a.put o.dst (.slice (some ⟨w.heap.size, 0, none⟩) 1 1)) (w.alloc (.cells #[.int .i64 z, u] 66))) : o.wp Try.prog a w K Q := by
  obtain ⟨i0, hi, hz0, hz1, hz2⟩ := info_parts info66
  have hb : (Instr.buildSlice 49 1 #[(0, .agg #[.int .i64 z, u])]).run Try.prog w = .ok (.slice (some ⟨w.heap.size, 0, none⟩) 1 1) (w.alloc (.cells #[.int .i64 z, u] 66)) := by
    simp [Instr.buildSlice, run_underlying Try.underlying49, sizeOf, typeInfo, zeroValue, hi, hz0, hz1, Instr.fill, newRow, Value.cells]
    have e2 : Array.range 2 = #[0, 1] := by simp [Array.range]; rfl
    rw [e2]
    simp
  unfold Oper.wp execOp
  simp only [ho, List.map_toArray, List.map_cons, List.map_nil, hx, Sem.run_bind, hb, Result.andThen_ok]
  exact h
theorem wp_app66 {o : Oper} {a : Act} {w : World} {K : Act → World → Prop} {Q : Exit → Act → World → Prop} (s x : Operand)
    (ho : o.op = .call { callee := .builtin .append, args := #[s, x], argTypes := #[49, 49] })
    (base : Nat) (v : Value) (n : Nat) (xs : List Value) (hs : a.eval s = v) (hown : w.ownsRow base 66 2 v n xs) (y : Nat) (E : List Value) (hx : a.eval x = .slice (some ⟨y, 0, none⟩) 1 1) (hE : E.length = 2) (hone : ∀ u ∈ E, u.oneCell' = true) (hr : w.rangeAt y 0 E)
    (hn : n ≤ 1000000) (hbase : base ≤ w.heap.size)
    (h : ∀ v' w', w'.ownsRow base 66 2 v' (n + 1) (xs ++ E) → w.grownBy w' v.ownBlock → K (a.put o.dst v') w') : o.wp Try.prog a w K Q := by
  obtain ⟨i0, hi, hz0, hz1, hz2⟩ := info_parts info66
  have hcell : ∀ (j : Nat) u, E[j]? = some u → w.cell? ((⟨y, 0, none⟩ : Addr).add j) = some u := fun j u hu => by rw [Addr.add_mid]; exact hr j u hu
  obtain ⟨v', w', hrun, h2, h3, _⟩ := run_append_own (P := Try.prog) w base 49 o.type 66 i0 _ 2 32 Try.underlying49 hi hz0 hz1 hz2 rfl (by omega) v n xs hown ⟨y, 0, none⟩ 1 1 E (by rw [hE]) hcell hone (by unfold maxLen; omega) (by omega) hbase
  unfold Oper.wp execOp
  simp only [ho, resolve, invoke, builtin, Sem.run_bind, Sem.run_pure, Result.andThen_ok, List.map_toArray, List.map_cons, List.map_nil, hs, hx, hrun]
  exact h v' w' h2 h3
/-- A block behind s that holds a sector's bytes. -/
structure Zw (s : Nat) (w : World) (q : Nat) (D : Sct) : Prop where
  le : s ≤ q
  tp : TP w q 5
  rng : w.rangeAt q 0 (D.map c8)
theorem Zw.keep {s q : Nat} {w w' : World} {D : Sct} (h : Zw s w q D) (hk : w'.heap[q]? = w.heap[q]?) : Zw s w' q D := ⟨h.le, h.tp.same hk, fun j u hu => (World.cell?_of_block (a := ⟨q, _, none⟩) hk).trans (h.rng j u hu)⟩
theorem Zw.below {s q : Nat} {w w' : World} {D : Sct} (h : Zw s w q D) (j : Below w.heap.size w w') : Zw s w' q D := h.keep (j.block q h.tp.lt)
theorem Zw.grown {s q : Nat} {w w' : World} {D : Sct} {ob : Option Nat} (h : Zw s w q D) (j : w.grownBy w' ob) (hob : ∀ r, ob = some r → r < s) : Zw s w' q D := h.keep (j.block q h.tp.lt (fun e => by have := hob q e.symm; have := h.le; omega))
/-- How the region's operations change the world. -/
structure Ru (m : Nat) (ob : Option Nat) (g : Nat) (k : Nat) (w w' : World) : Prop where
  b : k ≠ 12 → k ≠ 15 → k ≠ 18 → Below w.heap.size w w'
  z : k = 12 → K12 m w w' ∧ ∀ j, j < w.heap.size → ¬ TP w j 5 → w'.heap[j]? = w.heap[j]?
  o : k = 15 → w.grownBy w' ob
  s : k = 18 → w.grownBy w' (some g)
section
variable {m g k1 s : Nat} {ob : Option Nat} {w w' : World}
theorem Ru.same (h1 : k1 ≠ 12) (h2 : k1 ≠ 15) (h3 : k1 ≠ 18) (j : Below w.heap.size w w') : Ru m ob g k1 w w' := ⟨fun _ _ _ => j, fun e => absurd e h1, fun e => absurd e h2, fun e => absurd e h3⟩
theorem Ru.zeros {r : Option Nat} (hk : K12 m w w') (hj : w.grownBy w' r) (ht : ∀ q, r = some q → TP w q 5) : Ru m ob g 12 w w' := ⟨fun e => absurd rfl e, fun _ => ⟨hk, fun j hj2 hn => hj.block j hj2 (fun e => hn (ht j e.symm))⟩, fun e => absurd e (by decide), fun e => absurd e (by decide)⟩
theorem Ru.app (hj : w.grownBy w' ob) : Ru m ob g 15 w w' := ⟨fun _ e => absurd rfl e, fun e => absurd e (by decide), fun _ => hj, fun e => absurd e (by decide)⟩
theorem Ru.store {v : Value} {i : Nat} : Ru m ob g 18 w (w.setCell ⟨g, i, none⟩ v) := ⟨fun _ _ e => absurd rfl e, fun e => absurd e (by decide), fun e => absurd e (by decide), fun _ => ⟨rfl, rfl, rfl, by simp, fun k hk hne => heap_setCell_other w _ k _ (fun e => hne (by rw [e]))⟩⟩
theorem Ru.keep (r : Ru m ob g k1 w w') (h12 : k1 ≠ 12) (hob : ∀ q, ob = some q → q < s) (hg : g + 1 ≤ s) {j : Nat} (hj : s ≤ j) (hlt : j < w.heap.size) : w'.heap[j]? = w.heap[j]? := by
  by_cases h15 : k1 = 15
  · exact (r.o h15).block j hlt (fun e => by have := hob j e.symm; omega)
  · by_cases h18 : k1 = 18
    · exact (r.s h18).block j hlt (fun e => by injection e with e; omega)
    · exact (r.b h12 h15 h18).block j hlt
theorem Ru.zw (r : Ru m ob g k1 w w') (h12 : k1 ≠ 12) (hob : ∀ q, ob = some q → q < s) (hg : g + 1 ≤ s) {q : Nat} {D : Sct} (z : Zw s w q D) : Zw s w' q D := z.keep (r.keep h12 hob hg z.le z.tp.lt)
theorem Ru.own (r : Ru m ob g k1 w w') {v : Value} {n : Nat} {T : List Byte} (h : Own w s v n T) (hn : n ≤ m) (hob : ∀ q, ob = some q → q < s) (hg : g + 1 ≤ s) : Own w' s v n T := by
  by_cases h12 : k1 = 12
  · exact own_k12 h hn (r.z h12).1
  · exact rowKeep h fun q e => r.keep h12 hob hg (h.lt q e).1 (h.lt q e).2
theorem Ru.row (r : Ru m ob g k1 w w') (h12 : k1 ≠ 12) (h15 : k1 ≠ 15) {v : Value} {n : Nat} {xs : List Value} (h : w.ownsRow (g + 1) 66 2 v n xs) : w'.ownsRow (g + 1) 66 2 v n xs := by
  refine rowKeep h fun q e => ?_
  by_cases h18 : k1 = 18
  · exact (r.s h18).block q (h.lt q e).2 (fun e2 => by injection e2 with e2; have := (h.lt q e).1; omega)
  · exact (r.b h12 h15 h18).block q (h.lt q e).2
end
def V28 (g l c1 s m c k : Nat) (ao1 ao : Option Addr) (B : Sct) (F : List Value) : Nat → Value → World → Prop
  | 0, v, w => v = .pointer (some ⟨g, 0, none⟩)
  | 1, v, w => v = .pointer (some ⟨g, 0, none⟩)
  | 2, v, w => v = .pointer (some ⟨g, 0, none⟩)
  | 3, v, w => v = .pointer (some ⟨g, 1, none⟩)
  | 4, v, w => v = .slice ao1 l c1
  | 5, v, w => v = .int .i64 (k : Nat)
  | 6, v, w => ∃ y, v = .slice (some ⟨y, 0, none⟩) 0 0 ∧ Own w s v 0 []
  | 7, v, w => v = .slice ao m c
  | 8, v, w => ∃ a c, v = .slice a m c ∧ Own w s v m B
  | 9, v, w => v = .slice ao m c
  | 10, v, w => v = .int .i64 (m : Nat)
  | 11, v, w => v = .int .i64 ((512 - m : Nat) : Int)
  | 12, v, w => ∃ q c, v = .slice (some ⟨q, 0, none⟩) 512 c ∧ Zw s w q (padd B)
  | 13, v, w => ∃ q c, v = .agg (wq ((k, padd B), .slice (some ⟨q, 0, none⟩) 512 c)).toArray ∧ Zw s w q (padd B)
  | 14, v, w => ∃ y q c, v = .slice (some ⟨y, 0, none⟩) 1 1 ∧ s ≤ y ∧ TP w y 66 ∧ w.rangeAt y 0 (wq ((k, padd B), .slice (some ⟨q, 0, none⟩) 512 c)) ∧ Zw s w q (padd B)
  | 15, v, w => ∃ a c2 q c, v = .slice a (l + 1) c2 ∧ w.ownsRow (g + 1) 66 2 v (l + 1) (F ++ wq ((k, padd B), .slice (some ⟨q, 0, none⟩) 512 c)) ∧ Zw s w q (padd B)
  | 16, v, w => v = .pointer (some ⟨g, 0, none⟩)
  | 17, v, w => v = .pointer (some ⟨g, 1, none⟩)
  | 18, v, w => True
  | _, _, _ => True
theorem V28_keep (g l c1 s m c k : Nat) (ao1 ao : Option Addr) (B : Sct) (F : List Value) {ob : Option Nat} (hob : ∀ q, ob = some q → q < s) (hg : g + 1 ≤ s) (L : Nat → Bool) (k1 i1 : Nat) (v : Value) (w w' : World) (hC1 : L 12 = false → L 13 = false) (hC2 : L 13 = false → L 14 = false) (hC3 : L 14 = false → L 15 = false) (hk : L k1 = false) (hi : L i1 = true) (h : V28 g l c1 s m c k ao1 ao B F i1 v w) (r : Ru m ob g k1 w w') : V28 g l c1 s m c k ao1 ao B F i1 v w' := by
  rcases i1 with _ | _ | _ | _ | _ | _ | _ | _ | _ | _ | _ | _ | _ | _ | _ | _ | _ | _ | _ | _
  · exact h
  · exact h
  · exact h
  · exact h
  · exact h
  · exact h
  · obtain ⟨y, rfl, o⟩ := h
    exact ⟨_, rfl, r.own o (by omega) hob hg⟩
  · exact h
  · obtain ⟨a, c, rfl, o⟩ := h
    exact ⟨_, _, rfl, r.own o (by omega) hob hg⟩
  · exact h
  · exact h
  · exact h
  · obtain ⟨q, c, rfl, z⟩ := h
    have h12 : k1 ≠ 12 := fun e => by subst e; rw [hk] at hi; cases hi
    exact ⟨_, _, rfl, r.zw h12 hob hg z⟩
  · obtain ⟨q, c, rfl, z⟩ := h
    have h12 : k1 ≠ 12 := fun e => by subst e; have := hC1 hk; rw [this] at hi; cases hi
    exact ⟨_, _, rfl, r.zw h12 hob hg z⟩
  · obtain ⟨y, q, c, rfl, s1, t1, r1, z⟩ := h
    have h12 : k1 ≠ 12 := fun e => by subst e; have := hC2 (hC1 hk); rw [this] at hi; cases hi
    exact ⟨_, _, _, rfl, s1, t1.same (r.keep h12 hob hg s1 t1.lt), fun j u hu => (World.cell?_of_block (a := ⟨y, _, none⟩) (r.keep h12 hob hg s1 t1.lt)).trans (r1 j u hu), r.zw h12 hob hg z⟩
  · obtain ⟨a, c2, q, c, rfl, o, z⟩ := h
    have h12 : k1 ≠ 12 := fun e => by subst e; have := hC3 (hC2 (hC1 hk)); rw [this] at hi; cases hi
    have h15 : k1 ≠ 15 := fun e => by subst e; rw [hk] at hi; cases hi
    exact ⟨_, _, _, _, rfl, r.row h12 h15 o, r.zw h12 hob hg z⟩
  · exact h
  · exact h
  · exact h
  · trivial
/-- The region's world, by the operations that are done. -/
structure SU (gt n : Nat) (x : World) (ob : Option Nat) (d2 : DS) (L : Nat → Bool) (w : World) : Prop where
  f : Ft (XR gt x) x w
  h : L 15 = false → L 18 = false → Below x.heap.size x w
  o : L 18 = false → x.grownBy w ob
  d : L 18 = true → Rf w gt n d2
section
variable {gt n : Nat} {x w w' : World} {ob : Option Nat} {d2 : DS} {L : Nat → Bool}
theorem SU.step (h : SU gt n x ob d2 L w) (i : Nat) (h1 : i ≠ 15) (h2 : i ≠ 18) : SU gt n x ob d2 (fun j => j == i || L j) w :=
  ⟨h.f, fun e e2 => h.h (by simp at e; exact e.2) (by simp at e2; exact e2.2), fun e => h.o (by simp at e; exact e.2), fun e => h.d (by simp at e; rcases e with e | e; exact absurd e.symm h2; exact e)⟩
theorem SU.more (h : SU gt n x ob d2 L w) (i : Nat) (h1 : i ≠ 15) (h2 : i ≠ 18) (h15 : L 15 = false) (h18 : L 18 = false) {B : Nat} (hB : B = x.heap.size) (j : Below B w w') : SU gt n x ob d2 (fun j => j == i || L j) w' := by
  subst hB
  have hb := h.h h15 h18
  have hb2 : Below x.heap.size x w' := ⟨j.os.trans hb.os, j.tape.trans hb.tape, j.output.trans hb.output, Nat.le_trans hb.size j.size, fun k hk => (j.block k hk).trans (hb.block k hk)⟩
  exact ⟨Ft.of_below hb2, fun _ _ => hb2, fun _ => ⟨hb2.os, hb2.tape, hb2.output, hb2.size, fun k hk _ => hb2.block k hk⟩, fun e => by simp [h18] at e; exact absurd e.symm h2⟩
theorem SU.app (h : SU gt n x ob d2 L w) (h18 : L 18 = false) (j : w.grownBy w' ob) (hob : ∀ q, ob = some q → gt < q ∧ TP x q 66) : SU gt n x ob d2 (fun j => j == 15 || L j) w' := by
  have ho := h.o h18
  have o2 : x.grownBy w' ob := ⟨j.os.trans ho.os, j.tape.trans ho.tape, j.output.trans ho.output, Nat.le_trans ho.size j.size, fun k hk hne => (j.block k (Nat.lt_of_lt_of_le hk ho.size) hne).trans (ho.block k hk hne)⟩
  exact ⟨Ft.grown o2 (fun q e => .inr ⟨(hob q e).1, .inr (hob q e).2⟩), fun e => by simp at e, fun _ => o2, fun e => by simp [h18] at e⟩
end
/-- What waits, one more. -/
theorem Rf.push {x w : World} {gt n : Nat} {d : DS} (h : Rf x gt n d) (Wv : Value) (hc : x.cell? ⟨gt, 1, none⟩ = some Wv) (hj : x.grownBy w Wv.ownBlock) (hob : ∀ q, Wv.ownBlock = some q → gt < q ∧ TP x q 66) (v : Value) (WL : List (Wt × Value)) (ho : w.ownsRow (gt + 1) 66 2 v WL.length (WL.flatMap wq)) (hS : ∀ e ∈ WL, Sl gt w e.2 e.1.2) (hw : ∀ p ∈ WL.map (·.1), p.1 < n ∧ p.2.length = 512) :
    Rf (w.setCell ⟨gt, 1, none⟩ v) gt n { d with W := WL.map (·.1) } := by
  have hlt := h.lt
  obtain ⟨Lv, Wv', LL, WL', h1, h2, h3, h4, h5, h6⟩ := h.at_
  have hk : ∀ q e, TP x q e → e ≠ 66 → w.heap[q]? = x.heap[q]? := fun q e ht he => hj.block q ht.lt (fun e2 => (ht.ne (hob q e2.symm).2 he) rfl)
  have hg : w.heap[gt]? = x.heap[gt]? := hj.block gt hlt (fun e => by have := (hob gt e.symm).1; omega)
  have hne : ∀ k, gt < k → (w.setCell ⟨gt, 1, none⟩ v).heap[k]? = w.heap[k]? := fun k hk => heap_setCell_other w _ k v (fun e => by have e2 : k = gt := e; omega)
  refine ⟨⟨Lv, v, LL, WL, by rw [heap_setCell_same w gt 1 _ 51 _ (hg.trans h1)]; rfl, rowKeep h2 fun q e => (hne q (h2.lt q e).1).trans (hk q 28 (row_tp h2 q e) (by decide)), by rw [List.length_map]; exact rowKeep ho fun q e => hne q (ho.lt q e).1, rfl, fun i u hu => (h5 i u hu).keep fun k hg ht => (hne k hg).trans (hk k 5 ht (by decide)), fun e he => (hS e he).keep fun k hg _ => hne k hg⟩, hw, h.fb⟩
set_option maxRecDepth 4000 in
set_option maxHeartbeats 4000000 in
theorem rwrite28 (w : World) (g n : Nat) (d : DS) (hD : Rf w g n d) (i : Int) (ao : Option Addr) (m c : Nat) (B : Sct) (hm : m = B.length) (hB : Byg g w ao B) (hW : d.W.length ≤ 1000000) (hn9 : n ≤ 1000000) :
    Calls Try.prog 28 #[.pointer (some ⟨g, 0, none⟩), .int .i64 i, .slice ao m c] w fun e w' => e = .returned (.int .i64 (wrote n d i B).1) ∧ Rf w' g n (wrote n d i B).2 ∧ Ft (XR g w) w w' := by
  have C31 := Lib.hid (rcrash31 hD d.W.length)
  have c2 := hD.c2
  have c3 := hD.c3
  have f2 := hD.frozen 2
  obtain ⟨La, Lc, Wa, Wc, e0, e1⟩ := hD.slots
  unfold wrote
  by_cases hmay : Mayc n d i = 0
  · rw [if_neg (by simpa using hmay)]
    have hi0 : d.down = false ∧ 0 ≤ i ∧ i < n := by
      unfold Mayc at hmay
      split at hmay
      · omega
      · rename_i h9
        refine ⟨by simpa using h9, ?_⟩
        split at hmay <;> omega
    obtain ⟨hdn, hi0⟩ := hi0
    obtain ⟨k, rfl⟩ : ∃ k : Nat, i = k := ⟨i.toNat, by omega⟩
    rw [hdn] at c3
    have t1 : decide ((k : Int) < 0) = false := by simp
    have t2 : decide ((k : Int) ≥ (n : Int)) = false := by simp; omega
    have t3 : decide (n ≤ k) = false := by simp; omega
    clear hmay
    by_cases hl : 512 < B.length
    · rw [if_pos hl]
      have d1 : decide ((m : Int) > 512) = true := by simp; omega
      have d1' : decide (512 < m) = true := by simp; omega
      have HM := Lib.hid hm
      clear hm
      go_enter Try.func28, Try.ntmps28
      go_wp2_with fail
      go_ret
      exact ⟨rfl, hD, Ft.refl _ _⟩
    · rw [if_neg hl]
      have d1 : decide ((m : Int) > 512) = false := by simp; omega
      have d1' : decide (512 < m) = false := by simp; omega
      by_cases hf : d.fuse = 0
      · rw [if_pos hf]
        rw [hf] at c2
        have HM := Lib.hid hm
        clear hm
        go_enter Try.func28, Try.ntmps28
        go_wp2_with (first | (go_at_call 31; (with_reducible refine C31.out.mono ?_); rintro e w3 ⟨rfl, hD3, hF3⟩))
        go_ret
        exact ⟨rfl, hD3, hF3⟩
      · rw [if_neg hf]
        have hm512 : m ≤ 512 := by omega
        have HM := Lib.hid hm
        clear hm
        have d2 : (d.fuse == 0) = false := by simpa using hf
        by_cases hfp : 0 < d.fuse
        · have d3 : decide (d.fuse > 0) = true := by simp; omega
          have ew : IntKind.i64.wrap (d.fuse - 1) = d.fuse - 1 := IntWalk.i64_in _ (by have := hD.fb; omega)
          go_enter Try.func28, Try.ntmps28
          go_upto_region 10 with fail
          obtain ⟨x, hx1⟩ : ∃ x, w.setCell ⟨g, 2, none⟩ (.int .i64 (d.fuse - 1)) = x := ⟨_, rfl⟩
          have hDx : Rf x g n { d with fuse := d.fuse - 1 } := by rw [← hx1]; exact hD.set23 2 _ _ rfl rfl (by have := hD.fb; show -1 ≤ d.fuse - 1 ∧ d.fuse - 1 < _; omega) (fun _ _ => rfl)
          have hFx : Ft (XR g w) w x := by rw [← hx1]; exact (Ft.refl _ w).setCell _ _ (.inl rfl)
          have hBx : Byg g x ao B := by rw [← hx1]; exact hB.keep fun k hk hne => heap_setCell_other w _ k _ hne
          rw [hx1]
          clear hx1 hD hB c2 c3 f2 C31 e0 e1
          obtain ⟨Lv, Wv, LL, WL, q1, q2, q3, q4, q5, q6⟩ := hDx.at_
          obtain ⟨ao1, k1, rfl⟩ := row_form q3
          have hgx : g + 1 ≤ x.heap.size := hDx.lt
          have cx1 : x.cell? ⟨g, 1, none⟩ = some (.slice ao1 d.W.length k1) := by rw [cell_of_row x g 1 _ 51 _ q1]; rfl
          have hwl : WL.length = d.W.length := by rw [← q4, List.length_map]
          have hobx : ∀ q, (Value.slice ao1 d.W.length k1).ownBlock = some q → g < q ∧ TP x q 66 := fun q e => ⟨(q3.lt q e).1, row_tp q3 q e⟩
          have HOB : Hid (∀ q, (Value.slice ao1 d.W.length k1).ownBlock = some q → q < x.heap.size) := Lib.hid (fun q e => (q3.lt q e).2)
          have HE : Hid (IntKind.i64.wrap (512 - (m : Int)) = ((512 - m : Nat) : Int)) := Lib.hid (by rw [IntWalk.i64_in _ (by omega)]; omega)
          have HB : Hid (∀ w1, Below x.heap.size x w1 → Bys w1 ao B) := Lib.hid (fun w1 j => (hBx.below j).bys)
          have HOWN : Hid (∀ w1, Below x.heap.size x w1 → w1.ownsRow (g + 1) 66 2 (.slice ao1 d.W.length k1) d.W.length (WL.flatMap wq)) := Lib.hid (fun w1 j => rowKeep q3 fun q e => j.block q (q3.lt q e).2)
          have HBL : ∀ L w1, SU g n x (Value.slice ao1 d.W.length k1).ownBlock { d with W := d.W ++ [(k, padd B)], fuse := d.fuse - 1 } L w1 → L 18 = false → w1.heap[g]? = x.heap[g]? := fun L w1 hS h18 => (hS.o h18).block g hgx (fun e => by have := (hobx g e.symm).1; omega)
          have HC1 : Hid (∀ L w1, SU g n x (Value.slice ao1 d.W.length k1).ownBlock { d with W := d.W ++ [(k, padd B)], fuse := d.fuse - 1 } L w1 → L 18 = false → w1.cell? ⟨g, 1, none⟩ = some (.slice ao1 d.W.length k1)) := Lib.hid (fun L w1 hS h18 => (World.cell?_of_block (a := ⟨g, 1, none⟩) (HBL L w1 hS h18)).trans cx1)
          have HF1 : Hid (∀ L w1, SU g n x (Value.slice ao1 d.W.length k1).ownBlock { d with W := d.W ++ [(k, padd B)], fuse := d.fuse - 1 } L w1 → L 18 = false → w1.frozen? ⟨g, 1, none⟩ = false) := Lib.hid (fun L w1 hS h18 => (World.frozen?_of_block (a := ⟨g, 1, none⟩) (HBL L w1 hS h18)).trans (hDx.frozen 1))
          have HZ : Hid (∀ w2 v', Own w2 x.heap.size v' (m + (512 - m)) (B ++ List.replicate (512 - m) 0#8) → ∃ q c, v' = .slice (some ⟨q, 0, none⟩) 512 c ∧ Zw x.heap.size w2 q (padd B)) := Lib.hid (fun w2 v' ho => by
            rw [show m + (512 - m) = 512 by omega] at ho
            obtain ⟨q, c, e, h1, h2, h3, _⟩ := row_pos ho (by omega)
            refine ⟨q, c, e, h1, h2, fun j u hu => ?_⟩
            rw [Nat.zero_add]
            refine h3 j u ?_
            unfold padd at hu
            rw [HM.out]
            exact hu)
          have HST : Hid (∀ (L : Nat → Bool) (w1 : World) (v : Value) (q c : Nat), SU g n x (Value.slice ao1 d.W.length k1).ownBlock { d with W := d.W ++ [(k, padd B)], fuse := d.fuse - 1 } L w1 → L 18 = false → w1.ownsRow (g + 1) 66 2 v (d.W.length + 1) (WL.flatMap wq ++ wq ((k, padd B), .slice (some ⟨q, 0, none⟩) 512 c)) → Zw x.heap.size w1 q (padd B) → SU g n x (Value.slice ao1 d.W.length k1).ownBlock { d with W := d.W ++ [(k, padd B)], fuse := d.fuse - 1 } (fun j => j == 18 || L j) (w1.setCell ⟨g, 1, none⟩ v)) := Lib.hid (fun L w1 v q c hS h18 ho hz => by
            have hpl : (padd B).length = 512 := padd_len (by have := HM.out; omega)
            have hR := hDx.push (.slice ao1 d.W.length k1) cx1 (hS.o h18) hobx v (WL ++ [((k, padd B), .slice (some ⟨q, 0, none⟩) 512 c)]) (by rw [List.length_append, List.flatMap_append]; simpa [hwl] using ho) (fun e he => by
              rcases List.mem_append.1 he with h | h
              · exact (q6 e h).keep fun k2 hg ht => (hS.o h18).block k2 ht.lt (fun e2 => (ht.ne (hobx k2 e2.symm).2 (by decide)) rfl)
              · rw [List.mem_singleton] at h
                subst h
                exact ⟨q, c, rfl, hpl, by have := hz.le; omega, hz.tp, hz.rng⟩) (fun p hp => by
              rw [List.map_append] at hp
              rcases List.mem_append.1 hp with h | h
              · rw [q4] at h; exact hDx.wl p h
              · simp at h; subst h; exact ⟨by show k < n; omega, hpl⟩)
            exact ⟨hS.f.setCell _ _ (.inl rfl), fun _ e => by simp at e, fun e => by simp at e, fun _ => by rw [List.map_append, q4] at hR; exact hR⟩)
          have HAP : Hid (∀ (L : Nat → Bool) (w1 w2 : World), SU g n x (Value.slice ao1 d.W.length k1).ownBlock { d with W := d.W ++ [(k, padd B)], fuse := d.fuse - 1 } L w1 → L 18 = false → w1.grownBy w2 (Value.slice ao1 d.W.length k1).ownBlock → SU g n x (Value.slice ao1 d.W.length k1).ownBlock { d with W := d.W ++ [(k, padd B)], fuse := d.fuse - 1 } (fun j => j == 15 || L j) w2) := Lib.hid (fun L w1 w2 hS h18 hj => hS.app h18 hj hobx)
          have p28 : SU g n x (Value.slice ao1 d.W.length k1).ownBlock { d with W := d.W ++ [(k, padd B)], fuse := d.fuse - 1 } (fun _ => false) x.drew := ⟨Ft.of_below ((Below.refl _ _).drew), fun _ _ => (Below.refl _ _).drew, fun _ => ⟨rfl, rfl, rfl, Nat.le_refl _, fun _ _ _ => rfl⟩, fun e => by cases e⟩
          clear cx1 hobx HBL hwl q1 q2 q4 q5 q6 hBx
          refine region_monoR (SU g n x (Value.slice ao1 d.W.length k1).ownBlock { d with W := d.W ++ [(k, padd B)], fuse := d.fuse - 1 }) (Ru m (Value.slice ao1 d.W.length k1).ownBlock g) (V28 g d.W.length k1 x.heap.size m c k ao1 ao B (WL.flatMap wq)) [(0, some 51), (1, some 52), (2, some 53), (3, some 54), (4, some 55), (5, some 56), (6, some 57), (7, some 58), (8, some 59), (9, some 60), (10, some 61), (11, some 62), (12, some 63), (13, some 64), (14, some 65), (15, some 66), (16, some 67), (17, some 68), (18, none)] (by kernel_rfl) (by kernel_rfl) (by kernel_rfl) (fun L i1 j1 v1 w1 w2 hC1 h1 h2 h3 h4 => V28_keep g _ _ _ m _ _ _ _ _ _ HOB.out hgx L i1 j1 v1 w1 w2 (fun e => hC1.no e (j := 13) rfl (by kernel_rfl)) (fun e => hC1.no e (j := 14) rfl (by kernel_rfl)) (fun e => hC1.no e (j := 15) rfl (by kernel_rfl)) h1 h2 h3 h4) (p28) ?_ (fun vs w' L hS hLL hV => ?_)
          · refine StepsN.cons0  (by kernel_rfl)  ?_ ?_
            · rintro L hC hL w1 hS  K hK
              (try simp only [Act.put, List.setIfInBounds_toArray, List.set_cons_zero, List.set_cons_succ])
              go_simp
              exact hK.out _ _ rfl ⟨hS.step _ (by decide) (by decide), Ru.same (by decide) (by decide) (by decide) (Below.refl _ _)⟩
            refine StepsN.cons0  (by kernel_rfl)  ?_ ?_
            · rintro L hC hL w1 hS  K hK
              (try simp only [Act.put, List.setIfInBounds_toArray, List.set_cons_zero, List.set_cons_succ])
              go_simp
              exact hK.out _ _ rfl ⟨hS.step _ (by decide) (by decide), Ru.same (by decide) (by decide) (by decide) (Below.refl _ _)⟩
            refine StepsN.cons1 1 (some 52) (by kernel_rfl) rfl ?_ ?_
            · rintro L hC hL w1 hS _ rfl K hK
              (try simp only [Act.put, List.setIfInBounds_toArray, List.set_cons_zero, List.set_cons_succ])
              go_simp
              exact hK.out _ _ rfl ⟨hS.step _ (by decide) (by decide), Ru.same (by decide) (by decide) (by decide) (Below.refl _ _)⟩
            refine StepsN.cons1 2 (some 53) (by kernel_rfl) rfl ?_ ?_
            · rintro L hC hL w1 hS _ rfl K hK
              (try simp only [Act.put, List.setIfInBounds_toArray, List.set_cons_zero, List.set_cons_succ])
              go_simp
              exact hK.out _ _ rfl ⟨hS.step _ (by decide) (by decide), Ru.same (by decide) (by decide) (by decide) (Below.refl _ _)⟩
            refine StepsN.cons1 3 (some 54) (by kernel_rfl) rfl ?_ ?_
            · rintro L hC hL w1 hS _ rfl K hK
              (try simp only [Act.put, List.setIfInBounds_toArray, List.set_cons_zero, List.set_cons_succ])
              have h4 : L 4 = false := hL
              have h15 := hC.no h4 (j := 15) rfl (by kernel_rfl)
              have h18 := hC.no h15 (j := 18) rfl (by kernel_rfl)
              have hc1 : w1.cell? ⟨g, 1, none⟩ = some (.slice ao1 d.W.length k1) := HC1.out L w1 hS h18
              go_simp
              exact hK.out _ _ rfl ⟨hS.step _ (by decide) (by decide), Ru.same (by decide) (by decide) (by decide) (Below.refl _ _)⟩
            refine StepsN.cons0  (by kernel_rfl)  ?_ ?_
            · rintro L hC hL w1 hS  K hK
              (try simp only [Act.put, List.setIfInBounds_toArray, List.set_cons_zero, List.set_cons_succ])
              go_simp
              exact hK.out _ _ rfl ⟨hS.step _ (by decide) (by decide), Ru.same (by decide) (by decide) (by decide) (Below.refl _ _)⟩
            refine StepsN.cons0  (by kernel_rfl)  ?_ ?_
            · rintro L hC hL w1 hS  K hK
              (try simp only [Act.put, List.setIfInBounds_toArray, List.set_cons_zero, List.set_cons_succ])
              have h6 : L 6 = false := hL
              have h8 := hC.no h6 (j := 8) rfl (by kernel_rfl)
              have h12 := hC.no h8 (j := 12) rfl (by kernel_rfl)
              have h13 := hC.no h12 (j := 13) rfl (by kernel_rfl)
              have h14 := hC.no h13 (j := 14) rfl (by kernel_rfl)
              have h15 := hC.no h14 (j := 15) rfl (by kernel_rfl)
              have h18 := hC.no h15 (j := 18) rfl (by kernel_rfl)
              go_simp
              exact hK.out _ _ ⟨w1.heap.size, rfl, own_mono (own_new w1) hS.f.size⟩ ⟨hS.more 6 (by decide) (by decide) h15 h18 (B := x.heap.size) rfl (below_le ((Below.refl _ w1).alloc (Nat.le_refl _) _) hS.f.size), Ru.same (by decide) (by decide) (by decide) ((Below.refl _ w1).alloc (Nat.le_refl _) _)⟩
            refine StepsN.cons0  (by kernel_rfl)  ?_ ?_
            · rintro L hC hL w1 hS  K hK
              (try simp only [Act.put, List.setIfInBounds_toArray, List.set_cons_zero, List.set_cons_succ])
              go_simp
              exact hK.out _ _ rfl ⟨hS.step _ (by decide) (by decide), Ru.same (by decide) (by decide) (by decide) (Below.refl _ _)⟩
            refine StepsN.cons2 6 (some 57) 7 (some 58) (by kernel_rfl) rfl rfl ?_ ?_
            · rintro L hC hL w1 hS _ ⟨y6, rfl, o6⟩ _ rfl K hK
              (try simp only [Act.put, List.setIfInBounds_toArray, List.set_cons_zero, List.set_cons_succ])
              have h8 : L 8 = false := hL
              have h12 := hC.no h8 (j := 12) rfl (by kernel_rfl)
              have h13 := hC.no h12 (j := 13) rfl (by kernel_rfl)
              have h14 := hC.no h13 (j := 14) rfl (by kernel_rfl)
              have h15 := hC.no h14 (j := 15) rfl (by kernel_rfl)
              have h18 := hC.no h15 (j := 18) rfl (by kernel_rfl)
              rw [if_pos (by rfl)]
              refine wp_app_fresh (.tmp 57) (.tmp 58) rfl x.heap.size y6 rfl o6 ao m c B rfl HM.out (HB.out w1 (hS.h h15 h18)) (by omega) hS.f.size ?_
              intro v' w2 ho hj
              obtain ⟨a9, c9, rfl⟩ := row_form ho
              exact hK.out _ _ ⟨a9, c9, rfl, ho⟩ ⟨hS.more 8 (by decide) (by decide) h15 h18 rfl (below_le hj hS.f.size), Ru.same (by decide) (by decide) (by decide) hj⟩
            refine StepsN.cons0  (by kernel_rfl)  ?_ ?_
            · rintro L hC hL w1 hS  K hK
              (try simp only [Act.put, List.setIfInBounds_toArray, List.set_cons_zero, List.set_cons_succ])
              go_simp
              exact hK.out _ _ rfl ⟨hS.step _ (by decide) (by decide), Ru.same (by decide) (by decide) (by decide) (Below.refl _ _)⟩
            refine StepsN.cons1 9 (some 60) (by kernel_rfl) rfl ?_ ?_
            · rintro L hC hL w1 hS _ rfl K hK
              (try simp only [Act.put, List.setIfInBounds_toArray, List.set_cons_zero, List.set_cons_succ])
              go_simp
              exact hK.out _ _ rfl ⟨hS.step _ (by decide) (by decide), Ru.same (by decide) (by decide) (by decide) (Below.refl _ _)⟩
            refine StepsN.cons1 10 (some 61) (by kernel_rfl) rfl ?_ ?_
            · rintro L hC hL w1 hS _ rfl K hK
              (try simp only [Act.put, List.setIfInBounds_toArray, List.set_cons_zero, List.set_cons_succ])
              have he := HE.out
              go_simp
              exact hK.out _ _ rfl ⟨hS.step _ (by decide) (by decide), Ru.same (by decide) (by decide) (by decide) (Below.refl _ _)⟩
            refine StepsN.cons2 8 (some 59) 11 (some 62) (by kernel_rfl) rfl rfl ?_ ?_
            · rintro L hC hL w1 hS _ ⟨a8, c8, rfl, o8⟩ _ rfl K hK
              (try simp only [Act.put, List.setIfInBounds_toArray, List.set_cons_zero, List.set_cons_succ])
              have h12 : L 12 = false := hL
              have h13 := hC.no h12 (j := 13) rfl (by kernel_rfl)
              have h14 := hC.no h13 (j := 14) rfl (by kernel_rfl)
              have h15 := hC.no h14 (j := 15) rfl (by kernel_rfl)
              have h18 := hC.no h15 (j := 18) rfl (by kernel_rfl)
              rw [if_pos (by rfl)]
              refine wp_app_zeros (.tmp 59) (.tmp 62) rfl x.heap.size (.slice a8 m c8) m B rfl o8 (512 - m) rfl (by omega) hS.f.size ?_
              intro v' w2 ho hj hk
              obtain ⟨q9, c9, e9, z9⟩ := HZ.out w2 v' ho
              subst e9
              exact hK.out _ _ ⟨q9, c9, rfl, z9⟩ ⟨hS.more 12 (by decide) (by decide) h15 h18 rfl (grown_le hj hS.f.size fun q e => (o8.lt q e).1), Ru.zeros hk hj (row_tp o8)⟩
            refine StepsN.cons2 5 (some 56) 12 (some 63) (by kernel_rfl) rfl rfl ?_ ?_
            · rintro L hC hL w1 hS _ rfl _ ⟨q12, c12, rfl, z12⟩ K hK
              (try simp only [Act.put, List.setIfInBounds_toArray, List.set_cons_zero, List.set_cons_succ])
              go_simp
              exact hK.out _ _ ⟨q12, c12, rfl, z12⟩ ⟨hS.step _ (by decide) (by decide), Ru.same (by decide) (by decide) (by decide) (Below.refl _ _)⟩
            refine StepsN.cons1 13 (some 64) (by kernel_rfl) rfl ?_ ?_
            · rintro L hC hL w1 hS _ ⟨q13, c13, rfl, z13⟩ K hK
              (try simp only [Act.put, List.setIfInBounds_toArray, List.set_cons_zero, List.set_cons_succ])
              have h14 : L 14 = false := hL
              have h15 := hC.no h14 (j := 15) rfl (by kernel_rfl)
              have h18 := hC.no h15 (j := 18) rfl (by kernel_rfl)
              rw [if_pos (by rfl)]
              refine wp_bs66 (.tmp 64) rfl (k : Int) (.slice (some ⟨q13, 0, none⟩) 512 c13) rfl rfl ?_
              have hj := (Below.refl w1.heap.size w1).alloc (Nat.le_refl _) (.cells (wq ((k, padd B), .slice (some ⟨q13, 0, none⟩) 512 c13)).toArray 66)
              exact hK.out _ _ ⟨w1.heap.size, q13, c13, rfl, hS.f.size, ⟨_, _, heap_alloc_new w1 _⟩, range_new w1 _ 66, z13.below hj⟩ ⟨hS.more 14 (by decide) (by decide) h15 h18 rfl (below_le hj hS.f.size), Ru.same (by decide) (by decide) (by decide) hj⟩
            refine StepsN.cons2 4 (some 55) 14 (some 65) (by kernel_rfl) rfl rfl ?_ ?_
            · rintro L hC hL w1 hS _ rfl _ ⟨y14, q14, c14, rfl, s14, t14, r14, z14⟩ K hK
              (try simp only [Act.put, List.setIfInBounds_toArray, List.set_cons_zero, List.set_cons_succ])
              have h15 : L 15 = false := hL
              have h18 := hC.no h15 (j := 18) rfl (by kernel_rfl)
              rw [if_pos (by rfl)]
              refine wp_app66 (.tmp 55) (.tmp 65) rfl (g + 1) (.slice ao1 d.W.length k1) d.W.length (WL.flatMap wq) rfl (HOWN.out w1 (hS.h h15 h18)) y14 (wq ((k, padd B), .slice (some ⟨q14, 0, none⟩) 512 c14)) rfl rfl (by intro u hu; simp [wq] at hu; rcases hu with rfl | rfl <;> rfl) r14 hW (Nat.le_trans hgx hS.f.size) ?_
              intro v' w2 ho hj
              obtain ⟨a9, c9, rfl⟩ := row_form ho
              exact hK.out _ _ ⟨a9, c9, q14, c14, rfl, ho, z14.grown hj HOB.out⟩ ⟨HAP.out L w1 w2 hS h18 hj, Ru.app hj⟩
            refine StepsN.cons1 0 (some 51) (by kernel_rfl) rfl ?_ ?_
            · rintro L hC hL w1 hS _ rfl K hK
              (try simp only [Act.put, List.setIfInBounds_toArray, List.set_cons_zero, List.set_cons_succ])
              go_simp
              exact hK.out _ _ rfl ⟨hS.step _ (by decide) (by decide), Ru.same (by decide) (by decide) (by decide) (Below.refl _ _)⟩
            refine StepsN.cons1 16 (some 67) (by kernel_rfl) rfl ?_ ?_
            · rintro L hC hL w1 hS _ rfl K hK
              (try simp only [Act.put, List.setIfInBounds_toArray, List.set_cons_zero, List.set_cons_succ])
              go_simp
              exact hK.out _ _ rfl ⟨hS.step _ (by decide) (by decide), Ru.same (by decide) (by decide) (by decide) (Below.refl _ _)⟩
            refine StepsN.cons2 15 (some 66) 17 (some 68) (by kernel_rfl) rfl rfl ?_ ?_
            · rintro L hC hL w1 hS _ ⟨a15, d15, q15, c15, rfl, o15, z15⟩ _ rfl K hK
              (try simp only [Act.put, List.setIfInBounds_toArray, List.set_cons_zero, List.set_cons_succ])
              have h18 : L 18 = false := hL
              have hc1 := HC1.out L w1 hS h18
              have hf1 := HF1.out L w1 hS h18
              go_simp
              exact hK.out undef _ trivial ⟨HST.out L w1 _ q15 c15 hS h18 o15 z15, Ru.store⟩
            exact StepsN.nil
          · have hDf := hS.d (hLL 18 (by simp))
            have hF0 := hS.f
            have hFf := hFx.trans hS.f
            simp only [putl, List.foldl_cons, List.foldl_nil, Act.put, List.setIfInBounds_toArray, List.set_cons_zero, List.set_cons_succ]
            clear hV hS hLL p28 hDx hFx
            go_wp2_with fail
            go_ret
            exact ⟨rfl, by simpa [hdn] using hDf, by first | exact hFf | exact hF0⟩
        · have d3 : decide (d.fuse > 0) = false := by simp; omega
          go_enter Try.func28, Try.ntmps28
          go_upto_region 10 with fail
          obtain ⟨x, hx1⟩ : ∃ x, w = x := ⟨_, rfl⟩
          have hDx : Rf x g n d := by rw [← hx1]; exact hD
          have hFx : Ft (XR g w) w x := by rw [← hx1]; exact Ft.refl _ w
          have hBx : Byg g x ao B := by rw [← hx1]; exact hB
          rw [hx1]
          clear hD hB c2 c3 f2 C31 e0 e1
          obtain ⟨Lv, Wv, LL, WL, q1, q2, q3, q4, q5, q6⟩ := hDx.at_
          obtain ⟨ao1, k1, rfl⟩ := row_form q3
          have hgx : g + 1 ≤ x.heap.size := hDx.lt
          have cx1 : x.cell? ⟨g, 1, none⟩ = some (.slice ao1 d.W.length k1) := by rw [cell_of_row x g 1 _ 51 _ q1]; rfl
          have hwl : WL.length = d.W.length := by rw [← q4, List.length_map]
          have hobx : ∀ q, (Value.slice ao1 d.W.length k1).ownBlock = some q → g < q ∧ TP x q 66 := fun q e => ⟨(q3.lt q e).1, row_tp q3 q e⟩
          have HOB : Hid (∀ q, (Value.slice ao1 d.W.length k1).ownBlock = some q → q < x.heap.size) := Lib.hid (fun q e => (q3.lt q e).2)
          have HE : Hid (IntKind.i64.wrap (512 - (m : Int)) = ((512 - m : Nat) : Int)) := Lib.hid (by rw [IntWalk.i64_in _ (by omega)]; omega)
          have HB : Hid (∀ w1, Below x.heap.size x w1 → Bys w1 ao B) := Lib.hid (fun w1 j => (hBx.below j).bys)
          have HOWN : Hid (∀ w1, Below x.heap.size x w1 → w1.ownsRow (g + 1) 66 2 (.slice ao1 d.W.length k1) d.W.length (WL.flatMap wq)) := Lib.hid (fun w1 j => rowKeep q3 fun q e => j.block q (q3.lt q e).2)
          have HBL : ∀ L w1, SU g n x (Value.slice ao1 d.W.length k1).ownBlock { d with W := d.W ++ [(k, padd B)] } L w1 → L 18 = false → w1.heap[g]? = x.heap[g]? := fun L w1 hS h18 => (hS.o h18).block g hgx (fun e => by have := (hobx g e.symm).1; omega)
          have HC1 : Hid (∀ L w1, SU g n x (Value.slice ao1 d.W.length k1).ownBlock { d with W := d.W ++ [(k, padd B)] } L w1 → L 18 = false → w1.cell? ⟨g, 1, none⟩ = some (.slice ao1 d.W.length k1)) := Lib.hid (fun L w1 hS h18 => (World.cell?_of_block (a := ⟨g, 1, none⟩) (HBL L w1 hS h18)).trans cx1)
          have HF1 : Hid (∀ L w1, SU g n x (Value.slice ao1 d.W.length k1).ownBlock { d with W := d.W ++ [(k, padd B)] } L w1 → L 18 = false → w1.frozen? ⟨g, 1, none⟩ = false) := Lib.hid (fun L w1 hS h18 => (World.frozen?_of_block (a := ⟨g, 1, none⟩) (HBL L w1 hS h18)).trans (hDx.frozen 1))
          have HZ : Hid (∀ w2 v', Own w2 x.heap.size v' (m + (512 - m)) (B ++ List.replicate (512 - m) 0#8) → ∃ q c, v' = .slice (some ⟨q, 0, none⟩) 512 c ∧ Zw x.heap.size w2 q (padd B)) := Lib.hid (fun w2 v' ho => by
            rw [show m + (512 - m) = 512 by omega] at ho
            obtain ⟨q, c, e, h1, h2, h3, _⟩ := row_pos ho (by omega)
            refine ⟨q, c, e, h1, h2, fun j u hu => ?_⟩
            rw [Nat.zero_add]
            refine h3 j u ?_
            unfold padd at hu
            rw [HM.out]
            exact hu)
          have HST : Hid (∀ (L : Nat → Bool) (w1 : World) (v : Value) (q c : Nat), SU g n x (Value.slice ao1 d.W.length k1).ownBlock { d with W := d.W ++ [(k, padd B)] } L w1 → L 18 = false → w1.ownsRow (g + 1) 66 2 v (d.W.length + 1) (WL.flatMap wq ++ wq ((k, padd B), .slice (some ⟨q, 0, none⟩) 512 c)) → Zw x.heap.size w1 q (padd B) → SU g n x (Value.slice ao1 d.W.length k1).ownBlock { d with W := d.W ++ [(k, padd B)] } (fun j => j == 18 || L j) (w1.setCell ⟨g, 1, none⟩ v)) := Lib.hid (fun L w1 v q c hS h18 ho hz => by
            have hpl : (padd B).length = 512 := padd_len (by have := HM.out; omega)
            have hR := hDx.push (.slice ao1 d.W.length k1) cx1 (hS.o h18) hobx v (WL ++ [((k, padd B), .slice (some ⟨q, 0, none⟩) 512 c)]) (by rw [List.length_append, List.flatMap_append]; simpa [hwl] using ho) (fun e he => by
              rcases List.mem_append.1 he with h | h
              · exact (q6 e h).keep fun k2 hg ht => (hS.o h18).block k2 ht.lt (fun e2 => (ht.ne (hobx k2 e2.symm).2 (by decide)) rfl)
              · rw [List.mem_singleton] at h
                subst h
                exact ⟨q, c, rfl, hpl, by have := hz.le; omega, hz.tp, hz.rng⟩) (fun p hp => by
              rw [List.map_append] at hp
              rcases List.mem_append.1 hp with h | h
              · rw [q4] at h; exact hDx.wl p h
              · simp at h; subst h; exact ⟨by show k < n; omega, hpl⟩)
            exact ⟨hS.f.setCell _ _ (.inl rfl), fun _ e => by simp at e, fun e => by simp at e, fun _ => by rw [List.map_append, q4] at hR; exact hR⟩)
          have HAP : Hid (∀ (L : Nat → Bool) (w1 w2 : World), SU g n x (Value.slice ao1 d.W.length k1).ownBlock { d with W := d.W ++ [(k, padd B)] } L w1 → L 18 = false → w1.grownBy w2 (Value.slice ao1 d.W.length k1).ownBlock → SU g n x (Value.slice ao1 d.W.length k1).ownBlock { d with W := d.W ++ [(k, padd B)] } (fun j => j == 15 || L j) w2) := Lib.hid (fun L w1 w2 hS h18 hj => hS.app h18 hj hobx)
          have p28 : SU g n x (Value.slice ao1 d.W.length k1).ownBlock { d with W := d.W ++ [(k, padd B)] } (fun _ => false) x.drew := ⟨Ft.of_below ((Below.refl _ _).drew), fun _ _ => (Below.refl _ _).drew, fun _ => ⟨rfl, rfl, rfl, Nat.le_refl _, fun _ _ _ => rfl⟩, fun e => by cases e⟩
          clear cx1 hobx HBL hwl q1 q2 q4 q5 q6 hBx
          refine region_monoR (SU g n x (Value.slice ao1 d.W.length k1).ownBlock { d with W := d.W ++ [(k, padd B)] }) (Ru m (Value.slice ao1 d.W.length k1).ownBlock g) (V28 g d.W.length k1 x.heap.size m c k ao1 ao B (WL.flatMap wq)) [(0, some 51), (1, some 52), (2, some 53), (3, some 54), (4, some 55), (5, some 56), (6, some 57), (7, some 58), (8, some 59), (9, some 60), (10, some 61), (11, some 62), (12, some 63), (13, some 64), (14, some 65), (15, some 66), (16, some 67), (17, some 68), (18, none)] (by kernel_rfl) (by kernel_rfl) (by kernel_rfl) (fun L i1 j1 v1 w1 w2 hC1 h1 h2 h3 h4 => V28_keep g _ _ _ m _ _ _ _ _ _ HOB.out hgx L i1 j1 v1 w1 w2 (fun e => hC1.no e (j := 13) rfl (by kernel_rfl)) (fun e => hC1.no e (j := 14) rfl (by kernel_rfl)) (fun e => hC1.no e (j := 15) rfl (by kernel_rfl)) h1 h2 h3 h4) (p28) ?_ (fun vs w' L hS hLL hV => ?_)
          · refine StepsN.cons0  (by kernel_rfl)  ?_ ?_
            · rintro L hC hL w1 hS  K hK
              (try simp only [Act.put, List.setIfInBounds_toArray, List.set_cons_zero, List.set_cons_succ])
              go_simp
              exact hK.out _ _ rfl ⟨hS.step _ (by decide) (by decide), Ru.same (by decide) (by decide) (by decide) (Below.refl _ _)⟩
            refine StepsN.cons0  (by kernel_rfl)  ?_ ?_
            · rintro L hC hL w1 hS  K hK
              (try simp only [Act.put, List.setIfInBounds_toArray, List.set_cons_zero, List.set_cons_succ])
              go_simp
              exact hK.out _ _ rfl ⟨hS.step _ (by decide) (by decide), Ru.same (by decide) (by decide) (by decide) (Below.refl _ _)⟩
            refine StepsN.cons1 1 (some 52) (by kernel_rfl) rfl ?_ ?_
            · rintro L hC hL w1 hS _ rfl K hK
              (try simp only [Act.put, List.setIfInBounds_toArray, List.set_cons_zero, List.set_cons_succ])
              go_simp
              exact hK.out _ _ rfl ⟨hS.step _ (by decide) (by decide), Ru.same (by decide) (by decide) (by decide) (Below.refl _ _)⟩
            refine StepsN.cons1 2 (some 53) (by kernel_rfl) rfl ?_ ?_
            · rintro L hC hL w1 hS _ rfl K hK
              (try simp only [Act.put, List.setIfInBounds_toArray, List.set_cons_zero, List.set_cons_succ])
              go_simp
              exact hK.out _ _ rfl ⟨hS.step _ (by decide) (by decide), Ru.same (by decide) (by decide) (by decide) (Below.refl _ _)⟩
            refine StepsN.cons1 3 (some 54) (by kernel_rfl) rfl ?_ ?_
            · rintro L hC hL w1 hS _ rfl K hK
              (try simp only [Act.put, List.setIfInBounds_toArray, List.set_cons_zero, List.set_cons_succ])
              have h4 : L 4 = false := hL
              have h15 := hC.no h4 (j := 15) rfl (by kernel_rfl)
              have h18 := hC.no h15 (j := 18) rfl (by kernel_rfl)
              have hc1 : w1.cell? ⟨g, 1, none⟩ = some (.slice ao1 d.W.length k1) := HC1.out L w1 hS h18
              go_simp
              exact hK.out _ _ rfl ⟨hS.step _ (by decide) (by decide), Ru.same (by decide) (by decide) (by decide) (Below.refl _ _)⟩
            refine StepsN.cons0  (by kernel_rfl)  ?_ ?_
            · rintro L hC hL w1 hS  K hK
              (try simp only [Act.put, List.setIfInBounds_toArray, List.set_cons_zero, List.set_cons_succ])
              go_simp
              exact hK.out _ _ rfl ⟨hS.step _ (by decide) (by decide), Ru.same (by decide) (by decide) (by decide) (Below.refl _ _)⟩
            refine StepsN.cons0  (by kernel_rfl)  ?_ ?_
            · rintro L hC hL w1 hS  K hK
              (try simp only [Act.put, List.setIfInBounds_toArray, List.set_cons_zero, List.set_cons_succ])
              have h6 : L 6 = false := hL
              have h8 := hC.no h6 (j := 8) rfl (by kernel_rfl)
              have h12 := hC.no h8 (j := 12) rfl (by kernel_rfl)
              have h13 := hC.no h12 (j := 13) rfl (by kernel_rfl)
              have h14 := hC.no h13 (j := 14) rfl (by kernel_rfl)
              have h15 := hC.no h14 (j := 15) rfl (by kernel_rfl)
              have h18 := hC.no h15 (j := 18) rfl (by kernel_rfl)
              go_simp
              exact hK.out _ _ ⟨w1.heap.size, rfl, own_mono (own_new w1) hS.f.size⟩ ⟨hS.more 6 (by decide) (by decide) h15 h18 (B := x.heap.size) rfl (below_le ((Below.refl _ w1).alloc (Nat.le_refl _) _) hS.f.size), Ru.same (by decide) (by decide) (by decide) ((Below.refl _ w1).alloc (Nat.le_refl _) _)⟩
            refine StepsN.cons0  (by kernel_rfl)  ?_ ?_
            · rintro L hC hL w1 hS  K hK
              (try simp only [Act.put, List.setIfInBounds_toArray, List.set_cons_zero, List.set_cons_succ])
              go_simp
              exact hK.out _ _ rfl ⟨hS.step _ (by decide) (by decide), Ru.same (by decide) (by decide) (by decide) (Below.refl _ _)⟩
            refine StepsN.cons2 6 (some 57) 7 (some 58) (by kernel_rfl) rfl rfl ?_ ?_
            · rintro L hC hL w1 hS _ ⟨y6, rfl, o6⟩ _ rfl K hK
              (try simp only [Act.put, List.setIfInBounds_toArray, List.set_cons_zero, List.set_cons_succ])
              have h8 : L 8 = false := hL
              have h12 := hC.no h8 (j := 12) rfl (by kernel_rfl)
              have h13 := hC.no h12 (j := 13) rfl (by kernel_rfl)
              have h14 := hC.no h13 (j := 14) rfl (by kernel_rfl)
              have h15 := hC.no h14 (j := 15) rfl (by kernel_rfl)
              have h18 := hC.no h15 (j := 18) rfl (by kernel_rfl)
              rw [if_pos (by rfl)]
              refine wp_app_fresh (.tmp 57) (.tmp 58) rfl x.heap.size y6 rfl o6 ao m c B rfl HM.out (HB.out w1 (hS.h h15 h18)) (by omega) hS.f.size ?_
              intro v' w2 ho hj
              obtain ⟨a9, c9, rfl⟩ := row_form ho
              exact hK.out _ _ ⟨a9, c9, rfl, ho⟩ ⟨hS.more 8 (by decide) (by decide) h15 h18 rfl (below_le hj hS.f.size), Ru.same (by decide) (by decide) (by decide) hj⟩
            refine StepsN.cons0  (by kernel_rfl)  ?_ ?_
            · rintro L hC hL w1 hS  K hK
              (try simp only [Act.put, List.setIfInBounds_toArray, List.set_cons_zero, List.set_cons_succ])
              go_simp
              exact hK.out _ _ rfl ⟨hS.step _ (by decide) (by decide), Ru.same (by decide) (by decide) (by decide) (Below.refl _ _)⟩
            refine StepsN.cons1 9 (some 60) (by kernel_rfl) rfl ?_ ?_
            · rintro L hC hL w1 hS _ rfl K hK
              (try simp only [Act.put, List.setIfInBounds_toArray, List.set_cons_zero, List.set_cons_succ])
              go_simp
              exact hK.out _ _ rfl ⟨hS.step _ (by decide) (by decide), Ru.same (by decide) (by decide) (by decide) (Below.refl _ _)⟩
            refine StepsN.cons1 10 (some 61) (by kernel_rfl) rfl ?_ ?_
            · rintro L hC hL w1 hS _ rfl K hK
              (try simp only [Act.put, List.setIfInBounds_toArray, List.set_cons_zero, List.set_cons_succ])
              have he := HE.out
              go_simp
              exact hK.out _ _ rfl ⟨hS.step _ (by decide) (by decide), Ru.same (by decide) (by decide) (by decide) (Below.refl _ _)⟩
            refine StepsN.cons2 8 (some 59) 11 (some 62) (by kernel_rfl) rfl rfl ?_ ?_
            · rintro L hC hL w1 hS _ ⟨a8, c8, rfl, o8⟩ _ rfl K hK
              (try simp only [Act.put, List.setIfInBounds_toArray, List.set_cons_zero, List.set_cons_succ])
              have h12 : L 12 = false := hL
              have h13 := hC.no h12 (j := 13) rfl (by kernel_rfl)
              have h14 := hC.no h13 (j := 14) rfl (by kernel_rfl)
              have h15 := hC.no h14 (j := 15) rfl (by kernel_rfl)
              have h18 := hC.no h15 (j := 18) rfl (by kernel_rfl)
              rw [if_pos (by rfl)]
              refine wp_app_zeros (.tmp 59) (.tmp 62) rfl x.heap.size (.slice a8 m c8) m B rfl o8 (512 - m) rfl (by omega) hS.f.size ?_
              intro v' w2 ho hj hk
              obtain ⟨q9, c9, e9, z9⟩ := HZ.out w2 v' ho
              subst e9
              exact hK.out _ _ ⟨q9, c9, rfl, z9⟩ ⟨hS.more 12 (by decide) (by decide) h15 h18 rfl (grown_le hj hS.f.size fun q e => (o8.lt q e).1), Ru.zeros hk hj (row_tp o8)⟩
            refine StepsN.cons2 5 (some 56) 12 (some 63) (by kernel_rfl) rfl rfl ?_ ?_
            · rintro L hC hL w1 hS _ rfl _ ⟨q12, c12, rfl, z12⟩ K hK
              (try simp only [Act.put, List.setIfInBounds_toArray, List.set_cons_zero, List.set_cons_succ])
              go_simp
              exact hK.out _ _ ⟨q12, c12, rfl, z12⟩ ⟨hS.step _ (by decide) (by decide), Ru.same (by decide) (by decide) (by decide) (Below.refl _ _)⟩
            refine StepsN.cons1 13 (some 64) (by kernel_rfl) rfl ?_ ?_
            · rintro L hC hL w1 hS _ ⟨q13, c13, rfl, z13⟩ K hK
              (try simp only [Act.put, List.setIfInBounds_toArray, List.set_cons_zero, List.set_cons_succ])
              have h14 : L 14 = false := hL
              have h15 := hC.no h14 (j := 15) rfl (by kernel_rfl)
              have h18 := hC.no h15 (j := 18) rfl (by kernel_rfl)
              rw [if_pos (by rfl)]
              refine wp_bs66 (.tmp 64) rfl (k : Int) (.slice (some ⟨q13, 0, none⟩) 512 c13) rfl rfl ?_
              have hj := (Below.refl w1.heap.size w1).alloc (Nat.le_refl _) (.cells (wq ((k, padd B), .slice (some ⟨q13, 0, none⟩) 512 c13)).toArray 66)
              exact hK.out _ _ ⟨w1.heap.size, q13, c13, rfl, hS.f.size, ⟨_, _, heap_alloc_new w1 _⟩, range_new w1 _ 66, z13.below hj⟩ ⟨hS.more 14 (by decide) (by decide) h15 h18 rfl (below_le hj hS.f.size), Ru.same (by decide) (by decide) (by decide) hj⟩
            refine StepsN.cons2 4 (some 55) 14 (some 65) (by kernel_rfl) rfl rfl ?_ ?_
            · rintro L hC hL w1 hS _ rfl _ ⟨y14, q14, c14, rfl, s14, t14, r14, z14⟩ K hK
              (try simp only [Act.put, List.setIfInBounds_toArray, List.set_cons_zero, List.set_cons_succ])
              have h15 : L 15 = false := hL
              have h18 := hC.no h15 (j := 18) rfl (by kernel_rfl)
              rw [if_pos (by rfl)]
              refine wp_app66 (.tmp 55) (.tmp 65) rfl (g + 1) (.slice ao1 d.W.length k1) d.W.length (WL.flatMap wq) rfl (HOWN.out w1 (hS.h h15 h18)) y14 (wq ((k, padd B), .slice (some ⟨q14, 0, none⟩) 512 c14)) rfl rfl (by intro u hu; simp [wq] at hu; rcases hu with rfl | rfl <;> rfl) r14 hW (Nat.le_trans hgx hS.f.size) ?_
              intro v' w2 ho hj
              obtain ⟨a9, c9, rfl⟩ := row_form ho
              exact hK.out _ _ ⟨a9, c9, q14, c14, rfl, ho, z14.grown hj HOB.out⟩ ⟨HAP.out L w1 w2 hS h18 hj, Ru.app hj⟩
            refine StepsN.cons1 0 (some 51) (by kernel_rfl) rfl ?_ ?_
            · rintro L hC hL w1 hS _ rfl K hK
              (try simp only [Act.put, List.setIfInBounds_toArray, List.set_cons_zero, List.set_cons_succ])
              go_simp
              exact hK.out _ _ rfl ⟨hS.step _ (by decide) (by decide), Ru.same (by decide) (by decide) (by decide) (Below.refl _ _)⟩
            refine StepsN.cons1 16 (some 67) (by kernel_rfl) rfl ?_ ?_
            · rintro L hC hL w1 hS _ rfl K hK
              (try simp only [Act.put, List.setIfInBounds_toArray, List.set_cons_zero, List.set_cons_succ])
              go_simp
              exact hK.out _ _ rfl ⟨hS.step _ (by decide) (by decide), Ru.same (by decide) (by decide) (by decide) (Below.refl _ _)⟩
            refine StepsN.cons2 15 (some 66) 17 (some 68) (by kernel_rfl) rfl rfl ?_ ?_
            · rintro L hC hL w1 hS _ ⟨a15, d15, q15, c15, rfl, o15, z15⟩ _ rfl K hK
              (try simp only [Act.put, List.setIfInBounds_toArray, List.set_cons_zero, List.set_cons_succ])
              have h18 : L 18 = false := hL
              have hc1 := HC1.out L w1 hS h18
              have hf1 := HF1.out L w1 hS h18
              go_simp
              exact hK.out undef _ trivial ⟨HST.out L w1 _ q15 c15 hS h18 o15 z15, Ru.store⟩
            exact StepsN.nil
          · have hDf := hS.d (hLL 18 (by simp))
            have hF0 := hS.f
            have hFf := hFx.trans hS.f
            simp only [putl, List.foldl_cons, List.foldl_nil, Act.put, List.setIfInBounds_toArray, List.set_cons_zero, List.set_cons_succ]
            clear hV hS hLL p28 hDx hFx
            go_wp2_with fail
            go_ret
            exact ⟨rfl, by simpa [hdn] using hDf, by first | exact hFf | exact hF0⟩
  · rw [if_pos (by simpa using hmay)]
    obtain ⟨mm, hmm⟩ : ∃ mm, Mayc n d i = mm := ⟨_, rfl⟩
    rw [hmm] at hmay ⊢
    unfold Mayc at hmm
    go_enter Try.func28, Try.ntmps28
    cases hd : d.down with
    | true =>
      rw [hd] at c3 hmm
      simp only [if_true] at hmm
      subst hmm
      go_wp2_with fail
      go_ret
      exact ⟨rfl, hD, Ft.refl _ _⟩
    | false =>
      rw [hd] at c3 hmm
      simp only [Bool.false_eq_true, if_false] at hmm
      by_cases h1 : i < 0
      · have d1 : decide (i < 0) = true := by simp; omega
        rw [if_pos (.inl h1)] at hmm
        subst hmm
        go_wp2_with fail
        go_ret
        exact ⟨rfl, hD, Ft.refl _ _⟩
      · have d1 : decide (i < 0) = false := by simp; omega
        by_cases h2 : (n : Int) ≤ i
        · have d2 : decide (i ≥ (n : Int)) = true := by simp; omega
          have d3 : decide ((n : Int) ≤ i) = true := by simp; omega
          rw [if_pos (.inr h2)] at hmm
          subst hmm
          go_wp2_with fail
          go_ret
          exact ⟨rfl, hD, Ft.refl _ _⟩
        · rw [if_neg (by omega)] at hmm
          exact absurd hmm.symm hmay

end Go.Proofs.Ytklndocfgbbegaa
