/- What the operations that widen leave. -/
import Derived.Test.YtllgdlfdmmdffaaQ5
namespace Go.Proofs.Ytllgdlfdmmdffaa
open Go.ChangeShapes Go.WideShapes Go.ChangeAt Go.RowKit
set_option linter.unusedSimpArgs false
set_option linter.unusedVariables false
/-- The blocks that an operation may change. -/
def Ch17 : Nat → Obj → Prop
  | 3, o => o = .cells #[] 3 (0, 0)
  | 6, o => ∃ cur, o = .cells cur 3 (0, 0)
  | 9, o => o = .cells #[] 32 (0, 0)
  | 12, o => ∃ cur, o = .cells cur 32 (0, 0)
  | _, _ => False
def S17 (w8 : World) (_ : Nat → Bool) (w : World) : Prop := Below w8.heap.size w8 w
def R17 (k : Nat) (w w' : World) : Prop := ((k ≠ 3 ∧ k ≠ 6 ∧ k ≠ 9 ∧ k ≠ 12) → Below w.heap.size w w') ∧ ∀ (j : Nat) o, w.heap[j]? = some o → ¬ Ch17 k o → w'.heap[j]? = some o
theorem R17.below {k : Nat} {w w' : World} (h : Below w.heap.size w w') : R17 k w w' := ⟨fun _ => h, fun j o ho _ => (h.block j (Array.getElem?_eq_some_iff.1 ho).1).trans ho⟩
theorem R17.grown {k : Nat} {w w' : World} {r : Option Nat} (hk : k = 3 ∨ k = 6 ∨ k = 9 ∨ k = 12) (h : w.grownBy w' r) (hr : ∀ q o, r = some q → w.heap[q]? = some o → Ch17 k o) : R17 k w w' :=
  ⟨fun e => by omega, fun j o ho hn => (h.block j (Array.getElem?_eq_some_iff.1 ho).1 (fun e => hn (hr j o e.symm ho))).trans ho⟩
theorem R17.row {k : Nat} {w w' : World} (r : R17 k w w') {base n size : Nat} {e : TypeId} {v : Value} {xs : List Value} (h : w.ownsRow base e size v n xs) (hc : ∀ cur : Array Value, ¬ Ch17 k (.cells cur e (0, 0))) : w'.ownsRow base e size v n xs := by
  refine ⟨h.1, h.2.imp id ?_⟩
  rintro ⟨g, cap, cur, h1, h2, h3, h4⟩
  exact ⟨g, cap, cur, h1, h2, r.2 _ _ h3 (hc cur), h4⟩
theorem own_block {w : World} {base n size q : Nat} {e : TypeId} {v : Value} {xs : List Value} (h : w.ownsRow base e size v n xs) (hq : v.ownBlock = some q) : ∃ cur, w.heap[q]? = some (.cells cur e (0, 0)) := by
  rcases h.2 with ⟨rfl, _⟩ | ⟨g, cap, cur, rfl, _, hh, _⟩
  · cases hq
  · injection hq with hq
    change g = q at hq
    exact ⟨cur, by rw [← hq]; exact hh⟩
theorem own_empty {w : World} {base q size : Nat} {e : TypeId} (hb : base ≤ q) (h : w.heap[q]? = some (.cells #[] e (0, 0))) : w.ownsRow base e size (.slice (some ⟨q, 0, none⟩) 0 0) 0 [] :=
  ⟨by simp, .inr ⟨q, 0, #[], rfl, hb, h, Nat.le_refl _, by decide, by simp, by simp⟩⟩
def V17 (B : Nat) (mn : Int) (ao lo : Option Addr) (n c m lc : Nat) (more : Int) (ag : Value) (y4 : Int) (ks rs : List Value) (WB : List Bool) (L : Nat → Bool) : Nat → Value → World → Prop
  | 0, v, w => v = .int .i64 mn
  | 1, v, w => ∃ q, v = .slice (some ⟨q, 0, none⟩) 0 0 ∧ (L 3 = false → B ≤ q ∧ w.heap[q]? = some (.cells #[] 3 (0, 0)))
  | 2, v, w => v = .slice ao n c
  | 3, v, w => L 6 = false → w.ownsRow B 3 1 v n ks
  | 4, v, w => v = .int .i64 more
  | 5, v, w => ∃ q, v = .slice (some ⟨q, 0, none⟩) 1 1 ∧ (L 6 = false → w.heap[q]? = some (.cells #[.int .i64 more] 3 (0, 0)))
  | 6, v, w => L 13 = false → w.ownsRow B 3 1 v (n + 1) (ks ++ [.int .i64 more])
  | 7, v, w => ∃ q, v = .slice (some ⟨q, 0, none⟩) 0 0 ∧ (L 9 = false → B ≤ q ∧ w.heap[q]? = some (.cells #[] 32 (0, 0)))
  | 8, v, w => v = .slice lo m lc
  | 9, v, w => L 12 = false → w.ownsRow B 32 2 v m rs
  | 10, v, w => v = .agg #[ag, .int .i64 y4]
  | 11, v, w => ∃ q, v = .slice (some ⟨q, 0, none⟩) 1 1 ∧ (L 12 = false → w.heap[q]? = some (.cells #[ag, .int .i64 y4] 32 (0, 0)))
  | 12, v, w => L 13 = false → w.ownsRow B 32 2 v (m + 1) (rs ++ [ag, .int .i64 y4])
  | 13, v, w => ∃ xa xn, v = .slice xa xn xn ∧ xn = WB.length ∧ xn ≤ 4096 ∧ Bz w xa WB
  | 14, v, w => ∃ xa xn, v = .slice xa xn xn ∧ xn = WB.length ∧ xn ≤ 4096 ∧ Bz w xa WB
  | _, _, _ => True
theorem V17_in (B : Nat) (mn : Int) (ao lo : Option Addr) (n c m lc : Nat) (more : Int) (ag : Value) (y4 : Int) (ks rs : List Value) (WB : List Bool) (L : Nat → Bool) (i : Nat) (v : Value) (w : World) (hL : L i = false) (h : V17 B mn ao lo n c m lc more ag y4 ks rs WB L i v w) : V17 B mn ao lo n c m lc more ag y4 ks rs WB (fun j => j == i || L j) i v w := by
  rcases i with _ | _ | _ | _ | _ | _ | _ | _ | _ | _ | _ | _ | _ | _ | _ | _
  · exact h
  · exact h
  · exact h
  · exact h
  · exact h
  · exact h
  · exact h
  · exact h
  · exact h
  · exact h
  · exact h
  · exact h
  · exact h
  · exact h
  · exact h
  · trivial
theorem ch_no {k : Nat} {o : Obj} (h3 : k ≠ 3) (h6 : k ≠ 6) (h9 : k ≠ 9) (h12 : k ≠ 12) : ¬ Ch17 k o := by
  intro h
  unfold Ch17 at h
  split at h <;> first | contradiction | exact h
theorem V17_keep (B : Nat) (mn : Int) (ao lo : Option Addr) (n c m lc : Nat) (more : Int) (ag : Value) (y4 : Int) (ks rs : List Value) (WB : List Bool) (L : Nat → Bool) (k1 i1 : Nat) (v : Value) (w w' : World) (hk : k1 ≠ i1) (c36 : L 6 = true → L 3 = true) (c69 : L 9 = true → L 6 = true) (c912 : L 12 = true → L 9 = true) (c1213 : L 13 = true → L 12 = true) (c1314 : L 14 = true → L 13 = true)
    (d6 : k1 = 6 → L 3 = true) (d12 : k1 = 12 → L 9 = true) (hLk : L k1 = false) (hLi : L i1 = true) (h : V17 B mn ao lo n c m lc more ag y4 ks rs WB L i1 v w) (r : R17 k1 w w') : V17 B mn ao lo n c m lc more ag y4 ks rs WB (fun j => j == k1 || L j) i1 v w' := by
  rcases i1 with _ | _ | _ | _ | _ | _ | _ | _ | _ | _ | _ | _ | _ | _ | _ | _
  · exact h
  · obtain ⟨q, h1, h2⟩ := h
    refine ⟨q, h1, fun e => ?_⟩
    simp only [Bool.or_eq_false_iff, beq_eq_false_iff_ne] at e
    obtain ⟨h3, h4⟩ := h2 e.2
    refine ⟨h3, r.2 _ _ h4 (fun hc => ?_)⟩
    by_cases k6 : k1 = 6
    · have := d6 k6; rw [e.2] at this; cases this
    by_cases k9 : k1 = 9
    · subst k9; simp [Ch17] at hc
    by_cases k12 : k1 = 12
    · subst k12; simp [Ch17] at hc
    exact ch_no e.1.symm k6 k9 k12 hc
  · exact h
  · intro e
    simp only [Bool.or_eq_false_iff, beq_eq_false_iff_ne] at e
    refine r.row (h e.2) (fun cur hc => ?_)
    by_cases k3 : k1 = 3
    · exact hk k3
    have k6 : k1 ≠ 6 := e.1.symm
    by_cases k9 : k1 = 9
    · subst k9; simp [Ch17] at hc
    by_cases k12 : k1 = 12
    · subst k12; simp [Ch17] at hc
    exact ch_no k3 k6 k9 k12 hc
  · exact h
  · obtain ⟨q, h1, h2⟩ := h
    refine ⟨q, h1, fun e => ?_⟩
    simp only [Bool.or_eq_false_iff, beq_eq_false_iff_ne] at e
    refine r.2 _ _ (h2 e.2) (fun hc => ?_)
    have k6 : k1 ≠ 6 := e.1.symm
    by_cases k3 : k1 = 3
    · subst k3; simp [Ch17] at hc
    by_cases k9 : k1 = 9
    · subst k9; simp [Ch17] at hc
    by_cases k12 : k1 = 12
    · subst k12; simp [Ch17] at hc
    exact ch_no k3 k6 k9 k12 hc
  · intro e
    simp only [Bool.or_eq_false_iff, beq_eq_false_iff_ne] at e
    refine r.row (h e.2) (fun cur hc => ?_)
    by_cases k3 : k1 = 3
    · subst k3; have := c36 hLi; rw [hLk] at this; cases this
    by_cases k6 : k1 = 6
    · exact hk k6
    by_cases k9 : k1 = 9
    · subst k9; simp [Ch17] at hc
    by_cases k12 : k1 = 12
    · subst k12; simp [Ch17] at hc
    exact ch_no k3 k6 k9 k12 hc
  · obtain ⟨q, h1, h2⟩ := h
    refine ⟨q, h1, fun e => ?_⟩
    simp only [Bool.or_eq_false_iff, beq_eq_false_iff_ne] at e
    obtain ⟨h3, h4⟩ := h2 e.2
    refine ⟨h3, r.2 _ _ h4 (fun hc => ?_)⟩
    by_cases k12 : k1 = 12
    · have := d12 k12; rw [e.2] at this; cases this
    by_cases k3 : k1 = 3
    · subst k3; simp [Ch17] at hc
    by_cases k6 : k1 = 6
    · subst k6; simp [Ch17] at hc
    exact ch_no k3 k6 e.1.symm k12 hc
  · exact h
  · intro e
    simp only [Bool.or_eq_false_iff, beq_eq_false_iff_ne] at e
    refine r.row (h e.2) (fun cur hc => ?_)
    by_cases k3 : k1 = 3
    · subst k3; simp [Ch17] at hc
    by_cases k6 : k1 = 6
    · subst k6; simp [Ch17] at hc
    by_cases k9 : k1 = 9
    · exact hk k9
    have k12 : k1 ≠ 12 := e.1.symm
    exact ch_no k3 k6 k9 k12 hc
  · exact h
  · obtain ⟨q, h1, h2⟩ := h
    refine ⟨q, h1, fun e => ?_⟩
    simp only [Bool.or_eq_false_iff, beq_eq_false_iff_ne] at e
    refine r.2 _ _ (h2 e.2) (fun hc => ?_)
    have k12 : k1 ≠ 12 := e.1.symm
    by_cases k3 : k1 = 3
    · subst k3; simp [Ch17] at hc
    by_cases k6 : k1 = 6
    · subst k6; simp [Ch17] at hc
    by_cases k9 : k1 = 9
    · subst k9; simp [Ch17] at hc
    exact ch_no k3 k6 k9 k12 hc
  · intro e
    simp only [Bool.or_eq_false_iff, beq_eq_false_iff_ne] at e
    refine r.row (h e.2) (fun cur hc => ?_)
    by_cases k3 : k1 = 3
    · subst k3; simp [Ch17] at hc
    by_cases k6 : k1 = 6
    · subst k6; simp [Ch17] at hc
    by_cases k9 : k1 = 9
    · subst k9; have := c912 hLi; rw [hLk] at this; cases this
    by_cases k12 : k1 = 12
    · exact hk k12
    exact ch_no k3 k6 k9 k12 hc
  · obtain ⟨xa, xn, h1, h2, h3, h4⟩ := h
    have l12 := c1213 hLi
    refine ⟨xa, xn, h1, h2, h3, h4.below (r.1 ⟨fun e => ?_, fun e => ?_, fun e => ?_, fun e => ?_⟩)⟩
    · subst e; have := c36 (c69 (c912 l12)); rw [hLk] at this; cases this
    · subst e; have := c69 (c912 l12); rw [hLk] at this; cases this
    · subst e; have := c912 l12; rw [hLk] at this; cases this
    · subst e; rw [hLk] at l12; cases l12
  · obtain ⟨xa, xn, h1, h2, h3, h4⟩ := h
    have l12 := c1213 (c1314 hLi)
    refine ⟨xa, xn, h1, h2, h3, h4.below (r.1 ⟨fun e => ?_, fun e => ?_, fun e => ?_, fun e => ?_⟩)⟩
    · subst e; have := c36 (c69 (c912 l12)); rw [hLk] at this; cases this
    · subst e; have := c69 (c912 l12); rw [hLk] at this; cases this
    · subst e; have := c912 l12; rw [hLk] at this; cases this
    · subst e; rw [hLk] at l12; cases l12
  · trivial
end Go.Proofs.Ytllgdlfdmmdffaa
