/- Sha2Plays, walked. -/
import Derived.Test.YtinmmenjlhlpmaaDoorL3
import Derived.Test.YtinmmenjlhlpmaaDoorW
namespace Go.Proofs.YtinmmenjlhlpmaaDoor
open Go.ChangeShapes Go.WideShapes Go.ChangeAt Go.RowKit
set_option linter.unusedSimpArgs false
set_option linter.unusedVariables false
/-- A slice's address that holds these bytes. -/
structure Bys (w : World) (ao : Option Addr) (D : List (BitVec 8)) : Prop where
  nil : ao = none → D = []
  cells : ∀ a, ao = some a → ∀ (j : Nat) x, D[j]? = some x → w.cell? (a.add j) = some (c8 x)
theorem app_where (w : World) (base : Nat) (ty : TypeId) (v : Value) (n : Nat) (T : List (BitVec 8)) (hown : Own w base v n T) (ao : Option Addr) (m c : Nat) (D : List (BitVec 8)) (hm : m = D.length) (hD : Bys w ao D)
    (h47 : n + m ≤ 140737488355328) (v' : Value) (w' : World) (hr : (Builtin.append_ #[22, 22] ty #[v, .slice ao m c]).run Tryd.prog w = .ok v' w') : v'.ownBlock = v.ownBlock ∨ v'.ownBlock = some w.heap.size := by
  obtain ⟨i0, hi, hz0, hz1, hz2⟩ := info_parts info5
  cases ao with
  | none =>
    obtain rfl := hD.nil rfl
    obtain rfl : m = 0 := hm
    left
    rcases hown.2 with ⟨rfl, rfl⟩ | ⟨b, cap, cur, rfl, _, _, hnc, _⟩
    · simp [Builtin.append_, run_underlying Tryd.underlying22, sizeOf, typeInfo, hi, Builtin.lenOf, Builtin.firstCells] at hr
      rw [← hr.1]
    · simp [Builtin.append_, run_underlying Tryd.underlying22, sizeOf, typeInfo, hi, Builtin.lenOf, Builtin.firstCells, hnc, storeCells] at hr
      rw [← hr.1]
  | some a =>
    have h3 := hD.cells a rfl
    have hc : ∀ j u, (D.map c8)[j]? = some u → w.cell? (a.add j) = some u := fun j u hu => by obtain ⟨x, hx, rfl⟩ := c8_at hu; exact h3 j x hx
    have hl : (D.map c8).length = m * i0.size := by rw [hz1]; simp [hm]
    rcases hown.2 with ⟨rfl, rfl⟩ | ⟨b, cap, cur, rfl, hb, hg, hnc, hcm, hcs, htake⟩
    · by_cases h0 : m = 0
      · subst h0
        left
        simp [Builtin.append_, run_underlying Tryd.underlying22, sizeOf, typeInfo, hi, Builtin.lenOf, Builtin.firstCells, loadCells, loadCellsFrom] at hr
        rw [← hr.1]
      · right
        have := run_append_nil (P := Tryd.prog) (w := w) 22 ty 5 i0 _ Tryd.underlying22 hi hz0 a m c (D.map c8) hl hc (by omega) (by omega) (by rw [hz2]; omega)
        rw [this] at hr
        injection hr with e1 _
        rw [← e1]; rfl
    · by_cases hroom : n + m ≤ cap
      · left
        have := run_append_room (P := Tryd.prog) (w := w) 22 ty 5 i0 Tryd.underlying22 hi b n cap cur hg a m c (D.map c8) hl hc (c8_one D) hroom (by rw [hz1, hcs]; simp [← hm]; omega)
        rw [this] at hr
        injection hr with e1 _
        rw [← e1]; rfl
      · right
        have := run_append_grow (P := Tryd.prog) (w := w) 22 ty 5 i0 _ Tryd.underlying22 hi hz0 ⟨b, 0, none⟩ n cap (T.map c8) (by rw [hz1]; exact hown.1) (hown.cells (g := b) rfl) a m c (D.map c8) hl hc (by omega) (by omega) (growslice_fits (by omega) (by rw [hz2]; omega))
        rw [this] at hr
        injection hr with e1 _
        rw [← e1]; rfl
theorem run_app_own2 (w : World) (base : Nat) (ty : TypeId) (v : Value) (n : Nat) (T : List (BitVec 8)) (hown : Own w base v n T) (ao : Option Addr) (m c : Nat) (D : List (BitVec 8)) (hm : m = D.length) (hD : Bys w ao D)
    (h47 : n + m ≤ 140737488355328) (hbase : base ≤ w.heap.size) :
    ∃ v' w', (Builtin.append_ #[22, 22] ty #[v, .slice ao m c]).run Tryd.prog w = .ok v' w' ∧ Own w' base v' (n + m) (T ++ D) ∧ w.grownBy w' v.ownBlock := by
  obtain ⟨i0, hi, hz0, hz1, hz2⟩ := info_parts info5
  cases ao with
  | none =>
    obtain rfl := hD.nil rfl
    obtain rfl : m = 0 := hm
    refine ⟨v, w, ?_, by simpa using hown, World.grownBy.refl _ _⟩
    rcases hown.2 with ⟨rfl, rfl⟩ | ⟨b, cap, cur, rfl, _, _, hnc, _⟩
    · simp [Builtin.append_, run_underlying Tryd.underlying22, sizeOf, typeInfo, hi, Builtin.lenOf, Builtin.firstCells]
    · simp [Builtin.append_, run_underlying Tryd.underlying22, sizeOf, typeInfo, hi, Builtin.lenOf, Builtin.firstCells, hnc, storeCells]
  | some a =>
    have h3 := hD.cells a rfl
    obtain ⟨v', w', hr, k1, k2, _⟩ := run_append_own (P := Tryd.prog) w base 22 ty 5 i0 (.int .u8 0) 1 1 Tryd.underlying22 hi hz0 hz1 hz2 rfl (by decide) v n (T.map c8) hown a m c (D.map c8) (by simp [hm])
      (fun j u hu => by obtain ⟨x, hx, rfl⟩ := c8_at hu; exact h3 j x hx) (c8_one D) (by unfold maxLen; omega) (by omega) hbase
    exact ⟨v', w', hr, by simpa [Own] using k1, k2⟩
theorem app_own' {ops : Array Oper} {rest : List Oper} {o : Oper} {a : Act} {w : World} {Q : Exit → Act → World → Prop} (hgd : o.guard = none) (s x : Operand)
    (ho : o.op = .call { callee := .builtin .append, args := #[s, x], argTypes := #[22, 22] })
    (base : Nat) (v : Value) (n : Nat) (T : List (BitVec 8)) (hs : a.eval s = v) (hown : Own w base v n T) (ao : Option Addr) (m c : Nat) (D : List (BitVec 8)) (hx : a.eval x = .slice ao m c) (hm : m = D.length) (hD : Bys w ao D)
    (h47 : n + m ≤ 140737488355328) (hbase : base ≤ w.heap.size)
    (h : ∀ v' w', Own w' base v' (n + m) (T ++ D) → w.grownBy w' v.ownBlock → (v'.ownBlock = v.ownBlock ∨ v'.ownBlock = some w.heap.size) → wpList Tryd.prog ops Q rest (a.put o.dst v') w') : wpList Tryd.prog ops Q (o :: rest) a w :=
  wpList_plain hgd fun _ hK => by
    obtain ⟨v', w', hr, h2, h3⟩ := run_app_own2 w base o.type v n T hown ao m c D hm hD h47 hbase
    have h4 := app_where w base o.type v n T hown ao m c D hm hD h47 v' w' hr
    unfold Oper.wp execOp
    simp only [ho, resolve, invoke, builtin, Sem.run_bind, Sem.run_pure, Result.andThen_ok, List.map_toArray, List.map_cons, List.map_nil, hs, hx, hr]
    exact hK _ _ (h v' w' h2 h3 h4)
theorem HashK.far {w w' : World} {g k : Nat} {T : List (BitVec 8)} {P : Nat → Prop} {r : Option Nat} (h : HashK w g T k) (hR : Rst w g P) (j : w.grownBy w' r) (hg : r ≠ some g) (hP : ∀ k, r = some k → ¬ P k) : HashK w' g T k := by
  obtain ⟨h0, ao, c, hc, rr, hb⟩ := h
  refine ⟨h0, ao, c, hc, rr.grown j (fun e => hg e.symm), hb.nil, fun a ha => ?_⟩
  obtain ⟨h1, h2, h3⟩ := hb.cells a ha
  have hp := hR a _ c (by have := rr.cellTl 0; rw [ha] at this; exact this)
  refine ⟨Nat.lt_of_lt_of_le h1 j.size, h2, fun i x hx => ?_⟩
  exact (World.cell?_of_block (by rw [add_block]; exact j.block _ h1 (fun e => hP _ e.symm hp))).trans (h3 i x hx)
theorem HashK.rst {w : World} {g k : Nat} {T : List (BitVec 8)} (h : HashK w g T k) : Rst w g (fun b => b < w.heap.size) := by
  obtain ⟨h0, ao, c, hc, rr, hb⟩ := h
  exact Rst.of (rr.cellTl 0) (fun a ha => (hb.cells a ha).1)
theorem Rst.same {w w' : World} {g : Nat} {P : Nat → Prop} (h : Rst w g P) (e : w'.heap[g]? = w.heap[g]?) : Rst w' g P := fun a n c hc => h a n c (by rw [← hc]; exact (World.cell?_of_block e).symm)
theorem Rst.and {w : World} {g : Nat} {P P' : Nat → Prop} (h : Rst w g P) (h' : Rst w g P') : Rst w g (fun b => P b ∧ P' b) := fun a n c hc => ⟨h a n c hc, h' a n c hc⟩
/-- Bytes below a mark; of none nothing is said. -/
structure Olz (n : Nat) (w : World) (ao : Option Addr) (D : List (BitVec 8)) : Prop where
  nil : ao = none → D = []
  cells : ∀ a, ao = some a → ∀ (j : Nat) x, D[j]? = some x → a.block < n ∧ w.cell? (a.add j) = some (c8 x)
theorem Olz.keep {n : Nat} {w w' : World} {ao : Option Addr} {D : List (BitVec 8)} (h : Olz n w ao D) (hk : ∀ k, k < n → w'.heap[k]? = w.heap[k]?) : Olz n w' ao D :=
  ⟨h.nil, fun a ha j x hx => by
    obtain ⟨h1, h2⟩ := h.cells a ha j x hx
    exact ⟨h1, (World.cell?_of_block (by rw [add_block]; exact hk _ h1)).trans h2⟩⟩
theorem Olz.bys {n : Nat} {w : World} {ao : Option Addr} {D : List (BitVec 8)} (h : Olz n w ao D) : Bys w ao D := ⟨h.nil, fun a ha j x hx => (h.cells a ha j x hx).2⟩
/-- Texts below a mark. -/
structure Txt (n : Nat) (w : World) (lo : Option Addr) (Ls : List (List (BitVec 8))) : Prop where
  nil : lo = none → Ls = []
  size : n ≤ w.heap.size
  cells : ∀ a, lo = some a → a.block < n ∧ ∀ (j : Nat) D, Ls[j]? = some D → ∃ ao c, D.length ≤ c ∧ w.cell? (a.add j) = some (.slice ao D.length c) ∧ Olz n w ao D
section
variable {n m : Nat} {w w' : World} {lo : Option Addr} {Ls : List (List (BitVec 8))}
theorem Txt.keep (h : Txt n w lo Ls) (hs : w.heap.size ≤ w'.heap.size) (hk : ∀ k, k < n → w'.heap[k]? = w.heap[k]?) : Txt n w' lo Ls :=
  ⟨h.nil, Nat.le_trans h.size hs, fun a ha => by
    obtain ⟨h1, h2⟩ := h.cells a ha
    refine ⟨h1, fun j D hD => ?_⟩
    obtain ⟨ao, c, h3, h4, h5⟩ := h2 j D hD
    exact ⟨ao, c, h3, (World.cell?_of_block (by rw [add_block]; exact hk _ h1)).trans h4, h5.keep hk⟩⟩
theorem Txt.below (h : Txt n w lo Ls) (k : Below m w w') (hm : n ≤ m) : Txt n w' lo Ls := h.keep k.size fun i hi => k.block i (by omega)
theorem Txt.grown {r : Option Nat} (h : Txt n w lo Ls) (k : w.grownBy w' r) (hr : ∀ b, r = some b → n ≤ b) : Txt n w' lo Ls :=
  h.keep k.size fun i hi => k.block i (by have := h.size; omega) (fun e => by have := hr _ e.symm; omega)
end
/-- A hash that has taken X, an own slice with A, texts that came in. -/
structure PL (w0 : World) (lo : Option Addr) (Ls : List (List (BitVec 8))) (g : Nat) (P : Nat → Prop) (u5 : Value) (A X : List (BitVec 8)) (w : World) : Prop where
  hx : Hash w g X
  rs : Rst w g P
  tk : TK w
  tx : Txt w0.heap.size w lo Ls
  k : Below w0.heap.size w0 w
  o5 : Own w (g + 1) u5 A.length A
  o1 : w0.heap.size ≤ g
  z : 0 < w0.heap.size
section
variable {w0 w w' : World} {g : Nat} {A X : List (BitVec 8)} {lo : Option Addr} {Ls : List (List (BitVec 8))} {u5 : Value} {P : Nat → Prop}
theorem PL.below (h : PL w0 lo Ls g P u5 A X w) (j : Below w.heap.size w w') : PL w0 lo Ls g P u5 A X w' :=
  ⟨h.hx.below j, h.rs.same (j.block _ h.hx.lt), h.tk.below j (tk_lt h.tk), h.tx.below j h.k.size, h.k.trans (j.mono h.k.size), own_keep h.o5 j, h.o1, h.z⟩
theorem PL.far (h : PL w0 lo Ls g P u5 A X w) {bk : Nat} (j : w.grownBy w' (some bk)) (hg : bk ≠ g) (h0 : w0.heap.size ≤ bk) (hP : ¬ P bk) (h5 : u5.ownBlock ≠ some bk) : PL w0 lo Ls g P u5 A X w' :=
  ⟨h.hx.far h.rs j (fun e => hg (by injection e)) (fun k e => by injection e with e; rw [← e]; exact hP), h.rs.same (j.block _ h.hx.lt (fun e => hg (by injection e with e; exact e.symm))), h.tk.grown j (by have := h.z; simp; omega), h.tx.grown j (fun b e => by injection e with e; omega),
    h.k.grown j h.k.size (fun b e => by injection e with e; omega), h.o5.kept j (.inr h5), h.o1, h.z⟩
theorem PL.wx (h : PL w0 lo Ls g P u5 A X w) (j : w.grownBy w' (some g)) {P' : Nat → Prop} {X' : List (BitVec 8)} (hx : Hash w' g X') (hr : Rst w' g P') : PL w0 lo Ls g P' u5 A X' w' :=
  ⟨hx, hr, h.tk.grown j (by have := h.o1; have := h.z; simp; omega), h.tx.grown j (fun b e => by injection e with e; have := h.o1; omega),
    h.k.grown j h.k.size (fun b e => by injection e with e; have := h.o1; omega), h.o5.kept j (.inr (fun e => by have := h.o5.lt _ e; omega)), h.o1, h.z⟩
theorem PL.all (h : PL w0 lo Ls g P u5 A X w) (j : w.grownBy w' u5.ownBlock) {v' : Value} {D : List (BitVec 8)} (o : Own w' (g + 1) v' (A.length + D.length) (A ++ D)) (hP : ∀ b, P b → some b ≠ u5.ownBlock) (hw : v'.ownBlock = u5.ownBlock ∨ v'.ownBlock = some w.heap.size) :
    PL w0 lo Ls g (fun b => some b ≠ v'.ownBlock) v' (A ++ D) X w' := by
  have hlt := fun k e => h.o5.lt k e
  have hgne : u5.ownBlock ≠ some g := fun e => by have := hlt g e; omega
  refine ⟨h.hx.far h.rs j hgne (fun k e hp => hP k hp e.symm), ?_, h.tk.grown j (fun e => by have := hlt 0 e.symm; omega), h.tx.grown j (fun b e => by have := hlt b e; have := h.o1; omega),
    h.k.grown j h.k.size (fun b e => by have := hlt b e; have := h.o1; omega), by simpa using o, h.o1, h.z⟩
  refine ((h.rs.and h.hx.rst).same (j.block _ h.hx.lt (fun e => hgne e.symm))).mono (fun b hb => ?_)
  rcases hw with e | e
  · rw [e]; exact hP b hb.1
  · rw [e]; intro e2; injection e2 with e2; have := hb.2; omega
end
def V4a (B : List (BitVec 8)) (g : Nat) (u5 : Value) : Nat → Value → World → Prop
  | 0, v, w => v = .pointer (some ⟨g, 0, none⟩)
  | 1, v, w => ∃ ad c, v = .slice (some ad) 32 c ∧ Byt w 0 (some ad) (dig B)
  | 2, v, w => v = .string (strOf (dig B))
  | 3, v, w => v = u5
  | 4, v, w => ∃ ad c, v = .slice (some ad) 32 c ∧ Byt w 0 (some ad) (dig B)
  | 5, v, w => v = .string (strOf (dig B))
  | 6, v, w => v = .bool false
  | _, _, _ => True
theorem V4a_keep (B : List (BitVec 8)) (g : Nat) (u5 : Value) (i1 : Nat) (v : Value) (w w' : World) (h : V4a B g u5 i1 v w) (r : (fun w w' => Below w.heap.size w w') w w') : V4a B g u5 i1 v w' := by
  rcases i1 with _ | _ | _ | _ | _ | _ | _ | _
  · exact h
  · exact (let ⟨a, c, e, y⟩ := h; ⟨a, c, e, y.below r⟩)
  · exact h
  · exact h
  · exact (let ⟨a, c, e, y⟩ := h; ⟨a, c, e, y.below r⟩)
  · exact h
  · exact h
  · trivial
def V4b (B : List (BitVec 8)) (g : Nat) (u5 : Value) : Nat → Value → World → Prop
  | 0, v, w => v = .bool true
  | 1, v, w => v = .bool true
  | 2, v, w => v = .pointer (some ⟨g, 0, none⟩)
  | 3, v, w => ∃ ad c, v = .slice (some ad) 32 c ∧ Byt w 0 (some ad) (dig B)
  | 4, v, w => v = .string (strOf (dig B))
  | 5, v, w => v = u5
  | 6, v, w => ∃ ad c, v = .slice (some ad) 32 c ∧ Byt w 0 (some ad) (dig B)
  | 7, v, w => v = .string (strOf (dig B))
  | 8, v, w => v = .bool true
  | 9, v, w => v = .bool true
  | 10, v, w => v = .bool true
  | _, _, _ => True
theorem V4b_keep (B : List (BitVec 8)) (g : Nat) (u5 : Value) (i1 : Nat) (v : Value) (w w' : World) (h : V4b B g u5 i1 v w) (r : (fun w w' => Below w.heap.size w w') w w') : V4b B g u5 i1 v w' := by
  rcases i1 with _ | _ | _ | _ | _ | _ | _ | _ | _ | _ | _ | _
  · exact h
  · exact h
  · exact h
  · exact (let ⟨a, c, e, y⟩ := h; ⟨a, c, e, y.below r⟩)
  · exact h
  · exact h
  · exact (let ⟨a, c, e, y⟩ := h; ⟨a, c, e, y.below r⟩)
  · exact h
  · exact h
  · exact h
  · exact h
  · trivial
set_option maxHeartbeats 4000000 in
theorem plays4 (Ls : List (List (BitVec 8))) (lo : Option Addr) (n lc : Nat) (w : World) (hn : n = Ls.length) (hL : Txt w.heap.size w lo Ls) (hK : TK w) :
    Calls Tryd.prog 4 #[.slice lo n lc] w fun r w' => r = .returned (.bool true) ∧ Below w.heap.size w w' := by
  have h0 := tk_lt hK
  have HL := Lib.hid hn
  clear hn
  go_enter Tryd.func4, Tryd.ntmps4
  by_cases hbig : 20 < n
  · have hd : decide ((n : Int) > 20) = true := by simp; omega
    go_wp2_with (first
      | (go_at_call 7; (with_reducible refine (head7 _ hK).mono ?_); rintro e w1 ⟨rfl, b1⟩)
      | (go_at_call 11; (with_reducible refine (new11 _).mono ?_); rintro e w2 ⟨g, rfl, hg, x2, b2⟩))
    go_ret
    exact ⟨rfl, b1.trans (b2.mono b1.size)⟩
  · have hd : decide ((n : Int) > 20) = false := by simp; omega
    have hn20 : n ≤ 20 := by omega
    go_wp2_with (first
      | (go_at_call 7; (with_reducible refine (head7 _ hK).mono ?_); rintro e w1 ⟨rfl, b1⟩)
      | (go_at_call 11; (with_reducible refine (new11 _).mono ?_); rintro e w2 ⟨g, rfl, hg, x2, b2⟩))
    have p2 : PL w lo Ls g (fun b => some b ≠ (Value.slice none 0 0).ownBlock) (.slice none 0 0) [] [] w2 :=
      ⟨x2, fun a n c hc => by simp [Value.ownBlock], (hK.below b1 h0).below b2 (by have := b1.size; omega), (hL.below b1 (Nat.le_refl _)).below b2 b1.size, b1.trans (b2.mono b1.size), World.ownsRow_nil _ _ _ _, by have := b1.size; omega, h0⟩
    clear hd hbig b1 b2 x2 hg hL hK
    go_loopg [5, 6] n (fun k v5 v6 wr => ∃ i : Nat, v6 = .int .i64 i ∧ i + k = n ∧ (Ls.take i).flatten.length ≤ 1000 * i ∧ PL w lo Ls g (fun b => some b ≠ v5.ownBlock) v5 (Ls.take i).flatten (Ls.take i).flatten wr)
    case atStart => exact ⟨0, rfl, by omega, by simp, by simpa using p2⟩
    case round =>
      clear p2
      obtain ⟨i, rfl, hi, hlen, p3⟩ := hrel
      by_cases hlt : i < n
      · obtain ⟨a, rfl⟩ : ∃ a, lo = some a := by
          cases lo with
          | none => have h1 := congrArg List.length (p3.tx.nil rfl); have h2 := HL.out; rw [h1] at h2; simp at h2; omega
          | some a => exact ⟨a, rfl⟩
        have hil : i < Ls.length := by have := HL.out; omega
        obtain ⟨D, hD⟩ : ∃ D, Ls[i]? = some D := ⟨_, List.getElem?_eq_getElem hil⟩
        obtain ⟨-, hcl⟩ := p3.tx.cells a rfl
        obtain ⟨ao, c, hDc, hcell, hold⟩ := hcl i D hD
        obtain ⟨m, hm⟩ : ∃ m, m = D.length := ⟨_, rfl⟩
        have HM := Lib.hid hm
        rw [← hm] at hcell hDc
        have q1 : (0 : Int) ≤ (i : Int) := by omega
        have q2 : (i : Int) < (n : Int) := by omega
        have hTF : (Ls.take (i + 1)).flatten = (Ls.take i).flatten ++ D := by
          rw [List.take_add_one, hD]; simp
        by_cases hm1 : 1000 < m
        · have hd1 : decide ((m : Int) > 1000) = true := by simp; omega
          clear hm
          go_wp2_with fail
          go_ret
          exact ⟨rfl, p3.k⟩
        · have hd1 : decide ((m : Int) > 1000) = false := by simp; omega
          obtain ⟨A, hA⟩ : ∃ A, A = (Ls.take i).flatten := ⟨_, rfl⟩
          rw [← hA] at p3 hTF hlen
          have HTF := Lib.hid hTF
          have HI := Lib.hid (And.intro hi (And.intro hlen hm))
          obtain ⟨ko, hko⟩ : ∃ ko, ko = gk := ⟨_, rfl⟩
          have HKO := Lib.hid hko
          clear hko
          have HD := Lib.hid hD
          clear hm hTF hA hi hlen hD hcl
          have hcell1 : (wr.alloc (.cells #[] 5)).cell? (a.add i) = some (.slice ao m c) := (World.cell?_alloc_some _ _ _ (by rw [hcell]; rfl)).trans hcell
          have hg3 := p3.hx.lt
          have hs3 := p3.k.size
          have H5 : Hid (∀ k, u5.ownBlock = some k → g + 1 ≤ k ∧ k < wr.heap.size) := Lib.hid p3.o5.lt
          go_upto_region 13 with (first
            | (at_builtin; refine app_own' rfl (.tmp 36) (.tmp 40) rfl wr.heap.size (.slice (some ⟨wr.heap.size, 0, none⟩) 0 0) 0 [] rfl (own_new wr) ao m c D rfl ?q1 ?q2 ?q3 ?q4 ?_; (case q1 => exact HI.out.2.2); (case q2 => exact (hold.keep (fun k hk => Below.heap_alloc wr _ k (Nat.lt_of_lt_of_le hk hs3))).bys); (case q3 => omega); (case q4 => simp); intro v4 w4 o4 g4 _; have k4 : Below wr.heap.size wr w4 := own_below (own_new wr) ((Below.refl _ _).alloc (Nat.le_refl _) _) g4; obtain ⟨ao4, c4, rfl, hc4, hf4⟩ := (any_of o4).form)
            | (go_at_call 12; (with_reducible refine (write12' (fun b => some b ≠ u5.ownBlock ∧ (b < wr.heap.size ∨ w4.heap.size ≤ b)) g A ([] ++ D) _ _ _ w4 ?m0 ?m1 ?m2 ?m3 ?m4 ?m5 ?m6 ?m7).mono ?_); (case m0 => have := HI.out; simp; omega); (case m1 => have := HI.out; omega); (case m2 => exact p3.hx.below k4); (case m3 => obtain ⟨_, _, ez, _, _, y4⟩ := own_byt (g := g) o4 hg3; injection ez with e1 _ e3; subst e1; exact y4); (case m4 => exact p3.tk.below k4 (tk_lt p3.tk)); (case m5 => have := p3.o1; have := p3.z; omega); (case m6 => exact ((p3.rs.and p3.hx.rst).same (k4.block g hg3)).mono (fun b hb => ⟨hb.1, .inl hb.2⟩)); (case m7 => exact fun b hb => ⟨fun e => (by have := H5.out b e.symm; have := k4.size; omega), .inr hb⟩); rintro r w5 ⟨rfl, x5, g5, r5⟩))
          have p5 := (p3.below k4).wx g5 x5 r5
          have hlt4 := o4.lt
          have a5 : Any w5 wr.heap.size (.slice ao4 (0 + m) c4) (0 + m) (([] ++ D).map c8) := any_of (o4.kept g5 (.inr (fun e => by have := hlt4 _ e; omega)))
          rw [Nat.zero_add] at a5 hlt4 hc4 hf4
          have hk4 := k4.size
          obtain ⟨xs, hxs⟩ : ∃ xs, xs = ([] ++ D).map c8 := ⟨_, rfl⟩
          rw [← hxs] at a5
          obtain ⟨S0, hS0⟩ : ∃ S0, S0 = wr.heap.size := ⟨_, rfl⟩
          obtain ⟨S4, hS4⟩ : ∃ S4, S4 = w4.heap.size := ⟨_, rfl⟩
          rw [← hS0] at a5 p5 hlt4 hg3 hs3 H5
          rw [← hS4] at p5 hlt4
          rw [List.nil_append] at p5
          clear hxs hS0 hS4 o4 g4 k4 g5 x5 r5 p3 hold hcell hcell1 hk4
          go_wp2_with fail
          go_loopg [8] m (fun k v wr => ∃ (j : Nat) (xs : List Value), v = .int .i64 j ∧ j + k = m ∧ Any wr S0 (.slice ao4 m c4) m xs ∧ PL w (some a) Ls g (fun b => some b ≠ u5.ownBlock ∧ (b < S0 ∨ S4 ≤ b)) u5 A (A ++ D) wr)
          case atStart => exact ⟨0, xs, rfl, by omega, a5, p5⟩
          case round =>
            clear a5 p5
            obtain ⟨j, xs, rfl, hj, a6, p6⟩ := hrel
            by_cases hjm : j < m
            · obtain ⟨bk, rfl⟩ := hf4 (by omega)
              obtain ⟨y, hy⟩ := a6.cell j hjm
              have hz := a6.1.frozenAt j
              have hg := hlt4 bk rfl
              obtain ⟨a7, g7⟩ := a6.stored j (IntKind.u8.wrap (y + 1))
              have p7 := p6.far g7 (by omega) (by omega) (fun h => by have := h.2; omega) (fun e => by have := H5.out bk e; omega)
              have z1 : (0 : Int) ≤ (j : Int) := by omega
              have z2 : (j : Int) < (m : Int) := by omega
              have HJ := Lib.hid hj
              clear a6 g7 p6 hj
              go_wp2_with fail
              go_roundg (gk - 1)
              case measure => have := HJ.out; omega
              case rel => exact ⟨j + 1, _, by simp, by have := HJ.out; omega, a7, p7⟩
            · have hd3 : decide (j < m) = false := by simp; omega
              obtain ⟨-, hcl⟩ := p6.tx.cells a rfl
              obtain ⟨ao2, c2, hDc2, hcell2, hold2⟩ := hcl i D HD.out
              rw [← HM.out] at hcell2 hDc2
              clear a6 hcl hj
              have hz6 := p6.k.size
              go_upto_region 18 with (first
                | (at_builtin; refine app_own' rfl (.tmp 57) (.tmp 61) rfl (g + 1) u5 A.length A rfl p6.o5 ao2 m c2 D rfl ?q1 ?q2 ?q3 ?q4 ?_; (case q1 => exact HI.out.2.2); (case q2 => exact hold2.bys); (case q3 => have := HI.out; omega); (case q4 => have := p6.hx.lt; omega); intro u6 w6 o6 g6 hw6))
              have p7 := p6.all g6 (by rw [← HM.out]; exact o6) (fun b hb => hb.1) hw6
              obtain ⟨A2, hA2⟩ : ∃ A2, A2 = A ++ D := ⟨_, rfl⟩
              rw [← hA2] at p7
              have HLN : Hid (A2.length ≤ 4294967296) := Lib.hid (by have := HI.out; rw [hA2]; simp; omega)
              have HA2 : Hid ((Ls.take (i + 1)).flatten = A2 ∧ A2.length ≤ 1000 * (i + 1)) := Lib.hid ⟨by rw [hA2]; exact HTF.out, by have := HI.out; rw [hA2]; simp; omega⟩
              have p7 := p7.below (w' := w6.drew) ((Below.refl _ _).drew)
              clear hA2 p6 o6 g6 hw6 hold2 hcell2
              refine region_monoL (fun x => PL w (some a) Ls g (fun b => some b ≠ u6.ownBlock) u6 A2 A2 x) (fun w w' => Below w.heap.size w w') (V4a A2 g u6) [(0, some 63), (1, some 64), (2, some 65), (3, some 66), (4, some 67), (5, some 68), (6, some 69)] (by kernel_rfl) (by kernel_rfl) (by kernel_rfl) (fun _ _ h r => h.below r) (fun i1 v1 w1 w2 _ h1 r1 => V4a_keep A2 g u6 i1 v1 w1 w2 h1 r1) (p7) ?_ (fun vs w' hS hV => ?_)
              · refine StepsL.cons0  (by kernel_rfl)  ?_ ?_
                · rintro w1 hS  K hK
                  (try simp only [Act.put, List.setIfInBounds_toArray, List.set_cons_zero, List.set_cons_succ])
                  go_simp
                  exact hK.out _ _ rfl (Below.refl _ _)
                refine StepsL.cons1 0 (some 63) (by kernel_rfl) rfl ?_ ?_
                · rintro w1 hS _ rfl K hK
                  (try simp only [Act.put, List.setIfInBounds_toArray, List.set_cons_zero, List.set_cons_succ])
                  go_simp
                  go_at_call 13
                  refine (sum13 g _ _ HLN.out hS.hx hS.tk (by have := hS.o1; have := hS.z; omega)).mono ?_
                  rintro r w2 ⟨v2, rfl, o2, b2⟩
                  obtain ⟨ad2, c2, rfl, -, e2, y2⟩ := own_str o2 (tk_lt hS.tk) (by omega)
                  exact hK.out _ _ ⟨_, _, rfl, y2⟩ b2
                refine StepsL.cons1 1 (some 64) (by kernel_rfl) rfl ?_ ?_
                · rintro w1 hS _ ⟨a1, c1, rfl, y1⟩ K hK
                  (try simp only [Act.put, List.setIfInBounds_toArray, List.set_cons_zero, List.set_cons_succ])
                  have hcv := conv_byt (c := c1) (n := 32) (dig_length A2).symm y1
                  go_simp
                  exact hK.out _ _ rfl (Below.refl _ _)
                refine StepsL.cons0  (by kernel_rfl)  ?_ ?_
                · rintro w1 hS  K hK
                  (try simp only [Act.put, List.setIfInBounds_toArray, List.set_cons_zero, List.set_cons_succ])
                  go_simp
                  exact hK.out _ _ rfl (Below.refl _ _)
                refine StepsL.cons1 3 (some 66) (by kernel_rfl) rfl ?_ ?_
                · rintro w1 hS _ rfl K hK
                  (try simp only [Act.put, List.setIfInBounds_toArray, List.set_cons_zero, List.set_cons_succ])
                  obtain ⟨aA, cA, rfl, eA, -, yA⟩ := own_byt (g := 0) hS.o5 (by omega)
                  go_simp
                  go_at_call 10
                  refine (rsum10 _ _ 0 _ _ _ eA (by have := HLN.out; omega) yA (tk_lt hS.tk)).mono ?_
                  rintro r w2 ⟨v2, rfl, o2, b2⟩
                  obtain ⟨ad2, c2, rfl, -, e2, y2⟩ := own_str o2 (tk_lt hS.tk) (by omega)
                  exact hK.out _ _ ⟨_, _, rfl, y2⟩ b2
                refine StepsL.cons1 4 (some 67) (by kernel_rfl) rfl ?_ ?_
                · rintro w1 hS _ ⟨a4, c4, rfl, y4⟩ K hK
                  (try simp only [Act.put, List.setIfInBounds_toArray, List.set_cons_zero, List.set_cons_succ])
                  have hcv := conv_byt (c := c4) (n := 32) (dig_length A2).symm y4
                  go_simp
                  exact hK.out _ _ rfl (Below.refl _ _)
                refine StepsL.cons2 2 (some 65) 5 (some 68) (by kernel_rfl) rfl rfl ?_ ?_
                · rintro w1 hS _ rfl _ rfl K hK
                  (try simp only [Act.put, List.setIfInBounds_toArray, List.set_cons_zero, List.set_cons_succ])
                  go_simp
                  exact hK.out _ _ rfl (Below.refl _ _)
                exact StepsL.nil
              · have e6 : vs 6 = .bool false := hV 6 (by simp)
                simp only [putl, List.foldl_cons, List.foldl_nil, Act.put, List.setIfInBounds_toArray, List.set_cons_zero, List.set_cons_succ, e6]
                clear hV e6
                go_wp2_with fail
                go_roundg (ko - 1)
                case measure => have := HKO.out; have := HI.out; omega
                case rel => exact ⟨i + 1, by simp, by have := HKO.out; have := HI.out; omega, by rw [HA2.out.1]; exact HA2.out.2, by rw [HA2.out.1]; exact hS⟩
      · have hd3 : decide (i < n) = false := by simp; omega
        obtain ⟨A, hA⟩ : ∃ A, A = (Ls.take i).flatten := ⟨_, rfl⟩
        rw [← hA] at p3 hlen
        have HLN : Hid (A.length ≤ 4294967296) := Lib.hid (by omega)
        have p7 := p3.below (w' := wr.drew) ((Below.refl _ _).drew)
        clear p3 hA hlen hi
        go_upto_region 20 with fail
        refine region_monoL (fun x => PL w lo Ls g (fun b => some b ≠ u5.ownBlock) u5 A A x) (fun w w' => Below w.heap.size w w') (V4b A g u5) [(0, some 70), (1, some 71), (2, some 72), (3, some 73), (4, some 74), (5, some 75), (6, some 76), (7, some 77), (8, some 78), (9, some 79), (10, some 2)] (by kernel_rfl) (by kernel_rfl) (by kernel_rfl) (fun _ _ h r => h.below r) (fun i1 v1 w1 w2 _ h1 r1 => V4b_keep A g u5 i1 v1 w1 w2 h1 r1) (p7) ?_ (fun vs w' hS hV => ?_)
        · refine StepsL.cons0  (by kernel_rfl)  ?_ ?_
          · rintro w1 hS  K hK
            (try simp only [Act.put, List.setIfInBounds_toArray, List.set_cons_zero, List.set_cons_succ])
            go_simp
            exact hK.out _ _ rfl (Below.refl _ _)
          refine StepsL.cons1 0 (some 70) (by kernel_rfl) rfl ?_ ?_
          · rintro w1 hS _ rfl K hK
            (try simp only [Act.put, List.setIfInBounds_toArray, List.set_cons_zero, List.set_cons_succ])
            go_simp
            exact hK.out _ _ rfl (Below.refl _ _)
          refine StepsL.cons1 1 (some 71) (by kernel_rfl) rfl ?_ ?_
          · rintro w1 hS _ rfl K hK
            (try simp only [Act.put, List.setIfInBounds_toArray, List.set_cons_zero, List.set_cons_succ])
            go_simp
            exact hK.out _ _ rfl (Below.refl _ _)
          refine StepsL.cons2 1 (some 71) 2 (some 72) (by kernel_rfl) rfl rfl ?_ ?_
          · rintro w1 hS _ rfl _ rfl K hK
            (try simp only [Act.put, List.setIfInBounds_toArray, List.set_cons_zero, List.set_cons_succ])
            go_simp
            go_at_call 13
            refine (sum13 g _ _ HLN.out hS.hx hS.tk (by have := hS.o1; have := hS.z; omega)).mono ?_
            rintro r w2 ⟨v2, rfl, o2, b2⟩
            obtain ⟨ad2, c2, rfl, -, e2, y2⟩ := own_str o2 (tk_lt hS.tk) (by omega)
            exact hK.out _ _ ⟨_, _, rfl, y2⟩ b2
          refine StepsL.cons2 1 (some 71) 3 (some 73) (by kernel_rfl) rfl rfl ?_ ?_
          · rintro w1 hS _ rfl _ ⟨a3, c3, rfl, y3⟩ K hK
            (try simp only [Act.put, List.setIfInBounds_toArray, List.set_cons_zero, List.set_cons_succ])
            have hcv := conv_byt (c := c3) (n := 32) (dig_length A).symm y3
            go_simp
            exact hK.out _ _ rfl (Below.refl _ _)
          refine StepsL.cons1 1 (some 71) (by kernel_rfl) rfl ?_ ?_
          · rintro w1 hS _ rfl K hK
            (try simp only [Act.put, List.setIfInBounds_toArray, List.set_cons_zero, List.set_cons_succ])
            go_simp
            exact hK.out _ _ rfl (Below.refl _ _)
          refine StepsL.cons2 1 (some 71) 5 (some 75) (by kernel_rfl) rfl rfl ?_ ?_
          · rintro w1 hS _ rfl _ rfl K hK
            (try simp only [Act.put, List.setIfInBounds_toArray, List.set_cons_zero, List.set_cons_succ])
            obtain ⟨aA, cA, rfl, eA, -, yA⟩ := own_byt (g := 0) hS.o5 (by omega)
            go_simp
            go_at_call 9
            refine (sum9 _ _ 0 _ _ _ eA (by have := HLN.out; omega) yA hS.tk).mono ?_
            rintro r w2 ⟨v2, rfl, o2, b2⟩
            obtain ⟨ad2, c2, rfl, -, e2, y2⟩ := own_str o2 (tk_lt hS.tk) (by omega)
            exact hK.out _ _ ⟨_, _, rfl, y2⟩ b2
          refine StepsL.cons2 1 (some 71) 6 (some 76) (by kernel_rfl) rfl rfl ?_ ?_
          · rintro w1 hS _ rfl _ ⟨a6, c6, rfl, y6⟩ K hK
            (try simp only [Act.put, List.setIfInBounds_toArray, List.set_cons_zero, List.set_cons_succ])
            have hcv := conv_byt (c := c6) (n := 32) (dig_length A).symm y6
            go_simp
            exact hK.out _ _ rfl (Below.refl _ _)
          refine StepsL.cons3 1 (some 71) 4 (some 74) 7 (some 77) (by kernel_rfl) rfl rfl rfl ?_ ?_
          · rintro w1 hS _ rfl _ rfl _ rfl K hK
            (try simp only [Act.put, List.setIfInBounds_toArray, List.set_cons_zero, List.set_cons_succ])
            go_simp
            exact hK.out _ _ rfl (Below.refl _ _)
          refine StepsL.cons2 1 (some 71) 8 (some 78) (by kernel_rfl) rfl rfl ?_ ?_
          · rintro w1 hS _ rfl _ rfl K hK
            (try simp only [Act.put, List.setIfInBounds_toArray, List.set_cons_zero, List.set_cons_succ])
            go_simp
            exact hK.out _ _ rfl (Below.refl _ _)
          refine StepsL.cons1 9 (some 79) (by kernel_rfl) rfl ?_ ?_
          · rintro w1 hS _ rfl K hK
            (try simp only [Act.put, List.setIfInBounds_toArray, List.set_cons_zero, List.set_cons_succ])
            go_simp
            exact hK.out _ _ rfl (Below.refl _ _)
          exact StepsL.nil
        · have e10 : vs 10 = .bool true := hV 10 (by simp)
          simp only [putl, List.foldl_cons, List.foldl_nil, Act.put, List.setIfInBounds_toArray, List.set_cons_zero, List.set_cons_succ, e10]
          go_wp2_with fail
          go_ret
          exact ⟨rfl, hS.k⟩
end Go.Proofs.YtinmmenjlhlpmaaDoor
