/- A region that draws its order, each of its operations walked once: what each leaves is said of its value and of the world at hand, and stays true as the world goes on. -/
import Derived.Orders
import Derived.Deep.RegionHeld3
import Derived.StillTail
namespace Go.Proofs.Ytllgdlfdmmdffaa

set_option linter.unusedSimpArgs false
section
variable {P : Program} {ops : Array Oper}

def dstOf (ops : Array Oper) (j : Nat) : Option Tmp := (ops[j]?).bind (·.dst)
/-- The frame, with what the listed operations have left. -/
def fill (ops : Array Oper) (vs : Nat → Value) (L : Nat → Bool) : Nat → Act → Act
  | 0, a => a
  | n + 1, a => if L n then (fill ops vs L n a).put (dstOf ops n) (vs n) else fill ops vs L n a
def puts (ops : Array Oper) (vs : Nat → Value) (ds : List Nat) (a : Act) : Act := ds.foldl (fun a j => a.put (dstOf ops j) (vs j)) a

theorem put_size (a : Act) (d : Option Tmp) (v : Value) : (a.put d v).tmps.size = a.tmps.size := by cases d <;> simp [Act.put]
theorem fill_size (vs : Nat → Value) (L : Nat → Bool) (n : Nat) (a : Act) : (fill ops vs L n a).tmps.size = a.tmps.size := by
  induction n with
  | zero => rfl
  | succ n ih => unfold fill; split <;> simp [put_size, ih]
theorem fill_puts (vs : Nat → Value) (L : Nat → Bool) (n : Nat) (a : Act) : fill ops vs L n a = puts ops vs ((List.range n).filter L) a := by
  induction n with
  | zero => rfl
  | succ n ih =>
    unfold fill
    rw [List.range_succ, List.filter_append, ih]
    unfold puts
    rw [List.foldl_append]
    cases h : L n <;> simp [h]

/-- The two frames hold the same at these places. -/
def Same (T : List Tmp) (a b : Act) : Prop := ∀ t ∈ T, a.tmps[t]? = b.tmps[t]?
theorem Same.put {T : List Tmp} {a b : Act} (h : Same T a b) (hs : a.tmps.size = b.tmps.size) (d : Option Tmp) (v : Value) : Same T (a.put d v) (b.put d v) := by
  cases d with
  | none => exact h
  | some d =>
    intro t ht
    simp only [Act.put, Array.getElem?_setIfInBounds, hs, h t ht]
theorem Same.left {T : List Tmp} {a b : Act} (h : Same T a b) (d : Option Tmp) (v : Value) (hd : ∀ t, d = some t → t ∉ T) : Same T (a.put d v) b := by
  cases d with
  | none => exact h
  | some d =>
    intro t ht
    have hne : d ≠ t := fun e => hd d rfl (e ▸ ht)
    simp only [Act.put, Array.getElem?_setIfInBounds_ne hne, h t ht]
theorem fill_same {T : List Tmp} (vs : Nat → Value) (L D : Nat → Bool) (n : Nat) (a : Act) (hLD : ∀ j, j < n → D j = true → L j = true) (hno : ∀ j, j < n → L j = true → D j = false → ∀ d, dstOf ops j = some d → d ∉ T) :
    Same T (fill ops vs L n a) (fill ops vs D n a) := by
  induction n with
  | zero => exact fun _ _ => rfl
  | succ n ih =>
    have ih := ih (fun j hj => hLD j (by omega)) (fun j hj => hno j (by omega))
    unfold fill
    cases hD : D n with
    | true => rw [hLD n (by omega) hD]; exact ih.put (by rw [fill_size, fill_size]) _ _
    | false =>
      cases hL : L n with
      | false => exact ih
      | true => exact ih.left _ _ (hno n (by omega) hL hD)
theorem eval_same {o : Oper} {a b : Act} (h : Same (o.looksAt ops) a b) (x : Operand) (hx : x ∈ o.op.operands) : a.eval x = b.eval x := by
  cases x with
  | tmp t =>
    have ht : t ∈ o.looksAt ops := List.mem_append_left _ (List.mem_filterMap.2 ⟨.tmp t, by simpa using hx, rfl⟩)
    have := h t ht
    simp only [Act.eval, Array.getD_eq_getD_getElem?, this]
  | _ => rfl
theorem wanted_same {o : Oper} {a b : Act} (h : Same (o.looksAt ops) a b) : Region.wanted o (yielded ops a.tmps) = Region.wanted o (yielded ops b.tmps) := by
  unfold Region.wanted
  cases hg : o.guard with
  | none => rfl
  | some gw =>
    obtain ⟨g, want⟩ := gw
    have hy : yielded ops a.tmps g = yielded ops b.tmps g := by
      unfold yielded
      cases ht : (ops[g]?).bind (·.dst) with
      | none => rfl
      | some t =>
        have := h t (by simp [Oper.looksAt, hg, ht])
        simp only [Option.bind_some, this]
    simp only [hy]

theorem put_inj {a : Act} {d : Option Tmp} {u v : Value} (hd : ∀ t, d = some t → t < a.tmps.size) (h : a.put d u = a.put d v) : d = none ∨ u = v := by
  cases d with
  | none => exact .inl rfl
  | some d =>
    right
    have := congrArg (fun x : Act => x.tmps[d]?) h
    simpa [Act.put, hd d rfl] using this
theorem letsOut_np {Q : Exit → Act → World → Prop} (h : LetsOut (NoPanic Q)) : LetsOut Q := by
  obtain ⟨a, w, h⟩ := h
  exact ⟨a, w, h⟩
theorem upon_same {o : Oper} {a b : Act} {Q : Exit → Act → World → Prop} {W : Value → World → Prop} {r : Result Next} (hd : ∀ t, o.dst = some t → t < b.tmps.size)
    (h : o.upon P b (fun x w' => ∃ v, x = b.put o.dst v ∧ W v w') (NoPanic Q) r) : o.upon P a (fun x w' => ∃ v, x = a.put o.dst v ∧ W v w') Q r := by
  have key : ∀ u w', (∃ v, b.put o.dst u = b.put o.dst v ∧ W v w') → ∃ v, a.put o.dst u = a.put o.dst v ∧ W v w' := fun u w' ⟨v, h1, h2⟩ => by
    refine ⟨v, ?_, h2⟩
    rcases put_inj hd h1 with h | h
    · rw [h]; rfl
    · rw [h]
  cases r with
  | ok n w' =>
    cases n <;> simp only [Oper.upon] at h ⊢
    case value u => exact key _ _ h
    case skip => exact key _ _ h
    case defer d =>
      obtain ⟨v, h1, _⟩ := h
      have := congrArg (fun x : Act => x.defers.length) h1
      have e : ∀ (x : Act) (t : Option Tmp) (v : Value), (x.put t v).defers = x.defers := fun x t v => by cases t <;> rfl
      simp [e] at this
    case enter f args =>
      refine Calls.mono h fun e w'' he => ?_
      cases e with
      | returned u => exact key _ _ he
      | panicked c => exact (he : False).elim
      | outgrown => exact letsOut_np he
    case row row args => exact Rows.mono h fun u w'' he => key _ _ he
  | halt x w' =>
    cases x <;> simp only [Oper.upon] at h ⊢
    case panic u => exact (h : False).elim

theorem fill_congr {vs vs' : Nat → Value} {L L' : Nat → Bool} {n : Nat} {a : Act} (h : ∀ j, j < n → L j = L' j ∧ vs j = vs' j) : fill ops vs L n a = fill ops vs' L' n a := by
  induction n with
  | zero => rfl
  | succ n ih =>
    unfold fill
    rw [ih fun j hj => h j (by omega), (h n (by omega)).1, (h n (by omega)).2]
theorem fill_put (vs : Nat → Value) (L : Nat → Bool) (i : Nat) (v : Value) (hL : L i = false) (a : Act) : ∀ n, i < n → (∀ j d, j < n → j ≠ i → dstOf ops i = some d → dstOf ops j ≠ some d) →
    (fill ops vs L n a).put (dstOf ops i) v = fill ops (fun j => if j = i then v else vs j) (fun j => j == i || L j) n a := by
  intro n
  induction n with
  | zero => intro hi; omega
  | succ n ih =>
    intro hi hd
    by_cases e : i = n
    · subst e
      unfold fill
      simp only [hL, beq_self_eq_true, Bool.true_or, if_true, Bool.false_eq_true, if_false]
      congr 1
      refine fill_congr fun j hj => ?_
      have : j ≠ i := by omega
      simp [this]
    · have ih := ih (by omega) (fun j d hj => hd j d (by omega))
      have e' : n ≠ i := fun h => e h.symm
      unfold fill
      rw [← ih]
      simp only [e', beq_iff_eq, if_false, show (n == i) = false by simp [e'], Bool.false_or]
      cases h : L n with
      | false => simp
      | true =>
        simp only [if_true]
        rw [Act.put_comm _ _ _ (fun d hd' he => hd n d (by omega) e' he hd')]

def waits (o : Oper) (j : Nat) : Bool := o.after.any fun e => Region.binds .any e && e.on == j
def looks (ops : Array Oper) (o : Oper) (j : Nat) : Bool := match dstOf ops j with | some d => (o.looksAt ops).contains d | none => false
/-- Of which operations number i takes what they left. -/
def needs (ops : Array Oper) (o : Oper) (j : Nat) : Bool := waits o j && looks ops o j
def monoB (ops : Array Oper) (z : Nat) : Bool :=
  Region.noSelect ops &&
  (List.range ops.size).all fun i => match ops[i]? with
    | none => false
    | some oi => oi.after.all (fun e => !Region.binds .any e || e.on < i) &&
      (match oi.dst with | some d => decide (d < z) | none => true) &&
      (List.range ops.size).all fun j => j == i ||
        ((match dstOf ops j with | some d => oi.dst != some d | none => true) &&
         (waits oi j || (match ops[j]? with | some oj => waits oj i | none => false) || !looks ops oi j))

theorem waits_iff {o : Oper} {j : Nat} : waits o j = true ↔ ∃ e ∈ o.after, Region.binds .any e = true ∧ e.on = j := by
  unfold waits
  rw [Array.any_eq_true']
  simp

structure MonoFacts (ops : Array Oper) (z : Nat) : Prop where
  sel : Region.noSelect ops = true
  low : ∀ i o j, ops[i]? = some o → waits o j = true → j < i
  dst : ∀ i d, dstOf ops i = some d → d < z
  dne : ∀ i j d, i < ops.size → j < ops.size → j ≠ i → dstOf ops i = some d → dstOf ops j ≠ some d
  ind : ∀ i j oi oj, ops[i]? = some oi → ops[j]? = some oj → j ≠ i → waits oi j = false → waits oj i = false → looks ops oi j = false
theorem monoB_facts {z : Nat} (h : monoB ops z = true) : MonoFacts ops z := by
  unfold monoB at h
  rw [Bool.and_eq_true, List.all_eq_true] at h
  obtain ⟨hs, h⟩ := h
  have key : ∀ i o, ops[i]? = some o → o.after.all (fun e => !Region.binds .any e || e.on < i) = true ∧ (match o.dst with | some d => decide (d < z) | none => true) = true ∧
      ∀ j, j < ops.size → j ≠ i → (match dstOf ops j with | some d => o.dst != some d | none => true) = true ∧ (waits o j || (match ops[j]? with | some oj => waits oj i | none => false) || !looks ops o j) = true := fun i o ho => by
    have hi := (Array.getElem?_eq_some_iff.1 ho).1
    have := h i (by simpa using hi)
    simp only [ho, Bool.and_eq_true, List.all_eq_true, List.mem_range, Bool.or_eq_true (_ == _), beq_iff_eq] at this
    exact ⟨this.1.1, this.1.2, fun j hj hne => (this.2 j hj).resolve_left hne⟩
  have dof : ∀ i o, ops[i]? = some o → dstOf ops i = o.dst := fun i o ho => by simp [dstOf, ho]
  have sz : ∀ i d, dstOf ops i = some d → ∃ o, ops[i]? = some o ∧ o.dst = some d := fun i d hd => by
    unfold dstOf at hd
    cases ho : ops[i]? with
    | none => rw [ho] at hd; cases hd
    | some o => rw [ho] at hd; exact ⟨o, rfl, hd⟩
  refine ⟨hs, fun i o j ho hw => ?_, fun i d hd => ?_, fun i j d hi hj hne hd hj' => ?_, fun i j oi oj hi hj hne h1 h2 => ?_⟩
  · obtain ⟨e, he, hb, rfl⟩ := waits_iff.1 hw
    have := Array.all_eq_true_iff_forall_mem.1 (key i o ho).1 e he
    simpa [hb] using this
  · obtain ⟨o, ho, hd⟩ := sz i d hd
    have := (key i o ho).2.1
    rw [hd] at this
    simpa using this
  · obtain ⟨o, ho, hd⟩ := sz i d hd
    have := ((key i o ho).2.2 j hj hne).1
    rw [hj', hd] at this
    simp at this
  · have := ((key i oi hi).2.2 j (Array.getElem?_eq_some_iff.1 hj).1 hne).2
    simpa [hj, h1, h2] using this

def un (listed : Array Bool) (n : Nat) : Nat := (List.range n).countP fun j => !listed.getD j false
theorem un_set {listed : Array Bool} {i : Nat} (hi : i < listed.size) (hl : listed.getD i false = false) (n : Nat) : un listed n = un (listed.setIfInBounds i true) n + (if i < n then 1 else 0) := by
  have hgd : ∀ j, (listed.setIfInBounds i true).getD j false = (j == i || listed.getD j false) := fun j => by
    by_cases e : j = i
    · subst e; simp [hi]
    · rw [getD_set_ne false (Ne.symm e)]; simp [e]
  induction n with
  | zero => rfl
  | succ n ih =>
    unfold un at ih ⊢
    simp only [hgd] at ih ⊢
    rw [List.range_succ, List.countP_append, List.countP_append, ih]
    simp only [List.countP_singleton]
    by_cases e : n = i
    · subst e; simp [hl]
    · have h1 : (n == i) = false := by simp [e]
      rw [h1, Bool.false_or]
      by_cases h : i < n
      · rw [if_pos h, if_pos (show i < n + 1 by omega)]; omega
      · rw [if_neg h, if_neg (show ¬ i < n + 1 by omega)]; omega
theorem un_zero {listed : Array Bool} {n : Nat} (h : un listed n = 0) (j : Nat) (hj : j < n) : listed.getD j false = true := by
  unfold un at h
  rw [List.countP_eq_zero] at h
  have := h j (List.mem_range.2 hj)
  simpa using this
theorem un_pos {listed : Array Bool} {n f : Nat} (h : un listed n = f + 1) : ∃ j, j < n ∧ listed.getD j false = false := by
  unfold un at h
  have : 0 < (List.range n).countP fun j => !listed.getD j false := by omega
  rw [List.countP_pos_iff] at this
  obtain ⟨j, hj, hl⟩ := this
  exact ⟨j, List.mem_range.1 hj, by simpa using hl⟩

/-- Operation number i, of the first n, does what is said of it. -/
def StepAt (P : Program) (ops : Array Oper) (Q : Exit → Act → World → Prop) (S : World → Prop) (R : World → World → Prop) (V : Nat → Value → World → Prop) (a0 : Act) (i : Nat) (o : Oper) (ds : List Nat) : Prop :=
  ∀ vs w, S w → (∀ j ∈ ds, V j (vs j) w) →
    ∀ K : Act → World → Prop, Shut (∀ v w', V i v w' → R w w' → K ((puts ops vs ds a0).put o.dst v) w') →
      if Region.wanted o (yielded ops (puts ops vs ds a0).tmps) = true then Oper.wp P o (puts ops vs ds a0) w K (NoPanic Q)
      else K ((puts ops vs ds a0).put o.dst undef) w
def StepsL (P : Program) (ops : Array Oper) (Q : Exit → Act → World → Prop) (S : World → Prop) (R : World → World → Prop) (V : Nat → Value → World → Prop) (a0 : Act) (i : Nat) (l : List Oper) : Prop :=
  ∀ k o, l[k]? = some o → StepAt P ops Q S R V a0 (i + k) o ((List.range (i + k)).filter (needs ops o))
theorem StepsL.nil {Q : Exit → Act → World → Prop} {S : World → Prop} {R : World → World → Prop} {V : Nat → Value → World → Prop} {a0 : Act} {i : Nat} : StepsL P ops Q S R V a0 i [] := fun k o h => by simp at h
theorem StepsL.cons {Q : Exit → Act → World → Prop} {S : World → Prop} {R : World → World → Prop} {V : Nat → Value → World → Prop} {a0 : Act} {i : Nat} {o : Oper} {l : List Oper}
    (h : StepAt P ops Q S R V a0 i o ((List.range i).filter (needs ops o))) (hs : StepsL P ops Q S R V a0 (i + 1) l) : StepsL P ops Q S R V a0 i (o :: l) := fun k o' hk => by
  cases k with
  | zero => simp at hk; subst hk; exact h
  | succ k => rw [show i + (k + 1) = i + 1 + k by omega]; exact hs k o' (by simpa using hk)
theorem StepsL.cons0 {Q : Exit → Act → World → Prop} {S : World → Prop} {R : World → World → Prop} {V : Nat → Value → World → Prop} {a0 : Act} {l : List Oper} {i : Nat} {o : Oper} 
    (hds : (List.range i).filter (needs ops o) = []) 
    (h : ∀ w, S w → ∀ K : Act → World → Prop, Shut (∀ v w', V i v w' → R w w' → K (a0.put o.dst v) w') →
      if Region.wanted o (yielded ops a0.tmps) = true then Oper.wp P o a0 w K (NoPanic Q) else K (a0.put o.dst undef) w)
    (hs : StepsL P ops Q S R V a0 (i + 1) l) : StepsL P ops Q S R V a0 i (o :: l) := by

  refine StepsL.cons ?_ hs
  rw [hds]
  intro vs w hS hV
  exact h w hS 
theorem StepsL.cons1 {Q : Exit → Act → World → Prop} {S : World → Prop} {R : World → World → Prop} {V : Nat → Value → World → Prop} {a0 : Act} {l : List Oper} {i : Nat} {o : Oper} (j0 : Nat) (d0 : Option Tmp)
    (hds : (List.range i).filter (needs ops o) = [j0]) (h0 : dstOf ops j0 = d0)
    (h : ∀ w, S w → ∀ x0, V j0 x0 w → ∀ K : Act → World → Prop, Shut (∀ v w', V i v w' → R w w' → K ((a0.put d0 x0).put o.dst v) w') →
      if Region.wanted o (yielded ops (a0.put d0 x0).tmps) = true then Oper.wp P o (a0.put d0 x0) w K (NoPanic Q) else K ((a0.put d0 x0).put o.dst undef) w)
    (hs : StepsL P ops Q S R V a0 (i + 1) l) : StepsL P ops Q S R V a0 i (o :: l) := by
  subst h0
  refine StepsL.cons ?_ hs
  rw [hds]
  intro vs w hS hV
  exact h w hS (vs j0) (hV j0 (by simp))
theorem StepsL.cons2 {Q : Exit → Act → World → Prop} {S : World → Prop} {R : World → World → Prop} {V : Nat → Value → World → Prop} {a0 : Act} {l : List Oper} {i : Nat} {o : Oper} (j0 : Nat) (d0 : Option Tmp) (j1 : Nat) (d1 : Option Tmp)
    (hds : (List.range i).filter (needs ops o) = [j0, j1]) (h0 : dstOf ops j0 = d0) (h1 : dstOf ops j1 = d1)
    (h : ∀ w, S w → ∀ x0, V j0 x0 w → ∀ x1, V j1 x1 w → ∀ K : Act → World → Prop, Shut (∀ v w', V i v w' → R w w' → K (((a0.put d0 x0).put d1 x1).put o.dst v) w') →
      if Region.wanted o (yielded ops ((a0.put d0 x0).put d1 x1).tmps) = true then Oper.wp P o ((a0.put d0 x0).put d1 x1) w K (NoPanic Q) else K (((a0.put d0 x0).put d1 x1).put o.dst undef) w)
    (hs : StepsL P ops Q S R V a0 (i + 1) l) : StepsL P ops Q S R V a0 i (o :: l) := by
  subst h0
  subst h1
  refine StepsL.cons ?_ hs
  rw [hds]
  intro vs w hS hV
  exact h w hS (vs j0) (hV j0 (by simp)) (vs j1) (hV j1 (by simp))
theorem StepsL.cons3 {Q : Exit → Act → World → Prop} {S : World → Prop} {R : World → World → Prop} {V : Nat → Value → World → Prop} {a0 : Act} {l : List Oper} {i : Nat} {o : Oper} (j0 : Nat) (d0 : Option Tmp) (j1 : Nat) (d1 : Option Tmp) (j2 : Nat) (d2 : Option Tmp)
    (hds : (List.range i).filter (needs ops o) = [j0, j1, j2]) (h0 : dstOf ops j0 = d0) (h1 : dstOf ops j1 = d1) (h2 : dstOf ops j2 = d2)
    (h : ∀ w, S w → ∀ x0, V j0 x0 w → ∀ x1, V j1 x1 w → ∀ x2, V j2 x2 w → ∀ K : Act → World → Prop, Shut (∀ v w', V i v w' → R w w' → K ((((a0.put d0 x0).put d1 x1).put d2 x2).put o.dst v) w') →
      if Region.wanted o (yielded ops (((a0.put d0 x0).put d1 x1).put d2 x2).tmps) = true then Oper.wp P o (((a0.put d0 x0).put d1 x1).put d2 x2) w K (NoPanic Q) else K ((((a0.put d0 x0).put d1 x1).put d2 x2).put o.dst undef) w)
    (hs : StepsL P ops Q S R V a0 (i + 1) l) : StepsL P ops Q S R V a0 i (o :: l) := by
  subst h0
  subst h1
  subst h2
  refine StepsL.cons ?_ hs
  rw [hds]
  intro vs w hS hV
  exact h w hS (vs j0) (hV j0 (by simp)) (vs j1) (hV j1 (by simp)) (vs j2) (hV j2 (by simp))
theorem StepsL.cons4 {Q : Exit → Act → World → Prop} {S : World → Prop} {R : World → World → Prop} {V : Nat → Value → World → Prop} {a0 : Act} {l : List Oper} {i : Nat} {o : Oper} (j0 : Nat) (d0 : Option Tmp) (j1 : Nat) (d1 : Option Tmp) (j2 : Nat) (d2 : Option Tmp) (j3 : Nat) (d3 : Option Tmp)
    (hds : (List.range i).filter (needs ops o) = [j0, j1, j2, j3]) (h0 : dstOf ops j0 = d0) (h1 : dstOf ops j1 = d1) (h2 : dstOf ops j2 = d2) (h3 : dstOf ops j3 = d3)
    (h : ∀ w, S w → ∀ x0, V j0 x0 w → ∀ x1, V j1 x1 w → ∀ x2, V j2 x2 w → ∀ x3, V j3 x3 w → ∀ K : Act → World → Prop, Shut (∀ v w', V i v w' → R w w' → K (((((a0.put d0 x0).put d1 x1).put d2 x2).put d3 x3).put o.dst v) w') →
      if Region.wanted o (yielded ops ((((a0.put d0 x0).put d1 x1).put d2 x2).put d3 x3).tmps) = true then Oper.wp P o ((((a0.put d0 x0).put d1 x1).put d2 x2).put d3 x3) w K (NoPanic Q) else K (((((a0.put d0 x0).put d1 x1).put d2 x2).put d3 x3).put o.dst undef) w)
    (hs : StepsL P ops Q S R V a0 (i + 1) l) : StepsL P ops Q S R V a0 i (o :: l) := by
  subst h0
  subst h1
  subst h2
  subst h3
  refine StepsL.cons ?_ hs
  rw [hds]
  intro vs w hS hV
  exact h w hS (vs j0) (hV j0 (by simp)) (vs j1) (hV j1 (by simp)) (vs j2) (hV j2 (by simp)) (vs j3) (hV j3 (by simp))
theorem StepsL.cons5 {Q : Exit → Act → World → Prop} {S : World → Prop} {R : World → World → Prop} {V : Nat → Value → World → Prop} {a0 : Act} {l : List Oper} {i : Nat} {o : Oper} (j0 : Nat) (d0 : Option Tmp) (j1 : Nat) (d1 : Option Tmp) (j2 : Nat) (d2 : Option Tmp) (j3 : Nat) (d3 : Option Tmp) (j4 : Nat) (d4 : Option Tmp)
    (hds : (List.range i).filter (needs ops o) = [j0, j1, j2, j3, j4]) (h0 : dstOf ops j0 = d0) (h1 : dstOf ops j1 = d1) (h2 : dstOf ops j2 = d2) (h3 : dstOf ops j3 = d3) (h4 : dstOf ops j4 = d4)
    (h : ∀ w, S w → ∀ x0, V j0 x0 w → ∀ x1, V j1 x1 w → ∀ x2, V j2 x2 w → ∀ x3, V j3 x3 w → ∀ x4, V j4 x4 w → ∀ K : Act → World → Prop, Shut (∀ v w', V i v w' → R w w' → K ((((((a0.put d0 x0).put d1 x1).put d2 x2).put d3 x3).put d4 x4).put o.dst v) w') →
      if Region.wanted o (yielded ops (((((a0.put d0 x0).put d1 x1).put d2 x2).put d3 x3).put d4 x4).tmps) = true then Oper.wp P o (((((a0.put d0 x0).put d1 x1).put d2 x2).put d3 x3).put d4 x4) w K (NoPanic Q) else K ((((((a0.put d0 x0).put d1 x1).put d2 x2).put d3 x3).put d4 x4).put o.dst undef) w)
    (hs : StepsL P ops Q S R V a0 (i + 1) l) : StepsL P ops Q S R V a0 i (o :: l) := by
  subst h0
  subst h1
  subst h2
  subst h3
  subst h4
  refine StepsL.cons ?_ hs
  rw [hds]
  intro vs w hS hV
  exact h w hS (vs j0) (hV j0 (by simp)) (vs j1) (hV j1 (by simp)) (vs j2) (hV j2 (by simp)) (vs j3) (hV j3 (by simp)) (vs j4) (hV j4 (by simp))


theorem needs_low {z i : Nat} {o : Oper} (hF : MonoFacts ops z) (ho : ops[i]? = some o) : ∀ n, i ≤ n → (List.range n).filter (needs ops o) = (List.range i).filter (needs ops o) := by
  intro n
  induction n with
  | zero => intro h; obtain rfl : i = 0 := by omega
            rfl
  | succ n ih =>
    intro h
    by_cases e : i = n + 1
    · rw [e]
    · rw [List.range_succ, List.filter_append, ih (by omega)]
      have : needs ops o n = false := by
        cases hn : needs ops o n with
        | false => rfl
        | true =>
          unfold needs at hn
          rw [Bool.and_eq_true] at hn
          have := hF.low i o n ho hn.1
          omega
      simp [this]

theorem mono_any {n g : Nat} {Q : Exit → Act → World → Prop} {S : World → Prop} {R : World → World → Prop} {V : Nat → Value → World → Prop} {a0 : Act} (hn : n ≤ ops.size) (hF : MonoFacts ops a0.tmps.size)
    (hSR : ∀ w w', S w → R w w' → S w') (hVR : ∀ i v w w', S w → V i v w → R w w' → V i v w') (hst : ∀ i o, i < n → ops[i]? = some o → StepAt P ops Q S R V a0 i o ((List.range i).filter (needs ops o)))
    (htail : ∀ listed i t, HeadInv .any ops n listed → i < n → listed.getD i false = false → t ∈ Region.ready .any ops listed → t < n)
    (hdone : ∀ vs w listed, S w → (∀ i, i < n → V i (vs i) w) → HeadInv .any ops n listed → (∀ j, j < n → listed.getD j false = true) → wpAny P .any ops Q g listed (fill ops vs (fun _ => true) n a0) w) :
    ∀ (f : Nat) (listed : Array Bool) (vs : Nat → Value) (w : World), HeadInv .any ops n listed → un listed n = f → S w → (∀ j, j < n → listed.getD j false = true → V j (vs j) w) →
      wpAny P .any ops Q (f + g) listed (fill ops vs (fun j => listed.getD j false) n a0) w := by
  intro f
  induction f with
  | zero =>
    intro listed vs w inv hc hS hV
    rw [Nat.zero_add, fill_congr (vs' := vs) (L' := fun _ => true) fun j hj => ⟨un_zero hc j hj, rfl⟩]
    exact hdone vs w listed hS (fun i hi => hV i hi (un_zero hc i hi)) inv (un_zero hc)
  | succ f ih =>
    intro listed vs w inv hc hS hV
    rw [show f + 1 + g = (f + g) + 1 by omega]
    obtain ⟨j0, hj0, hl0⟩ := un_pos hc
    have hsz := inv.size
    refine ⟨fun hr => ?_, fun i hi => ?_⟩
    · exfalso
      have all : ∀ m, m ≤ n → ∀ j, j < m → listed.getD j false = true := by
        intro m
        induction m with
        | zero => intro _ j hj; omega
        | succ m ihm =>
          intro hm j hj
          have ihm := ihm (by omega)
          rcases Nat.lt_or_ge j m with h | h
          · exact ihm j h
          obtain rfl : j = m := by omega
          cases hl : listed.getD j false with
          | true => rfl
          | false =>
            have hj' : j < ops.size := by omega
            have : j ∈ Region.ready .any ops listed := by
              rw [mem_ready]
              refine ⟨?_, ops[j], Array.getElem?_eq_getElem hj', fun e he hb => ?_⟩
              · have hj2 : j < listed.size := by omega
                simpa [hj2] using hl
              · exact ihm _ (hF.low j _ e.on (Array.getElem?_eq_getElem hj') (waits_iff.2 ⟨e, he, hb, rfl⟩))
            rw [hr] at this; cases this
      rw [all n (Nat.le_refl _) j0 hj0] at hl0
      cases hl0
    have hin : i < n := htail listed j0 i inv hj0 hl0 hi
    have inv' := inv.set hi hin
    obtain ⟨h0, o, ho, hall⟩ := mem_ready.1 hi
    have his : i < ops.size := (Array.getElem?_eq_some_iff.1 ho).1
    have hil : i < listed.size := by omega
    have hLi : listed.getD i false = false := by simpa [hil] using h0
    have hw : ∀ j, waits o j = true → listed.getD j false = true := fun j hj => by
      obtain ⟨e, he, hb, rfl⟩ := waits_iff.1 hj
      exact hall e he hb
    have hsame : Same (o.looksAt ops) (fill ops vs (fun j => listed.getD j false) n a0) (puts ops vs ((List.range i).filter (needs ops o)) a0) := by
      rw [← needs_low hF ho n (by omega), ← fill_puts]
      refine fill_same vs _ _ _ _ (fun j _ hj => ?_) (fun j hj hl hnn d hd hm => ?_)
      · unfold needs at hj
        rw [Bool.and_eq_true] at hj
        exact hw j hj.1
      · have hji : j ≠ i := fun e => by rw [e] at hl; rw [hl] at hLi; cases hLi
        have hlk : looks ops o j = true := by unfold looks; rw [hd]; simpa using hm
        have h1 : waits o j = false := by
          unfold needs at hnn
          rw [hlk, Bool.and_true] at hnn
          exact hnn
        have hjs : j < ops.size := by omega
        have h2 : waits ops[j] i = false := by
          cases h : waits ops[j] i with
          | false => rfl
          | true =>
            obtain ⟨e, he, hb, hon⟩ := waits_iff.1 h
            have := inv.closed j ops[j] (Array.getElem?_eq_getElem hjs) hl e he hb
            rw [hon, hLi] at this; cases this
        have := hF.ind i j o ops[j] ho (Array.getElem?_eq_getElem hjs) hji h1 h2
        rw [this] at hlk; cases hlk
    have hst := hst i o hin ho vs w hS (fun j hj => by
      simp only [List.mem_filter, List.mem_range] at hj
      refine hV j (by omega) (hw j ?_)
      have := hj.2
      unfold needs at this
      rw [Bool.and_eq_true] at this
      exact this.1)
    have hcnt : un (listed.setIfInBounds i true) n = f := by
      have := un_set hil hLi n
      rw [if_pos hin, hc] at this
      omega
    have hgd : ∀ j, (listed.setIfInBounds i true).getD j false = (j == i || listed.getD j false) := fun j => by
      by_cases e : j = i
      · subst e; simp [hil]
      · rw [getD_set_ne false (Ne.symm e)]; simp [e]
    have hdo : dstOf ops i = o.dst := by simp [dstOf, ho]
    have next : ∀ (v : Value) (w' : World), V i v w' → R w w' → wpAny P .any ops Q (f + g) (listed.setIfInBounds i true) ((fill ops vs (fun j => listed.getD j false) n a0).put o.dst v) w' := fun v w' hv hr => by
      rw [← hdo, fill_put vs _ i v hLi a0 n hin (fun j d hj hne hd => hF.dne i j d his (by omega) hne hd)]
      rw [fill_congr (vs' := fun j => if j = i then v else vs j) (L' := fun j => (listed.setIfInBounds i true).getD j false) (fun j _ => ⟨(hgd j).symm, rfl⟩)]
      refine ih _ _ _ inv' hcnt (hSR w w' hS hr) (fun j hj hl => ?_)
      rw [hgd] at hl
      by_cases e : j = i
      · subst e; simpa using hv
      · have : listed.getD j false = true := by simpa [e] using hl
        simp only [e, if_false]
        exact hVR j _ w w' hS (hV j hj this) hr
    unfold wpOp
    rw [ho]
    simp only
    rw [wanted_same hsame]
    have H := hst (fun x w' => ∃ v, x = (puts ops vs ((List.range i).filter (needs ops o)) a0).put o.dst v ∧ V i v w' ∧ R w w') (fun v w' h1 h2 => ⟨v, rfl, h1, h2⟩)
    have hd : ∀ t, o.dst = some t → t < (puts ops vs ((List.range i).filter (needs ops o)) a0).tmps.size := fun t ht => by
      rw [← needs_low hF ho n (by omega), ← fill_puts, fill_size]
      exact hF.dst i t (by rw [hdo, ht])
    split
    · rename_i hwt
      rw [if_pos hwt] at H
      left
      unfold Oper.wp at H
      have H2 := upon_same (a := fill ops vs (fun j => listed.getD j false) n a0) (W := fun v w' => V i v w' ∧ R w w') hd H
      have H3 : Oper.wp P o (fill ops vs (fun j => listed.getD j false) n a0) w (fun x w' => ∃ v, x = (fill ops vs (fun j => listed.getD j false) n a0).put o.dst v ∧ V i v w' ∧ R w w') Q := by
        unfold Oper.wp
        rw [execOp_congr o (fun cs b => Region.noSelect_spec hF.sel i o cs b ho) (fun x hx => eval_same hsame x hx)]
        exact H2
      exact Oper.wp_mono (fun x w' ⟨v, e, h1, h2⟩ => by rw [e]; exact next v w' h1 h2) H3
    · rename_i hwt
      rw [if_neg hwt] at H
      obtain ⟨v, e, h1, h2⟩ := H
      rcases put_inj hd e with h | h
      · have := next v w h1 h2
        rw [h] at this ⊢
        exact this
      · rw [h]; exact next v w h1 h2

def putl (vs : Nat → Value) (ds : List (Nat × Option Tmp)) (a : Act) : Act := ds.foldl (fun a p => a.put p.2 (vs p.1)) a
theorem putl_puts (vs : Nat → Value) (is : List Nat) : ∀ a, putl vs (is.map fun j => (j, dstOf ops j)) a = puts ops vs is a := by
  induction is with
  | nil => intro a; rfl
  | cons i is ih => intro a; exact ih _
theorem headInv0 {l : List Oper} {n : Nat} : HeadInv .any l.toArray n (Array.replicate l.toArray.size false) :=
  ⟨by simp, fun j oj _ hl => (by rw [getD_replicate_false] at hl; cases hl), fun t _ ht => getD_in (by simpa using ht) (getD_replicate_false _ _)⟩
theorem un_replicate (m n : Nat) : un (Array.replicate m false) n = n := by
  unfold un
  rw [List.countP_eq_length.2 (fun j _ => by rw [getD_replicate_false]; rfl), List.length_range]
/-- The law: the frame a0, what holds of the world (S), how the world goes on (R), what each operation leaves (V); ds: where each operation leaves what it leaves. -/
theorem region_monoL {id : Nat} {Q : Exit → Act → World → Prop} {a0 : Act} {w : World} {l : List Oper} (S : World → Prop) (R : World → World → Prop) (V : Nat → Value → World → Prop) (ds : List (Nat × Option Tmp))
    (hm : P.follows .mixedOrders = true) (hB : monoB l.toArray a0.tmps.size = true) (hds : ((List.range l.toArray.size).map fun j => (j, dstOf l.toArray j)) = ds)
    (hSR : ∀ w w', S w → R w w' → S w') (hVR : ∀ i v w w', S w → V i v w → R w w' → V i v w') (hS : S w.drew)
    (hst : StepsL P l.toArray Q S R V a0 0 l)
    (hdone : ∀ vs w, S w → (∀ i, i < l.length → V i (vs i) w) → Q .normal (putl vs ds a0) w) : (Code.region id l.toArray true).wp P Q a0 w := by
  have H := mono_any (n := l.toArray.size) (g := 0) (Q := Q) (Nat.le_refl _) (monoB_facts hB) hSR hVR (fun i o _ ho => by
      have := hst i o (by simpa using ho)
      rw [Nat.zero_add] at this
      exact this) (fun listed i t inv _ _ ht => by
      obtain ⟨_, o, ho, _⟩ := mem_ready.1 ht
      exact (Array.getElem?_eq_some_iff.1 ho).1) (fun vs w listed hS hV inv hall => ⟨?_, ?_⟩) (l.toArray.size) (Array.replicate l.toArray.size false) (fun _ => undef) w.drew headInv0 (un_replicate _ _) hS
      (fun j hj hl => by rw [getD_replicate_false] at hl; cases hl)
  · rw [fill_congr (vs' := fun _ => undef) (L' := fun _ => false) (fun j hj => ⟨getD_replicate_false _ _, rfl⟩), fill_puts, List.filter_eq_nil_iff.2 (by simp)] at H
    exact wp_region_any hm H
  · apply List.eq_nil_iff_forall_not_mem.2
    intro j hj
    obtain ⟨h0, o, ho, _⟩ := mem_ready.1 hj
    have hj2 := (Array.getElem?_eq_some_iff.1 ho).1
    have := hall j hj2
    rw [getD_both h0] at this
    cases this
  · rw [fill_puts, List.filter_eq_self.2 (fun _ _ => rfl), ← putl_puts, hds]
    exact hdone vs w hS fun i hi => hV i (by simpa using hi)
/-- The same where all but the first n operations come in the one order that there is, behind those. -/
theorem region_monoT {id : Nat} {Q : Exit → Act → World → Prop} {a0 : Act} {w : World} {l : List Oper} (n : Nat) (S : World → Prop) (R : World → World → Prop) (V : Nat → Value → World → Prop) (ds : List (Nat × Option Tmp))
    (hm : P.follows .mixedOrders = true) (hB : monoB l.toArray a0.tmps.size = true)
    (hT : (decide (n < l.toArray.size) && Region.sinkB .any l.toArray n && Region.chainB .any l.toArray n && Region.seqB .any l.toArray (l.toArray.size - n) n ((List.replicate n true ++ List.replicate (l.toArray.size - n) false).toArray)) = true)
    (hds : ((List.range n).map fun j => (j, dstOf l.toArray j)) = ds)
    (hSR : ∀ w w', S w → R w w' → S w') (hVR : ∀ i v w w', S w → V i v w → R w w' → V i v w') (hS : S w.drew)
    (hst : StepsL P l.toArray Q S R V a0 0 (l.take n))
    (hdone : ∀ vs w, S w → (∀ i, i < n → V i (vs i) w) → wpList P l.toArray Q (l.drop n) (putl vs ds a0) w) : (Code.region id l.toArray true).wp P Q a0 w := by
  simp only [Bool.and_eq_true, decide_eq_true_eq] at hT
  obtain ⟨⟨⟨hn, hs⟩, hc⟩, hseq⟩ := hT
  have H := mono_any (n := n) (g := l.toArray.size - n) (Q := Q) (Nat.le_of_lt hn) (monoB_facts hB) hSR hVR (fun i o hi ho => by
      have := hst i o (by rw [List.getElem?_take, if_pos hi]; simpa using ho)
      rw [Nat.zero_add] at this
      exact this) (fun listed i t inv hi hl ht => by
      refine Nat.lt_of_not_le fun h => tail_waits hs hc hn inv _ i rfl hi (getD_in (by rw [inv.size]; omega) hl) t h ht) (fun vs w listed hS hV inv hall => ?_) n (Array.replicate l.toArray.size false) (fun _ => undef) w.drew headInv0 (un_replicate _ _) hS
      (fun j hj hl => by rw [getD_replicate_false] at hl; cases hl)
  · rw [fill_congr (vs' := fun _ => undef) (L' := fun _ => false) (fun j hj => ⟨getD_replicate_false _ _, rfl⟩), fill_puts, List.filter_eq_nil_iff.2 (by simp), show n + (l.toArray.size - n) = l.toArray.size by omega] at H
    exact wp_region_any hm H
  · have hle : listed = (List.replicate n true ++ List.replicate (l.toArray.size - n) false).toArray := by
      apply Array.ext
      · rw [inv.size]; simp; simp at hn; omega
      · intro j h1 h2
        by_cases hj : j < n
        · have := hall j hj
          have e1 : listed[j] = true := by simpa [h1] using this
          rw [e1]
          simp [List.getElem_append, hj]
        · have := inv.tail j (by omega) (by rw [← inv.size]; exact h1)
          have e1 : listed[j] = false := by simpa [h1] using this
          rw [e1]
          simp [List.getElem_append, hj]
    have hdl : (l.drop n).length = l.toArray.size - n := by simp
    have := wpAny_of_seq (md := .any) (Q' := Q) (l.drop n) n listed (putl vs ds a0) w (fun j => by simp [List.getElem?_drop]) (by rw [hdl, hle]; exact hseq) (hdone vs w hS hV)
    rw [hdl] at this
    rw [fill_puts, List.filter_eq_self.2 (fun _ _ => rfl), ← putl_puts, hds]
    exact this
end
end Go.Proofs.Ytllgdlfdmmdffaa
