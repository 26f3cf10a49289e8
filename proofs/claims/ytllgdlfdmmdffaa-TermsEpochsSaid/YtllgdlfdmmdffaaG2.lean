/- A party in memory that is a given group of symbols; a leaf enters. -/
import Derived.Test.YtllgdlfdmmdffaaG1
import Derived.Test.YtllgdlfdmmdffaaV
import Derived.Test.YtllgdlfdmmdffaaQ5
namespace Go.Proofs.Ytllgdlfdmmdffaa
open Go.ChangeShapes Go.WideShapes Go.ChangeAt Go.RowKit Go.MapKept Go.ChangeMaps
set_option linter.unusedSimpArgs false
set_option linter.unusedVariables false
/-- Numbers in a row of its own. -/
def Ro (base : Nat) (w : World) (v : Value) (L : List Int) : Prop := w.ownsRow base 3 1 v L.length (L.map (Value.int .i64))
theorem own_le {w : World} {base base' size n : Nat} {e : TypeId} {v : Value} {xs : List Value} (h : w.ownsRow base e size v n xs) (hb : base' ≤ base) : w.ownsRow base' e size v n xs :=
  ⟨h.1, h.2.elim Or.inl (fun ⟨g, cap, cur, hv, hg, r⟩ => Or.inr ⟨g, cap, cur, hv, Nat.le_trans hb hg, r⟩)⟩
theorem ro_nil (base : Nat) (w : World) : Ro base w (.slice none 0 0) [] := World.ownsRow_nil _ _ _ _
theorem ro_below {base : Nat} {w w' : World} {v : Value} {L : List Int} (h : Ro base w v L) (k : KC w w') : Ro base w' v L := k.own h
theorem ro_one (w : World) (x : Int) {base : Nat} (hb : base ≤ w.heap.size) : Ro base (w.alloc (.cells #[.int .i64 x] 3)) (.slice (some ⟨w.heap.size, 0, none⟩) 1 1) [x] :=
  ⟨rfl, .inr ⟨w.heap.size, 1, #[.int .i64 x], rfl, hb, heap_alloc_new w _, Nat.le_refl _, by unfold maxLen; omega, rfl, rfl⟩⟩
theorem ro_cell {base n c : Nat} {w : World} {ao : Option Addr} {L : List Int} (h : w.ownsRow base 3 1 (.slice ao n c) n (L.map (Value.int .i64))) {j : Nat} {y : Int} (hj : L[j]? = some y) : ∃ ad, ao = some ad ∧ w.cell? (ad.add j) = some (.int .i64 y) := by
  rcases h.2 with ⟨e, e2⟩ | ⟨g, cap, cur, e, hb, hh, _⟩
  · have := h.1
    have hl := (List.getElem?_eq_some_iff.1 hj).1
    simp at this
    omega
  · injection e with e1 e2 e3
    exact ⟨_, e1, h.cells (g := g) (by rw [e1]; rfl) j _ (by rw [List.getElem?_map, hj]; rfl)⟩
/-- A row that is neither of two others. -/
def Tn (w : World) (base : Nat) (kv ev sv : Value) (L : List Int) : Prop := Ro base w sv L ∧ ∀ q, sv.ownBlock = some q → kv.ownBlock ≠ some q ∧ ev.ownBlock ≠ some q
theorem Tn.kn {w w' : World} {base : Nat} {kv ev kv' ev' sv : Value} {L : List Int} (h : Tn w base kv ev sv L) (k : KN kv ev w kv' ev' w') : Tn w' base kv' ev' sv L := by
  obtain ⟨ho, hq⟩ := h
  refine ⟨⟨ho.1, ?_⟩, fun q e => ?_⟩
  · rcases ho.2 with h | ⟨g, cap, cur, e, hb, hh, r⟩
    · exact .inl h
    · have h1 := hq g (by rw [e]; rfl)
      exact .inr ⟨g, cap, cur, e, hb, (k g cur _ hh h1.1 h1.2).1, r⟩
  · rcases ho.2 with ⟨h, _⟩ | ⟨g, cap, cur, e2, hb, hh, r⟩
    · rw [h] at e; cases e
    · have h1 := hq q e
      rw [e2] at e
      injection e with e
      change g = q at e
      subst e
      exact (k g cur _ hh h1.1 h1.2).2
/-- A node's value. -/
def Nv (w : World) (base : Nat) (kv ev : Value) (a : Int × List Int) (v : Value) : Prop := ∃ sv, v = .agg #[.int .i64 a.1, sv] ∧ Tn w base kv ev sv a.2
theorem nv_key (w : World) (base : Nat) (kv ev : Value) (k : Int) : Nv w base kv ev (k, []) (.agg #[.int .i64 k, .slice none 0 0]) := ⟨_, rfl, ro_nil _ _, fun q e => by cases e⟩
theorem Nv.kn {w w' : World} {base : Nat} {kv ev kv' ev' v : Value} {a : Int × List Int} (h : Nv w base kv ev a v) (k : KN kv ev w kv' ev' w') : Nv w' base kv' ev' a v := by
  obtain ⟨sv, rfl, ht⟩ := h
  exact ⟨sv, rfl, ht.kn k⟩
/-- The tree. -/
def Tr (w : World) (base t : Nat) (kv ev : Value) (T : Ktr) : Prop := ∃ es cl, w.heap[t]? = some (.map es cl) ∧ Mo es cl ∧ Mp es T (Nv w base kv ev)
/-- What a leaf has. -/
def In1 (w : World) (m : Nat) (F : Int → Option Int) : Prop := ∃ es cl, w.heap[m]? = some (.map es cl) ∧ Mo es cl ∧ Mp es F (fun z v => v = .int .i64 z)
/-- Which leaves have a map. -/
def inM (ins : Nat → Bool) (mb : Nat → Nat) : Int → Option Nat := fun k => if 0 ≤ k ∧ k < 8 ∧ ins k.toNat = true then some (mb k.toNat) else none
/-- What all leaves have. -/
structure Ha (w : World) (base h t : Nat) (ins : Nat → Bool) (H : Nat → Int → Option Int) (mb : Nat → Nat) : Prop where
  out : ∃ es cl, w.heap[h]? = some (.map es cl) ∧ Mo es cl ∧ Mp es (inM ins mb) (fun b v => v = .map (some b))
  bs : ∀ l, l < 8 → ins l = true → base ≤ mb l ∧ mb l ≠ h ∧ mb l ≠ t ∧ In1 w (mb l) (H l)
  inj : ∀ l l', l < 8 → l' < 8 → ins l = true → ins l' = true → mb l = mb l' → l = l'
theorem In1.km {w w' : World} {m : Nat} {F : Int → Option Int} (h : In1 w m F) (k : KM w w') : In1 w' m F := by
  obtain ⟨es, cl, h1, h2⟩ := h
  exact ⟨es, cl, k _ _ _ h1, h2⟩
theorem Ha.km {w w' : World} {base h t : Nat} {ins : Nat → Bool} {H : Nat → Int → Option Int} {mb : Nat → Nat} (e : Ha w base h t ins H mb) (k : KM w w') : Ha w' base h t ins H mb := by
  obtain ⟨⟨es, cl, h1, h2⟩, h3, h4⟩ := e
  exact ⟨⟨es, cl, k _ _ _ h1, h2⟩, fun l hl hi => by obtain ⟨q1, q2, q3, q4⟩ := h3 l hl hi; exact ⟨q1, q2, q3, q4.km k⟩, h4⟩
theorem Tr.km {w w' : World} {base t : Nat} {kv ev kv' ev' : Value} {T : Ktr} (h : Tr w base t kv ev T) (k : KM w w') (n : KN kv ev w kv' ev' w') : Tr w' base t kv' ev' T := by
  obtain ⟨es, cl, h1, h2, h3⟩ := h
  exact ⟨es, cl, k _ _ _ h1, h2, h3.to fun _ _ _ _ r => r.kn n⟩
theorem kn_set {w : World} {b : Nat} {es : Array MapEntry} {cl : Nat} (kv ev : Value) (hb : w.heap[b]? = some (.map es cl)) (o : Obj) : KN kv ev w kv ev (setBlock w b o) := fun k cs f h1 h2 h3 =>
  ⟨(set_kc hb o).block _ _ _ _ h1, h2, h3⟩
/-- An inner map, where another map is written. -/
theorem In1.set {w : World} {b m : Nat} {F : Int → Option Int} {es : Array MapEntry} {cl : Nat} (h : In1 w m F) (hb : w.heap[b]? = some (.map es cl)) (o : Obj) (hn : m ≠ b) : In1 (setBlock w b o) m F := by
  obtain ⟨es2, cl2, h1, h2⟩ := h
  exact ⟨es2, cl2, (set_other hb o hn).trans h1, h2⟩
theorem Tr.set {w : World} {b base t : Nat} {kv ev : Value} {T : Ktr} {es : Array MapEntry} {cl : Nat} (h : Tr w base t kv ev T) (hb : w.heap[b]? = some (.map es cl)) (o : Obj) (hn : t ≠ b) : Tr (setBlock w b o) base t kv ev T := by
  obtain ⟨es2, cl2, h1, h2, h3⟩ := h
  exact ⟨es2, cl2, (set_other hb o hn).trans h1, h2, h3.to fun _ _ _ _ r => r.kn (kn_set _ _ hb o)⟩
/-- A party. -/
structure Gp (w0 w : World) (p : Nat) (m : Md) (t h : Nat) (c : Nat → Value) (mb : Nat → Nat) : Prop where
  P : Pty w0 w p m.many m.Rs m.Kn m.Ep m.ins t h m.init c
  tr : Tr w w0.heap.size t (c 2) (c 3) m.T
  ha : Ha w w0.heap.size h t m.ins m.H mb
  th : t ≠ h
  lt : w0.heap.size ≤ t
  lh : w0.heap.size ≤ h
section
variable {w0 w w' : World} {p t h : Nat} {m : Md} {c c' : Nat → Value} {mb : Nat → Nat}
theorem Gp.keep (G : Gp w0 w p m t h c mb) {many' init' : Int} {Rs' : List Rl} {Kn' Ep' : List Int} (P : Pty w0 w' p many' Rs' Kn' Ep' m.ins t h init' c') (k : KM w w') (n : KN (c 2) (c 3) w (c' 2) (c' 3) w') : Gp w0 w' p { m with many := many', Rs := Rs', Kn := Kn', Ep := Ep', init := init' } t h c' mb :=
  ⟨P, G.tr.km k n, G.ha.km k, G.th, G.lt, G.lh⟩
theorem Gp.below (G : Gp w0 w p m t h c mb) (j : Below w.heap.size w w') : Gp w0 w' p m t h c mb := ⟨G.P.below j, G.tr.km (KM.of j) (kn_of _ _ j), G.ha.km (KM.of j), G.th, G.lt, G.lh⟩
theorem Gp.tlt (G : Gp w0 w p m t h c mb) : t < w.heap.size := by obtain ⟨_, _, q, _⟩ := G.tr; exact (Array.getElem?_eq_some_iff.1 q).1
theorem Gp.hlt (G : Gp w0 w p m t h c mb) : h < w.heap.size := by obtain ⟨_, _, q, _⟩ := G.ha.out; exact (Array.getElem?_eq_some_iff.1 q).1
theorem Gp.mlt (G : Gp w0 w p m t h c mb) {l : Nat} (hl : l < 8) (hi : m.ins l = true) : mb l < w.heap.size := by obtain ⟨_, _, _, _, _, q, _⟩ := G.ha.bs l hl hi; exact (Array.getElem?_eq_some_iff.1 q).1
/-- Another map than the party's is written. -/
theorem Gp.other (G : Gp w0 w p m t h c mb) {b : Nat} {es : Array MapEntry} {cl : Nat} (hb : w.heap[b]? = some (.map es cl)) (o : Obj) (h1 : b ≠ t) (h2 : b ≠ h) (h3 : w0.heap.size ≤ b) (h4 : ∀ l, l < 8 → m.ins l = true → b ≠ mb l) : Gp w0 (setBlock w b o) p m t h c mb := by
  refine ⟨G.P.keep (set_kc hb _) (set_below G.P.bl h3 _), G.tr.set hb o h1.symm, ⟨?_, fun l hl hi => ?_, G.ha.inj⟩, G.th, G.lt, G.lh⟩
  · obtain ⟨eh, ch, u1, u2⟩ := G.ha.out
    exact ⟨eh, ch, (set_other hb _ h2.symm).trans u1, u2⟩
  · obtain ⟨q1, q2, q3, q4⟩ := G.ha.bs l hl hi
    exact ⟨q1, q2, q3, q4.set hb o (h4 l hl hi).symm⟩
/-- The tree is written. -/
theorem Gp.setT (G : Gp w0 w p m t h c mb) {es es' : Array MapEntry} {cl cl' : Nat} {T' : Ktr} (ht : w.heap[t]? = some (.map es cl)) (hm : Mo es' cl') (hv : Mp es' T' (Nv w w0.heap.size (c 2) (c 3))) : Gp w0 (setBlock w t (.map es' cl')) p { m with T := T' } t h c mb := by
  refine ⟨G.P.keep (set_kc ht _) (set_below G.P.bl G.lt _), ⟨es', cl', set_same ht _, hm, hv.to fun _ _ _ _ r => r.kn (kn_set _ _ ht _)⟩, ⟨?_, fun l hl hi => ?_, G.ha.inj⟩, G.th, G.lt, G.lh⟩
  · obtain ⟨eh, ch, u1, u2⟩ := G.ha.out
    exact ⟨eh, ch, (set_other ht _ G.th.symm).trans u1, u2⟩
  · obtain ⟨q1, q2, q3, q4⟩ := G.ha.bs l hl hi
    exact ⟨q1, q2, q3, q4.set ht _ q3⟩
/-- What a leaf has is written. -/
theorem Gp.setM (G : Gp w0 w p m t h c mb) {l : Nat} (hl : l < 8) (hi : m.ins l = true) {es es' : Array MapEntry} {cl cl' : Nat} {F : Int → Option Int} (ht : w.heap[mb l]? = some (.map es cl)) (hm : Mo es' cl') (hv : Mp es' F (fun z v => v = .int .i64 z)) : Gp w0 (setBlock w (mb l) (.map es' cl')) p { m with H := setL m.H l F } t h c mb := by
  obtain ⟨q1, q2, q3, q4⟩ := G.ha.bs l hl hi
  refine ⟨G.P.keep (set_kc ht _) (set_below G.P.bl q1 _), G.tr.set ht _ q3.symm, ⟨?_, fun j hj hji => ?_, G.ha.inj⟩, G.th, G.lt, G.lh⟩
  · obtain ⟨eh, ch, u1, u2⟩ := G.ha.out
    exact ⟨eh, ch, (set_other ht _ q2.symm).trans u1, u2⟩
  · obtain ⟨v1, v2, v3, v4⟩ := G.ha.bs j hj hji
    refine ⟨v1, v2, v3, ?_⟩
    by_cases e : j = l
    · subst e
      exact ⟨es', cl', set_same ht _, hm, by simpa [setL] using hv⟩
    · have e2 : mb j ≠ mb l := fun x => e (G.ha.inj j l hj hl hji hi x)
      simpa [setL, e] using v4.set ht _ e2
theorem inM_put (ins : Nat → Bool) (mb : Nat → Nat) (l b : Nat) (hl : l < 8) : upd (inM ins mb) (l : Int) (some b) = inM (setL ins l true) (setL mb l b) := by
  funext k
  unfold upd inM setL
  by_cases e : k = (l : Int)
  · subst e
    rw [if_pos rfl, if_pos ⟨by omega, by omega, by simp⟩]
    simp
  · rw [if_neg e]
    by_cases h1 : 0 ≤ k ∧ k < 8
    · have : k.toNat ≠ l := by omega
      simp only [if_neg this]
    · rw [if_neg (fun x => h1 ⟨x.1, x.2.1⟩), if_neg (fun x => h1 ⟨x.1, x.2.1⟩)]
theorem inM_del (ins : Nat → Bool) (mb : Nat → Nat) (l : Nat) (hl : l < 8) : upd (inM ins mb) (l : Int) none = inM (setL ins l false) mb := by
  funext k
  unfold upd inM setL
  by_cases e : k = (l : Int)
  · subst e
    rw [if_pos rfl, if_neg (fun x => by simp at x)]
  · rw [if_neg e]
    by_cases h1 : 0 ≤ k ∧ k < 8
    · have : k.toNat ≠ l := by omega
      simp [this, h1]
    · rw [if_neg (fun x => h1 ⟨x.1, x.2.1⟩), if_neg (fun x => h1 ⟨x.1, x.2.1⟩)]
theorem mp_one (i key : Int) (n : Nat) : Mp #[{ key := .int .i64 i, val := .int .i64 key, born := n }] (one i key) (fun z v => v = .int .i64 z) := by
  refine ⟨fun k hk ⟨x, hx, e⟩ => ?_, fun k a hk => ?_⟩
  · simp at hx
    subst hx
    injection e with _ e
    subst e
    unfold one at hk
    rw [upd_same] at hk
    cases hk
  · unfold one at hk
    by_cases e : k = i
    · subst e
      rw [upd_same] at hk
      injection hk with hk
      subst hk
      exact ⟨_, by simp; rfl, rfl, rfl⟩
    · rw [upd_other _ _ e] at hk; cases hk
/-- A leaf's key and nothing else. -/
def Eg (w0 : World) (p : Nat) (m : Md) (t h : Nat) (e : Ending) (w' : World) : Prop := e = .returned (.tuple #[]) ∧ ∃ c' mb', Gp w0 w' p m t h c' mb'
def Ek (w0 w : World) (p : Nat) (m : Md) (t h : Nat) (e : Ending) (w' : World) : Prop := e = .returned (.tuple #[]) ∧ (∃ c' mb', Gp w0 w' p m t h c' mb') ∧ K7 w w'
set_option maxRecDepth 20000 in
set_option maxHeartbeats 4000000 in
/-- .. and rows of other things stay. -/
theorem enter31k (G : Gp w0 w p m t h c mb) (l : Nat) (hl : l < 8) (key : Int) :
    Calls Try.prog 31 #[.pointer (some ⟨p, 0, none⟩), .int .i64 (l : Int), .int .i64 key] w (Ek w0 w p (entM m l key) t h) := by
  have hz := zero65
  have hmk := run_mk 66
  have hP := G.P
  have h4 := hP.pc.cell (4 + l) (by omega)
  have f4 := hP.pc.frozen (4 + l)
  have PA := hP.setIn l hl true
  have kmA := KM.setp (k := 4 + l) hP.pc (.bool true)
  have knA := kn_setp (kv := c 2) (ev := c 3) hP.pc (4 + l) (.bool true)
  have e2 : updV c (4 + l) (.bool true) 2 = c 2 := by simp only [updV]; rw [if_neg (by omega)]
  have e3 : updV c (4 + l) (.bool true) 3 = c 3 := by simp only [updV]; rw [if_neg (by omega)]
  have hAs : (w.setCell ⟨p, 4 + l, none⟩ (.bool true)).heap.size = w.heap.size := by simp
  have k7A := k7_setp hP.pc (4 + l) (.bool true)
  generalize hwA : w.setCell ⟨p, 4 + l, none⟩ (.bool true) = wA at PA kmA knA hAs k7A
  have TA := G.tr.km kmA knA
  have HA := G.ha.km kmA
  obtain ⟨et, ct, t1, t2, t3⟩ := TA
  obtain ⟨et', ct', r1, v1, v2⟩ := mp_upd (T := 51) Try.underlying51 t1 t2 t3 (2 * (l : Int)) (key, []) (.agg #[.int .i64 key, .slice none 0 0]) (nv_key _ _ _ _ _)
  have PB := PA.keep (set_kc t1 (.map et' ct')) (set_below PA.bl G.lt _)
  have trB : Tr (setBlock wA t (.map et' ct')) w0.heap.size t (c 2) (c 3) _ := ⟨et', ct', set_same t1 _, v1, v2.to fun _ _ _ _ r => r.kn (kn_set _ _ t1 _)⟩
  have haB : Ha (setBlock wA t (.map et' ct')) w0.heap.size h t m.ins m.H mb := by
    refine ⟨?_, fun j hj hi => ?_, HA.inj⟩
    · obtain ⟨eh, ch, u1, u2⟩ := HA.out
      exact ⟨eh, ch, (set_other t1 _ G.th.symm).trans u1, u2⟩
    · obtain ⟨q1, q2, q3, q4⟩ := HA.bs j hj hi
      exact ⟨q1, q2, q3, q4.set t1 _ q3⟩
  have hBs : (setBlock wA t (.map et' ct')).heap.size = w.heap.size := by rw [set_size, hAs]
  have k7B := k7A.trans (k7_kc (set_kc t1 (.map et' ct')))
  generalize setBlock wA t (.map et' ct') = wB at r1 PB trB haB hBs k7B
  have htlt := G.tlt
  have hhlt := G.hlt
  have hmlt : ∀ j, j < 8 → m.ins j = true → mb j < wB.heap.size := fun j hj hi => by rw [hBs]; exact G.mlt hj hi
  have hmC : (wB.alloc (.map #[] 0)).heap[wB.heap.size]? = some (.map #[] 0) := heap_alloc_new _ _
  have kC : Below wB.heap.size wB (wB.alloc (.map #[] 0)) := (Below.refl _ wB).alloc (Nat.le_refl _) _
  have r2 := run_push (T := 66) (z := 2 * (l : Int)) (v := .int .i64 key) Try.underlying66 hmC iks_nil (fun x hx => by simp at hx)
  have kmD : KM wB (setBlock (wB.alloc (.map #[] 0)) wB.heap.size (.map (#[].push { key := .int .i64 (2 * (l : Int)), val := .int .i64 key, born := 0 }) (0 + 1))) := fun k es cl hk => (set_other hmC _ (by have := (Array.getElem?_eq_some_iff.1 hk).1; omega)).trans ((KM.of kC) _ _ _ hk)
  have knD := (kn_of (c 2) (c 3) kC).trans (kn_set (c 2) (c 3) hmC (.map (#[].push { key := .int .i64 (2 * (l : Int)), val := .int .i64 key, born := 0 }) (0 + 1)))
  have PD := (PB.below kC).keep (set_kc hmC (.map (#[].push { key := .int .i64 (2 * (l : Int)), val := .int .i64 key, born := 0 }) (0 + 1))) (set_below (PB.below kC).bl PB.bl.size _)
  have hmD := set_same hmC (.map (#[].push { key := .int .i64 (2 * (l : Int)), val := .int .i64 key, born := 0 }) (0 + 1))
  have trD := trB.km kmD knD
  have haD := haB.km kmD
  have hbs := PB.bl.size
  have k7D := (k7B.trans (k7_of kC)).trans (k7_kc (set_kc hmC (.map (#[].push { key := .int .i64 (2 * (l : Int)), val := .int .i64 key, born := 0 }) (0 + 1))))
  generalize hwD : setBlock (wB.alloc (.map #[] 0)) wB.heap.size (.map (#[].push { key := .int .i64 (2 * (l : Int)), val := .int .i64 key, born := 0 }) (0 + 1)) = wD at r2 PD hmD trD haD k7D
  obtain ⟨eh, ch, u1, u2, u3⟩ := haD.out
  obtain ⟨eh', ch', r3, z1, z2⟩ := mp_upd (T := 52) Try.underlying52 u1 u2 u3 (l : Int) wB.heap.size (.map (some wB.heap.size)) rfl
  have inM : In1 wD wB.heap.size (one (2 * (l : Int)) key) := ⟨_, _, hmD, ⟨iks_one _ _ _, fun x hx => by simp at hx; subst hx; exact Nat.zero_lt_one, by simp, by simp⟩, mp_one _ _ _⟩
  have PE := PD.keep (set_kc u1 (.map eh' ch')) (set_below PD.bl G.lh _)
  have trE : Tr (setBlock wD h (.map eh' ch')) w0.heap.size t (c 2) (c 3) _ := trD.set u1 _ G.th
  have haE : Ha (setBlock wD h (.map eh' ch')) w0.heap.size h t (setL m.ins l true) (setL m.H l (one (2 * (l : Int)) key)) (setL mb l wB.heap.size) := by
    refine ⟨⟨eh', ch', set_same u1 _, z1, by rw [← inM_put _ _ _ _ hl]; exact z2⟩, fun j hj hi => ?_, fun j j' hj hj' hi hi' e => ?_⟩
    · by_cases e : j = l
      · subst e
        simp only [setL, if_pos]
        exact ⟨hbs, by omega, by omega, inM.set u1 _ (by omega)⟩
      · simp only [setL, if_neg e] at hi ⊢
        obtain ⟨q1, q2, q3, q4⟩ := haD.bs j hj hi
        exact ⟨q1, q2, q3, q4.set u1 _ q2⟩
    · by_cases e1 : j = l <;> by_cases e2 : j' = l
      · rw [e1, e2]
      · simp only [setL, if_pos e1, if_neg e2] at e hi'
        have := hmlt j' hj' hi'
        omega
      · simp only [setL, if_pos e2, if_neg e1] at e hi
        have := hmlt j hj hi
        omega
      · simp only [setL, if_neg e1, if_neg e2] at e hi hi'
        exact haD.inj j j' hj hj' hi hi' e
  have k7E := k7D.trans (k7_kc (set_kc u1 (.map eh' ch')))
  generalize setBlock wD h (.map eh' ch') = wE at r3 PE trE haE k7E
  have HK7 := Lib.hid k7E
  have h12 := PA.pc.cell 12 (by decide)
  rw [PA.ct] at h12
  have h13 := PB.pc.cell 13 (by decide)
  rw [PB.ch] at h13
  have HF := Lib.hid (show Gp w0 wE p (entM m l key) t h (updV c (4 + l) (.bool true)) (setL mb l wB.heap.size) from ⟨PE, by rw [e2, e3]; exact trE, haE, G.th, G.lt, G.lh⟩)
  have w2l : IntKind.i64.wrap (2 * (l : Int)) = 2 * (l : Int) := IntWalk.i64_in _ (by omega)
  clear PE trE haE PD PB PA hP trD haD hmD hmC trB haB t1 t2 t3 u1 u2 u3 kmA knA kC hwD kmD knD v1 v2 z1 z2 inM G HA hAs hBs htlt hhlt hmlt hbs k7A k7B k7D k7E
  go_enter Try.func31, Try.ntmps31
  go_wp2_with fail
  go_end0
  exact ⟨rfl, ⟨_, _, HF.out⟩, HK7.out⟩
theorem enter31g (G : Gp w0 w p m t h c mb) (l : Nat) (hl : l < 8) (key : Int) :
    Calls Try.prog 31 #[.pointer (some ⟨p, 0, none⟩), .int .i64 (l : Int), .int .i64 key] w (Eg w0 p (entM m l key) t h) := (enter31k G l hl key).mono fun e w' h => ⟨h.1, h.2.1⟩
end
end Go.Proofs.Ytllgdlfdmmdffaa
