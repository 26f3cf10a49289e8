/- A party in memory: its cells, its rows. -/
import Derived.Test.YtllgdlfdmmdffaaL
import Derived.Test.YtllgdlfdmmdffaaM
namespace Go.Proofs.Ytllgdlfdmmdffaa
open Go.ChangeShapes Go.WideShapes Go.ChangeAt Go.RowKit
set_option linter.unusedSimpArgs false
set_option linter.unusedVariables false
/-- The fifteen cells of a party. -/
def cellsOf15 (c : Nat → Value) : Array Value := ((List.range 15).map c).toArray
structure Pc (w : World) (p : Nat) (c : Nat → Value) : Prop where
  row : w.heap[p]? = some (.cells (cellsOf15 c) 54 (0, 0))
def updV (c : Nat → Value) (k : Nat) (v : Value) : Nat → Value := fun i => if i = k then v else c i
section
variable {w w' : World} {p : Nat} {c : Nat → Value}
theorem Pc.lt (h : Pc w p c) : p < w.heap.size := (Array.getElem?_eq_some_iff.1 h.row).1
theorem Pc.cell (h : Pc w p c) (k : Nat) (hk : k < 15) : w.cell? ⟨p, k, none⟩ = some (c k) := by
  rw [cell_of_row _ _ _ _ _ _ h.row]
  simp [cellsOf15, hk]
theorem Pc.frozen (h : Pc w p c) (k : Nat) : w.frozen? ⟨p, k, none⟩ = false := frozen_of_row _ _ _ _ _ h.row
theorem Pc.keep (h : Pc w p c) (hk : w'.heap[p]? = w.heap[p]?) : Pc w' p c := ⟨hk.trans h.row⟩
theorem Pc.set (h : Pc w p c) (k : Nat) (hk : k < 15) (v : Value) : Pc (w.setCell ⟨p, k, none⟩ v) p (updV c k v) := ⟨by
  rw [heap_setCell_same _ _ _ _ _ _ h.row]
  congr 2
  unfold cellsOf15
  apply Array.ext
  · simp
  · intro i h1 h2
    simp at h1
    by_cases e : i = k
    · subst e; simp [updV]
    · have e2 : k ≠ i := fun x => e x.symm
      simp [updV, e, Array.getElem_setIfInBounds, e2]⟩
end
/-- A block of whole numbers. -/
def NB (w : World) (b : Nat) (L : List Int) : Prop := w.heap[b]? = some (.cells (L.map (Value.int .i64)).toArray 3 (0, 0))
theorem NB.lt {w : World} {b : Nat} {L : List Int} (h : NB w b L) : b < w.heap.size := (Array.getElem?_eq_some_iff.1 h).1
theorem NB.ilz {w : World} {b : Nat} {L : List Int} (h : NB w b L) : Ilz w.heap.size w (some ⟨b, 0, none⟩) L :=
  ⟨(fun e => by cases e), fun a ha j x hx => by
    injection ha with ha; subst ha
    refine ⟨h.lt, ?_⟩
    rw [add_zero_mid, cell_of_row _ _ _ _ _ _ h]
    simp [hx]⟩
/-- Rules in a row of its own. -/
def Rul (w : World) (base : Nat) (rv kv ev : Value) (Rs : List Rl) : Prop :=
  ∃ cs, w.ownsRow base 32 2 rv Rs.length cs ∧ ∀ (j : Nat) r, Rs[j]? = some r → ∃ b cap, cs[2 * j]? = some (.slice (some ⟨b, 0, none⟩) r.needs.length cap) ∧ r.needs.length ≤ cap ∧ cs[2 * j + 1]? = some (.int .i64 r.gives) ∧ NB w b r.needs ∧
    kv.ownBlock ≠ some b ∧ ev.ownBlock ≠ some b
/-- All blocks of cells are as they were. -/
structure KC (w w' : World) : Prop where
  os : w'.os = w.os
  tape : w'.tape = w.tape
  output : w'.output = w.output
  size : w.heap.size ≤ w'.heap.size
  block : ∀ (k : Nat) cs t f, w.heap[k]? = some (Obj.cells cs t f) → w'.heap[k]? = some (Obj.cells cs t f)
theorem KC.refl (w : World) : KC w w := ⟨rfl, rfl, rfl, Nat.le_refl _, fun _ _ _ _ h => h⟩
theorem KC.trans {a b c : World} (h : KC a b) (k : KC b c) : KC a c := ⟨k.os.trans h.os, k.tape.trans h.tape, k.output.trans h.output, Nat.le_trans h.size k.size, fun i cs t f x => k.block i cs t f (h.block i cs t f x)⟩
theorem KC.of {w w' : World} (h : Below w.heap.size w w') : KC w w' := ⟨h.os, h.tape, h.output, h.size, fun k cs t f x => (h.block k (Array.getElem?_eq_some_iff.1 x).1).trans x⟩
theorem KC.own {w w' : World} (h : KC w w') {base n size : Nat} {e : TypeId} {v : Value} {xs : List Value} (ho : w.ownsRow base e size v n xs) : w'.ownsRow base e size v n xs := by
  refine ⟨ho.1, ho.2.imp id ?_⟩
  rintro ⟨g, cap, cur, h1, h2, h3, h4⟩
  exact ⟨g, cap, cur, h1, h2, h.block _ _ _ _ h3, h4⟩
/-- All maps are as they were. -/
def KM (w w' : World) : Prop := ∀ (k : Nat) es cl, w.heap[k]? = some (Obj.map es cl) → w'.heap[k]? = some (Obj.map es cl)
theorem KM.refl (w : World) : KM w w := fun _ _ _ h => h
theorem KM.trans {a b c : World} (h : KM a b) (k : KM b c) : KM a c := fun i es cl x => k i es cl (h i es cl x)
theorem KM.of {w w' : World} (h : Below w.heap.size w w') : KM w w' := fun k es cl x => (h.block k (Array.getElem?_eq_some_iff.1 x).1).trans x
theorem KM.grown {w w' : World} {base n size : Nat} {e : TypeId} {v : Value} {xs : List Value} (ho : w.ownsRow base e size v n xs) (h : w.grownBy w' v.ownBlock) : KM w w' := fun k es cl x => by
  refine (h.block k (Array.getElem?_eq_some_iff.1 x).1 (fun e => ?_)).trans x
  rcases ho.2 with ⟨rfl, _⟩ | ⟨g, cap, cur, rfl, _, hh, _⟩
  · cases e
  · injection e with e
    rw [e, hh] at x
    cases x
theorem KM.setp {w : World} {p k : Nat} {c : Nat → Value} (h : Pc w p c) (v : Value) : KM w (w.setCell ⟨p, k, none⟩ v) := fun i es cl x => by
  refine (heap_setCell_other w ⟨p, k, none⟩ i v (fun e => ?_)).trans x
  change i = p at e
  rw [e, h.row] at x
  cases x
/-- A party. -/
structure Pty (w0 w : World) (p : Nat) (many : Int) (Rs : List Rl) (Kn Ep : List Int) (ins : Nat → Bool) (t h : Nat) (init : Int) (c : Nat → Value) : Prop where
  lo : w0.heap.size ≤ p
  pc : Pc w p c
  c0 : c 0 = .int .i64 many
  r : Rul w w0.heap.size (c 1) (c 2) (c 3) Rs
  k : w.ownsRow w0.heap.size 3 1 (c 2) Kn.length (Kn.map (Value.int .i64))
  e : w.ownsRow w0.heap.size 3 1 (c 3) Ep.length (Ep.map (Value.int .i64))
  ke : ∀ b, (c 2).ownBlock = some b → (c 3).ownBlock ≠ some b
  ci : ∀ i, i < 8 → c (4 + i) = .bool (ins i)
  ct : c 12 = .map (some t)
  ch : c 13 = .map (some h)
  cn : c 14 = .int .i64 init
  bl : Below w0.heap.size w0 w
section
variable {w0 w w' : World} {p t h : Nat} {many init : Int} {Rs : List Rl} {Kn Ep : List Int} {ins : Nat → Bool} {c : Nat → Value}
theorem Rul.keep {base : Nat} {rv kv ev : Value} (hr : Rul w base rv kv ev Rs) (k : KC w w') : Rul w' base rv kv ev Rs := by
  obtain ⟨cs, h1, h2⟩ := hr
  refine ⟨cs, k.own h1, fun j r hj => ?_⟩
  obtain ⟨b, cap, h3, h4, h5, h6, h7⟩ := h2 j r hj
  exact ⟨b, cap, h3, h4, h5, k.block _ _ _ _ h6, h7⟩
theorem Pty.keep (hP : Pty w0 w p many Rs Kn Ep ins t h init c) (k : KC w w') (b : Below w0.heap.size w0 w') : Pty w0 w' p many Rs Kn Ep ins t h init c :=
  ⟨hP.lo, ⟨k.block _ _ _ _ hP.pc.row⟩, hP.c0, hP.r.keep k, k.own hP.k, k.own hP.e, hP.ke, hP.ci, hP.ct, hP.ch, hP.cn, b⟩
theorem Pty.below (hP : Pty w0 w p many Rs Kn Ep ins t h init c) (k : Below w.heap.size w w') : Pty w0 w' p many Rs Kn Ep ins t h init c :=
  hP.keep (KC.of k) (hP.bl.trans (k.mono hP.bl.size))
/-- A row of another type lies in another block than the party's cells. -/
theorem own_ne_p {base n size : Nat} {e : TypeId} {v : Value} {xs : List Value} (hp : Pc w p c) (ho : w.ownsRow base e size v n xs) (he : e ≠ 54) : v.ownBlock ≠ some p := by
  intro h
  rcases ho.2 with ⟨rfl, _⟩ | ⟨g, cap, cur, rfl, _, hh, _⟩
  · cases h
  · injection h with h
    change g = p at h
    rw [h, hp.row] at hh
    injection hh with hh
    injection hh with _ h2
    exact he h2.symm
theorem own_setp {base n size k : Nat} {e : TypeId} {v u : Value} {xs : List Value} (hp : Pc w p c) (ho : w.ownsRow base e size v n xs) (he : e ≠ 54) : (w.setCell ⟨p, k, none⟩ u).ownsRow base e size v n xs :=
  ho.kept (row := some p) ⟨rfl, rfl, rfl, by simp, fun i hi hne => heap_setCell_other w ⟨p, k, none⟩ i _ (fun x => hne (by rw [x]))⟩ (Or.inr (own_ne_p hp ho he))
theorem rul_setp {base k : Nat} {rv kv ev u : Value} (hp : Pc w p c) (hr : Rul w base rv kv ev Rs) : Rul (w.setCell ⟨p, k, none⟩ u) base rv kv ev Rs := by
  obtain ⟨cs, h1, h2⟩ := hr
  refine ⟨cs, own_setp hp h1 (by decide), fun j r hj => ?_⟩
  obtain ⟨b, cap, h3, h4, h5, h6, h7⟩ := h2 j r hj
  refine ⟨b, cap, h3, h4, h5, (heap_setCell_other w ⟨p, k, none⟩ b u (fun e => ?_)).trans h6, h7⟩
  change b = p at e
  unfold NB at h6
  rw [e, hp.row] at h6
  injection h6 with h6
  injection h6 with _ h8
  exact absurd h8 (by decide)
/-- One of the party's own cells is written: the numbers, who is in. -/
theorem Pty.setMany (hP : Pty w0 w p many Rs Kn Ep ins t h init c) (m2 : Int) : Pty w0 (w.setCell ⟨p, 0, none⟩ (.int .i64 m2)) p m2 Rs Kn Ep ins t h init (updV c 0 (.int .i64 m2)) :=
  ⟨hP.lo, hP.pc.set 0 (by decide) _, rfl, rul_setp hP.pc hP.r, own_setp hP.pc hP.k (by decide), own_setp hP.pc hP.e (by decide), hP.ke, fun i hi => by have := hP.ci i hi; simp only [updV]; rw [if_neg (by omega)]; exact this, hP.ct, hP.ch, hP.cn, hP.bl.setCell (p := ⟨p, 0, none⟩) hP.lo _⟩
theorem Pty.setInit (hP : Pty w0 w p many Rs Kn Ep ins t h init c) (m2 : Int) : Pty w0 (w.setCell ⟨p, 14, none⟩ (.int .i64 m2)) p many Rs Kn Ep ins t h m2 (updV c 14 (.int .i64 m2)) :=
  ⟨hP.lo, hP.pc.set 14 (by decide) _, hP.c0, rul_setp hP.pc hP.r, own_setp hP.pc hP.k (by decide), own_setp hP.pc hP.e (by decide), hP.ke, fun i hi => by have := hP.ci i hi; simp only [updV]; rw [if_neg (by omega)]; exact this, hP.ct, hP.ch, rfl, hP.bl.setCell (p := ⟨p, 14, none⟩) hP.lo _⟩
theorem Pty.setIn (hP : Pty w0 w p many Rs Kn Ep ins t h init c) (i : Nat) (hi : i < 8) (q : Bool) : Pty w0 (w.setCell ⟨p, 4 + i, none⟩ (.bool q)) p many Rs Kn Ep (fun j => if j = i then q else ins j) t h init (updV c (4 + i) (.bool q)) :=
  ⟨hP.lo, hP.pc.set (4 + i) (by omega) _, by simp only [updV]; rw [if_neg (by omega)]; exact hP.c0, by simp only [updV]; rw [if_neg (by omega), if_neg (by omega), if_neg (by omega)]; exact rul_setp hP.pc hP.r,
    by simp only [updV]; rw [if_neg (by omega)]; exact own_setp hP.pc hP.k (by decide), by simp only [updV]; rw [if_neg (by omega)]; exact own_setp hP.pc hP.e (by decide), by simp only [updV]; rw [if_neg (by omega), if_neg (by omega)]; exact hP.ke,
    fun j hj => by
      simp only [updV]
      by_cases e : j = i
      · subst e; rw [if_pos rfl, if_pos rfl]
      · rw [if_neg (by omega), if_neg e]; exact hP.ci j hj,
    by simp only [updV]; rw [if_neg (by omega)]; exact hP.ct, by simp only [updV]; rw [if_neg (by omega)]; exact hP.ch, by simp only [updV]; rw [if_neg (by omega)]; exact hP.cn, hP.bl.setCell (p := ⟨p, 4 + i, none⟩) hP.lo _⟩
theorem own_ne {base base' n n' size size' : Nat} {e e' : TypeId} {v v' : Value} {xs xs' : List Value} (ho : w.ownsRow base e size v n xs) (ho' : w.ownsRow base' e' size' v' n' xs') (he : e ≠ e') : ∀ b, v.ownBlock = some b → v'.ownBlock ≠ some b := by
  intro b h h'
  rcases ho.2 with ⟨rfl, _⟩ | ⟨g, cap, cur, rfl, _, hh, _⟩
  · cases h
  · rcases ho'.2 with ⟨rfl, _⟩ | ⟨g', cap', cur', rfl, _, hh', _⟩
    · cases h'
    · injection h with h
      injection h' with h'
      change g = b at h
      change g' = b at h'
      rw [h] at hh
      rw [h', hh] at hh'
      injection hh' with hh'
      injection hh' with _ h2
      exact he h2
theorem grow_pc {base n size : Nat} {e : TypeId} {v : Value} {xs : List Value} (hp : Pc w p c) (ho : w.ownsRow base e size v n xs) (he : e ≠ 54) (hg : w.grownBy w' v.ownBlock) : Pc w' p c :=
  hp.keep (hg.block p hp.lt (fun h => own_ne_p hp ho he h.symm))
theorem grow_nb {b : Nat} {L : List Int} {r : Option Nat} (h : NB w b L) (hg : w.grownBy w' r) (hr : r ≠ some b) : NB w' b L := (hg.block b h.lt (fun x => hr x.symm)).trans h
theorem val_block {v : Value} {g n cap : Nat} (hv : v = .slice (some ⟨g, 0, none⟩) n cap) : v.ownBlock = some g := by rw [hv]; rfl
theorem grow_old {v u : Value} {g b : Nat} (hu : u.ownBlock = some g) (hw : v.ownBlock = some g ∨ g = w.heap.size) (hb : b < w.heap.size) (hv : v.ownBlock ≠ some b) : u.ownBlock ≠ some b := by
  rw [hu]
  rcases hw with h | h
  · rw [← h]; exact hv
  · intro e; injection e with e; omega
theorem Pty.appK (hP : Pty w0 w p many Rs Kn Ep ins t h init c) {u : Value} {g : Nat} {x : Int} (ho : w'.ownsRow w0.heap.size 3 1 u (Kn.length + 1) (Kn.map (Value.int .i64) ++ [.int .i64 x])) (hg : w.grownBy w' (c 2).ownBlock) (hu : u.ownBlock = some g) (hw : (c 2).ownBlock = some g ∨ g = w.heap.size) :
    Pty w0 (w'.setCell ⟨p, 2, none⟩ u) p many Rs (Kn ++ [x]) Ep ins t h init (updV c 2 u) := by
  have hp := grow_pc hP.pc hP.k (by decide) hg
  have hr : Rul w' w0.heap.size (c 1) u (c 3) Rs := by
    obtain ⟨cs, h1, h2⟩ := hP.r
    refine ⟨cs, h1.kept hg (by cases hq : (c 1).ownBlock with | none => exact .inl rfl | some q => exact .inr (fun e => own_ne h1 hP.k (by decide) q hq e.symm)), fun j r hj => ?_⟩
    obtain ⟨b, cap, h3, h4, h5, h6, h7, h8⟩ := h2 j r hj
    exact ⟨b, cap, h3, h4, h5, grow_nb h6 hg h7, grow_old hu hw h6.lt h7, h8⟩
  have he : w'.ownsRow w0.heap.size 3 1 (c 3) Ep.length (Ep.map (Value.int .i64)) := hP.e.kept hg (by cases hq : (c 3).ownBlock with | none => exact .inl rfl | some q => exact .inr (fun e => hP.ke q e.symm hq))
  refine ⟨hP.lo, hp.set 2 (by decide) _, hP.c0, rul_setp hp hr, by simpa [updV] using own_setp hp ho (by decide), own_setp hp he (by decide), fun b hb h3 => ?_, fun i hi => by have := hP.ci i hi; simp only [updV]; rw [if_neg (by omega)]; exact this, hP.ct, hP.ch, hP.cn, ?_⟩
  · change u.ownBlock = some b at hb
    change (c 3).ownBlock = some b at h3
    exact grow_old hu hw (hP.e.lt b h3).2 (fun e => hP.ke b e h3) hb
  · exact (hP.bl.grown hg hP.bl.size (fun q hq => (hP.k.lt q hq).1)).setCell (p := ⟨p, 2, none⟩) hP.lo _
theorem Pty.appE (hP : Pty w0 w p many Rs Kn Ep ins t h init c) {u : Value} {g : Nat} {x : Int} (ho : w'.ownsRow w0.heap.size 3 1 u (Ep.length + 1) (Ep.map (Value.int .i64) ++ [.int .i64 x])) (hg : w.grownBy w' (c 3).ownBlock) (hu : u.ownBlock = some g) (hw : (c 3).ownBlock = some g ∨ g = w.heap.size) :
    Pty w0 (w'.setCell ⟨p, 3, none⟩ u) p many Rs Kn (Ep ++ [x]) ins t h init (updV c 3 u) := by
  have hp := grow_pc hP.pc hP.e (by decide) hg
  have hr : Rul w' w0.heap.size (c 1) (c 2) u Rs := by
    obtain ⟨cs, h1, h2⟩ := hP.r
    refine ⟨cs, h1.kept hg (by cases hq : (c 1).ownBlock with | none => exact .inl rfl | some q => exact .inr (fun e => own_ne h1 hP.e (by decide) q hq e.symm)), fun j r hj => ?_⟩
    obtain ⟨b, cap, h3, h4, h5, h6, h7, h8⟩ := h2 j r hj
    exact ⟨b, cap, h3, h4, h5, grow_nb h6 hg h8, h7, grow_old hu hw h6.lt h8⟩
  have he : w'.ownsRow w0.heap.size 3 1 (c 2) Kn.length (Kn.map (Value.int .i64)) := hP.k.kept hg (by cases hq : (c 2).ownBlock with | none => exact .inl rfl | some q => exact .inr (fun e => hP.ke q hq e.symm))
  refine ⟨hP.lo, hp.set 3 (by decide) _, hP.c0, rul_setp hp hr, own_setp hp he (by decide), by simpa [updV] using own_setp hp ho (by decide), fun b hb h3 => ?_, fun i hi => by have := hP.ci i hi; simp only [updV]; rw [if_neg (by omega)]; exact this, hP.ct, hP.ch, hP.cn, ?_⟩
  · change (c 2).ownBlock = some b at hb
    change u.ownBlock = some b at h3
    exact grow_old hu hw (hP.k.lt b hb).2 (fun e => hP.ke b hb e) h3
  · exact (hP.bl.grown hg hP.bl.size (fun q hq => (hP.e.lt q hq).1)).setCell (p := ⟨p, 3, none⟩) hP.lo _
theorem Pty.appR (hP : Pty w0 w p many Rs Kn Ep ins t h init c) {u : Value} {g b cap : Nat} {x : Int} {L : List Int} {cs : List Value} (hcs : w.ownsRow w0.heap.size 32 2 (c 1) Rs.length cs ∧ ∀ (j : Nat) r, Rs[j]? = some r → ∃ b cap, cs[2 * j]? = some (.slice (some ⟨b, 0, none⟩) r.needs.length cap) ∧ r.needs.length ≤ cap ∧ cs[2 * j + 1]? = some (.int .i64 r.gives) ∧ NB w b r.needs ∧
    (c 2).ownBlock ≠ some b ∧ (c 3).ownBlock ≠ some b) (hb : NB w b L) (hcap : L.length ≤ cap) (hk : (c 2).ownBlock ≠ some b) (hev : (c 3).ownBlock ≠ some b)
    (ho : w'.ownsRow w0.heap.size 32 2 u (Rs.length + 1) (cs ++ [.slice (some ⟨b, 0, none⟩) L.length cap, .int .i64 x])) (hg : w.grownBy w' (c 1).ownBlock) :
    Pty w0 (w'.setCell ⟨p, 1, none⟩ u) p many (Rs ++ [⟨L, x⟩]) Kn Ep ins t h init (updV c 1 u) := by
  obtain ⟨h1, h2⟩ := hcs
  have hp := grow_pc hP.pc h1 (by decide) hg
  have hl : cs.length = 2 * Rs.length := by have := h1.1; omega
  have nb : ∀ {b L}, NB w b L → (c 1).ownBlock ≠ some b := fun {b L} hb e => by
    rcases h1.2 with ⟨e2, _⟩ | ⟨g, cap, cur, e2, _, hh, _⟩
    · rw [e2] at e; cases e
    · rw [e2] at e
      injection e with e
      change g = b at e
      unfold NB at hb
      rw [e, hb] at hh
      injection hh with hh
      injection hh with _ hh
      exact absurd hh (by decide)
  have hr : Rul w' w0.heap.size u (c 2) (c 3) (Rs ++ [⟨L, x⟩]) := by
    refine ⟨_, by simpa using ho, fun j r hj => ?_⟩
    rcases Nat.lt_or_ge j Rs.length with hj2 | hj2
    · rw [List.getElem?_append_left hj2] at hj
      obtain ⟨b, cap, h3, h4, h5, h6, h7, h8⟩ := h2 j r hj
      exact ⟨b, cap, by rw [List.getElem?_append_left (by omega)]; exact h3, h4, by rw [List.getElem?_append_left (by omega)]; exact h5, grow_nb h6 hg (nb h6), h7, h8⟩
    · rw [List.getElem?_append_right hj2] at hj
      have hj3 : j = Rs.length := by
        rcases Nat.lt_or_ge (j - Rs.length) 1 with q | q
        · omega
        · rw [List.getElem?_eq_none (by simpa using q)] at hj; cases hj
      subst hj3
      simp at hj
      subst hj
      exact ⟨b, cap, by rw [List.getElem?_append_right (by omega), hl]; simp, hcap, by rw [List.getElem?_append_right (by omega), hl]; simp, grow_nb hb hg (nb hb), hk, hev⟩
  have hk2 : w'.ownsRow w0.heap.size 3 1 (c 2) Kn.length (Kn.map (Value.int .i64)) := hP.k.kept hg (by cases hq : (c 2).ownBlock with | none => exact .inl rfl | some q => exact .inr (fun e => own_ne hP.k h1 (by decide) q hq e.symm))
  have he2 : w'.ownsRow w0.heap.size 3 1 (c 3) Ep.length (Ep.map (Value.int .i64)) := hP.e.kept hg (by cases hq : (c 3).ownBlock with | none => exact .inl rfl | some q => exact .inr (fun e => own_ne hP.e h1 (by decide) q hq e.symm))
  exact ⟨hP.lo, hp.set 1 (by decide) _, hP.c0, rul_setp hp hr, own_setp hp hk2 (by decide), own_setp hp he2 (by decide), hP.ke, fun i hi => by have := hP.ci i hi; simp only [updV]; rw [if_neg (by omega)]; exact this, hP.ct, hP.ch, hP.cn,
    (hP.bl.grown hg hP.bl.size (fun q hq => (h1.lt q hq).1)).setCell (p := ⟨p, 1, none⟩) hP.lo _⟩
end
end Go.Proofs.Ytllgdlfdmmdffaa
