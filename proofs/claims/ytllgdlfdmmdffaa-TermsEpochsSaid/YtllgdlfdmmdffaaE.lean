/- Whole numbers, rules and answers in memory; what is found, as plain lists. -/
import Derived.Test.YtllgdlfdmmdffaaD
import Derived.WalkKit
import Derived.ProofKit
import Derived.OpenShut
import Derived.Lib.Hide
import Derived.Deep.QuietTactic
import Derived.BigQuiet
import Derived.StillTailTactics
import Derived.Deep.RegionWith
import Derived.Deep.LoopGhost
import Derived.Laws.AppendOwn
import Derived.Deep.MidRow
import Derived.ArgAppend
import Derived.OwnWalk
import Derived.Deep.AppendLies
import Derived.Maps.AppendAt
import Derived.Laws.OwnMore
import Derived.Deep.Upon
import Derived.Deep.Strs
import Derived.ChangeSlices
import Derived.Deep.Cut
import Derived.Deep.DeepCutAuto
import Derived.Deep.RegionLaw
import Derived.Deep.RegionHeld3
import Derived.StillTail
import Derived.Orders
import Derived.Shelf.Abstract
import Derived.Laws.EntriesVeiled
namespace Go.Proofs.Ytllgdlfdmmdffaa
open Go.ChangeShapes Go.WideShapes Go.ChangeAt Go.RowKit
set_option linter.unusedSimpArgs false
set_option linter.unusedVariables false
theorem add_block (a : Addr) (n : Nat) : (a.add n).block = a.block := by unfold Addr.add; split <;> rfl
theorem add_add (a : Addr) (i j : Nat) : (a.add i).add j = a.add (i + j) := by
  unfold Addr.add
  by_cases hi : i = 0 <;> by_cases hj : j = 0 <;> simp [hi, hj, Nat.add_assoc]
def iv (z : Int) : Value := .int .i64 z
theorem at_none {w : World} {a : Addr} {v : Value} (h : w.cell? a = some v) : a = ⟨a.block, a.off, none⟩ := by
  obtain ⟨b, o, s⟩ := a
  cases s with
  | none => rfl
  | some s =>
    exfalso
    unfold World.cell? at h
    revert h
    cases w.heap[b]? with
    | none => simp
    | some o => cases o <;> simp
theorem old_cell {w : World} {a : Addr} {v : Value} (h : w.cell? a = some v) (o : Obj) : (w.alloc o).cell? a = some v := (World.cell?_alloc_some _ _ _ (by rw [h]; rfl)).trans h
theorem new_cell (w : World) (v : Value) (t : TypeId) : (w.alloc (.cells #[v] t)).cell? ⟨w.heap.size, 0, none⟩ = some v := by simp
/-- Whole numbers below a mark; of none nothing is said. -/
structure Ilz (n : Nat) (w : World) (ao : Option Addr) (L : List Int) : Prop where
  nil : ao = none → L = []
  cells : ∀ a, ao = some a → ∀ (j : Nat) x, L[j]? = some x → a.block < n ∧ w.cell? (a.add j) = some (.int .i64 x)
section
variable {n m : Nat} {w w' : World} {ao : Option Addr} {L : List Int}
theorem Ilz.keep (h : Ilz n w ao L) (hk : ∀ k, k < n → w'.heap[k]? = w.heap[k]?) : Ilz n w' ao L :=
  ⟨h.nil, fun a ha j x hx => by
    obtain ⟨h1, h2⟩ := h.cells a ha j x hx
    exact ⟨h1, (World.cell?_of_block (by rw [add_block]; exact hk _ h1)).trans h2⟩⟩
theorem Ilz.below (h : Ilz n w ao L) (k : Below m w w') (hm : n ≤ m) : Ilz n w' ao L := h.keep fun i hi => k.block i (by omega)
theorem Ilz.mono (h : Ilz n w ao L) (hm : n ≤ m) : Ilz m w ao L := ⟨h.nil, fun a ha j x hx => ⟨by have := (h.cells a ha j x hx).1; omega, (h.cells a ha j x hx).2⟩⟩
theorem Ilz.some_ (h : Ilz n w ao L) (hl : 0 < L.length) : ∃ a, ao = some a := by
  cases ao with
  | none => rw [h.nil rfl] at hl; simp at hl
  | some a => exact ⟨a, rfl⟩
end
/-- A rule: what it needs, what it gives. -/
structure Rl where
  needs : List Int
  gives : Int
instance : Inhabited Rl := ⟨⟨[], 0⟩⟩
/-- Rules below a mark. -/
structure Rlz (n : Nat) (w : World) (lo : Option Addr) (Rs : List Rl) : Prop where
  nil : lo = none → Rs = []
  lens : ∀ r ∈ Rs, r.needs.length ≤ 9223372036854775807
  cells : ∀ a, lo = some a → ∀ (j : Nat) r, Rs[j]? = some r → a.block < n ∧ (∃ ao c, r.needs.length ≤ c ∧ w.cell? (a.add (j * 2)) = some (.slice ao r.needs.length c) ∧ Ilz n w ao r.needs) ∧ w.cell? ((a.add (j * 2)).add 1) = some (.int .i64 r.gives)
section
variable {n m : Nat} {w w' : World} {lo : Option Addr} {Rs : List Rl}
theorem Rlz.keep (h : Rlz n w lo Rs) (hk : ∀ k, k < n → w'.heap[k]? = w.heap[k]?) : Rlz n w' lo Rs :=
  ⟨h.nil, h.lens, fun a ha j r hr => by
    obtain ⟨h1, ⟨ao, c, h2, h3, h4⟩, h5⟩ := h.cells a ha j r hr
    exact ⟨h1, ⟨ao, c, h2, (World.cell?_of_block (by rw [add_block]; exact hk _ h1)).trans h3, h4.keep hk⟩, (World.cell?_of_block (by rw [add_block, add_block]; exact hk _ h1)).trans h5⟩⟩
theorem Rlz.below (h : Rlz n w lo Rs) (k : Below m w w') (hm : n ≤ m) : Rlz n w' lo Rs := h.keep fun i hi => k.block i (by omega)
theorem Rlz.some_ (h : Rlz n w lo Rs) (hl : 0 < Rs.length) : ∃ a, lo = some a := by
  cases lo with
  | none => rw [h.nil rfl] at hl; simp at hl
  | some a => exact ⟨a, rfl⟩
end
/-- Answers in a block of their own. -/
structure Bl (w : World) (b : Nat) (B : List Bool) : Prop where
  row : w.heap[b]? = some (.cells (B.map Value.bool).toArray 4 (0, 0))
section
variable {m b : Nat} {w w' : World} {B : List Bool}
theorem Bl.lt (h : Bl w b B) : b < w.heap.size := (Array.getElem?_eq_some_iff.1 h.row).1
theorem Bl.keep (h : Bl w b B) (hk : w'.heap[b]? = w.heap[b]?) : Bl w' b B := ⟨hk.trans h.row⟩
theorem Bl.below (h : Bl w b B) (k : Below m w w') (hm : b < m) : Bl w' b B := h.keep (k.block b hm)
theorem Bl.grown {r : Option Nat} (h : Bl w b B) (k : w.grownBy w' r) (hr : r ≠ some b) : Bl w' b B := h.keep (k.block b h.lt (fun e => hr e.symm))
theorem Bl.cell (h : Bl w b B) {i : Nat} {x : Bool} (hx : B[i]? = some x) : w.cell? ⟨b, i, none⟩ = some (.bool x) := by
  rw [cell_of_row _ _ _ _ _ _ h.row]
  simp [hx]
theorem Bl.frozen (h : Bl w b B) (i : Nat) : w.frozen? ⟨b, i, none⟩ = false := frozen_of_row _ _ _ _ _ h.row
theorem Bl.set (h : Bl w b B) (i : Nat) (x : Bool) : Bl (w.setCell ⟨b, i, none⟩ (.bool x)) b (B.set i x) := ⟨by
  rw [heap_setCell_same _ _ _ _ _ _ h.row]
  congr 2
  simp [List.map_set]⟩
theorem Bl.other (h : Bl w b B) {a : Addr} (ha : a.block ≠ b) (v : Value) : Bl (w.setCell a v) b B := h.keep (heap_setCell_other w a b v (fun e => ha e.symm))
theorem Bl.alloc (h : Bl w b B) (o : Obj) : Bl (w.alloc o) b B := h.keep (Below.heap_alloc w o b h.lt)
theorem Bl.drew (h : Bl w b B) : Bl w.drew b B := ⟨h.row⟩
end

/-- Whether a number is marked. -/
def has (B : List Bool) (z : Int) : Bool := B.getD z.toNat false
def mark (B : List Bool) (z : Int) : List Bool := B.set z.toNat true
abbrev St := List Bool × List Int
def doR (st : St) (i : Nat) (r : Rl) : St := if (!has st.1 r.gives && r.needs.all (has st.1)) = true then (mark st.1 r.gives, st.2 ++ [(i : Int)]) else st
def rndN (Rs : List Rl) (st : St) : Nat → St
  | 0 => st
  | k + 1 => doR (rndN Rs st k) k (Rs.getD k default)
def rnd (Rs : List Rl) (st : St) : St := rndN Rs st Rs.length
def fix (Rs : List Rl) : Nat → St → St
  | 0, st => st
  | n + 1, st => if (rnd Rs st).2.length = st.2.length then rnd Rs st else fix Rs n (rnd Rs st)
def falses (B : List Bool) : Nat := B.count false
def marks (Ks : List Int) (n : Nat) : List Bool := Ks.foldl mark (List.replicate n false)
def fin (many : Nat) (Ks : List Int) (Rs : List Rl) : St := fix Rs (many + 1) (marks Ks many, [])
def inB (many x : Int) : Bool := decide (0 ≤ x) && decide (x < many)
def fitR (many : Int) (r : Rl) : Bool := inB many r.gives && r.needs.all (inB many)
def fitsB (many : Int) (Ks : List Int) (Rs : List Rl) : Bool := decide (0 ≤ many) && decide (many ≤ 4096) && decide (Rs.length ≤ 4096) && Ks.all (inB many) && Rs.all (fitR many)
/-- What is said of arguments that fit. -/
structure Fits (many : Nat) (Ks : List Int) (Rs : List Rl) : Prop where
  hi : many ≤ 4096
  len : Rs.length ≤ 4096
  ks : ∀ x ∈ Ks, ∃ k : Nat, x = k ∧ k < many
  gs : ∀ r ∈ Rs, ∃ k : Nat, r.gives = k ∧ k < many
  ns : ∀ r ∈ Rs, ∀ x ∈ r.needs, ∃ k : Nat, x = k ∧ k < many
theorem inB_nat {n : Nat} {x : Int} (h : inB n x = true) : ∃ k : Nat, x = k ∧ k < n := by
  simp [inB] at h
  exact ⟨x.toNat, by omega, by omega⟩
theorem fits_nat {m : Int} {Ks : List Int} {Rs : List Rl} (h : fitsB m Ks Rs = true) : ∃ n : Nat, m = n ∧ Fits n Ks Rs := by
  simp only [fitsB, fitR, Bool.and_eq_true, decide_eq_true_eq, List.all_eq_true] at h
  obtain ⟨⟨⟨⟨h1, h2⟩, h3⟩, h4⟩, h5⟩ := h
  obtain ⟨n, rfl⟩ : ∃ n : Nat, m = n := ⟨m.toNat, by omega⟩
  exact ⟨n, rfl, by omega, h3, fun x hx => inB_nat (h4 x hx), fun r hr => inB_nat (h5 r hr).1, fun r hr x hx => inB_nat ((h5 r hr).2 x hx)⟩
theorem mark_length (B : List Bool) (z : Int) : (mark B z).length = B.length := by simp [mark]
theorem marks_length (Ks : List Int) (n : Nat) : (marks Ks n).length = n := by
  have : ∀ (l : List Int) (B : List Bool), (l.foldl mark B).length = B.length := fun l => by
    induction l with
    | nil => intro B; rfl
    | cons x l ih => intro B; rw [List.foldl_cons, ih, mark_length]
  rw [marks, this]; simp
theorem has_at {B : List Bool} {k : Nat} {x : Bool} (h : B[k]? = some x) : has B (k : Int) = x := by simp [has, h]
theorem at_has {B : List Bool} {k : Nat} (h : k < B.length) : B[k]? = some (has B (k : Int)) := by simp [has, h]
theorem falses_set : ∀ (B : List Bool) (k : Nat), B[k]? = some false → falses (B.set k true) + 1 = falses B
  | [], k, h => by simp at h
  | b :: B, 0, h => by simp at h; subst h; simp [falses, List.count_cons]
  | b :: B, k + 1, h => by
    have := falses_set B k (by simpa using h)
    simp only [falses] at this
    simp only [falses, List.set_cons_succ, List.count_cons]
    omega
theorem doR_sum {n : Nat} {st : St} {i : Nat} {r : Rl} (hl : st.1.length = n) (hg : ∃ k : Nat, r.gives = k ∧ k < n) : (doR st i r).1.length = n ∧ falses (doR st i r).1 + (doR st i r).2.length = falses st.1 + st.2.length := by
  obtain ⟨k, hk, hkn⟩ := hg
  unfold doR
  split
  · rename_i h
    simp only [Bool.and_eq_true, Bool.not_eq_true'] at h
    rw [hk] at h ⊢
    refine ⟨by simp [mark_length, hl], ?_⟩
    have h1 : st.1[k]? = some false := by rw [at_has (by omega), h.1]
    have := falses_set _ _ h1
    simp [mark]
    omega
  · exact ⟨hl, rfl⟩
theorem rndN_sum {n : Nat} {Rs : List Rl} {st : St} (hl : st.1.length = n) (hg : ∀ r ∈ Rs, ∃ k : Nat, r.gives = k ∧ k < n) : ∀ k, k ≤ Rs.length → (rndN Rs st k).1.length = n ∧ falses (rndN Rs st k).1 + (rndN Rs st k).2.length = falses st.1 + st.2.length
  | 0, _ => ⟨hl, rfl⟩
  | k + 1, hk => by
    obtain ⟨h1, h2⟩ := rndN_sum hl hg k (by omega)
    have hr : Rs.getD k default ∈ Rs := by
      rw [List.getD_eq_getElem?_getD, List.getElem?_eq_getElem (by omega)]
      exact List.getElem_mem _
    obtain ⟨h3, h4⟩ := doR_sum (i := k) h1 (hg _ hr)
    exact ⟨h3, by show falses (doR _ _ _).1 + (doR _ _ _).2.length = _; omega⟩
theorem doR_len (st : St) (i : Nat) (r : Rl) : st.2.length ≤ (doR st i r).2.length := by
  unfold doR; split <;> simp
theorem rndN_len (Rs : List Rl) (st : St) : ∀ k, st.2.length ≤ (rndN Rs st k).2.length
  | 0 => Nat.le_refl _
  | k + 1 => Nat.le_trans (rndN_len Rs st k) (doR_len _ _ _)
theorem falses_le (B : List Bool) : falses B ≤ B.length := List.count_le_length
end Go.Proofs.Ytllgdlfdmmdffaa
