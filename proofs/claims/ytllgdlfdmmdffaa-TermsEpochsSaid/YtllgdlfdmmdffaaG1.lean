/- A group of symbols as plain data; maps that hold what such data says. -/
import Derived.Test.YtllgdlfdmmdffaaA1
import Derived.Test.YtllgdlfdmmdffaaA2
namespace Go.Proofs.Ytllgdlfdmmdffaa
open Go.ChangeShapes Go.WideShapes Go.ChangeAt Go.RowKit Go.MapKept Go.ChangeMaps
set_option linter.unusedSimpArgs false
set_option linter.unusedVariables false
/-- Keys and who does not know them, by nodes. -/
abbrev Ktr := Int → Option (Int × List Int)
def upd {α : Type} (M : Int → Option α) (i : Int) (v : Option α) : Int → Option α := fun j => if j = i then v else M j
theorem upd_same {α : Type} (M : Int → Option α) (i : Int) (v : Option α) : upd M i v i = v := if_pos rfl
theorem upd_other {α : Type} (M : Int → Option α) {i j : Int} (v : Option α) (h : j ≠ i) : upd M i v j = M j := if_neg h
/-- All of a group. -/
structure Md where
  many : Int
  Rs : List Rl
  Kn : List Int
  Ep : List Int
  ins : Nat → Bool
  init : Int
  T : Ktr
  H : Nat → Int → Option Int
/-- A node's number. -/
def nIx (lev q : Nat) : Int := (((2 * q + 1) * 2 ^ lev - 1 : Nat) : Int)
/-- The node above a leaf, so many levels further than one. -/
def upn (l k : Nat) : Int := nIx (k + 1) (l / 2 ^ (k + 1))
def blkT (T : Ktr) (l : Nat) : Nat → Ktr
  | 0 => T
  | k + 1 => upd (blkT T l k) (upn l k) none
def resN (i : Int) (L : List Int) : List Int := i :: L.map (fun y => 2 * y)
def res (T : Ktr) : Nat → Nat → List Int
  | 0, q => match T (nIx 0 q) with
    | some a => resN (nIx 0 q) a.2
    | none => []
  | lev + 1, q => match T (nIx (lev + 1) q) with
    | some a => resN (nIx (lev + 1) q) a.2
    | none => res T lev (2 * q) ++ res T lev (2 * q + 1)
def keyOfT (T : Ktr) (i : Int) : Int := match T i with
  | some a => a.1
  | none => 0
/-- A path's secrets so far. -/
structure Pm where
  last : Int
  many : Int
  Rs : List Rl
  keys : Int → Option Int
def tellR (T : Ktr) (many : Int) (told : List Int) : List Rl := told.map (fun n => ⟨[keyOfT T n], many⟩)
def pthS (T : Ktr) (l k : Nat) (s : Pm) : Pm :=
  if res T k (sib (l / 2 ^ k)) = [] then s
  else ⟨s.many, s.many + 2, s.Rs ++ [⟨[s.last], s.many⟩] ++ tellR T s.many (res T k (sib (l / 2 ^ k))) ++ [⟨[s.many], s.many + 1⟩], upd s.keys (upn l k) (some (s.many + 1))⟩
def pth (T : Ktr) (l : Nat) (s : Pm) : Nat → Pm
  | 0 => s
  | k + 1 => pthS T l k (pth T l s k)
/-- Is a leaf below the node above another one? -/
def ovr (l k m : Nat) : Bool := decide (m / 2 ^ (k + 1) = l / 2 ^ (k + 1))
def cmT (T : Ktr) (l : Nat) (keys : Int → Option Int) : Nat → Ktr
  | 0 => T
  | k + 1 => match keys (upn l k) with
    | some key => upd (cmT T l keys k) (upn l k) (some (key, []))
    | none => cmT T l keys k
/-- What a leaf has when a key came to the node above another one. -/
def hasS (l k m : Nat) (keys : Int → Option Int) (F : Int → Option Int) : Int → Option Int := upd F (upn l k) (if ovr l k m = true then keys (upn l k) else none)
def cmH (H : Nat → Int → Option Int) (ins : Nat → Bool) (l : Nat) (keys : Int → Option Int) : Nat → Nat → Int → Option Int
  | 0 => H
  | k + 1 => fun m => if ins m = true then hasS l k m keys (cmH H ins l keys k m) else cmH H ins l keys k m
def one (i key : Int) : Int → Option Int := upd (fun _ => none) i (some key)
def setL {α : Type} (f : Nat → α) (l : Nat) (a : α) : Nat → α := fun j => if j = l then a else f j
/-- A leaf enters. -/
def entM (m : Md) (l : Nat) (key : Int) : Md := { m with ins := setL m.ins l true, T := upd m.T (2 * (l : Int)) (some (key, [])), H := setL m.H l (one (2 * (l : Int)) key) }
def blkM (m : Md) (l : Nat) : Md := { m with T := blkT m.T l 3 }
def ps0 (m : Md) : Pm := ⟨m.many, m.many + 2, m.Rs ++ [⟨[m.many], m.many + 1⟩], fun _ => none⟩
def psM (m : Md) (l : Nat) : Pm := pth m.T l (ps0 m) 3
def comM (m : Md) (l : Nat) (wel : Int) : Md :=
  { many := (psM m l).many + 4,
    Rs := ((psM m l).Rs ++ [⟨[(psM m l).last], (psM m l).many⟩, ⟨[m.init, (psM m l).many], (psM m l).many + 1⟩] ++ (if 0 ≤ wel then [⟨[wel], (psM m l).many + 1⟩] else [])) ++ [⟨[(psM m l).many + 1], (psM m l).many + 2⟩, ⟨[(psM m l).many + 2], (psM m l).many + 3⟩],
    Kn := m.Kn, Ep := m.Ep ++ [(psM m l).many + 2], ins := m.ins, init := (psM m l).many + 3,
    T := cmT (upd (blkT m.T l 3) (2 * (l : Int)) (some (m.many + 1, []))) l (psM m l).keys 3,
    H := cmH (setL m.H l (one (2 * (l : Int)) (m.many + 1))) m.ins l (psM m l).keys 3 }
def insL (L : List Int) (l : Nat) : List Int := (L ++ [(l : Int)]).mergeSort (fun x y => decide (x ≤ y))
def addT (T : Ktr) (l : Nat) : Nat → Ktr
  | 0 => T
  | k + 1 => match addT T l k (upn l k) with
    | some a => upd (addT T l k) (upn l k) (some (a.1, insL a.2 l))
    | none => addT T l k
def addM (m : Md) (l : Nat) : Md := { entM { m with many := m.many + 2 } l m.many with T := addT (entM { m with many := m.many + 2 } l m.many).T l 3 }
def remM (m : Md) (l : Nat) : Md := { m with T := upd (blkT m.T l 3) (2 * (l : Int)) none, ins := setL m.ins l false, H := setL m.H l (fun _ => none) }
/-- What is new comes behind what is known. -/
def adK (L : List Int) (x : Int) : List Int := if x ∈ L then L else L ++ [x]
def allH (F : Int → Option Int) : List Int := (List.range 15).filterMap fun (i : Nat) => F (i : Int)
def revM (m : Md) (l : Nat) : Md := { m with Kn := (allH (m.H l) ++ [m.Ep.getLastD 0]).foldl adK m.Kn }
def isL (n : Int) : Bool := decide (0 ≤ n) && decide (n < 8)
structure Ac where
  kind : Int
  leaf : Int
  other : Int
def canM (m : Md) (a : Ac) : Bool :=
  isL a.leaf && m.ins a.leaf.toNat &&
    (if a.kind = 1 then true else if a.kind = 5 then true
     else if a.kind = 2 then isL a.other && !m.ins a.other.toNat
     else if a.kind = 3 ∨ a.kind = 4 then isL a.other && m.ins a.other.toNat && decide (a.other ≠ a.leaf)
     else false)
def actM (m : Md) (a : Ac) : Md :=
  if a.kind = 5 then revM m a.leaf.toNat
  else if a.kind = 2 then comM (addM m a.other.toNat) a.leaf.toNat (m.many + 1)
  else if a.kind = 3 then comM (entM { blkM m a.other.toNat with many := m.many + 1 } a.other.toNat m.many) a.leaf.toNat (-1)
  else if a.kind = 4 then comM (remM m a.other.toNat) a.leaf.toNat (-1)
  else comM m a.leaf.toNat (-1)
def staM : Md := { many := 3, Rs := [⟨[1], 2⟩], Kn := [], Ep := [1], ins := setL (fun _ => false) 0 true, init := 2, T := upd (fun _ => none) 0 (some (0, [])), H := setL (fun _ _ => none) 0 (one 0 0) }
def plyM : Md → List Ac → Option Md
  | m, [] => some m
  | m, a :: l => if canM m a = true then plyM (actM m a) l else none
/-- A map's entries are what plain data says. -/
structure Mp {α : Type} (es : Array MapEntry) (M : Int → Option α) (R : α → Value → Prop) : Prop where
  no : ∀ k, M k = none → ¬ Hk es k
  yes : ∀ k a, M k = some a → ∃ x ∈ es.toList, x.key = .int .i64 k ∧ R a x.val
section
variable {α : Type} {M : Int → Option α} {R R' : α → Value → Prop} {w : World} {b T e : Nat} {es : Array MapEntry} {cl : Nat} {z : Int} {v : Value}
theorem mp_nil : Mp (α := α) #[] (fun _ => none) R := ⟨fun k _ ⟨x, hx, _⟩ => by simp at hx, fun k a h => by cases h⟩
theorem Mp.to (h : Mp es M R) (k : ∀ i a v, M i = some a → R a v → R' a v) : Mp es M R' := ⟨h.no, fun i a hi => by
  obtain ⟨x, hx, e, r⟩ := h.yes i a hi
  exact ⟨x, hx, e, k i a _ hi r⟩⟩
theorem Mp.is (h : Mp es M R) {k : Int} (hk : Hk es k) : ∃ a, M k = some a := by
  cases hm : M k with
  | some a => exact ⟨a, rfl⟩
  | none => exact absurd hk (h.no k hm)
theorem Mp.at (h : Mp es M R) (o : Mo es cl) {k : Int} {a : α} (hk : M k = some a) {x : MapEntry} (hx : x ∈ es.toList) (e : x.key = .int .i64 k) : R a x.val := by
  obtain ⟨y, hy, ey, r⟩ := h.yes k a hk
  rw [pair_key o.one hx hy (e.trans ey.symm)]
  exact r
theorem key_int {x : MapEntry} (h : IsKey (.int .i64) x.key) : ∃ k : Int, x.key = .int .i64 k := by
  cases hx : x.key <;> rw [hx] at h <;> simp [IsKey] at h
  subst h
  exact ⟨_, rfl⟩
theorem Mp.mem (h : Mp es M R) (o : Mo es cl) {x : MapEntry} (hx : x ∈ es.toList) : ∃ k a, x.key = .int .i64 k ∧ M k = some a ∧ R a x.val := by
  obtain ⟨k, hk⟩ := key_int (o.iks x hx)
  obtain ⟨a, ha⟩ := h.is ⟨x, hx, hk⟩
  exact ⟨k, a, hk, ha, h.at o ha hx hk⟩
theorem mp_look (hT : Try.prog.underlying T = some (.map 3 e)) (hb : w.heap[b]? = some (.map es cl)) (o : Mo es cl) (h : Mp es M R) {zv : Value} (hz : (zeroValue e).run Try.prog w = .ok zv w) (z : Int) :
    (∃ a v, M z = some a ∧ R a v ∧ ∀ q, (Instr.lookup T (.map (some b)) (.int .i64 z) q).run Try.prog w = .ok (if q then .tuple #[v, .bool true] else v) w) ∨
    (M z = none ∧ ∀ q, (Instr.lookup T (.map (some b)) (.int .i64 z) q).run Try.prog w = .ok (if q then .tuple #[zv, .bool false] else zv) w) := by
  rcases mo_look hT hb o hz z with ⟨x, hx, hk, hrun⟩ | ⟨hn, hrun⟩
  · obtain ⟨a, ha⟩ := h.is ⟨x, hx, hk⟩
    exact .inl ⟨a, x.val, ha, h.at o ha hx hk, hrun⟩
  · refine .inr ⟨?_, hrun⟩
    cases hm : M z with
    | none => rfl
    | some a =>
      obtain ⟨x, hx, e, _⟩ := h.yes z a hm
      exact absurd ⟨x, hx, e⟩ hn
theorem mp_upd (hT : Try.prog.underlying T = some (.map 3 e)) (hb : w.heap[b]? = some (.map es cl)) (o : Mo es cl) (h : Mp es M R) (z : Int) (a : α) (v : Value) (hr : R a v) :
    ∃ es' cl', (Instr.mapUpdate T (.map (some b)) (.int .i64 z) v).run Try.prog w = .ok () (setBlock w b (.map es' cl')) ∧ Mo es' cl' ∧ Mp es' (upd M z (some a)) R := by
  obtain ⟨es', cl', r, o', _, v3, v4⟩ := mo_upd hT hb o z v
  refine ⟨es', cl', r, o', fun k hk hh => ?_, fun k a2 hk => ?_⟩
  · by_cases e1 : k = z
    · rw [e1, upd_same] at hk; cases hk
    · rw [upd_other _ _ e1] at hk
      rcases (v4 k).1 hh with h1 | h1
      · exact e1 h1
      · exact h.no k hk h1
  · by_cases e1 : k = z
    · subst e1
      rw [upd_same] at hk
      injection hk with hk
      subst hk
      obtain ⟨x, hx, ex⟩ := (v4 k).2 (.inl rfl)
      rcases v3 x hx with ⟨_, e2⟩ | ⟨e2, _⟩
      · exact ⟨x, hx, ex, by rw [e2]; exact hr⟩
      · exact absurd ex e2
    · rw [upd_other _ _ e1] at hk
      obtain ⟨y, hy, ey, ry⟩ := h.yes k a2 hk
      obtain ⟨x, hx, ex⟩ := (v4 k).2 (.inr ⟨y, hy, ey⟩)
      rcases v3 x hx with ⟨e2, _⟩ | ⟨_, y2, hy2, e3, e4⟩
      · rw [e2] at ex; injection ex with _ ex; exact absurd ex.symm e1
      · refine ⟨x, hx, ex, ?_⟩
        rw [← e4, pair_key o.one hy2 hy (e3.trans (ex.trans ey.symm))]
        exact ry
theorem mp_del (hT : Try.prog.underlying T = some (.map 3 e)) (hb : w.heap[b]? = some (.map es cl)) (o : Mo es cl) (h : Mp es M R) (z : Int) :
    ∃ es', (∀ ty t2, (Builtin.delete_ #[T, t2] ty #[.map (some b), .int .i64 z]).run Try.prog w = .ok (.tuple #[]) (setBlock w b (.map es' cl))) ∧ Mo es' cl ∧ Mp es' (upd M z none) R := by
  obtain ⟨es', r, o', _, v3, v4⟩ := mo_del hT hb o z 0 0
  refine ⟨es', fun _ _ => r, o', fun k hk hh => ?_, fun k a2 hk => ?_⟩
  · have h1 := (v4 k).1 hh
    rw [upd_other _ _ h1.1] at hk
    exact h.no k hk h1.2
  · by_cases e1 : k = z
    · rw [e1, upd_same] at hk; cases hk
    · rw [upd_other _ _ e1] at hk
      obtain ⟨y, hy, ey, ry⟩ := h.yes k a2 hk
      obtain ⟨x, hx, ex⟩ := (v4 k).2 ⟨e1, y, hy, ey⟩
      refine ⟨x, hx, ex, ?_⟩
      rw [pair_key o.one (v3 x hx) hy (ex.trans ey.symm)]
      exact ry
end
end Go.Proofs.Ytllgdlfdmmdffaa
