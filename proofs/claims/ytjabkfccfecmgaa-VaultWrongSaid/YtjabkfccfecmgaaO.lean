/- Open: what is needed. -/
import Derived.Test.YtjabkfccfecmgaaR
import Derived.Test.YtjabkfccfecmgaaM4
namespace Go.Proofs.Ytjabkfccfecmgaa
open Go.ChangeShapes Go.WideShapes Go.ChangeAt Go.RowKit
set_option linter.unusedSimpArgs false
set_option linter.unusedVariables false
/-- Two cells of a block are written. -/
theorem st2_same {w : World} {q : Nat} (h : w.heap[q]? = some (.cells #[.int .i64 0, .int .i64 0] 46 (0, 0))) (x y : Value) : ((w.setCell ⟨q, 0, none⟩ x).setCell ⟨q, 1, none⟩ y).heap[q]? = some (.cells #[x, y] 46 (0, 0)) := by
  have e : (w.setCell ⟨q, 0, none⟩ x).heap[q]? = some (.cells #[x, .int .i64 0] 46 (0, 0)) := by rw [heap_setCell_same w q 0 _ 46 _ h]; rfl
  rw [heap_setCell_same _ q 1 _ 46 _ e]; rfl
theorem st2_other (w : World) (q : Nat) (x y : Value) : ∀ j, j ≠ q → ((w.setCell ⟨q, 0, none⟩ x).setCell ⟨q, 1, none⟩ y).heap[j]? = w.heap[j]? := fun j hj => by
  rw [heap_setCell_other _ _ j _ (fun e => hj e), heap_setCell_other _ _ j _ (fun e => hj e)]
theorem st2_below {w8 w : World} (h : Below w8.heap.size w8 w) {q : Nat} (hq : w8.heap.size ≤ q) (x y : Value) : Below w8.heap.size w8 ((w.setCell ⟨q, 0, none⟩ x).setCell ⟨q, 1, none⟩ y) :=
  (h.setCell (p := ⟨q, 0, none⟩) hq _).setCell (p := ⟨q, 1, none⟩) hq _
/-- A block of two that is made and then filled. -/
structure T16b (w8 : World) (X : Array Value) (a : Bool) (v : Value) (s : Bool) (w : World) : Prop where
  no : a = false → v = undef
  yes : a = true → ∃ q, v = .pointer (some ⟨q, 0, none⟩) ∧ w8.heap.size ≤ q ∧ w.heap[q]? = some (.cells (if s = true then X else #[.int .i64 0, .int .i64 0]) 46 (0, 0))
structure T16 (w8 : World) (X Y : Array Value) (a : Bool) (v : Value) (s : Bool) (a' : Bool) (v' : Value) (s' : Bool) (w : World) : Prop where
  b : Below w8.heap.size w8 w
  x : T16b w8 X a v s w
  y : T16b w8 Y a' v' s' w
  ne : a = true → a' = true → v ≠ v'
section
variable {w8 w : World} {X Y : Array Value} {a s a' s' : Bool} {v v' : Value}
theorem T16.start (w8 : World) (X Y : Array Value) : T16 w8 X Y false undef false false undef false w8.drew :=
  ⟨(Below.refl _ w8).drew, ⟨fun _ => rfl, (fun e => by cases e)⟩, ⟨fun _ => rfl, (fun e => by cases e)⟩, (fun e => by cases e)⟩
theorem T16.swap (h : T16 w8 X Y a v s a' v' s' w) : T16 w8 Y X a' v' s' a v s w := ⟨h.b, h.y, h.x, fun e1 e2 e => h.ne e2 e1 e.symm⟩
theorem T16b.keep {w' : World} (h : T16b w8 X a v s w) (hk : ∀ q, v = .pointer (some ⟨q, 0, none⟩) → q < w.heap.size → w'.heap[q]? = w.heap[q]?) : T16b w8 X a v s w' :=
  ⟨h.no, fun e => by
    obtain ⟨q, h1, h2, h3⟩ := h.yes e
    exact ⟨q, h1, h2, (hk q h1 (Array.getElem?_eq_some_iff.1 h3).1).trans h3⟩⟩
theorem T16.al4 (h : T16 w8 X Y a v s a' v' s' w) (ha : a = false) (hs : s = false) : T16 w8 X Y true (.pointer (some ⟨w.heap.size, 0, none⟩)) s a' v' s' (w.alloc (.cells #[.int .i64 0, .int .i64 0] 46)) :=
  ⟨h.b.alloc h.b.size _, ⟨(fun e => by cases e), fun _ => ⟨_, rfl, h.b.size, by rw [hs]; exact heap_alloc_new w _⟩⟩, h.y.keep fun q _ hq => Below.heap_alloc w _ q hq, fun _ e' e => by
    obtain ⟨q, h1, h2, h3⟩ := h.y.yes e'
    rw [h1] at e
    injection e with e; injection e with e; injection e with e
    have := (Array.getElem?_eq_some_iff.1 h3).1
    omega⟩
theorem T16.get4 (h : T16 w8 X Y a v s a' v' s' w) (hs : s = false) {q : Nat} (hv : v = .pointer (some ⟨q, 0, none⟩)) : (a = true ∧ w8.heap.size ≤ q ∧ w.heap[q]? = some (.cells #[.int .i64 0, .int .i64 0] 46 (0, 0))) ∧ w.cell? ⟨q, 0, none⟩ = some (.int .i64 0) ∧ w.cell? ⟨q, 1, none⟩ = some (.int .i64 0) ∧ w.frozen? ⟨q, 0, none⟩ = false ∧ w.frozen? ⟨q, 1, none⟩ = false := by
  have ha : a = true := by
    cases e : a with
    | true => rfl
    | false => have := h.x.no e; rw [hv] at this; cases this
  obtain ⟨q', h1, h2, h3⟩ := h.x.yes ha
  rw [hv] at h1
  injection h1 with h1; injection h1 with h1; injection h1 with h1
  subst h1
  rw [hs] at h3
  exact ⟨⟨ha, h2, h3⟩, two_of h3⟩
theorem T16.st6 {x0 x1 : Value} (h : T16 w8 #[x0, x1] Y a v s a' v' s' w) (hs : s = false) {q : Nat} (hv : v = .pointer (some ⟨q, 0, none⟩)) : T16 w8 #[x0, x1] Y a v true a' v' s' ((w.setCell ⟨q, 0, none⟩ x0).setCell ⟨q, 1, none⟩ x1) := by
  obtain ⟨⟨ha, h2, h3⟩, _⟩ := h.get4 hs hv
  refine ⟨st2_below h.b h2 _ _, ⟨h.x.no, fun _ => ⟨q, hv, h2, st2_same h3 _ _⟩⟩, ⟨h.y.no, fun e => ?_⟩, h.ne⟩
  obtain ⟨q', e1, e2, e3⟩ := h.y.yes e
  exact ⟨q', e1, e2, (st2_other w q _ _ q' (fun e4 => h.ne ha e (by rw [hv, e1, e4]))).trans e3⟩
theorem T16.al5 (h : T16 w8 X Y a v s a' v' s' w) (ha : a' = false) (hs : s' = false) : T16 w8 X Y a v s true (.pointer (some ⟨w.heap.size, 0, none⟩)) s' (w.alloc (.cells #[.int .i64 0, .int .i64 0] 46)) := (h.swap.al4 ha hs).swap
theorem T16.get5 (h : T16 w8 X Y a v s a' v' s' w) (hs : s' = false) {q : Nat} (hv : v' = .pointer (some ⟨q, 0, none⟩)) : (a' = true ∧ w8.heap.size ≤ q ∧ w.heap[q]? = some (.cells #[.int .i64 0, .int .i64 0] 46 (0, 0))) ∧ w.cell? ⟨q, 0, none⟩ = some (.int .i64 0) ∧ w.cell? ⟨q, 1, none⟩ = some (.int .i64 0) ∧ w.frozen? ⟨q, 0, none⟩ = false ∧ w.frozen? ⟨q, 1, none⟩ = false := h.swap.get4 hs hv
theorem T16.st7 {x0 x1 : Value} (h : T16 w8 X #[x0, x1] a v s a' v' s' w) (hs : s' = false) {q : Nat} (hv : v' = .pointer (some ⟨q, 0, none⟩)) : T16 w8 X #[x0, x1] a v s a' v' true ((w.setCell ⟨q, 0, none⟩ x0).setCell ⟨q, 1, none⟩ x1) := (h.swap.st6 hs hv).swap
end
def V16 (qh : Nat) (c0 l0 c1 l1 : Int) : Nat → Value → World → Prop
  | 0, v, w => v = .pointer (some ⟨qh, 0, none⟩)
  | 1, v, w => v = .agg #[.int .i64 c0, .int .i64 l0]
  | 2, v, w => v = .pointer (some ⟨qh, 2, none⟩)
  | 3, v, w => v = .agg #[.int .i64 c1, .int .i64 l1]
  | 4, v, w => ∃ q, v = .pointer (some ⟨q, 0, none⟩)
  | 5, v, w => ∃ q, v = .pointer (some ⟨q, 0, none⟩)
  | 6, v, w => True
  | 7, v, w => True
  | _, _, _ => True
theorem V16_w {qh : Nat} {c0 l0 c1 l1 : Int} {i : Nat} {v : Value} {w w' : World} (h : V16 qh c0 l0 c1 l1 i v w) : V16 qh c0 l0 c1 l1 i v w' := by
  rcases i with _ | _ | _ | _ | _ | _ | _ | _ | _
  · exact h
  · exact h
  · exact h
  · exact h
  · exact h
  · exact h
  · exact h
  · exact h
  · exact h
theorem V16_k {qh : Nat} {c0 l0 c1 l1 : Int} {i : Nat} {v : Value} {w w' : World} (h : i < 8 → V16 qh c0 l0 c1 l1 i v w) : V16 qh c0 l0 c1 l1 i v w' := by
  by_cases h8 : i < 8
  · exact V16_w (h h8)
  · obtain ⟨j, rfl⟩ : ∃ j, i = j + 8 := ⟨i - 8, by omega⟩
    trivial
section
variable {A A' : Nat → Prop} {w w' : World} {g b n : Nat} {d : DS}
theorem own_lt {w : World} {base e size n : Nat} {v : Value} {xs : List Value} (h : w.ownsRow base e size v n xs) {k : Nat} (hk : v.ownBlock = some k) : k < w.heap.size ∧ ∃ cs, w.heap[k]? = some (.cells cs e (0, 0)) := by
  rcases h.2 with ⟨rfl, _⟩ | ⟨q, cap, cur, rfl, _, hh, _⟩
  · cases hk
  · injection hk with hk
    subst hk
    exact ⟨(Array.getElem?_eq_some_iff.1 hh).1, cur, hh⟩
theorem Dk.re (h : Dk A w g b n d) (hk : ∀ k, k < w.heap.size → A k → (∃ cs, w.heap[k]? = some (.cells cs 76 (0, 0))) → A' k) : Dk A' w g b n d := by
  obtain ⟨wv, h1, h2, h3⟩ := h.at_
  exact ⟨⟨wv, h1, h2, fun k e => hk k (own_lt h2 e).1 (h3 k e) (own_lt h2 e).2⟩, h.sec, h.bg, h.wl, h.nb, h.fb⟩
/-- What a disk may change ahead of a world, and all that is new. -/
def Rn (A : Nat → Prop) (s t : Nat) : Nat → Prop := fun k => (A k ∧ k < s) ∨ t ≤ k
theorem Dk.rn (h : Dk A w g b n d) (t : Nat) : Dk (Rn A w.heap.size t) w g b n d := h.re fun k hk ha _ => .inl ⟨ha, hk⟩
theorem Dk.unrn {s t : Nat} (h : Dk (Rn A s t) w g b n d) (hs : s ≤ t) (hA : ∀ k, s ≤ k → A k) : Dk A w g b n d := h.re fun k _ ha _ => ha.elim (·.1) (fun e => hA k (by omega))
theorem Frm.unrn {W1 W2 : World} {s : Nat} (j : Below s w W1) (hw : s = w.heap.size) (f : Frm (Rn A s W1.heap.size) g b W1 W2) : Frm A g b w W2 :=
  ⟨f.os.trans j.os, f.tape.trans j.tape, f.output.trans j.output, Nat.le_trans (by rw [← hw]; exact hw ▸ j.size) f.size, fun k hk h1 h2 h3 => (f.block k (Nat.lt_of_lt_of_le hk j.size) h1 h2 (fun e => e.elim (fun e => h3 e.1) (fun e => by have := j.size; omega))).trans (j.block k (by omega))⟩
theorem eraseA_len (n p : Nat) : (eraseA n p).length = 3 + nP ((n - 2) / 2 * 512) := by
  unfold eraseA
  simp only [List.length_append, List.length_cons, List.length_nil, layA_len, List.length_replicate]
  omega
/-- A part is erased. -/
theorem era (hD : Dk A w g b n d) (hA : ∀ k, w.heap.size ≤ k → A k) (hn : 4 ≤ n) (hn2 : n ≤ 100) (p : Nat) (hp : p < 2) (hW : d.W.length ≤ 1000) :
    Calls Try.prog 21 #[.pointer (some ⟨g, 0, none⟩), .int .i64 (p : Int)] w fun e w' => ∃ v, e = .returned v ∧ Below w.heap.size w w' ∧
      Calls Try.prog 20 #[v] w' fun e w'' => e = .returned (.bool (!(runA n d (eraseA n p)).1)) ∧ Dk A w'' g b n (runA n d (eraseA n p)).2 ∧ Frm A g b w w'' := by
  refine (erase21 hD hn hn2 p hp).mono ?_
  rintro e w3 ⟨v, m, vals, rfl, ho, b3, hF⟩
  refine ⟨v, rfl, b3, ?_⟩
  have hD3 := (hD.rn w3.heap.size).below b3
  have hfv := hF (Rn A w.heap.size w3.heap.size) (fun k h1 h2 h3 => h3.elim (fun e => by omega) (fun e => by omega))
  obtain ⟨so, c, rfl, hl, hfl⟩ := hfv.fl ho (fun k h1 h2 => ⟨h2, by have := hD.lt; omega, by have := hD.sec.lt; omega, fun h3 => h3.elim (fun e => by omega) (fun e => by omega)⟩)
  have H := all20 hD3 (fun k hk => .inr hk) hfl m c hl (by rw [hl, eraseA_len]; unfold nP; omega) hW
  refine H.mono ?_
  rintro e w4 ⟨rfl, h4, f4⟩
  exact ⟨rfl, h4.unrn b3.size hA, Frm.unrn b3 rfl f4⟩
end
end Go.Proofs.Ytjabkfccfecmgaa
