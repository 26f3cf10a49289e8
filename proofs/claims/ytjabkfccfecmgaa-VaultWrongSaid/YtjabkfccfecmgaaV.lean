/- Put: its steps. -/
import Derived.Test.YtjabkfccfecmgaaU
namespace Go.Proofs.Ytjabkfccfecmgaa
open Go.ChangeShapes Go.WideShapes Go.ChangeAt Go.RowKit
set_option linter.unusedSimpArgs false
set_option linter.unusedVariables false
/-- The first steps of Put. -/
def putA (n c : Nat) (D : List Byte) : List Ac := layA (2 + c % 2 * ((n - 2) / 2)) D ++ [.sy, .wr (c % 2) (hd c D.length), .sy]
/-- The steps of Put: c is the new number. -/
def putS (n c : Nat) (D : List Byte) : List Ac := putA n c D ++ eraseA n (1 - c % 2)
theorem putA_len (n c : Nat) (D : List Byte) : (putA n c D).length = nP D.length + 3 := by simp [putA, layA_len]
theorem putS_len (n c : Nat) (D : List Byte) : (putS n c D).length = nP D.length + 6 + nP ((n - 2) / 2 * 512) := by
  unfold putS; rw [List.length_append, putA_len, eraseA_len]; omega
section
variable {A A' : Nat → Prop} {w w' w0 w9 w1 : World} {g b n vb : Nat} {d : DS}
theorem Fv.conv {vals : List Value} {L : List Ac} (h : Fv A g b w vals L) (hA : ∀ k, Ok A g b w k → Ok A' g b w k) : Fv A' g b w vals L := by
  refine ⟨h.len, fun j a ha => ?_⟩
  obtain ⟨v, h1, h2⟩ := h.each j a ha
  refine ⟨v, h1, ?_⟩
  cases a with
  | sy => exact h2
  | wr i B =>
    rcases h2 with ⟨xd, xt, xp, ao, c, h1, h2, h3, h4, h5, h6, h7, h8⟩ | ⟨h0, xd, xi, h1, h2, h3, h4, h5⟩ | ⟨c, l, xv, vb, xp, xh, h1, h2, h3, h4, h5, h6, h7, h8, h9, h10, h11, h12⟩
    · exact .inl ⟨xd, xt, xp, ao, c, h1, hA _ h2, hA _ h3, hA _ h4, h5, h6, h7, h8.nil, fun a ha j x hx => ⟨hA _ (h8.cells a ha j x hx).1, (h8.cells a ha j x hx).2⟩⟩
    · exact .inr (.inl ⟨h0, xd, xi, h1, hA _ h2, hA _ h3, h4, h5⟩)
    · exact .inr (.inr ⟨c, l, xv, vb, xp, xh, h1, h2, h3, hA _ h4, hA _ h5, hA _ h6, hA _ h7, h8, h9, h10, h11, h12⟩)
/-- What erase left. -/
def P8 (g b n p2 : Nat) (w9 : World) (v : Value) (w : World) : Prop :=
  ∃ so m c vals, v = .slice so m c ∧ w.ownsRow w9.heap.size 68 1 v m vals ∧ Fv (fun k => k < w9.heap.size) g b w vals (eraseA n p2)
/-- All steps. -/
def P9 (g b vb : Nat) (ao : Option Addr) (D : List Byte) (w0 : World) (L : List Ac) (v : Value) (w : World) : Prop :=
  ∃ so m c vals, v = .slice so m c ∧ m = L.length ∧ w.ownsRow w0.heap.size 68 1 v m vals ∧ Below w0.heap.size w0 w ∧
    ∀ A' : Nat → Prop, (∀ k, w0.heap.size ≤ k → k < w.heap.size → Ok A' g b w k) → Ok A' g b w vb → Obs A' g b w ao D → Fv A' g b w vals L
theorem put_app {p2 : Nat} {ao sa sb : Option Addr} {D : List Byte} {N8 c8 m c : Nat} {vals8 : List Value} {L8 : List Ac} (b9 : Below w0.heap.size w0 w9) (h1 : Below w9.heap.size w9 w1) (own8 : w9.ownsRow w0.heap.size 68 1 (.slice sa N8 c8) N8 vals8) (fz : Fz w0.heap.size g vb ao D w9 vals8 L8) (hN : N8 = L8.length)
    (hv : vb < w0.heap.size) (hb : ∀ a, ao = some a → D ≠ [] → a.block < w0.heap.size) (hp : P8 g b n p2 w9 (.slice sb m c) w1) :
    ∃ vals2 : List Value, w1.ownsRow w0.heap.size 68 1 (.slice sa N8 c8) N8 vals8 ∧ Srow w1 sb m vals2 ∧ m = (eraseA n p2).length ∧
      ∀ v' w', w'.ownsRow w0.heap.size 68 1 v' (N8 + m) (vals8 ++ vals2) → w1.grownBy w' (Value.slice sa N8 c8).ownBlock → P9 g b vb ao D w0 (L8 ++ eraseA n p2) v' w' := by
  obtain ⟨so', m', c', vals2, e, o2, f2⟩ := hp
  injection e with e1 e2 e3
  subst e1 e2 e3
  have o1 : w1.ownsRow w0.heap.size 68 1 (.slice sa N8 c8) N8 vals8 := rowKeep own8 fun q hq => h1.block q (own_lt own8 hq).1
  have hm : m = (eraseA n p2).length := by rw [← f2.len]; have := o2.1; omega
  refine ⟨vals2, o1, srow_own o2 f2.one, hm, fun v' w' ho hg => ?_⟩
  obtain ⟨a9, c9, rfl⟩ := row_form ho
  have hs9 := b9.size
  have hs1 := h1.size
  have hr : ∀ q, (Value.slice sa N8 c8).ownBlock = some q → w0.heap.size ≤ q ∧ T68 w1 q ∧ q < w9.heap.size := fun q hq => by
    obtain ⟨l1, cs, l2⟩ := own_lt own8 hq
    refine ⟨?_, ⟨cs, _, (h1.block q l1).trans l2⟩, l1⟩
    rcases own8.2 with ⟨e, _⟩ | ⟨q', cap, cur, e, hb, _⟩
    · rw [e] at hq; cases hq
    · rw [e] at hq; injection hq with hq; rw [← hq]; exact hb
  have b2 : Below w0.heap.size w0 w' := (below_then b9 h1).grown hg (by omega) (fun q e => (hr q e).1)
  refine ⟨a9, _, c9, _, rfl, by rw [List.length_append, ← hN, ← hm], ho, b2, fun A' hk hvb hobs => ?_⟩
  have fz1 : Fz w0.heap.size g vb ao D w1 vals8 L8 := fz.below h1 hv hb hs9
  have fz2 : Fz w0.heap.size g vb ao D w' vals8 L8 := fz1.grow _ hg (fun q e => ⟨(hr q e).1, (hr q e).2.1⟩) hv hb (by omega)
  refine (fz2 A' b (fun k h1 h2 _ => hk k h1 h2) hvb hobs).app ?_
  have f3 : Fv (fun k => k < w9.heap.size) g b w' vals2 (eraseA n p2) := f2.frm ⟨hg.os, hg.tape, hg.output, hg.size, fun k h1 _ _ h2 => hg.block k h1 (fun e => h2 (hr k e.symm).2.2)⟩
  exact f3.conv fun k o => hk k (by have := o.na; omega) o.lt
theorem put_run (hD : Dk A w0 g b n d) (hA : ∀ k, w0.heap.size ≤ k → A k) (hW : d.W.length ≤ 1000) {ao : Option Addr} {D : List Byte} {L : List Ac} (hL : L.length ≤ 1000) {v : Value} (h : P9 g b vb ao D w0 L v w1) (hvb : Ok A g b w0 vb) (hobs : Obs A g b w0 ao D) :
    Calls Try.prog 20 #[v] w1 fun e w2 => e = .returned (.bool (!(runA n d L).1)) ∧ Dk A w2 g b n (runA n d L).2 ∧ Frm A g b w0 w2 ∧ ∀ k, w0.heap.size ≤ k → k < w1.heap.size → w2.heap[k]? = w1.heap[k]? := by
  obtain ⟨so, m, c, vals, rfl, hm, ho, b1, hF⟩ := h
  have hD3 := (hD.rn w1.heap.size).below b1
  have hs := b1.size
  have hgl := hD.lt
  have hbl := hD.sec.lt
  have na : ∀ k, w0.heap.size ≤ k → k < w1.heap.size → ¬ Rn A w0.heap.size w1.heap.size k := fun k h1 h2 e => e.elim (fun e => by omega) (fun e => by omega)
  have ok : ∀ k, w0.heap.size ≤ k → k < w1.heap.size → Ok (Rn A w0.heap.size w1.heap.size) g b w1 k := fun k h1 h2 => ⟨h2, by omega, by omega, na k h1 h2⟩
  have old : ∀ k, Ok A g b w0 k → Ok (Rn A w0.heap.size w1.heap.size) g b w1 k := fun k o => ⟨Nat.lt_of_lt_of_le o.lt hs, o.ng, o.nb, fun e => e.elim (fun e => o.na e.1) (fun e => by have := o.lt; omega)⟩
  have f1 := hF _ ok (old _ hvb) ⟨hobs.nil, fun a ha j x hx => ⟨old _ (hobs.cells a ha j x hx).1, (World.cell?_of_block (by rw [add_block]; exact b1.block _ (hobs.cells a ha j x hx).1.lt)).trans (hobs.cells a ha j x hx).2⟩⟩
  obtain ⟨so2, c2, e, hl, hfl⟩ := f1.fl ho ok
  injection e with e1 e2 e3
  subst e1 e3
  refine (all20 hD3 (fun k hk => .inr hk) hfl m c hm (by omega) hW).mono ?_
  rintro e w4 ⟨rfl, h4, f4⟩
  exact ⟨rfl, h4.unrn hs hA, Frm.unrn b1 rfl f4, fun k h1 h2 => f4.block k h2 (by omega) (by omega) (na k h1 h2)⟩
end
end Go.Proofs.Ytjabkfccfecmgaa
