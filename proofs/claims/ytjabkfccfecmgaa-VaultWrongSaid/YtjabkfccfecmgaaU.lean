/- Put: what is needed. -/
import Derived.Test.YtjabkfccfecmgaaP2
namespace Go.Proofs.Ytjabkfccfecmgaa
open Go.ChangeShapes Go.WideShapes Go.ChangeAt Go.RowKit
set_option linter.unusedSimpArgs false
set_option linter.unusedVariables false
/-- A block of function values. -/
def T68 (w : World) (k : Nat) : Prop := ∃ cs f, w.heap[k]? = some (.cells cs 68 f)
section
variable {A A' : Nat → Prop} {w w' : World} {g b n : Nat} {d : DS}
theorem Ok.mono {k : Nat} (h : Ok A g b w k) (hA : ¬ A' k) : Ok A' g b w k := ⟨h.lt, h.ng, h.nb, hA⟩
theorem Obs.mono {ao : Option Addr} {B : List Byte} (h : Obs A g b w ao B) (hA : ∀ k, A' k → A k) : Obs A' g b w ao B :=
  ⟨h.nil, fun a ha j x hx => by obtain ⟨h1, h2⟩ := h.cells a ha j x hx; exact ⟨h1.mono (fun e => h1.na (hA _ e)), h2⟩⟩
theorem Fs.mono {v : Value} {a : Ac} (h : Fs A g b w v a) (hA : ∀ k, A' k → A k) : Fs A' g b w v a := by
  have ho : ∀ k, Ok A g b w k → Ok A' g b w k := fun k h => h.mono (fun e => h.na (hA _ e))
  cases a with
  | sy => exact h
  | wr i B =>
    rcases h with ⟨xd, xt, xp, ao, c, h1, h2, h3, h4, h5, h6, h7, h8⟩ | ⟨h0, xd, xi, h1, h2, h3, h4, h5⟩ | ⟨c, l, xv, vb, xp, xh, h1, h2, h3, h4, h5, h6, h7, h8, h9, h10, h11, h12⟩
    · exact .inl ⟨xd, xt, xp, ao, c, h1, ho _ h2, ho _ h3, ho _ h4, h5, h6, h7, h8.mono hA⟩
    · exact .inr (.inl ⟨h0, xd, xi, h1, ho _ h2, ho _ h3, h4, h5⟩)
    · exact .inr (.inr ⟨c, l, xv, vb, xp, xh, h1, h2, h3, ho _ h4, ho _ h5, ho _ h6, ho _ h7, h8, h9, h10, h11, h12⟩)
theorem Fv.mono {vals : List Value} {L : List Ac} (h : Fv A g b w vals L) (hA : ∀ k, A' k → A k) : Fv A' g b w vals L :=
  ⟨h.len, fun j a ha => by obtain ⟨v, h1, h2⟩ := h.each j a ha; exact ⟨v, h1, h2.mono hA⟩⟩
/-- Function values that do steps, as long as what is not a block of function values stays. -/
def Fz (B g vb : Nat) (ao : Option Addr) (D : List Byte) (w : World) (vals : List Value) (L : List Ac) : Prop :=
  ∀ (A : Nat → Prop) (b : Nat), (∀ k, B ≤ k → k < w.heap.size → ¬ T68 w k → Ok A g b w k) → Ok A g b w vb → Obs A g b w ao D → Fv A g b w vals L
theorem Fz.grow {B g vb : Nat} {ao : Option Addr} {D : List Byte} {vals : List Value} {L : List Ac} (h : Fz B g vb ao D w vals L) (r : Option Nat) (j : w.grownBy w' r) (hr : ∀ q, r = some q → B ≤ q ∧ T68 w q) (hv : vb < B) (hb : ∀ a, ao = some a → D ≠ [] → a.block < B) (hB : B ≤ w.heap.size) : Fz B g vb ao D w' vals L := by
  intro A b hk hvb hobs
  have same : ∀ k, k < w.heap.size → r ≠ some k → w'.heap[k]? = w.heap[k]? := fun k h1 h2 => j.block k h1 (Ne.symm h2)
  have Q := h (fun k => A k ∨ r = some k) b (fun k h1 h2 h3 => ?_) ?_ ?_
  · refine (Q.frm (w' := w') ⟨j.os, j.tape, j.output, j.size, fun k h1 _ _ h2 => same k h1 (fun e => h2 (.inr e))⟩).mono fun k e => .inl e
  · have hne : r ≠ some k := fun e => h3 (hr k e).2
    have o := hk k h1 (Nat.lt_of_lt_of_le h2 j.size) (fun ⟨cs, f, e⟩ => h3 ⟨cs, f, by rw [← same k h2 hne]; exact e⟩)
    exact ⟨h2, o.ng, o.nb, fun e => e.elim o.na hne⟩
  · exact ⟨by omega, hvb.ng, hvb.nb, fun e => e.elim hvb.na (fun e => by have := (hr _ e).1; omega)⟩
  · refine ⟨hobs.nil, fun a ha i x hx => ?_⟩
    obtain ⟨o, hc⟩ := hobs.cells a ha i x hx
    have hlt := hb a ha (by rintro rfl; simp at hx)
    have hne : r ≠ some a.block := fun e => by have := (hr _ e).1; omega
    exact ⟨⟨by omega, o.ng, o.nb, fun e => e.elim o.na hne⟩, (World.cell?_of_block (by rw [add_block]; exact same _ (by omega) hne)).symm.trans hc⟩
theorem Fz.below {B g vb : Nat} {ao : Option Addr} {D : List Byte} {vals : List Value} {L : List Ac} (h : Fz B g vb ao D w vals L) (j : Below w.heap.size w w') (hv : vb < B) (hb : ∀ a, ao = some a → D ≠ [] → a.block < B) (hB : B ≤ w.heap.size) : Fz B g vb ao D w' vals L :=
  h.grow none ⟨j.os, j.tape, j.output, j.size, fun k hk _ => j.block k hk⟩ (fun q e => by cases e) hv hb hB
theorem Fz.app {B g vb : Nat} {ao : Option Addr} {D : List Byte} {v1 v2 : List Value} {L1 L2 : List Ac} (h : Fz B g vb ao D w v1 L1) (k : Fz B g vb ao D w v2 L2) : Fz B g vb ao D w (v1 ++ v2) (L1 ++ L2) := fun A b h1 h2 h3 => (h A b h1 h2 h3).app (k A b h1 h2 h3)
theorem not68 {w : World} {k : Nat} {cs : Array Value} {t : TypeId} {f : Nat × Nat} (h : w.heap[k]? = some (.cells cs t f)) (ht : t ≠ 68) : ¬ T68 w k := fun ⟨cs', f', e⟩ => by
  rw [h] at e
  injection e with e
  injection e with e1 e2
  exact ht e2
/-- What lay leaves are steps. -/
theorem LI.fz {w0 Y X : World} {ql qa qd g at_ vb B : Nat} {ad : Addr} {ao : Option Addr} {D : List Byte} (h : LI w0 Y ql qa qd g at_ ad D.length (List.range (nP D.length)) X) {lv : Value} (hl : X.heap[ql]? = some (.cells #[lv] 51 (0, 0))) (hqd : B ≤ qd) (hY : B ≤ Y.heap.size)
    (hao : 0 < D.length → ao = some ad) : ∃ vals, X.ownsRow Y.heap.size 68 1 lv (nP D.length) vals ∧ Fz B g vb ao D X vals (layA at_ D) := by
  obtain ⟨lv2, vals, h1, h2, h3⟩ := h.l
  rw [hl] at h1
  injection h1 with h1
  injection h1 with h1
  have e : lv = lv2 := by simpa using h1
  subst e
  rw [List.length_range] at h2
  refine ⟨vals, h2, fun A b hk _ hB => ⟨by rw [layA_len]; have := h2.1; omega, fun j a ha => ?_⟩⟩
  rw [layA, List.getElem?_map] at ha
  have hj : j < nP D.length := by
    rcases Nat.lt_or_ge j (nP D.length) with x | x
    · exact x
    · rw [List.getElem?_eq_none (by simpa using x)] at ha; cases ha
  rw [List.getElem?_range hj] at ha
  simp only [Option.map_some, Option.some.injEq] at ha
  subst ha
  obtain ⟨v, e1, xt, xp, e2, e3, e4, e5, e6⟩ := h3 j j (List.getElem?_range hj)
  have l5 := (Array.getElem?_eq_some_iff.1 e5).1
  have l6 := (Array.getElem?_eq_some_iff.1 e6).1
  have ld := (Array.getElem?_eq_some_iff.1 h.d).1
  refine ⟨v, e1, .inl ⟨qd, xt, xp, some (ad.add (512 * j)), pl D.length j, e2, hk qd hqd ld (not68 h.d (by decide)), hk xt (by omega) l5 (not68 e5 (by decide)), hk xp (by omega) l6 (not68 e6 (by decide)), by rw [cell_of_row _ _ _ _ _ _ h.d]; rfl, by rw [cell_of_row _ _ _ _ _ _ e5]; rfl, by rw [cell_of_row _ _ _ _ _ _ e6, chk_len]; rfl, (fun e => by cases e), fun x hx i y hy => ?_⟩⟩
  injection hx with hx
  subst hx
  unfold chk at hy
  rw [List.getElem?_take] at hy
  split at hy
  · rw [List.getElem?_drop] at hy
    have hDl := (List.getElem?_eq_some_iff.1 hy).1
    obtain ⟨k1, k2⟩ := hB.cells ad (hao (by omega)) (512 * j + i) y hy
    exact ⟨by rw [add_block]; exact k1, by rw [add_add]; exact k2⟩
  · cases hy

set_option maxRecDepth 20000 in
/-- The room of a vault. -/
theorem room11 (hD : Dk A w g b n d) (hn : 2 ≤ n) (hn2 : n ≤ 100) {vb : Nat} {c : Value} {dd : Value} (hv : w.heap[vb]? = some (.cells #[.pointer (some ⟨g, 0, none⟩), c, dd] 57 (0, 0))) :
    Calls Try.prog 11 #[.pointer (some ⟨vb, 0, none⟩)] w fun e w' => e = .returned (.int .i64 (((n - 2) / 2 * 512 : Nat) : Int)) ∧ w' = w := by
  have H := sectors29 hD hn
  have c0 : w.cell? ⟨vb, 0, none⟩ = some (.pointer (some ⟨g, 0, none⟩)) := by rw [cell_of_row _ _ _ _ _ _ hv]; rfl
  obtain ⟨sc, hsc⟩ : ∃ sc, sc = (n - 2) / 2 := ⟨_, rfl⟩
  rw [← hsc] at H ⊢
  have e1 : IntKind.i64.wrap ((sc : Int) * 512) = ((sc * 512 : Nat) : Int) := by rw [IntWalk.i64_in _ (by omega)]; push_cast; rfl
  have HE := Lib.hid (And.intro hsc e1)
  clear hD hn hn2 hsc
  go_enter Try.func11, Try.ntmps11
  go_wp2_with (first
    | (go_at_call 29; (with_reducible refine H.mono ?_); rintro e w1 ⟨rfl, hw⟩; obtain rfl : w = w1 := hw.symm))
  go_ret
  exact ⟨by push_cast; rfl, rfl⟩
end
end Go.Proofs.Ytjabkfccfecmgaa
