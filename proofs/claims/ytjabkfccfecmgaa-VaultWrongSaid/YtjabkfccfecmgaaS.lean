/- Steps: what each does to a disk; all of them, until one fails. -/
import Derived.Test.YtjabkfccfecmgaaL
import Derived.Shelf.Abstract
namespace Go.Proofs.Ytjabkfccfecmgaa
open Go.ChangeShapes Go.WideShapes Go.ChangeAt Go.RowKit
set_option linter.unusedSimpArgs false
set_option linter.unusedVariables false
inductive Ac where
  | wr (i : Nat) (B : Sct)
  | sy
def synced (d : DS) : DS := { d with S := fin d.S d.W, W := [] }
def act (n : Nat) (d : DS) : Ac → Int × DS
  | .wr i B => wrote n d i B
  | .sy => if d.down then (201, d) else (0, synced d)
/-- A block that a disk leaves alone. -/
structure Ok (A : Nat → Prop) (g b : Nat) (w : World) (k : Nat) : Prop where
  lt : k < w.heap.size
  ng : k ≠ g
  nb : k ≠ b
  na : ¬ A k
section
variable {A : Nat → Prop} {w w' : World} {g b n k : Nat} {d : DS}
theorem Ok.keep (h : Ok A g b w k) (f : Frm A g b w w') : w'.heap[k]? = w.heap[k]? := f.block k h.lt h.ng h.nb h.na
theorem Ok.frm (h : Ok A g b w k) (f : Frm A g b w w') : Ok A g b w' k := ⟨Nat.lt_of_lt_of_le h.lt f.size, h.ng, h.nb, h.na⟩
theorem Ok.cell (h : Ok A g b w k) (f : Frm A g b w w') {i : Nat} {v : Value} (hc : w.cell? ⟨k, i, none⟩ = some v) : w'.cell? ⟨k, i, none⟩ = some v :=
  (World.cell?_of_block (a := ⟨k, i, none⟩) (h.keep f)).trans hc
/-- Bytes that a disk leaves alone. -/
structure Obs (A : Nat → Prop) (g b : Nat) (w : World) (ao : Option Addr) (B : List Byte) : Prop where
  nil : ao = none → B = []
  cells : ∀ a, ao = some a → ∀ (j : Nat) x, B[j]? = some x → Ok A g b w a.block ∧ w.cell? (a.add j) = some (c8 x)
theorem Obs.frm {ao : Option Addr} {B : List Byte} (h : Obs A g b w ao B) (f : Frm A g b w w') : Obs A g b w' ao B :=
  ⟨h.nil, fun a ha j x hx => by
    obtain ⟨h1, h2⟩ := h.cells a ha j x hx
    exact ⟨h1.frm f, (World.cell?_of_block (by rw [add_block]; exact h1.keep f)).trans h2⟩⟩
theorem Obs.byg {ao : Option Addr} {B : List Byte} (h : Obs A g b w ao B) : Byg g w ao B :=
  ⟨h.nil, fun a ha j x hx => ⟨(h.cells a ha j x hx).1.ng, (h.cells a ha j x hx).2⟩⟩
/-- What a function value does. -/
def Fs (A : Nat → Prop) (g b : Nat) (w : World) (v : Value) : Ac → Prop
  | .sy => v = .func (.func 25) #[.pointer (some ⟨g, 0, none⟩)] #[]
  | .wr i B =>
    (∃ xd xt xp ao c, v = .func (.func 40) #[] #[.pointer (some ⟨xd, 0, none⟩), .pointer (some ⟨xt, 0, none⟩), .pointer (some ⟨xp, 0, none⟩)] ∧ Ok A g b w xd ∧ Ok A g b w xt ∧ Ok A g b w xp ∧
      w.cell? ⟨xd, 0, none⟩ = some (.pointer (some ⟨g, 0, none⟩)) ∧ w.cell? ⟨xt, 0, none⟩ = some (.int .i64 (i : Int)) ∧ w.cell? ⟨xp, 0, none⟩ = some (.slice ao B.length c) ∧ Obs A g b w ao B) ∨
    (B = [] ∧ ∃ xd xi, v = .func (.func 35) #[] #[.pointer (some ⟨xd, 0, none⟩), .pointer (some ⟨xi, 0, none⟩)] ∧ Ok A g b w xd ∧ Ok A g b w xi ∧
      w.cell? ⟨xd, 0, none⟩ = some (.pointer (some ⟨g, 0, none⟩)) ∧ w.cell? ⟨xi, 0, none⟩ = some (.int .i64 (i : Int))) ∨
    (∃ c l xv vb xp xh, v = .func (.func 26) #[] #[.pointer (some ⟨xv, 0, none⟩), .pointer (some ⟨xp, 0, none⟩), .pointer (some ⟨xh, 0, none⟩)] ∧ B = hd c l ∧ (c < 2 ^ 63 ∧ l < 2 ^ 24) ∧ Ok A g b w xv ∧ Ok A g b w vb ∧ Ok A g b w xp ∧ Ok A g b w xh ∧
      w.cell? ⟨xv, 0, none⟩ = some (.pointer (some ⟨vb, 0, none⟩)) ∧ w.cell? ⟨vb, 0, none⟩ = some (.pointer (some ⟨g, 0, none⟩)) ∧ w.cell? ⟨xp, 0, none⟩ = some (.int .i64 (i : Int)) ∧ w.cell? ⟨xh, 0, none⟩ = some (.int .i64 (c : Int)) ∧ w.cell? ⟨xh, 1, none⟩ = some (.int .i64 (l : Int)))
theorem Fs.frm {v : Value} {a : Ac} (h : Fs A g b w v a) (f : Frm A g b w w') : Fs A g b w' v a := by
  cases a with
  | sy => exact h
  | wr i B =>
    rcases h with ⟨xd, xt, xp, ao, c, h1, h2, h3, h4, h5, h6, h7, h8⟩ | ⟨h0, xd, xi, h1, h2, h3, h4, h5⟩ | ⟨c, l, xv, vb, xp, xh, h1, h2, h3, h4, h5, h6, h7, h8, h9, h10, h11, h12⟩
    · exact .inl ⟨xd, xt, xp, ao, c, h1, h2.frm f, h3.frm f, h4.frm f, h2.cell f h5, h3.cell f h6, h4.cell f h7, h8.frm f⟩
    · exact .inr (.inl ⟨h0, xd, xi, h1, h2.frm f, h3.frm f, h2.cell f h4, h3.cell f h5⟩)
    · exact .inr (.inr ⟨c, l, xv, vb, xp, xh, h1, h2, h3, h4.frm f, h5.frm f, h6.frm f, h7.frm f, h4.cell f h8, h5.cell f h9, h6.cell f h10, h7.cell f h11, h7.cell f h12⟩)
/-- What a step leaves. -/
def Stp (A : Nat → Prop) (g b n : Nat) (d : DS) (a : Ac) (w : World) (e : Ending) (w' : World) : Prop := e = .returned (.int .i64 (act n d a).1) ∧ Dk A w' g b n (act n d a).2 ∧ Frm A g b w w'
theorem lay40 (hD : Dk A w g b n d) (hA : ∀ k, w.heap.size ≤ k → A k) (hW : d.W.length ≤ 1000000) (i : Nat) (B : Sct) (xd xt xp : Nat) (ao : Option Addr) (m c : Nat) (hm : m = B.length)
    (h1 : w.cell? ⟨xd, 0, none⟩ = some (.pointer (some ⟨g, 0, none⟩))) (h2 : w.cell? ⟨xt, 0, none⟩ = some (.int .i64 (i : Int))) (h3 : w.cell? ⟨xp, 0, none⟩ = some (.slice ao m c)) (hB : Byg g w ao B) :
    Calls Try.prog 40 #[.pointer (some ⟨xd, 0, none⟩), .pointer (some ⟨xt, 0, none⟩), .pointer (some ⟨xp, 0, none⟩)] w (Stp A g b n d (.wr i B) w) := by
  have H := write10 A w g b n d hD hA i ao m c B hm hB hW
  have HD := Lib.hid hD
  clear hD hA hm hB
  go_enter Try.func40, Try.ntmps40
  go_wp2_with (first
    | (go_at_call 27; (with_reducible refine H.mono ?_); rintro e w1 ⟨rfl, d1, f1⟩; have HR := Lib.hid (And.intro d1 f1); clear d1 f1 H))
  go_ret
  exact ⟨rfl, HR.out⟩
theorem erase35 (hD : Dk A w g b n d) (hA : ∀ k, w.heap.size ≤ k → A k) (hW : d.W.length ≤ 1000000) (i : Nat) (xd xt : Nat)
    (h1 : w.cell? ⟨xd, 0, none⟩ = some (.pointer (some ⟨g, 0, none⟩))) (h2 : w.cell? ⟨xt, 0, none⟩ = some (.int .i64 (i : Int))) :
    Calls Try.prog 35 #[.pointer (some ⟨xd, 0, none⟩), .pointer (some ⟨xt, 0, none⟩)] w (Stp A g b n d (.wr i []) w) := by
  have H := write10 A w g b n d hD hA i none 0 0 [] rfl ⟨fun _ => rfl, fun a ha => by cases ha⟩ hW
  have HD := Lib.hid hD
  clear hD hA
  go_enter Try.func35, Try.ntmps35
  go_wp2_with (first
    | (go_at_call 27; (with_reducible refine H.mono ?_); rintro e w1 ⟨rfl, d1, f1⟩; have HR := Lib.hid (And.intro d1 f1); clear d1 f1 H))
  go_ret
  exact ⟨rfl, HR.out⟩
theorem sync25 (hD : Dk A w g b n d) (hA : ∀ k, w.heap.size ≤ k → A k) : Calls Try.prog 25 #[.pointer (some ⟨g, 0, none⟩)] w (Stp A g b n d .sy w) := by
  cases hd : d.down with
  | true =>
    refine (sync14n A w g b n d hD hd).mono ?_
    rintro e w' ⟨rfl, rfl⟩
    unfold Stp act
    rw [hd]
    exact ⟨rfl, hD, Frm.refl _ _ _ _⟩
  | false =>
    refine (sync14 A w g b n d hD hA hd).mono ?_
    rintro e w' ⟨rfl, h1, h2⟩
    unfold Stp act
    rw [hd]
    exact ⟨rfl, h1, h2⟩
end
end Go.Proofs.Ytjabkfccfecmgaa
