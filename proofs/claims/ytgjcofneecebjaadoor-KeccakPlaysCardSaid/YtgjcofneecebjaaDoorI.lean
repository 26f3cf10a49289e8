/- Both sponges side by side, and the calls that came in. -/
import Derived.Test.YtgjcofneecebjaaDoorO
import Derived.Test.YtgjcofneecebjaaDoorL5
import Derived.Test.YtgjcofneecebjaaDoorL4
namespace Go.Proofs.YtgjcofneecebjaaDoor
open Go.ChangeShapes Go.WideShapes Go.ChangeAt Go.RowKit
set_option linter.unusedSimpArgs false
set_option linter.unusedVariables false
structure P3 (w0 : World) (rt : Nat) (en : Int) (g h : Nat) (s : St) (gv : Bool) (t : St) (hv : Bool) (lo : Option Addr) (Os : List Opn) (w : World) : Prop where
  sp : Spg w g rt en s.1 s.2 gv
  sr : Spr w h rt en (Zt t.1) t.2 hv
  tk : TK w
  ox : Opl w0.heap.size w lo Os
  k : Below w0.heap.size w0 w
  o1 : w0.heap.size ≤ g
  o2 : w0.heap.size ≤ h
  ne : g ≠ h
  z : 3 ≤ w0.heap.size
section
variable {w0 w w' : World} {rt g h : Nat} {en : Int} {s t s' t' : St} {gv hv gv' hv' : Bool} {lo : Option Addr} {Os : List Opn}
theorem P3.wg (p : P3 w0 rt en g h s gv t hv lo Os w) (j : w.grownBy w' (some g)) (hs : Spg w' g rt en s'.1 s'.2 gv') : P3 w0 rt en g h s' gv' t hv lo Os w' :=
  ⟨hs, p.sr.grown j (fun e => by injection e with e; exact p.ne e.symm), p.tk.grown j (fun b e => by injection e with e; have := p.o1; have := p.z; omega), p.ox.grown j (fun b e => by injection e with e; have := p.o1; omega),
    p.k.grown j p.k.size (fun b e => by injection e with e; have := p.o1; omega), p.o1, p.o2, p.ne, p.z⟩
theorem P3.wh (p : P3 w0 rt en g h s gv t hv lo Os w) (j : w.grownBy w' (some h)) (hs : Spr w' h rt en (Zt t'.1) t'.2 hv') : P3 w0 rt en g h s gv t' hv' lo Os w' :=
  ⟨p.sp.grown j (fun e => by injection e with e; exact p.ne e), hs, p.tk.grown j (fun b e => by injection e with e; have := p.o2; have := p.z; omega), p.ox.grown j (fun b e => by injection e with e; have := p.o2; omega),
    p.k.grown j p.k.size (fun b e => by injection e with e; have := p.o2; omega), p.o1, p.o2, p.ne, p.z⟩
theorem P3.below (p : P3 w0 rt en g h s gv t hv lo Os w) (j : Below w.heap.size w w') : P3 w0 rt en g h s gv t hv lo Os w' :=
  ⟨p.sp.below j p.sp.lt, p.sr.below j p.sr.lt, p.tk.below j p.tk.lt, p.ox.below j p.k.size, p.k.trans (j.mono p.k.size), p.o1, p.o2, p.ne, p.z⟩
end
/-- What a sponge is like. -/
structure Okk (rt : Nat) (s : St) (gv : Bool) : Prop where
  le : s.2 ≤ rt
  lt : gv = false → s.2 < rt
  bd : ∀ i, i < 25 → Bd (s.1 i)
/-- What Read leaves. -/
def nxt (rt : Nat) (en : Int) (s : St) (gv : Bool) (z : Int) : List (BitVec 8) × St × Bool :=
  if z < 0 ∨ 65536 < z then ([], s, gv) else ((gives rt (if gv then s else pad rt en s) z.toNat).1, (gives rt (if gv then s else pad rt en s) z.toNat).2, true)
def wrt (rt : Nat) (s : St) (gv : Bool) (D : List (BitVec 8)) : St := if gv then s else takes rt s D
theorem Okk.nxt {rt : Nat} {s : St} {gv : Bool} (h : Okk rt s gv) (h8 : 8 ≤ rt) (en z : Int) : Okk rt (nxt rt en s gv z).2.1 (nxt rt en s gv z).2.2 := by
  unfold Go.Proofs.YtgjcofneecebjaaDoor.nxt
  split
  · exact h
  · have key : ∀ s0 : St, s0.2 ≤ rt → (∀ i, i < 25 → Bd (s0.1 i)) → Okk rt (gives rt s0 z.toNat).2 true := fun s0 h1 h2 => ⟨gives_le (by omega) h1 _, (fun e => by cases e), gives_bd h2 _⟩
    cases gv with
    | true => exact key s h.le h.bd
    | false => exact key (pad rt en s) (Nat.zero_le _) (pad_bd h.bd)
theorem Okk.wrt {rt : Nat} {s : St} {gv : Bool} (h : Okk rt s gv) (h8 : 8 ≤ rt) (D : List (BitVec 8)) : Okk rt (wrt rt s gv D) gv := by
  unfold Go.Proofs.YtgjcofneecebjaaDoor.wrt
  cases gv with
  | true => exact h
  | false => exact ⟨Nat.le_of_lt (takes_lt (by omega) (h.lt rfl) D), fun _ => takes_lt (by omega) (h.lt rfl) D, takes_bd h.bd D⟩
/-- Bytes that lie in none of two blocks. -/
structure Y2 (w : World) (g h : Nat) (ao : Option Addr) (D : List (BitVec 8)) : Prop where
  nil : ao = none → D = []
  cells : ∀ a, ao = some a → a.block < w.heap.size ∧ a.block ≠ g ∧ a.block ≠ h ∧ ∀ (j : Nat) x, D[j]? = some x → w.cell? (a.add j) = some (c8 x)
/-- All blocks but two are as they were. -/
structure Rel2 (g h : Nat) (w w' : World) : Prop where
  size : w.heap.size ≤ w'.heap.size
  block : ∀ k, k < w.heap.size → k ≠ g → k ≠ h → w'.heap[k]? = w.heap[k]?
theorem Rel2.refl (g h : Nat) (w : World) : Rel2 g h w w := ⟨Nat.le_refl _, fun _ _ _ _ => rfl⟩
theorem Rel2.g {g h : Nat} {w w' : World} (j : w.grownBy w' (some g)) : Rel2 g h w w' := ⟨j.size, fun k hk h1 h2 => j.block k hk (fun e => h1 (by injection e))⟩
theorem Rel2.h {g h : Nat} {w w' : World} (j : w.grownBy w' (some h)) : Rel2 g h w w' := ⟨j.size, fun k hk h1 h2 => j.block k hk (fun e => h2 (by injection e))⟩
theorem Y2.keep {w w' : World} {g h : Nat} {ao : Option Addr} {D : List (BitVec 8)} (y : Y2 w g h ao D) (r : Rel2 g h w w') : Y2 w' g h ao D :=
  ⟨y.nil, fun a ha => by
    obtain ⟨h1, h2, h3, h4⟩ := y.cells a ha
    exact ⟨Nat.lt_of_lt_of_le h1 r.size, h2, h3, fun j x hx => (World.cell?_of_block (by rw [add_block]; exact r.block _ h1 h2 h3)).trans (h4 j x hx)⟩⟩
theorem Y2.byt {w : World} {g h : Nat} {ao : Option Addr} {D : List (BitVec 8)} (y : Y2 w g h ao D) : Byt w g ao D :=
  ⟨y.nil, fun a ha => by
    obtain ⟨h1, h2, h3, h4⟩ := y.cells a ha
    exact ⟨h1, h2, h4⟩⟩
theorem y2_own {w : World} {base n g h : Nat} {v : Value} {T : List (BitVec 8)} (o : Own w base v n T) (hg : g < base) (hh : h < base) (hn : n = T.length) : ∃ ao c, v = .slice ao T.length c ∧ Y2 w g h ao T := by
  obtain ⟨ao, c, rfl, hy⟩ := own_form o
  subst hn
  exact ⟨ao, c, rfl, (hy g hg).nil, fun a ha => ⟨((hy g hg).cells a ha).1, ((hy g hg).cells a ha).2.1, ((hy h hh).cells a ha).2.1, ((hy g hg).cells a ha).2.2⟩⟩
section
variable {w0 w w' : World} {rt g h : Nat} {en : Int} {s t s' t' : St} {gv hv gv' hv' : Bool} {lo : Option Addr} {Os : List Opn}
theorem nxt_bad {z : Int} (hz : z < 0 ∨ 65536 < z) : nxt rt en s gv z = ([], s, gv) := if_pos hz
theorem nxt_good {n : Nat} (hz : n ≤ 65536) : nxt rt en s gv n = ((gives rt (if gv then s else pad rt en s) n).1, (gives rt (if gv then s else pad rt en s) n).2, true) := by
  unfold nxt
  rw [if_neg (by omega)]
  rfl
theorem rd14 (p : P3 w0 rt en g h s gv t hv lo Os w) (ok : Okk rt s gv) (h8 : 8 ≤ rt) (hrt : rt ≤ 192) (he : 0 ≤ en ∧ en < 256) (z : Int) :
    Calls Tryd.prog 14 #[.pointer (some ⟨g, 0, none⟩), .int .i64 z] w fun e w' => ∃ ao c, e = .returned (.slice ao (nxt rt en s gv z).1.length c) ∧ Y2 w' g h ao (nxt rt en s gv z).1 ∧ P3 w0 rt en g h (nxt rt en s gv z).2.1 (nxt rt en s gv z).2.2 t hv lo Os w' ∧ w.grownBy w' (some g) := by
  by_cases hz : z < 0 ∨ 65536 < z
  · rw [nxt_bad hz]
    refine (read14n g z hz w).mono ?_
    rintro e w' ⟨rfl, rfl⟩
    exact ⟨none, 0, rfl, ⟨fun _ => rfl, fun a ha => by cases ha⟩, p, World.grownBy.refl _ _⟩
  · obtain ⟨n, rfl⟩ : ∃ n : Nat, z = n := ⟨z.toNat, by omega⟩
    have hn : n ≤ 65536 := by omega
    rw [nxt_good hn]
    refine (read14 g rt en s gv n w p.sp ok.le ok.lt h8 hrt hn he p.tk (by have := p.o1; have := p.z; omega)).mono ?_
    rintro e w' ⟨b, rfl, o, hs, j⟩
    obtain ⟨ao, c, e1, y⟩ := y2_own (g := g) (h := h) o p.sp.lt p.sr.lt (gives_length _ _ _).symm
    rw [e1]
    exact ⟨ao, c, rfl, y, p.wg j hs, j⟩
theorem rd15 (p : P3 w0 rt en g h s gv t hv lo Os w) (ok : Okk rt t hv) (h8 : 8 ≤ rt) (hrt : rt ≤ 192) (he : 0 ≤ en ∧ en < 256) (z : Int) :
    Calls Tryd.prog 15 #[.pointer (some ⟨h, 0, none⟩), .int .i64 z] w fun e w' => ∃ ao c, e = .returned (.slice ao (nxt rt en t hv z).1.length c) ∧ Y2 w' g h ao (nxt rt en t hv z).1 ∧ P3 w0 rt en g h s gv (nxt rt en t hv z).2.1 (nxt rt en t hv z).2.2 lo Os w' ∧ w.grownBy w' (some h) := by
  by_cases hz : z < 0 ∨ 65536 < z
  · rw [nxt_bad hz]
    refine (read15n h z hz w).mono ?_
    rintro e w' ⟨rfl, rfl⟩
    exact ⟨none, 0, rfl, ⟨fun _ => rfl, fun a ha => by cases ha⟩, p, World.grownBy.refl _ _⟩
  · obtain ⟨n, rfl⟩ : ∃ n : Nat, z = n := ⟨z.toNat, by omega⟩
    have hn : n ≤ 65536 := by omega
    rw [nxt_good hn]
    refine (read15 h rt en t hv n w p.sr ok.le ok.lt h8 hrt hn he ok.bd).mono ?_
    rintro e w' ⟨v, rfl, o, hs, j⟩
    obtain ⟨ao, c, e1, y⟩ := y2_own (g := g) (h := h) o p.sp.lt p.sr.lt (gives_length _ _ _).symm
    rw [e1]
    exact ⟨ao, c, rfl, y, p.wh j hs, j⟩
theorem wr12 (p : P3 w0 rt en g h s gv t hv lo Os w) (ok : Okk rt s gv) (h8 : 8 ≤ rt) (hrt : rt ≤ 192) (ao : Option Addr) (m c : Nat) (D : List (BitVec 8)) (hm : m = D.length) (hL : m ≤ 5000) (hD : Olz w0.heap.size w ao D) :
    Calls Tryd.prog 12 #[.pointer (some ⟨g, 0, none⟩), .slice ao m c] w fun e w' => e = .returned (.tuple #[]) ∧ P3 w0 rt en g h (wrt rt s gv D) gv t hv lo Os w' := by
  cases gv with
  | true =>
    refine (write12g g rt en s.2 s.1 _ w p.sp).mono ?_
    rintro e w' ⟨rfl, rfl⟩
    exact ⟨rfl, p⟩
  | false =>
    cases D with
    | nil =>
      subst hm
      refine (write12e g rt en s.2 false s.1 ao c w p.sp).mono ?_
      rintro e w' ⟨rfl, rfl⟩
      exact ⟨rfl, p⟩
    | cons x D =>
      refine (write12 g rt en s (x :: D) ao m c w hm (by omega) p.sp (ok.lt rfl) hrt (hD.byt p.o1 (Nat.le_trans (Nat.le_of_eq rfl) p.k.size) (by simp)) p.tk (by have := p.o1; have := p.z; omega)).mono ?_
      rintro e w' ⟨rfl, hs, j⟩
      exact ⟨rfl, p.wg j hs⟩
theorem wr13 (p : P3 w0 rt en g h s gv t hv lo Os w) (ok : Okk rt t hv) (h8 : 8 ≤ rt) (hrt : rt ≤ 192) (ao : Option Addr) (m c : Nat) (D : List (BitVec 8)) (hm : m = D.length) (hL : m ≤ 5000) (hD : Olz w0.heap.size w ao D) :
    Calls Tryd.prog 13 #[.pointer (some ⟨h, 0, none⟩), .slice ao m c] w fun e w' => e = .returned (.tuple #[]) ∧ P3 w0 rt en g h s gv (wrt rt t hv D) hv lo Os w' := by
  cases hv with
  | true =>
    refine (write13g h rt en t.2 (Zt t.1) ao m c w p.sr).mono ?_
    rintro e w' ⟨rfl, rfl⟩
    exact ⟨rfl, p⟩
  | false =>
    cases D with
    | nil =>
      subst hm
      refine (write13e h rt en t.2 false (Zt t.1) ao c w p.sr).mono ?_
      rintro e w' ⟨rfl, rfl⟩
      exact ⟨rfl, p⟩
    | cons x D =>
      refine (write13 h rt en t (x :: D) ao m c w hm (by omega) p.sr (ok.lt rfl) hrt ok.bd (hD.byt p.o2 (Nat.le_trans (Nat.le_of_eq rfl) p.k.size) (by simp))).mono ?_
      rintro e w' ⟨rfl, hs, j⟩
      exact ⟨rfl, p.wh j hs⟩
end
end Go.Proofs.YtgjcofneecebjaaDoor
