/- A vault, and the power. -/
import Derived.Test.YtjabkfccfecmgaaI
namespace Go.Proofs.Ytjabkfccfecmgaa
open Go.ChangeShapes Go.WideShapes Go.ChangeAt Go.RowKit
set_option linter.unusedSimpArgs false
set_option linter.unusedVariables false
/-- A disk, made behind w0, on which nothing waits. -/
structure Vx (w0 : World) (A : Nat → Prop) (w : World) (g b n : Nat) (d : DS) : Prop where
  bl : Below w0.heap.size w0 w
  dk : Dk A w g b n d
  new : ∀ k, w.heap.size ≤ k → A k
  old : ∀ k, k < w0.heap.size → ¬ A k
  sb : w0.heap.size ≤ b
  W : d.W = []
section
variable {w0 : World} {A A' : Nat → Prop} {w w' : World} {g b n C vb : Nat} {d d' : DS} {B D : List Byte}
theorem Vd.vx (h : Vd w0 A w g b n C B d) : Vx w0 A w g b n d := ⟨h.bl, h.dk, h.new, h.old, h.sb, h.W⟩
theorem Vx.vd (h : Vx w0 A w g b n d) (hd : d.down = false) (hk : Kp n C B d.S) : Vd w0 A w g b n C B d := ⟨h.bl, h.dk, h.new, h.old, h.sb, hd, h.W, hk⟩
theorem Vx.sg (h : Vx w0 A w g b n d) : w0.heap.size ≤ g := by have := h.sb; have := h.dk.bg; omega
theorem Vx.to (h : Vx w0 A w g b n d) (f : Frm A g b w w') (hD : Dk A w' g b n d') (hW : d'.W = []) : Vx w0 A w' g b n d' :=
  ⟨h.bl.trans (f.toBelow h.bl.size h.sg h.sb h.old), hD, fun k hk => h.new k (by have := f.size; omega), h.old, h.sb, hW⟩
theorem arm_v (h : Vx w0 A w g b n d) (z : Int) (hz : -1 ≤ z ∧ z < 9223372036854775808) : Calls Try.prog 12 #[.pointer (some ⟨g, 0, none⟩), .int .i64 z] w fun e w' => e = .returned (.tuple #[]) ∧ Vx w0 A w' g b n { d with fuse := z } ∧ Frm A g b w w' := by
  refine (arm9 h.dk z hz.2).mono ?_
  rintro e w1 ⟨rfl, h1, f1⟩
  rw [if_neg (by omega)] at h1
  exact ⟨rfl, h.to f1 h1 h.W, f1⟩
theorem crashed_W (hW : d.W = []) (hf : d.down = true → d.fuse = -1) (z : Int) : crashed d z = { d with fuse := -1, down := true } := by
  obtain ⟨S, W, f, dn⟩ := d
  simp only at hW hf
  subst hW
  unfold crashed
  cases dn with
  | true => rw [hf rfl]; rfl
  | false => simp [fin]
theorem crash_v (h : Vx w0 A w g b n d) (hf : d.down = true → d.fuse = -1) (z : Int) : Calls Try.prog 13 #[.pointer (some ⟨g, 0, none⟩), .int .i64 z] w fun e w' => e = .returned (.tuple #[]) ∧ Vx w0 A w' g b n { d with fuse := -1, down := true } ∧ Frm A g b w w' := by
  refine (crash16 A w g b n d h.dk h.new z).mono ?_
  rintro e w1 ⟨rfl, h1, f1⟩
  rw [crashed_W h.W hf] at h1
  exact ⟨rfl, h.to f1 h1 h.W, f1⟩
theorem up_v (h : Vx w0 A w g b n d) : Calls Try.prog 14 #[.pointer (some ⟨g, 0, none⟩)] w fun e w' => e = .returned (.tuple #[]) ∧ Vx w0 A w' g b n { d with down := false } ∧ Frm A g b w w' := by
  refine (up12 h.dk).mono ?_
  rintro e w1 ⟨rfl, h1, f1⟩
  exact ⟨rfl, h.to f1 h1 h.W, f1⟩
theorem put2 (h : Vd w0 A w g b n C B d) (hv : Vb w0 A w g b vb C) (hn : 4 ≤ n) (hn2 : n ≤ 100) (hC : C + 1 < 4611686018427387904) (ao : Option Addr) (m c : Nat) (hm : m = D.length) (hmc : m ≤ c) (hO : Obs A g b w ao D) (hfit : m ≤ (n - 2) / 2 * 512) :
    Calls Try.prog 10 #[.pointer (some ⟨vb, 0, none⟩), .slice ao m c] w fun e w' => ∃ (d' : DS) (r : Int) (C' : Nat) (B' : List Byte), e = .returned (.int .i64 r) ∧ Vx w0 A w' g b n d' ∧ Kp n C' B' d'.S ∧ (d'.down = true → d'.fuse = -1) ∧ C' ≤ C + 1 ∧
      ((r = 0 ∧ B' = D) ∨ (r = 201 ∧ (B' = B ∨ B' = D))) := by
  refine (putK h.dk h.new h.down hn hn2 h.W h.kp vb hv.blk hv.ok.na hC ao m c hm hmc hO hfit).mono ?_
  rintro e w1 ⟨d', o⟩
  have hs := o.frm.size
  have vx : Vx w0 A w1 g b n d' := ⟨h.bl.trans (o.frm.toBelow h.bl.size h.sg h.sb fun k hk e => e.elim (h.old k hk) (fun e => by have := hv.ge; omega)), o.dk, fun k hk => h.new k (by omega), h.old, h.sb, o.W⟩
  rcases o.res with ⟨r1, r2, r3, r4, r5 | r5⟩ | ⟨r1, r2, r3, r4, r5, r6, r7⟩
  · exact ⟨d', 201, C, B, r4, vx, r5, fun _ => r3, by omega, .inr ⟨rfl, .inl rfl⟩⟩
  · exact ⟨d', 201, C + 1, D, r4, vx, r5, fun _ => r3, by omega, .inr ⟨rfl, .inr rfl⟩⟩
  · exact ⟨d', 0, C + 1, D, r4, vx, r5, (fun e => by rw [r1] at e; cases e), by omega, .inl ⟨rfl, rfl⟩⟩
theorem open2 (h : Vd w0 A w g b n C B d) (hn : 4 ≤ n) (hn2 : n ≤ 100) (hC : C < 4611686018427387904) :
    Calls Try.prog 9 #[.pointer (some ⟨g, 0, none⟩)] w fun e w' => ∃ (A' : Nat → Prop) (d' : DS), Vx w0 A' w' g b n d' ∧ Kp n C B d'.S ∧
      ((e = .returned (.tuple #[.pointer none, .slice none 0 0, .int .i64 201]) ∧ d'.down = true ∧ d'.fuse = -1) ∨
       (d'.down = false ∧ ∃ qv ao cap, e = .returned (.tuple #[.pointer (some ⟨qv, 0, none⟩), .slice ao B.length cap, .int .i64 0]) ∧ Vb w0 A' w' g b qv C ∧ Obs A' g b w' ao B)) := by
  refine (openK h.dk h.new h.down hn hn2 h.W h.kp hC).mono ?_
  rintro e w1 ⟨A', d', o⟩
  have vx : Vx w0 A' w1 g b n d' := ⟨h.toBelow o.frm, o.dk, o.new, fun k hk e => h.old k hk (o.sub k e), h.sb, o.W⟩
  rcases o.res with ⟨r1, r2, r3, r4⟩ | ⟨r1, r2, r3, r4, qv, ao, cap, r5, r6, r7, r8, r9⟩
  · exact ⟨A', d', vx, o.kp, .inl ⟨r4, r2, r3⟩⟩
  · exact ⟨A', d', vx, o.kp, .inr ⟨r1, qv, ao, cap, r5, ⟨r7, Nat.le_trans h.bl.size r6, r8⟩, r9⟩⟩
/-- A new slice of one byte. -/
theorem obs_one (h : Vd w0 A w g b n C B d) (x : Byte) {xv : Int} (hx : c8 x = .int .u8 xv) : Vd w0 (A76 A (w.alloc (.cells #[.int .u8 xv] 5 (1, 2)))) (w.alloc (.cells #[.int .u8 xv] 5 (1, 2))) g b n C B d ∧ Obs (A76 A (w.alloc (.cells #[.int .u8 xv] 5 (1, 2)))) g b (w.alloc (.cells #[.int .u8 xv] 5 (1, 2))) (some ⟨w.heap.size, 0, none⟩) [x] := by
  have b5 : Below w.heap.size w (w.alloc (.cells #[.int .u8 xv] 5 (1, 2))) := (Below.refl _ w).alloc (Nat.le_refl _) _
  have h5 : (w.alloc (.cells #[.int .u8 xv] 5 (1, 2))).heap[w.heap.size]? = some (.cells #[.int .u8 xv] 5 (1, 2)) := heap_alloc_new w _
  refine ⟨(h.below b5).re, (fun e => by cases e), fun a ha j y hy => ?_⟩
  injection ha with ha
  subst ha
  rcases j with _ | j
  · have hy : y = x := by simpa using hy.symm
    subst hy
    have h1 := h.dk.lt
    have h2 := h.dk.sec.lt
    exact ⟨⟨(Array.getElem?_eq_some_iff.1 h5).1, by show w.heap.size ≠ g; omega, by show w.heap.size ≠ b; omega, not76 h5 (by decide)⟩, by rw [Addr.add_mid, cell_of_row _ _ _ _ _ _ h5, hx]; rfl⟩
  · simp at hy
end
end Go.Proofs.Ytjabkfccfecmgaa
