/- A vault in a law; the document's head. -/
import Derived.Test.YtjabkfccfecmgaaZ
namespace Go.Proofs.Ytjabkfccfecmgaa
open Go.ChangeShapes Go.WideShapes Go.ChangeAt Go.RowKit
set_option linter.unusedSimpArgs false
set_option linter.unusedVariables false
/-- A disk of a vault, made behind w0. -/
structure Vd (w0 : World) (A : Nat → Prop) (w : World) (g b n C : Nat) (B : List Byte) (d : DS) : Prop where
  bl : Below w0.heap.size w0 w
  dk : Dk A w g b n d
  new : ∀ k, w.heap.size ≤ k → A k
  old : ∀ k, k < w0.heap.size → ¬ A k
  sb : w0.heap.size ≤ b
  down : d.down = false
  W : d.W = []
  kp : Kp n C B d.S
/-- A vault's block. -/
structure Vb (w0 : World) (A : Nat → Prop) (w : World) (g b vb C : Nat) : Prop where
  ok : Ok A g b w vb
  ge : w0.heap.size ≤ vb
  blk : w.heap[vb]? = some (.cells #[.pointer (some ⟨g, 0, none⟩), .int .i64 (C : Int), .bool false] 57 (0, 0))
section
variable {w0 : World} {A A' : Nat → Prop} {w w' : World} {g b n C vb : Nat} {d : DS} {B D : List Byte}
theorem Vd.re (h : Vd w0 A w g b n C B d) : Vd w0 (A76 A w) w g b n C B d :=
  ⟨h.bl, h.dk.a76, fun k hk => ⟨h.new k hk, fun e => by omega⟩, fun k hk e => h.old k hk e.1, h.sb, h.down, h.W, h.kp⟩
theorem Vb.re (h : Vb w0 A w g b vb C) : Vb w0 (A76 A w) w g b vb C := ⟨h.ok.mono (fun e => h.ok.na e.1), h.ge, h.blk⟩
theorem Vd.below (h : Vd w0 A w g b n C B d) (j : Below w.heap.size w w') : Vd w0 A w' g b n C B d :=
  ⟨below_then h.bl j, h.dk.below j, fun k hk => h.new k (by have := j.size; omega), h.old, h.sb, h.down, h.W, h.kp⟩
theorem Vb.below (h : Vb w0 A w g b vb C) (j : Below w.heap.size w w') : Vb w0 A w' g b vb C :=
  ⟨⟨Nat.lt_of_lt_of_le h.ok.lt j.size, h.ok.ng, h.ok.nb, h.ok.na⟩, h.ge, (j.block vb h.ok.lt).trans h.blk⟩
theorem Vb.frm (h : Vb w0 A w g b vb C) (f : Frm A g b w w') : Vb w0 A w' g b vb C := ⟨h.ok.frm f, h.ge, (h.ok.keep f).trans h.blk⟩
theorem Vd.sg (h : Vd w0 A w g b n C B d) : w0.heap.size ≤ g := by have := h.sb; have := h.dk.bg; omega
/-- Old bytes. -/
theorem Vd.obs (h : Vd w0 A w g b n C B d) {ao : Option Addr} (hb : Bys w0 ao D) (hl : ∀ a, ao = some a → D ≠ [] → a.block < w0.heap.size) : Obs A g b w ao D :=
  ⟨hb.nil, fun a ha j x hx => by
    have hlt := hl a ha (by rintro rfl; simp at hx)
    have hs := h.bl.size
    have h1 := h.sb
    have h2 := h.sg
    exact ⟨⟨by omega, by omega, by omega, h.old _ hlt⟩, (World.cell?_of_block (by rw [add_block]; exact h.bl.block _ hlt)).trans (hb.cells a ha j x hx)⟩⟩
theorem bys_lt {ao : Option Addr} (hb : Bys w ao D) : ∀ a, ao = some a → D ≠ [] → a.block < w.heap.size := fun a ha hne => by
  cases D with
  | nil => exact absurd rfl hne
  | cons x r => have := World.block_lt_of_cell? _ _ (hb.cells a ha 0 x rfl); rwa [add_block] at this
theorem Obs.bys {ao : Option Addr} (h : Obs A g b w ao D) : Bys w ao D := ⟨h.nil, fun a ha j x hx => (h.cells a ha j x hx).2⟩
/-- Open, no power lost. -/
structure Op1 (w0 : World) (A : Nat → Prop) (w : World) (g b n C : Nat) (B : List Byte) (d : DS) (A' : Nat → Prop) (d' : DS) (qv : Nat) (ao : Option Addr) (cap : Nat) (e : Ending) (w' : World) : Prop where
  ret : e = .returned (.tuple #[.pointer (some ⟨qv, 0, none⟩), .slice ao B.length cap, .int .i64 0])
  vd : Vd w0 A' w' g b n C B d'
  fuse : d'.fuse = -1
  vb : Vb w0 A' w' g b qv C
  obs : Obs A' g b w' ao B
  sub : ∀ k, A' k → A k
  frm : Frm A g b w w'
  same : ∀ k, d'.S k = d.S k ∨ (d'.S k = zs ∧ vst n C B k = zs)
theorem Vd.toBelow (h : Vd w0 A w g b n C B d) (f : Frm A g b w w') : Below w0.heap.size w0 w' :=
  h.bl.trans (f.toBelow h.bl.size h.sg h.sb h.old)
theorem open1 (h : Vd w0 A w g b n C B d) (hn : 4 ≤ n) (hn2 : n ≤ 100) (hf : d.fuse = -1) (hC : C < 4611686018427387904) :
    Calls Try.prog 9 #[.pointer (some ⟨g, 0, none⟩)] w fun e w' => ∃ A' d' qv ao cap, Op1 w0 A w g b n C B d A' d' qv ao cap e w' := by
  refine (openK h.dk h.new h.down hn hn2 h.W h.kp hC).mono ?_
  rintro e w1 ⟨A', d', o⟩
  rcases o.res with ⟨r1, _⟩ | ⟨r1, r2, r3, r4, qv, ao, cap, r5, r6, r7, r8, r9⟩
  · exact absurd hf r1
  · exact ⟨A', d', qv, ao, cap, r5, ⟨h.toBelow o.frm, o.dk, o.new, fun k hk e => h.old k hk (o.sub k e), h.sb, r1, o.W, o.kp⟩, r3 hf, ⟨r7, Nat.le_trans h.bl.size r6, r8⟩, r9, o.sub, o.frm, r4⟩
/-- Put, no power lost. -/
structure Pu1 (w0 : World) (A : Nat → Prop) (w : World) (g b n vb C : Nat) (D : List Byte) (d : DS) (d' : DS) (e : Ending) (w' : World) : Prop where
  ret : e = .returned (.int .i64 0)
  vd : Vd w0 A w' g b n (C + 1) D d'
  fuse : d'.fuse = -1
  vk : Vb w0 A w' g b vb (C + 1)
  frm : Frm (fun k => A k ∨ k = vb) g b w w'
  S : d'.S = app d.S (putS n (C + 1) D)
theorem put1 (h : Vd w0 A w g b n C B d) (hv : Vb w0 A w g b vb C) (hn : 4 ≤ n) (hn2 : n ≤ 100) (hf : d.fuse = -1) (hC : C + 1 < 4611686018427387904) (ao : Option Addr) (m c : Nat) (hm : m = D.length) (hmc : m ≤ c) (hO : Obs A g b w ao D) (hfit : m ≤ (n - 2) / 2 * 512) :
    Calls Try.prog 10 #[.pointer (some ⟨vb, 0, none⟩), .slice ao m c] w fun e w' => ∃ d', Pu1 w0 A w g b n vb C D d d' e w' := by
  refine (putK h.dk h.new h.down hn hn2 h.W h.kp vb hv.blk hv.ok.na hC ao m c hm hmc hO hfit).mono ?_
  rintro e w1 ⟨d', o⟩
  rcases o.res with ⟨r1, _⟩ | ⟨r1, r2, r3, r4, r5, r6, r7⟩
  · exact absurd hf r1
  · have hs := o.frm.size
    refine ⟨d', r4, ⟨h.bl.trans (o.frm.toBelow h.bl.size h.sg h.sb fun k hk e => e.elim (h.old k hk) (fun e => by have := hv.ge; omega)), o.dk, fun k hk => h.new k (by omega), h.old, h.sb, r1, o.W, r5⟩, r3 hf, ⟨⟨Nat.lt_of_lt_of_le hv.ok.lt hs, hv.ok.ng, hv.ok.nb, hv.ok.na⟩, hv.ge, r7⟩, o.frm, r6⟩
theorem kp_new (n : Nat) (hn : 4 ≤ n) : Kp n 0 [] d0.S := ⟨Nat.zero_le _, fun _ => ⟨rfl, rfl, rfl⟩, fun e => by omega, fun e => by omega, fun e => by omega⟩
/-- A new disk. -/
theorem vd_new (hn : 4 ≤ n) {w1 : World} (hb : Below w0.heap.size w0 w) (hbb : w.heap.size ≤ b) (hD : ∀ A, Dk A w' g b n d0) (b1 : Below w.heap.size w w') : Vd w0 (fun k => w'.heap.size ≤ k) w' g b n 0 [] d0 :=
  ⟨below_then hb b1, hD _, fun k hk => hk, fun k hk e => by have := hb.size; have := b1.size; omega, Nat.le_trans hb.size hbb, rfl, rfl, kp_new n hn⟩
end
theorem kcb (x : Int) (w : World) : (convert 23 23 (.slice (some ⟨w.heap.size, 0, none⟩) 1 1)).run Try.prog (w.alloc (.cells #[.int .u8 x] 5)) = .ok (.slice (some ⟨w.heap.size, 0, none⟩) 1 1) (w.alloc (.cells #[.int .u8 x] 5 (1, 2))) := by
  have := Lib.run_convert_bytes_const (P := Try.prog) w 23 5 #[.int .u8 x] 1 1 Try.underlying23 Try.underlying5
  simpa using this
set_option maxRecDepth 20000 in
set_option maxHeartbeats 8000000 in
theorem head7 (w0 : World) : Calls Try.prog 7 #[] w0 fun e w' => e = .returned (.bool true) ∧ Below w0.heap.size w0 w' := by
  have N4 : Hid (∀ w, Calls Try.prog 8 #[.int .i64 4] w fun e w' => ∃ g b, e = .returned (.pointer (some ⟨g, 0, none⟩)) ∧ w.heap.size ≤ b ∧ (∀ A, Dk A w' g b 4 d0) ∧ Below w.heap.size w w') := Lib.hid (fun w => new8 4 w (by omega))
  have N3 : Hid (∀ w, Calls Try.prog 8 #[.int .i64 3] w fun e w' => ∃ g b, e = .returned (.pointer (some ⟨g, 0, none⟩)) ∧ w.heap.size ≤ b ∧ (∀ A, Dk A w' g b 3 d0) ∧ Below w.heap.size w w') := Lib.hid (fun w => new8 3 w (by omega))
  go_enter Try.func7, Try.ntmps7
  go_upto_region 2 with (first
    | (go_at_call 8; (with_reducible refine (N4.out _).mono ?_); rintro e w1 ⟨g, b, rfl, hb, hD, b1⟩))
  have v1 := vd_new (w1 := w0) (by omega) (Below.refl _ w0) hb hD b1
  have H9 := open1 v1 (by omega) (by omega) rfl (by omega)
  have HV := Lib.hid v1
  clear hb hD b1 v1
  go_upto_region 3 with (first
    | (go_at_call 9; (with_reducible refine H9.mono ?_); rintro e w2 ⟨A2, d2, q2, a2, c2, o2⟩; obtain rfl := o2.ret))
  have hb2 := o2.vb
  have v2 := o2.vd
  have HO := Lib.hid o2
  clear H9 o2
  go_upto_region 4 with (first
    | (go_at_call 8; (with_reducible refine (N3.out _).mono ?_); rintro e w3 ⟨g3, b3, rfl, hb3, hD3, bb3⟩; have H93 := open9s (hD3 (fun _ => True)) rfl (by omega))
    | (go_at_call 9; (with_reducible refine H93.mono ?_); rintro e w4 ⟨rfl, bb4⟩))
  have b24 := below_then bb3 bb4
  have v4 := v2.below b24
  have hb4 := hb2.below b24
  have H11 := room11 v4.dk (by omega) (by omega) hb4.blk
  have H11 : Calls Try.prog 11 #[.pointer (some ⟨q2, 0, none⟩)] w4 fun e w' => e = .returned (.int .i64 512) ∧ w' = w4 := H11
  have HV4 := Lib.hid (And.intro v4 (And.intro hb4 HO.out.fuse))
  clear hb2 v2 bb3 bb4 hb3 hD3 H93 b24 v4 hb4
  go_upto_region 6 with (first
    | (go_at_call 11; (with_reducible refine H11.mono ?_); rintro e w5 ⟨rfl, hw⟩; obtain rfl : w4 = w5 := hw.symm))
  have kc := kcb 97 w4
  obtain ⟨q5, hq5⟩ : ∃ q, q = w4.heap.size := ⟨_, rfl⟩
  obtain ⟨w5, hw5⟩ : ∃ w5, w4.alloc (.cells #[.int .u8 97] 5 (1, 2)) = w5 := ⟨_, rfl⟩
  have b5 : Below w4.heap.size w4 w5 := by rw [← hw5]; exact (Below.refl _ w4).alloc (Nat.le_refl _) _
  have h5 : w5.heap[q5]? = some (.cells #[.int .u8 97] 5 (1, 2)) := by rw [← hw5, hq5]; exact heap_alloc_new w4 _
  have v5 := (HV4.out.1.below b5).re
  have k5 := (HV4.out.2.1.below b5).re
  have o5 : Obs (A76 A2 w5) g b w5 (some ⟨q5, 0, none⟩) [97#8] := ⟨(fun e => by cases e), fun a ha j x hx => by
    injection ha with ha
    subst ha
    rcases j with _ | j
    · have hx : x = 97#8 := by simpa using hx.symm
      subst hx
      have h1 := v5.dk.lt
      have h2 := HV4.out.1.dk.lt
      have h3 := HV4.out.1.dk.sec.lt
      exact ⟨⟨(Array.getElem?_eq_some_iff.1 h5).1, by show q5 ≠ g; omega, by show q5 ≠ b; omega, not76 h5 (by decide)⟩, by rw [Addr.add_mid, cell_of_row _ _ _ _ _ _ h5]; rfl⟩
    · simp at hx⟩
  have H10 := put1 v5 k5 (by omega) (by omega) HV4.out.2.2 (by omega) (some ⟨q5, 0, none⟩) 1 1 rfl (Nat.le_refl _) o5 (by omega)
  rw [hw5] at kc
  rw [hq5] at H10
  clear b5 h5 v5 k5 o5
  go_upto_region 7 with (first
    | (go_at_call 10; (with_reducible refine H10.mono ?_); rintro e w6 ⟨d6, o6⟩; obtain rfl := o6.ret))
  have H9b := open1 o6.vd (by omega) (by omega) o6.fuse (by omega)
  clear H10 kc hw5
  go_upto_region 8 with (first
    | (go_at_call 9; (with_reducible refine H9b.mono ?_); rintro e w7 ⟨A7, d7, q7, a7, c7, o7⟩; obtain rfl := o7.ret))
  have kb := conv_bys (n := 1) (c := c7) rfl o7.obs.bys
  have hbl := Lib.hid o7.vd.bl
  clear H9b o6 o7
  go_wp2_with fail
  go_ret
  have ek : ((strOf [97#8]).toList == [97]) = true := by kernel_rfl
  exact ⟨by rw [ek]; rfl, hbl.out⟩
end Go.Proofs.Ytjabkfccfecmgaa
