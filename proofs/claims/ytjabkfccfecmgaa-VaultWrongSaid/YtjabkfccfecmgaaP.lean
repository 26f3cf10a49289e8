/- Open: a disk with a vault. -/
import Derived.Test.YtjabkfccfecmgaaO
namespace Go.Proofs.Ytjabkfccfecmgaa
open Go.ChangeShapes Go.WideShapes Go.ChangeAt Go.RowKit
set_option linter.unusedSimpArgs false
set_option linter.unusedVariables false
/-- What Open does to a part. -/
def er (n : Nat) (cs : Nat → Nat) (C : Nat) (d : DS) (p : Nat) : Bool × DS := if cs p < C ∨ cs p = 0 then runA n d (eraseA n p) else (false, d)
def er2 (n : Nat) (cs : Nat → Nat) (C : Nat) (d : DS) : Bool × DS := if (er n cs C d 0).1 = true then er n cs C d 0 else er n cs C (er n cs C d 0).2 1
def topC (cs : Nat → Nat) : Nat := if cs 0 < cs 1 then cs 1 else cs 0
def topL (cs ls : Nat → Nat) : Nat := if cs 0 < cs 1 then ls 1 else ls 0
/-- The bytes that a vault keeps. -/
def keptB (n : Nat) (d : DS) (C l : Nat) : List Byte := (img (fun j => look (d.S (2 + C % 2 * ((n - 2) / 2) + j)) d.W (2 + C % 2 * ((n - 2) / 2) + j)) (nP l)).take l
def dI (n : Nat) (cs : Nat → Nat) (C : Nat) (d : DS) : Nat → DS
  | 0 => d
  | i + 1 => (er n cs C (dI n cs C d i) i).2
def okI (n : Nat) (cs : Nat → Nat) (C : Nat) (d : DS) : Nat → Prop
  | 0 => True
  | i + 1 => okI n cs C d i ∧ (er n cs C (dI n cs C d i) i).1 = false
def V34 (B g q10 C l m c : Nat) (ao : Option Addr) : Nat → Value → World → Prop
  | 0, v, w => v = .pointer (some ⟨g, 0, none⟩)
  | 1, v, w => v = .pointer (some ⟨q10, 0, none⟩)
  | 2, v, w => v = .int .i64 (C : Nat)
  | 3, v, w => v = .agg #[.pointer (some ⟨g, 0, none⟩), .int .i64 (C : Nat), .bool false]
  | 4, v, w => ∃ q, v = .pointer (some ⟨q, 0, none⟩) ∧ B ≤ q ∧ w.heap[q]? = some (.cells #[.pointer (some ⟨g, 0, none⟩), .int .i64 (C : Nat), .bool false] 57 (0, 0))
  | 5, v, w => v = .slice ao m c
  | 6, v, w => v = .pointer (some ⟨q10, 1, none⟩)
  | 7, v, w => v = .int .i64 (l : Nat)
  | 8, v, w => v = .slice ao l c
  | 9, v, w => ∃ q, v = .pointer (some ⟨q, 0, none⟩) ∧ B ≤ q ∧ w.heap[q]? = some (.cells #[.pointer (some ⟨g, 0, none⟩), .int .i64 (C : Nat), .bool false] 57 (0, 0))
  | 10, v, w => v = .slice ao l c
  | 11, v, w => v = .int .i64 0
  | _, _, _ => True
theorem V34_keep (B g q10 C l m c : Nat) (ao : Option Addr) (i1 : Nat) (v : Value) (w w' : World) (h : V34 B g q10 C l m c ao i1 v w) (r : (fun w w' => Below w.heap.size w w') w w') : V34 B g q10 C l m c ao i1 v w' := by
  rcases i1 with _ | _ | _ | _ | _ | _ | _ | _ | _ | _ | _ | _ | _
  · exact h
  · exact h
  · exact h
  · exact h
  · obtain ⟨q, h1, h2, h3⟩ := h; exact ⟨q, h1, h2, (r.block q (Array.getElem?_eq_some_iff.1 h3).1).trans h3⟩
  · exact h
  · exact h
  · exact h
  · exact h
  · obtain ⟨q, h1, h2, h3⟩ := h; exact ⟨q, h1, h2, (r.block q (Array.getElem?_eq_some_iff.1 h3).1).trans h3⟩
  · exact h
  · exact h
  · trivial
theorem Bys.take {w : World} {ao : Option Addr} {D : List Byte} (h : Bys w ao D) (k : Nat) : Bys w ao (D.take k) :=
  ⟨fun e => by rw [h.nil e, List.take_nil], fun a ha j x hx => h.cells a ha j x (by rw [List.getElem?_take] at hx; split at hx; exact hx; cases hx)⟩
section
variable {n : Nat} {cs : Nat → Nat} {C : Nat} {d : DS}
theorem idx0 (a b c e : Value) (w : World) : (Instr.index 47 (.agg #[a, b, c, e]) (.int .i64 0)).run Try.prog w = .ok (.agg #[a, b]) w := by kernel_rfl
theorem idx1 (a b c e : Value) (w : World) : (Instr.index 47 (.agg #[a, b, c, e]) (.int .i64 1)).run Try.prog w = .ok (.agg #[c, e]) w := by kernel_rfl
theorem runA_cons (n : Nat) (d : DS) (a : Ac) (l : List Ac) : runA n d (a :: l) = if (act n d a).1 ≠ 0 then (true, (act n d a).2) else runA n (act n d a).2 l := rfl
theorem runA_W (n : Nat) : ∀ (l : List Ac) (d : DS), (runA n d l).2.W.length ≤ d.W.length + l.length := by
  intro l
  induction l with
  | nil => intro d; exact Nat.le_refl _
  | cons a l ih =>
    intro d
    have h1 := act_W n d a
    have h2 := ih (act n d a).2
    rw [runA_cons]
    split
    · simp only [List.length_cons]; omega
    · simp only [List.length_cons]; omega
theorem act_down (n : Nat) (d : DS) (a : Ac) (hd : d.down = false) (h : (act n d a).1 = 0) : (act n d a).2.down = false := by
  cases a with
  | sy =>
    show (if d.down = true then ((201 : Int), d) else (0, synced d)).2.down = false
    rw [hd]; exact hd
  | wr i B =>
    have h : (wrote n d (i : Int) B).1 = 0 := h
    show (wrote n d (i : Int) B).2.down = false
    unfold wrote at *
    split
    · exact hd
    · split
      · exact hd
      · split
        · rename_i h1 h2 h3
          rw [if_neg h1, if_neg h2, if_pos h3] at h
          cases h
        · exact hd
theorem runA_down (n : Nat) : ∀ (l : List Ac) (d : DS), d.down = false → (runA n d l).1 = false → (runA n d l).2.down = false := by
  intro l
  induction l with
  | nil => intro d h _; exact h
  | cons a l ih =>
    intro d hd h
    rw [runA_cons] at *
    split at h
    · cases h
    · rename_i hne
      rw [if_neg hne]
      exact ih _ (act_down n d a hd (by simpa using hne)) h
theorem er_W (hn : n ≤ 100) (p : Nat) : (er n cs C d p).2.W.length ≤ d.W.length + 60 := by
  unfold er
  split
  · have := runA_W n (eraseA n p) d
    rw [eraseA_len] at this
    unfold nP at this
    omega
  · simp
theorem er_down (p : Nat) (hd : d.down = false) (h : (er n cs C d p).1 = false) : (er n cs C d p).2.down = false := by
  unfold er at *
  split
  · rename_i h1; rw [if_pos h1] at h; exact runA_down n _ _ hd h
  · exact hd
theorem dI_W (hn : n ≤ 100) : ∀ i, (dI n cs C d i).W.length ≤ d.W.length + 60 * i := by
  intro i
  induction i with
  | zero => exact Nat.le_refl _
  | succ i ih => have := @er_W n cs C (dI n cs C d i) hn i; show (er n cs C (dI n cs C d i) i).2.W.length ≤ _; omega
theorem dI_down (hd : d.down = false) : ∀ i, okI n cs C d i → (dI n cs C d i).down = false := by
  intro i
  induction i with
  | zero => intro _; exact hd
  | succ i ih => intro h; exact er_down i (ih h.1) h.2
theorem er_yes {p : Nat} (h : cs p < C ∨ cs p = 0) : er n cs C d p = runA n d (eraseA n p) := if_pos h
theorem er_no {p : Nat} (h : ¬ (cs p < C ∨ cs p = 0)) : er n cs C d p = (false, d) := if_neg h
theorem er2_fail {i : Nat} (hi : i < 2) (hok : okI n cs C d i) (h : (er n cs C (dI n cs C d i) i).1 = true) : er2 n cs C d = er n cs C (dI n cs C d i) i := by
  have : i = 0 ∨ i = 1 := by omega
  rcases this with rfl | rfl
  · unfold er2; rw [if_pos (show (er n cs C d 0).1 = true from h)]; rfl
  · have e : (er n cs C d 0).1 = false := hok.2
    unfold er2; rw [if_neg (by rw [e]; decide)]; rfl
theorem er2_fine (hok : okI n cs C d 2) : er2 n cs C d = (false, dI n cs C d 2) := by
  have e : (er n cs C d 0).1 = false := hok.1.2
  unfold er2
  rw [if_neg (by rw [e]; decide)]
  exact Prod.ext hok.2 rfl
end
/-- What Open leaves. -/
structure Good9 (w : World) (g n : Nat) (C l : Nat) (d2 : DS) (qv : Nat) (ao : Option Addr) (w' : World) : Prop where
  lt : w.heap.size ≤ qv
  blk : w'.heap[qv]? = some (.cells #[.pointer (some ⟨g, 0, none⟩), .int .i64 (C : Int), .bool false] 57 (0, 0))
  bys : Bys w' ao (keptB n d2 C l)
  row : ∀ a, ao = some a → w.heap.size ≤ a.block ∧ ∃ C, w'.heap[a.block]? = some (.cells C 5 (0, 0))
def Out9 (A : Nat → Prop) (w : World) (g b n : Nat) (cs ls : Nat → Nat) (d : DS) (e : Ending) (w' : World) : Prop :=
  Dk A w' g b n (er2 n cs (topC cs) d).2 ∧ Frm A g b w w' ∧
      (((er2 n cs (topC cs) d).1 = true ∧ e = .returned (.tuple #[.pointer none, .slice none 0 0, .int .i64 201])) ∨
      ((er2 n cs (topC cs) d).1 = false ∧ ∃ qv ao cap, e = .returned (.tuple #[.pointer (some ⟨qv, 0, none⟩), .slice ao (topL cs ls) cap, .int .i64 0]) ∧ Good9 w g n (topC cs) (topL cs ls) (er2 n cs (topC cs) d).2 qv ao w'))
section
variable {A : Nat → Prop} {w w' : World} {g b n : Nat} {d : DS}
/-- Both heads can be read. -/
def Hds (w : World) (g : Nat) (cs ls : Nat → Nat) (oks : Nat → Bool) : Prop := ∀ (W : World) (p : Nat), p < 2 → Below w.heap.size w W →
  Calls Try.prog 19 #[.pointer (some ⟨g, 0, none⟩), .int .i64 (p : Int)] W fun e w' => e = .returned (.tuple #[.agg #[.int .i64 (cs p : Int), .int .i64 (ls p : Int)], .bool (oks p)]) ∧ Below W.heap.size W w'
/-- Four cells. -/
def H4 (c0 l0 c1 l1 : Int) : Array Value := #[.int .i64 c0, .int .i64 l0, .int .i64 c1, .int .i64 l1]
def hcs (cs ls : Nat → Nat) (i : Nat) : Array Value := #[.int .i64 (if 0 < i then (cs 0 : Int) else 0), .int .i64 (if 0 < i then (ls 0 : Int) else 0), .int .i64 (if 1 < i then (cs 1 : Int) else 0), .int .i64 (if 1 < i then (ls 1 : Int) else 0)]
set_option maxRecDepth 20000 in
set_option maxHeartbeats 16000000 in
theorem open9 (hD : Dk A w g b n d) (hA : ∀ k, w.heap.size ≤ k → A k) (hd0 : d.down = false) (hn : 4 ≤ n) (hn2 : n ≤ 100) (hW : d.W.length ≤ 400) (cs ls : Nat → Nat) (oks : Nat → Bool) (hH : Hds w g cs ls oks) (h0 : oks 0 = true) (h1 : oks 1 = true)
    (hc : ∀ p, p < 2 → cs p < 4611686018427387904 ∧ ls p ≤ (n - 2) / 2 * 512) (hz : ∀ p, p < 2 → cs p = 0 → ls p = 0) (hgd : cs 0 = 0 ∨ cs 1 = 0 ∨ cs 0 = cs 1 + 1 ∨ cs 1 = cs 0 + 1) :
    Calls Try.prog 9 #[.pointer (some ⟨g, 0, none⟩)] w (Out9 A w g b n cs ls d) := by
  have H17 := down17 hD
  have H18 := many24 hD
  rw [hd0] at H17
  have dn : decide ((n : Int) < 4) = false := by simp; omega
  obtain ⟨wa, hwa⟩ : ∃ wa, w.alloc (.cells #[.int .i64 0, .int .i64 0, .int .i64 0, .int .i64 0] 47) = wa := ⟨_, rfl⟩
  have ba : Below w.heap.size w wa := by rw [← hwa]; exact (Below.refl _ w).alloc (Nat.le_refl _) _
  have ha : wa.heap[w.heap.size]? = some (.cells (hcs cs ls 0) 47 (0, 0)) := by rw [← hwa]; exact heap_alloc_new w _
  have HB := Lib.hid (And.intro ba (And.intro ha (And.intro hH (And.intro h0 h1))))
  have HD := Lib.hid (And.intro hD (And.intro hA (And.intro hn (And.intro hn2 (And.intro hW hd0)))))
  have HC := Lib.hid (And.intro hc (And.intro hz hgd))
  clear hD hA hd0 hn hn2 hH h0 h1 hc ba ha hW hz hgd
  go_enter Try.func9, Try.ntmps9
  go_wp2_with (first
    | (go_at_call 17; (with_reducible refine H17.mono ?_); rintro e w1 ⟨rfl, hw⟩; obtain rfl : w = w1 := hw.symm)
    | (go_at_call 18; (with_reducible refine H18.mono ?_); rintro e w1 ⟨rfl, hw⟩; obtain rfl : w = w1 := hw.symm))
  obtain ⟨qh, hqh⟩ : ∃ qh, qh = w.heap.size := ⟨_, rfl⟩
  have HQ := Lib.hid hqh
  rw [← hqh] at HB ⊢
  clear hqh hwa H17 H18
  have hB0 := HB.out
  rw [HQ.out] at hB0
  go_loopg [6, 7, 27] 2 (fun gk v6 v7 v27 wr => ∃ i : Nat, v27 = .int .i64 i ∧ i + gk = 2 ∧ wr.heap[qh]? = some (.cells (hcs cs ls i) 47 (0, 0)) ∧ Below w.heap.size w wr)
  case atStart => exact ⟨0, rfl, by omega, HB.out.2.1, hB0.1⟩
  case round =>
    obtain ⟨i, rfl, hig, hh, hb⟩ := hrel
    have HIG := Lib.hid hig
    have hi : i = 0 ∨ i = 1 ∨ i = 2 := by omega
    rcases hi with rfl | rfl | rfl
    · have H19 := HB.out.2.2.1 wr 0 (by omega) hb
      rw [HB.out.2.2.2.1] at H19
      have HR := Lib.hid (And.intro hh hb)
      clear hig hh hb hB0
      go_upto_region 12 with fail
      have H19 : Calls Try.prog 19 #[.pointer (some ⟨g, 0, none⟩), .int .i64 0] wr fun e w' => e = .returned (.tuple #[.agg #[.int .i64 (cs 0 : Int), .int .i64 (ls 0 : Int)], .bool true]) ∧ Below wr.heap.size wr w' := H19
      go_wp2_with (first
        | (go_at_call 19; (with_reducible refine H19.mono ?_); rintro e w3 ⟨rfl, b3⟩; have h3 := (b3.block qh (Array.getElem?_eq_some_iff.1 HR.out.1).1).trans HR.out.1; have c0 : w3.cell? ⟨qh, 0, none⟩ = some (.int .i64 0) := (by rw [cell_of_row _ _ _ _ _ _ h3]; rfl); have c1 : w3.cell? ⟨qh, 1, none⟩ = some (.int .i64 0) := (by rw [cell_of_row _ _ _ _ _ _ h3]; rfl); have f0 : w3.frozen? ⟨qh, 0, none⟩ = false := frozen_of_row _ _ _ _ _ h3; have f1 : w3.frozen? ⟨qh, 1, none⟩ = false := frozen_of_row _ _ _ _ _ h3; have H3 := Lib.hid (And.intro h3 b3); clear h3 b3 H19))
      go_roundg (gk - 1)
      case measure => have := HIG.out; omega
      case rel =>
        refine ⟨1, by simp, by have := HIG.out; omega, ?_, ?_⟩
        · have e : (w3.setCell ⟨qh, 0, none⟩ (.int .i64 (cs 0 : Int))).heap[qh]? = some (.cells ((hcs cs ls 0).setIfInBounds 0 (.int .i64 (cs 0 : Int))) 47 (0, 0)) := by rw [heap_setCell_same w3 qh 0 _ 47 _ H3.out.1]
          rw [heap_setCell_same _ qh 1 _ 47 _ e]; rfl
        · exact ((below_then HR.out.2 H3.out.2).setCell (p := ⟨qh, 0, none⟩) (by show w.heap.size ≤ qh; rw [HQ.out]; exact Nat.le_refl _) _).setCell (p := ⟨qh, 1, none⟩) (by show w.heap.size ≤ qh; rw [HQ.out]; exact Nat.le_refl _) _
    · have H19 := HB.out.2.2.1 wr 1 (by omega) hb
      rw [HB.out.2.2.2.2] at H19
      have HR := Lib.hid (And.intro hh hb)
      clear hig hh hb hB0
      go_upto_region 12 with fail
      have H19 : Calls Try.prog 19 #[.pointer (some ⟨g, 0, none⟩), .int .i64 1] wr fun e w' => e = .returned (.tuple #[.agg #[.int .i64 (cs 1 : Int), .int .i64 (ls 1 : Int)], .bool true]) ∧ Below wr.heap.size wr w' := H19
      go_wp2_with (first
        | (go_at_call 19; (with_reducible refine H19.mono ?_); rintro e w3 ⟨rfl, b3⟩; have h3 := (b3.block qh (Array.getElem?_eq_some_iff.1 HR.out.1).1).trans HR.out.1; have c0 : w3.cell? ⟨qh, 2, none⟩ = some (.int .i64 0) := (by rw [cell_of_row _ _ _ _ _ _ h3]; rfl); have c1 : w3.cell? ⟨qh, 3, none⟩ = some (.int .i64 0) := (by rw [cell_of_row _ _ _ _ _ _ h3]; rfl); have f0 : w3.frozen? ⟨qh, 2, none⟩ = false := frozen_of_row _ _ _ _ _ h3; have f1 : w3.frozen? ⟨qh, 3, none⟩ = false := frozen_of_row _ _ _ _ _ h3; have H3 := Lib.hid (And.intro h3 b3); clear h3 b3 H19))
      go_roundg (gk - 1)
      case measure => have := HIG.out; omega
      case rel =>
        refine ⟨2, by simp, by have := HIG.out; omega, ?_, ?_⟩
        · have e : (w3.setCell ⟨qh, 2, none⟩ (.int .i64 (cs 1 : Int))).heap[qh]? = some (.cells ((hcs cs ls 1).setIfInBounds 2 (.int .i64 (cs 1 : Int))) 47 (0, 0)) := by rw [heap_setCell_same w3 qh 2 _ 47 _ H3.out.1]
          rw [heap_setCell_same _ qh 3 _ 47 _ e]; rfl
        · exact ((below_then HR.out.2 H3.out.2).setCell (p := ⟨qh, 2, none⟩) (by show w.heap.size ≤ qh; rw [HQ.out]; exact Nat.le_refl _) _).setCell (p := ⟨qh, 3, none⟩) (by show w.heap.size ≤ qh; rw [HQ.out]; exact Nat.le_refl _) _
    · have hh : wr.heap[qh]? = some (.cells #[.int .i64 (cs 0 : Int), .int .i64 (ls 0 : Int), .int .i64 (cs 1 : Int), .int .i64 (ls 1 : Int)] 47 (0, 0)) := hh
      have c0 : wr.cell? ⟨qh, 0, none⟩ = some (.int .i64 (cs 0 : Int)) := (by rw [cell_of_row _ _ _ _ _ _ hh]; rfl)
      have c1 : wr.cell? ⟨qh, 1, none⟩ = some (.int .i64 (ls 0 : Int)) := (by rw [cell_of_row _ _ _ _ _ _ hh]; rfl)
      have c2 : wr.cell? ⟨qh, 2, none⟩ = some (.int .i64 (cs 1 : Int)) := (by rw [cell_of_row _ _ _ _ _ _ hh]; rfl)
      have c3 : wr.cell? ⟨qh, 3, none⟩ = some (.int .i64 (ls 1 : Int)) := (by rw [cell_of_row _ _ _ _ _ _ hh]; rfl)
      have HR := Lib.hid (And.intro hh hb)
      have KEY := Lib.hid (show ∀ W, Below wr.heap.size wr W → W.cell? ⟨qh, 0, none⟩ = some (.int .i64 (cs 0 : Int)) ∧ W.cell? ⟨qh, 1, none⟩ = some (.int .i64 (ls 0 : Int)) ∧ W.cell? ⟨qh, 2, none⟩ = some (.int .i64 (cs 1 : Int)) ∧ W.cell? ⟨qh, 3, none⟩ = some (.int .i64 (ls 1 : Int)) from fun W hb => ⟨cell_below c0 hb, cell_below c1 hb, cell_below c2 hb, cell_below c3 hb⟩)
      clear hig hh hb hB0 c0 c1 c2 c3
      go_upto_region 16 with fail
      refine region_monoI (fun vs L w => T16 wr #[.int .i64 (cs 0 : Int), .int .i64 (ls 0 : Int)] #[.int .i64 (cs 1 : Int), .int .i64 (ls 1 : Int)] (L 4) (vs 4) (L 6) (L 5) (vs 5) (L 7) w) (fun _ _ _ _ _ => True) (fun _ _ => V16 qh (cs 0 : Int) (ls 0 : Int) (cs 1 : Int) (ls 1 : Int)) [(0, some 41), (1, some 42), (2, some 43), (3, some 44), (4, some 8), (5, some 9), (6, none), (7, none)] (by kernel_rfl) (by kernel_rfl) (by kernel_rfl) (fun L vs k1 i1 v' w1 w2 hk hC hC2 hLk hLi hA r1 => V16_k (fun h8 => hA i1 h8 hLi)) (fun L vs i1 v1 w1 hL h => h) (T16.start wr _ _) ?_ (fun vs WQ L hS hLL hV => ?_)
      · refine StepsI.cons0  (by kernel_rfl)  ?_ ?_
        · rintro L hC hL vs w1 hS hAll  K hK
          (try simp only [Act.put, List.setIfInBounds_toArray, List.set_cons_zero, List.set_cons_succ])
          go_simp
          exact hK.out _ _ rfl ⟨hS, trivial⟩
        refine StepsI.cons1 0 (some 41) (by kernel_rfl) rfl ?_ ?_
        · rintro L hC hL vs w1 hS hAll y0 x0 rfl K hK
          (try simp only [Act.put, List.setIfInBounds_toArray, List.set_cons_zero, List.set_cons_succ])
          obtain ⟨c0', c1', c2', c3'⟩ := KEY.out _ hS.b
          go_simp
          exact hK.out _ _ rfl ⟨hS, trivial⟩
        refine StepsI.cons0  (by kernel_rfl)  ?_ ?_
        · rintro L hC hL vs w1 hS hAll  K hK
          (try simp only [Act.put, List.setIfInBounds_toArray, List.set_cons_zero, List.set_cons_succ])
          go_simp
          exact hK.out _ _ rfl ⟨hS, trivial⟩
        refine StepsI.cons1 2 (some 43) (by kernel_rfl) rfl ?_ ?_
        · rintro L hC hL vs w1 hS hAll y2 x2 rfl K hK
          (try simp only [Act.put, List.setIfInBounds_toArray, List.set_cons_zero, List.set_cons_succ])
          obtain ⟨c0', c1', c2', c3'⟩ := KEY.out _ hS.b
          go_simp
          exact hK.out _ _ rfl ⟨hS, trivial⟩
        refine StepsI.cons0  (by kernel_rfl)  ?_ ?_
        · rintro L hC hL vs w1 hS hAll  K hK
          (try simp only [Act.put, List.setIfInBounds_toArray, List.set_cons_zero, List.set_cons_succ])
          go_simp
          exact hK.out _ _ ⟨_, rfl⟩ ⟨hS.al4 hL (hC.no hL (j := 6) rfl (by kernel_rfl)), trivial⟩
        refine StepsI.cons0  (by kernel_rfl)  ?_ ?_
        · rintro L hC hL vs w1 hS hAll  K hK
          (try simp only [Act.put, List.setIfInBounds_toArray, List.set_cons_zero, List.set_cons_succ])
          go_simp
          exact hK.out _ _ ⟨_, rfl⟩ ⟨hS.al5 hL (hC.no hL (j := 7) rfl (by kernel_rfl)), trivial⟩
        refine StepsI.cons2 1 (some 42) 4 (some 8) (by kernel_rfl) rfl rfl ?_ ?_
        · rintro L hC hL vs w1 hS hAll y1 x1 rfl y4 x4 ⟨q4, rfl⟩ K hK
          (try simp only [Act.put, List.setIfInBounds_toArray, List.set_cons_zero, List.set_cons_succ])
          obtain ⟨h4, f0, f1, f2, f3⟩ := hS.get4 hL x4
          go_simp
          exact hK.out undef _ trivial ⟨hS.st6 hL x4, trivial⟩
        refine StepsI.cons2 3 (some 44) 5 (some 9) (by kernel_rfl) rfl rfl ?_ ?_
        · rintro L hC hL vs w1 hS hAll y3 x3 rfl y5 x5 ⟨q5, rfl⟩ K hK
          (try simp only [Act.put, List.setIfInBounds_toArray, List.set_cons_zero, List.set_cons_succ])
          obtain ⟨h5, f0, f1, f2, f3⟩ := hS.get5 hL x5
          go_simp
          exact hK.out undef _ trivial ⟨hS.st7 hL x5, trivial⟩
        exact StepsI.nil
      obtain ⟨q8, e8, b8, h8⟩ := hS.x.yes (hLL 4 (by decide))
      obtain ⟨q9, e9, b9, h9⟩ := hS.y.yes (hLL 5 (by decide))
      rw [if_pos (hLL 6 (by decide))] at h8
      rw [if_pos (hLL 7 (by decide))] at h9
      have HQW := Lib.hid (And.intro (below_then HR.out.2 hS.b) (And.intro ((hS.b.block qh (Array.getElem?_eq_some_iff.1 HR.out.1).1).trans HR.out.1) (And.intro h8 h9)))
      obtain ⟨t80, t81, _, _⟩ := two_of h8
      obtain ⟨t90, t91, _, _⟩ := two_of h9
      simp only [putl, List.foldl_cons, List.foldl_nil, Act.put, List.setIfInBounds_toArray, List.set_cons_zero, List.set_cons_succ]
      rw [e8, e9]
      clear hV hS hLL e8 e9 h8 h9 HR KEY b8 b9
      go_upto_region 17 with fail
      go_cut [66] (fun v66 wx => v66 = .bool false ∧ wx = WQ)
      case first =>
        obtain ⟨hc, hz, hgd⟩ := HC.out
        obtain ⟨hc0, _⟩ := hc 0 (by omega)
        obtain ⟨hc1, _⟩ := hc 1 (by omega)
        by_cases z0 : cs 0 = 0
        · have f1 : decide ((cs 0 : Int) > 0) = false := by simp; omega
          have f2 : decide (0 < cs 0) = false := by simp; omega
          clear hc hz hgd hc0 hc1 z0
          go_wp2_with fail
          go_meet
          exact ⟨rfl, rfl⟩
        by_cases z1 : cs 1 = 0
        · have f1 : decide ((cs 0 : Int) > 0) = true := by simp; omega
          have f2 : decide (0 < cs 0) = true := by simp; omega
          have f3 : decide ((cs 1 : Int) > 0) = false := by simp; omega
          have f4 : decide (0 < cs 1) = false := by simp; omega
          clear hc hz hgd hc0 hc1 z0 z1
          go_wp2_with fail
          go_meet
          exact ⟨rfl, rfl⟩
        · have f1 : decide ((cs 0 : Int) > 0) = true := by simp; omega
          have f2 : decide (0 < cs 0) = true := by simp; omega
          have f3 : decide ((cs 1 : Int) > 0) = true := by simp; omega
          have f4 : decide (0 < cs 1) = true := by simp; omega
          have f5 : IntKind.i64.wrap ((cs 0 : Int) - (cs 1 : Int)) = (cs 0 : Int) - (cs 1 : Int) := IntWalk.i64_in _ (by omega)
          have f6 : IntKind.i64.wrap ((cs 1 : Int) - (cs 0 : Int)) = (cs 1 : Int) - (cs 0 : Int) := IntWalk.i64_in _ (by omega)
          have HZ := Lib.hid (show cs 0 = cs 1 + 1 ∨ cs 1 = cs 0 + 1 by omega)
          clear hc hz hgd hc0 hc1 z0 z1
          go_wp2_with fail
          all_goals (go_meet; refine ⟨congrArg Value.bool ?_, rfl⟩; have := HZ.out; simp; omega)
      case rest =>
        obtain ⟨rfl, hwc⟩ := hcut
        rw [hwc]
        clear hwc wc
        go_upto_region 20 with fail
        obtain ⟨W19, h19⟩ : ∃ x, WQ.alloc (.cells #[.int .i64 (cs 0 : Int), .int .i64 (ls 0 : Int)] 46) = x := ⟨_, rfl⟩
        obtain ⟨q10, hq10⟩ : ∃ q, q = WQ.heap.size := ⟨_, rfl⟩
        have b19 : Below WQ.heap.size WQ W19 := by rw [← h19]; exact (Below.refl _ _).alloc (Nat.le_refl _) _
        have h10 : W19.heap[q10]? = some (.cells #[.int .i64 (cs 0 : Int), .int .i64 (ls 0 : Int)] 46 (0, 0)) := by rw [← h19, hq10]; exact heap_alloc_new WQ _
        have d80 := cell_below t80 b19
        have d81 := cell_below t81 b19
        have d90 := cell_below t90 b19
        have d91 := cell_below t91 b19
        obtain ⟨e0, e1, e2, e3⟩ := two_of h10
        have HQX := Lib.hid (And.intro (below_then HQW.out.1 b19) (And.intro ((b19.block qh (Array.getElem?_eq_some_iff.1 HQW.out.2.1).1).trans HQW.out.2.1) (And.intro h10 (And.intro (show q10 ≠ qh by rw [hq10]; exact fun e => by have := (Array.getElem?_eq_some_iff.1 HQW.out.2.1).1; omega) (show w.heap.size ≤ q10 by rw [hq10]; exact HQW.out.1.size)))))
        rw [h19, ← hq10]
        clear h19 hq10 b19 h10 t80 t81 t90 t91 HQW
        go_upto_if 72 with fail
        go_cut [] (fun wx => Below w.heap.size w wx ∧ wx.heap[qh]? = some (.cells #[.int .i64 (cs 0 : Int), .int .i64 (ls 0 : Int), .int .i64 (cs 1 : Int), .int .i64 (ls 1 : Int)] 47 (0, 0)) ∧ wx.heap[q10]? = some (.cells #[.int .i64 (topC cs : Int), .int .i64 (topL cs ls : Int)] 46 (0, 0)))
        case first =>
          by_cases hlt : cs 0 < cs 1
          · have f1 : decide (cs 0 < cs 1) = true := by simp; omega
            have f2 : decide ((cs 1 : Int) > (cs 0 : Int)) = true := by simp; omega
            have e10 : topC cs = cs 1 ∧ topL cs ls = ls 1 := by unfold topC topL; rw [if_pos hlt, if_pos hlt]; exact ⟨rfl, rfl⟩
            have HE := Lib.hid e10
            clear e10
            go_wp2_with fail
            go_meet
            refine ⟨(HQX.out.1.setCell (p := ⟨q10, 0, none⟩) HQX.out.2.2.2.2 _).setCell (p := ⟨q10, 1, none⟩) HQX.out.2.2.2.2 _, ?_, ?_⟩
            · rw [heap_setCell_other _ _ qh _ (fun e => HQX.out.2.2.2.1 e.symm), heap_setCell_other _ _ qh _ (fun e => HQX.out.2.2.2.1 e.symm)]; exact HQX.out.2.1
            · rw [HE.out.1, HE.out.2]
              have e : (W19.setCell ⟨q10, 0, none⟩ (.int .i64 (cs 1 : Int))).heap[q10]? = some (.cells #[.int .i64 (cs 1 : Int), .int .i64 (ls 0 : Int)] 46 (0, 0)) := by rw [heap_setCell_same W19 q10 0 _ 46 _ HQX.out.2.2.1]; rfl
              rw [heap_setCell_same _ q10 1 _ 46 _ e]; rfl
          · have f1 : decide (cs 0 < cs 1) = false := by simp; omega
            have f2 : decide ((cs 1 : Int) > (cs 0 : Int)) = false := by simp; omega
            have e10 : topC cs = cs 0 ∧ topL cs ls = ls 0 := by unfold topC topL; rw [if_neg hlt, if_neg hlt]; exact ⟨rfl, rfl⟩
            have HE := Lib.hid e10
            clear e10
            go_wp2_with fail
            go_meet
            exact ⟨HQX.out.1, HQX.out.2.1, by rw [HE.out.1, HE.out.2]; exact HQX.out.2.2.1⟩
        case rest =>
          obtain ⟨b1, k1, k2⟩ := hcut
          obtain ⟨W1, hW1⟩ : ∃ W1, wc = W1 := ⟨_, rfl⟩
          rw [hW1] at b1 k1 k2 ⊢
          have H1 := Lib.hid (And.intro b1 (And.intro k1 k2))
          have HQ10 := Lib.hid HQX.out.2.2.2.2
          clear d80 d81 d90 d91 e0 e1 e2 e3 hW1 wc HQX dn
          have c0 : W1.cell? ⟨qh, 0, none⟩ = some (.int .i64 (cs 0 : Int)) := (by rw [cell_of_row _ _ _ _ _ _ k1]; rfl)
          have c1 : W1.cell? ⟨qh, 1, none⟩ = some (.int .i64 (ls 0 : Int)) := (by rw [cell_of_row _ _ _ _ _ _ k1]; rfl)
          have c2 : W1.cell? ⟨qh, 2, none⟩ = some (.int .i64 (cs 1 : Int)) := (by rw [cell_of_row _ _ _ _ _ _ k1]; rfl)
          have c3 : W1.cell? ⟨qh, 3, none⟩ = some (.int .i64 (ls 1 : Int)) := (by rw [cell_of_row _ _ _ _ _ _ k1]; rfl)
          clear b1 k1 k2
          go_wp2_with fail
          obtain ⟨C, hC⟩ : ∃ C, C = topC cs := ⟨_, rfl⟩
          obtain ⟨Lc, hLc⟩ : ∃ C, C = topL cs ls := ⟨_, rfl⟩
          rw [← hC, ← hLc] at H1
          have HCL := Lib.hid (And.intro hC hLc)
          clear hC hLc c0 c1 c2 c3
          obtain ⟨A2, hA2⟩ : ∃ A2, A2 = Rn A w.heap.size W1.heap.size := ⟨_, rfl⟩
          have HA2 := Lib.hid hA2
          have hD1 : Dk A2 W1 g b n d := by rw [hA2]; exact (HD.out.1.rn _).below H1.out.1
          have hs2 : ∀ W, Frm A2 g b W1 W → W.heap[q10]? = some (.cells #[.int .i64 (C : Int), .int .i64 (Lc : Int)] 46 (0, 0)) := fun W f => (f.block q10 (Array.getElem?_eq_some_iff.1 H1.out.2.2).1 (by have := HD.out.1.lt; have := HQ10.out; omega) (by have := HD.out.1.sec.lt; have := HQ10.out; omega) (by rw [hA2]; exact fun e => e.elim (fun e => by have := HQ10.out; omega) (fun e => by have := (Array.getElem?_eq_some_iff.1 H1.out.2.2).1; omega))).trans H1.out.2.2
          have hA2b : ∀ k, W1.heap.size ≤ k → A2 k := by rw [hA2]; exact fun k hk => .inr hk
          have HS2 := Lib.hid (And.intro hs2 hA2b)
          clear hA2 hs2 hA2b
          go_loopg [11, 12, 75] 2 (fun gk v11 v12 v75 wr => ∃ i : Nat, v75 = .int .i64 i ∧ i + gk = 2 ∧ Dk A2 wr g b n (dI n cs C d i) ∧ Frm A2 g b W1 wr ∧ okI n cs C d i)
          case atStart => exact ⟨0, rfl, by omega, hD1, Frm.refl _ _ _ _, trivial⟩
          case round =>
            obtain ⟨i, rfl, hig, hDr, hFr, hok⟩ := hrel
            have HIG := Lib.hid hig
            have hi : i = 0 ∨ i = 1 ∨ i = 2 := by omega
            rcases hi with rfl | rfl | rfl
            · obtain ⟨t0, t1, _, _⟩ := two_of (HS2.out.1 wr hFr)
              obtain ⟨di, hdi⟩ : ∃ di, di = dI n cs C d 0 := ⟨_, rfl⟩
              rw [← hdi] at hDr
              have HDI := Lib.hid (And.intro hdi (And.intro hok hFr))
              have hdW : di.W.length ≤ 1000 := by rw [hdi]; have := @dI_W n cs C d HD.out.2.2.2.1 0; have := HD.out.2.2.2.2.1; omega
              clear hig hok hFr hD1 hdi
              go_upto_region 25 with (rw [idx0])
              obtain ⟨W24, h24⟩ : ∃ x, wr.alloc (.cells #[.int .i64 (cs 0 : Int), .int .i64 (ls 0 : Int)] 46) = x := ⟨_, rfl⟩
              obtain ⟨q12, hq12⟩ : ∃ q, q = wr.heap.size := ⟨_, rfl⟩
              have b24 : Below wr.heap.size wr W24 := by rw [← h24]; exact (Below.refl _ _).alloc (Nat.le_refl _) _
              obtain ⟨e0, e1, _, _⟩ := two_of (show W24.heap[q12]? = some (.cells #[.int .i64 (cs 0 : Int), .int .i64 (ls 0 : Int)] 46 (0, 0)) by rw [← h24, hq12]; exact heap_alloc_new wr _)
              have g0 := cell_below t0 b24
              have hD24 := hDr.below b24
              rw [h24, ← hq12]
              have F24 := Lib.hid (show Frm A2 g b wr W24 from Frm.of_below b24)
              have HDr := Lib.hid hDr
              clear h24 hq12 b24 t0 t1 hDr
              by_cases hee : cs 0 < C ∨ cs 0 = 0
              · obtain ⟨r, d', hrd⟩ : ∃ r d', runA n di (eraseA n 0) = (r, d') := ⟨_, _, rfl⟩
                have H21 := era hD24 (fun k hk => HS2.out.2 k (by have := HDI.out.2.2.size; have := F24.out.size; omega)) HD.out.2.2.1 HD.out.2.2.2.1 0 (by omega) hdW
                rw [hrd, show ((( 0 : Nat)) : Int) = 0 from rfl] at H21
                have HER := Lib.hid (show er n cs C (dI n cs C d 0) 0 = (r, d') by rw [er_yes hee, ← HDI.out.1, hrd])
                clear hrd hD24
                have hc2 : (decide (cs 0 < C) = true ∨ (decide (cs 0 < C) = false ∧ cs 0 = 0)) := by
                  by_cases hl : cs 0 < C
                  · exact .inl (by simp; omega)
                  · exact .inr ⟨by simp; omega, by omega⟩
                rcases hc2 with f1 | ⟨f1, f0⟩
                · have f2 : decide ((cs 0 : Int) < (C : Int)) = true := by simpa using f1
                  clear hee
                  cases r with
                  | true =>
                    go_wp2_with (first
                      | (go_at_call 21; (with_reducible refine H21.mono ?_); rintro e w3 ⟨v3, rfl, b3, H20⟩; clear b3)
                      | (go_at_call 20; (with_reducible refine H20.mono ?_); rintro e w4 ⟨rfl, hD4, f4⟩; have HX4 := Lib.hid (And.intro hD4 f4); clear hD4 f4 H20 H21))
                    go_ret3
                    have e2 := er2_fail (i :=  0) (by decide) HDI.out.2.1 (by rw [HER.out])
                    rw [HER.out] at e2
                    unfold Out9
                    rw [← HCL.out.1, e2]
                    exact ⟨by have h := HX4.out.1; rw [HA2.out] at h; exact h.unrn H1.out.1.size HD.out.2.1, Frm.unrn H1.out.1 rfl (by have h := HDI.out.2.2.trans (F24.out.trans HX4.out.2); rw [HA2.out] at h; exact h), .inl ⟨rfl, rfl⟩⟩
                  | false =>
                    go_wp2_with (first
                      | (go_at_call 21; (with_reducible refine H21.mono ?_); rintro e w3 ⟨v3, rfl, b3, H20⟩; clear b3)
                      | (go_at_call 20; (with_reducible refine H20.mono ?_); rintro e w4 ⟨rfl, hD4, f4⟩; have HX4 := Lib.hid (And.intro hD4 f4); clear hD4 f4 H20 H21))
                    go_roundg (gk - 1)
                    case measure => have := HIG.out; omega
                    case rel => exact ⟨1, by simp, by have := HIG.out; omega, by (show Dk A2 _ g b n (er n cs C (dI n cs C d 0) 0).2; rw [HER.out]; exact HX4.out.1), HDI.out.2.2.trans (F24.out.trans HX4.out.2), ⟨HDI.out.2.1, by rw [HER.out]⟩⟩
                · have f2 : decide ((cs 0 : Int) < (C : Int)) = false := by simpa using f1
                  have f3 : ((cs 0 : Int) == 0) = true := by rw [f0]; rfl
                  have f4 : (cs 0 == 0) = true := by rw [f0]; rfl
                  clear hee f0
                  cases r with
                  | true =>
                    go_wp2_with (first
                      | (go_at_call 21; (with_reducible refine H21.mono ?_); rintro e w3 ⟨v3, rfl, b3, H20⟩; clear b3)
                      | (go_at_call 20; (with_reducible refine H20.mono ?_); rintro e w4 ⟨rfl, hD4, f4⟩; have HX4 := Lib.hid (And.intro hD4 f4); clear hD4 f4 H20 H21))
                    go_ret3
                    have e2 := er2_fail (i :=  0) (by decide) HDI.out.2.1 (by rw [HER.out])
                    rw [HER.out] at e2
                    unfold Out9
                    rw [← HCL.out.1, e2]
                    exact ⟨by have h := HX4.out.1; rw [HA2.out] at h; exact h.unrn H1.out.1.size HD.out.2.1, Frm.unrn H1.out.1 rfl (by have h := HDI.out.2.2.trans (F24.out.trans HX4.out.2); rw [HA2.out] at h; exact h), .inl ⟨rfl, rfl⟩⟩
                  | false =>
                    go_wp2_with (first
                      | (go_at_call 21; (with_reducible refine H21.mono ?_); rintro e w3 ⟨v3, rfl, b3, H20⟩; clear b3)
                      | (go_at_call 20; (with_reducible refine H20.mono ?_); rintro e w4 ⟨rfl, hD4, f4⟩; have HX4 := Lib.hid (And.intro hD4 f4); clear hD4 f4 H20 H21))
                    go_roundg (gk - 1)
                    case measure => have := HIG.out; omega
                    case rel => exact ⟨1, by simp, by have := HIG.out; omega, by (show Dk A2 _ g b n (er n cs C (dI n cs C d 0) 0).2; rw [HER.out]; exact HX4.out.1), HDI.out.2.2.trans (F24.out.trans HX4.out.2), ⟨HDI.out.2.1, by rw [HER.out]⟩⟩
              · have f1 : decide (cs 0 < C) = false := by simp; omega
                have f2 : decide ((cs 0 : Int) < (C : Int)) = false := by simp; omega
                have f3 : ((cs 0 : Int) == 0) = false := by simp; omega
                have f4 : (cs 0 == 0) = false := by simp; omega
                have HER := Lib.hid (show er n cs C (dI n cs C d 0) 0 = (false, di) by rw [er_no hee, HDI.out.1])
                have HX4 := Lib.hid (And.intro hD24 F24.out)
                clear hee hD24
                go_wp2_with fail
                go_roundg (gk - 1)
                case measure => have := HIG.out; omega
                case rel => exact ⟨1, by simp, by have := HIG.out; omega, by (show Dk A2 _ g b n (er n cs C (dI n cs C d 0) 0).2; rw [HER.out]; exact HX4.out.1), HDI.out.2.2.trans HX4.out.2, ⟨HDI.out.2.1, by rw [HER.out]⟩⟩
            · obtain ⟨t0, t1, _, _⟩ := two_of (HS2.out.1 wr hFr)
              obtain ⟨di, hdi⟩ : ∃ di, di = dI n cs C d 1 := ⟨_, rfl⟩
              rw [← hdi] at hDr
              have HDI := Lib.hid (And.intro hdi (And.intro hok hFr))
              have hdW : di.W.length ≤ 1000 := by rw [hdi]; have := @dI_W n cs C d HD.out.2.2.2.1 1; have := HD.out.2.2.2.2.1; omega
              clear hig hok hFr hD1 hdi
              go_upto_region 25 with (rw [idx1])
              obtain ⟨W24, h24⟩ : ∃ x, wr.alloc (.cells #[.int .i64 (cs 1 : Int), .int .i64 (ls 1 : Int)] 46) = x := ⟨_, rfl⟩
              obtain ⟨q12, hq12⟩ : ∃ q, q = wr.heap.size := ⟨_, rfl⟩
              have b24 : Below wr.heap.size wr W24 := by rw [← h24]; exact (Below.refl _ _).alloc (Nat.le_refl _) _
              obtain ⟨e0, e1, _, _⟩ := two_of (show W24.heap[q12]? = some (.cells #[.int .i64 (cs 1 : Int), .int .i64 (ls 1 : Int)] 46 (0, 0)) by rw [← h24, hq12]; exact heap_alloc_new wr _)
              have g0 := cell_below t0 b24
              have hD24 := hDr.below b24
              rw [h24, ← hq12]
              have F24 := Lib.hid (show Frm A2 g b wr W24 from Frm.of_below b24)
              have HDr := Lib.hid hDr
              clear h24 hq12 b24 t0 t1 hDr
              by_cases hee : cs 1 < C ∨ cs 1 = 0
              · obtain ⟨r, d', hrd⟩ : ∃ r d', runA n di (eraseA n 1) = (r, d') := ⟨_, _, rfl⟩
                have H21 := era hD24 (fun k hk => HS2.out.2 k (by have := HDI.out.2.2.size; have := F24.out.size; omega)) HD.out.2.2.1 HD.out.2.2.2.1 1 (by omega) hdW
                rw [hrd, show ((( 1 : Nat)) : Int) = 1 from rfl] at H21
                have HER := Lib.hid (show er n cs C (dI n cs C d 1) 1 = (r, d') by rw [er_yes hee, ← HDI.out.1, hrd])
                clear hrd hD24
                have hc2 : (decide (cs 1 < C) = true ∨ (decide (cs 1 < C) = false ∧ cs 1 = 0)) := by
                  by_cases hl : cs 1 < C
                  · exact .inl (by simp; omega)
                  · exact .inr ⟨by simp; omega, by omega⟩
                rcases hc2 with f1 | ⟨f1, f0⟩
                · have f2 : decide ((cs 1 : Int) < (C : Int)) = true := by simpa using f1
                  clear hee
                  cases r with
                  | true =>
                    go_wp2_with (first
                      | (go_at_call 21; (with_reducible refine H21.mono ?_); rintro e w3 ⟨v3, rfl, b3, H20⟩; clear b3)
                      | (go_at_call 20; (with_reducible refine H20.mono ?_); rintro e w4 ⟨rfl, hD4, f4⟩; have HX4 := Lib.hid (And.intro hD4 f4); clear hD4 f4 H20 H21))
                    go_ret3
                    have e2 := er2_fail (i :=  1) (by decide) HDI.out.2.1 (by rw [HER.out])
                    rw [HER.out] at e2
                    unfold Out9
                    rw [← HCL.out.1, e2]
                    exact ⟨by have h := HX4.out.1; rw [HA2.out] at h; exact h.unrn H1.out.1.size HD.out.2.1, Frm.unrn H1.out.1 rfl (by have h := HDI.out.2.2.trans (F24.out.trans HX4.out.2); rw [HA2.out] at h; exact h), .inl ⟨rfl, rfl⟩⟩
                  | false =>
                    go_wp2_with (first
                      | (go_at_call 21; (with_reducible refine H21.mono ?_); rintro e w3 ⟨v3, rfl, b3, H20⟩; clear b3)
                      | (go_at_call 20; (with_reducible refine H20.mono ?_); rintro e w4 ⟨rfl, hD4, f4⟩; have HX4 := Lib.hid (And.intro hD4 f4); clear hD4 f4 H20 H21))
                    go_roundg (gk - 1)
                    case measure => have := HIG.out; omega
                    case rel => exact ⟨2, by simp, by have := HIG.out; omega, by (show Dk A2 _ g b n (er n cs C (dI n cs C d 1) 1).2; rw [HER.out]; exact HX4.out.1), HDI.out.2.2.trans (F24.out.trans HX4.out.2), ⟨HDI.out.2.1, by rw [HER.out]⟩⟩
                · have f2 : decide ((cs 1 : Int) < (C : Int)) = false := by simpa using f1
                  have f3 : ((cs 1 : Int) == 0) = true := by rw [f0]; rfl
                  have f4 : (cs 1 == 0) = true := by rw [f0]; rfl
                  clear hee f0
                  cases r with
                  | true =>
                    go_wp2_with (first
                      | (go_at_call 21; (with_reducible refine H21.mono ?_); rintro e w3 ⟨v3, rfl, b3, H20⟩; clear b3)
                      | (go_at_call 20; (with_reducible refine H20.mono ?_); rintro e w4 ⟨rfl, hD4, f4⟩; have HX4 := Lib.hid (And.intro hD4 f4); clear hD4 f4 H20 H21))
                    go_ret3
                    have e2 := er2_fail (i :=  1) (by decide) HDI.out.2.1 (by rw [HER.out])
                    rw [HER.out] at e2
                    unfold Out9
                    rw [← HCL.out.1, e2]
                    exact ⟨by have h := HX4.out.1; rw [HA2.out] at h; exact h.unrn H1.out.1.size HD.out.2.1, Frm.unrn H1.out.1 rfl (by have h := HDI.out.2.2.trans (F24.out.trans HX4.out.2); rw [HA2.out] at h; exact h), .inl ⟨rfl, rfl⟩⟩
                  | false =>
                    go_wp2_with (first
                      | (go_at_call 21; (with_reducible refine H21.mono ?_); rintro e w3 ⟨v3, rfl, b3, H20⟩; clear b3)
                      | (go_at_call 20; (with_reducible refine H20.mono ?_); rintro e w4 ⟨rfl, hD4, f4⟩; have HX4 := Lib.hid (And.intro hD4 f4); clear hD4 f4 H20 H21))
                    go_roundg (gk - 1)
                    case measure => have := HIG.out; omega
                    case rel => exact ⟨2, by simp, by have := HIG.out; omega, by (show Dk A2 _ g b n (er n cs C (dI n cs C d 1) 1).2; rw [HER.out]; exact HX4.out.1), HDI.out.2.2.trans (F24.out.trans HX4.out.2), ⟨HDI.out.2.1, by rw [HER.out]⟩⟩
              · have f1 : decide (cs 1 < C) = false := by simp; omega
                have f2 : decide ((cs 1 : Int) < (C : Int)) = false := by simp; omega
                have f3 : ((cs 1 : Int) == 0) = false := by simp; omega
                have f4 : (cs 1 == 0) = false := by simp; omega
                have HER := Lib.hid (show er n cs C (dI n cs C d 1) 1 = (false, di) by rw [er_no hee, HDI.out.1])
                have HX4 := Lib.hid (And.intro hD24 F24.out)
                clear hee hD24
                go_wp2_with fail
                go_roundg (gk - 1)
                case measure => have := HIG.out; omega
                case rel => exact ⟨2, by simp, by have := HIG.out; omega, by (show Dk A2 _ g b n (er n cs C (dI n cs C d 1) 1).2; rw [HER.out]; exact HX4.out.1), HDI.out.2.2.trans HX4.out.2, ⟨HDI.out.2.1, by rw [HER.out]⟩⟩
            · have h10 := HS2.out.1 wr hFr
              have e2 := er2_fine hok
              have hdn := dI_down HD.out.2.2.2.2.2 2 hok
              have hWl := @dI_W n cs C d HD.out.2.2.2.1 2
              obtain ⟨D2, hD2⟩ : ∃ D2, D2 = dI n cs C d 2 := ⟨_, rfl⟩
              rw [← hD2] at hDr e2 hdn hWl
              obtain ⟨t0, t1, _, _⟩ := two_of h10
              have HE := Lib.hid (And.intro e2 (And.intro hdn (And.intro hWl (And.intro hFr (And.intro hDr h10)))))
              clear hig hFr hok hD1 hD2 e2 hdn hWl h10
              have H22 := place22 hDr (by have := HD.out.2.2.1; omega) (C % 2) (by omega)
              have hrm : ((C : Int).tmod 2) = ((C % 2 : Nat) : Int) := by rw [Int.tmod_eq_emod_of_nonneg (by omega)]; rfl
              clear hDr
              obtain ⟨p9, hp9⟩ : ∃ p9, p9 = 2 + C % 2 * ((n - 2) / 2) := ⟨_, rfl⟩
              rw [show ((C % 2 : Nat) : Int) = (C : Int) % 2 by omega, ← hp9] at H22
              have HP9 := Lib.hid hp9
              clear hp9
              go_wp2_with (first
                | (go_at_call 22; (with_reducible refine H22.mono ?_); rintro e w3 ⟨rfl, hw⟩; obtain rfl : wr = w3 := hw.symm; clear H22))
              have hp9 := HP9.out
              obtain ⟨W2, hW2⟩ : ∃ W2, W2 = wr := ⟨_, rfl⟩
              obtain ⟨F, hF⟩ : ∃ F : Nat → Sct, F = fun j => look (D2.S (p9 + j)) D2.W (p9 + j) := ⟨_, rfl⟩
              rw [← hW2] at HE t0 t1 ⊢
              have HP := Lib.hid (And.intro hp9 hF)
              have hLc : Lc ≤ (n - 2) / 2 * 512 := by rw [HCL.out.2]; unfold topL; split; exact (HC.out.1 1 (by omega)).2; exact (HC.out.1 0 (by omega)).2
              have HLC := Lib.hid hLc
              have hpn : p9 + (n - 2) / 2 ≤ n := by
                rw [hp9]
                have h1 : C % 2 * ((n - 2) / 2) ≤ (n - 2) / 2 := by
                  have : C % 2 = 0 ∨ C % 2 = 1 := by omega
                  rcases this with h | h <;> rw [h] <;> omega
                have := HD.out.2.2.1
                omega
              have HPN := Lib.hid hpn
              clear hp9 hW2 hF hLc hpn hrm t0 t1
              go_loopg [13, 14, 15, 16] (nP Lc) (fun gk v13 v14 v15 v16 wr => ∃ i k : Nat, Hid (k = p9 + i) ∧ v14 = .int .i64 k ∧ i + gk = nP Lc ∧ Own wr W2.heap.size v13 (i * 512) (img F i) ∧ Below W2.heap.size W2 wr)
              case atStart => exact ⟨0, p9, Lib.hid rfl, rfl, by omega, World.ownsRow_nil _ _ _ _, Below.refl _ _⟩
              case round =>
                obtain ⟨i, k, hk, rfl, hig, ho, hb⟩ := hrel
                have HIG := Lib.hid hig
                obtain ⟨t0, t1, _, _⟩ := two_of ((hb.block q10 (Array.getElem?_eq_some_iff.1 HE.out.2.2.2.2.2).1).trans HE.out.2.2.2.2.2)
                obtain ⟨a3, c3, rfl⟩ := row_form ho
                by_cases hlt : i * 512 < Lc
                · have hil : i < nP Lc := by unfold nP; omega
                  have hdk := HE.out.2.2.2.2.1.below hb
                  have hkn : k < n := by have := hk.out; have := HPN.out; have := HLC.out; unfold nP at hil; omega
                  have H23 := read15 A2 wr g b n D2 hdk k hkn HE.out.2.1 (by have := HE.out.2.2.1; have := HD.out.2.2.2.2.1; omega)
                  have HFl := Lib.hid (show F i = look (D2.S k) D2.W k ∧ (F i).length = 512 by
                    rw [HP.out.2, hk.out]
                    exact ⟨rfl, len_look _ _ _ (hdk.sec.len _ (by rw [← hk.out]; exact hkn)) (fun q hq => (hdk.wl q hq).2)⟩)
                  have f1 : decide (i * 512 < Lc) = true := by simp; omega
                  have f2 : decide ((i : Int) * 512 < (Lc : Int)) = true := by simp; omega
                  have f3 : (i : Int) * 512 < (Lc : Int) := by omega
                  have hgx : g < wr.heap.size := hdk.lt
                  have kwr : IntKind.i64.wrap ((k : Int) + 1) = ((k + 1 : Nat) : Int) := by rw [IntWalk.i64_in _ (by have := HD.out.2.2.2.1; omega)]; push_cast; rfl
                  obtain ⟨T, hT⟩ : ∃ T, T = img F i := ⟨_, rfl⟩
                  rw [← hT] at ho
                  have HT := Lib.hid (And.intro hT (And.intro hlt hil))
                  have HB := Lib.hid (And.intro hb ho)
                  have h512 : i * 512 ≤ 100000 := by have := HLC.out; have := HD.out.2.2.2.1; omega
                  clear hig hdk hkn hT hlt hil hb ho
                  go_wp2_with (first
                    | (go_at_call 23; (with_reducible refine H23.mono ?_); rintro e w3 ⟨q3, rfl, hq3, hq3b, rg, b3⟩; have y3 : Byt w3 g (some ⟨q3, 0, none⟩) (F i) := ⟨(fun e => by cases e), fun a ha => (by injection ha with ha; subst ha; exact ⟨hq3b, by show q3 ≠ g; omega, fun j x hx => by rw [HFl.out.1] at hx; have := rg j (c8 x) (by rw [List.getElem?_map, hx]; rfl); rw [Addr.add_mid]; exact this⟩)⟩; have o3 : Own w3 W2.heap.size (.slice a3 (i * 512) c3) (i * 512) T := rowKeep HB.out.2 (fun q hq => b3.block q (own_lt HB.out.2 hq).1); have HB3 := Lib.hid (And.intro (below_then HB.out.1 b3) o3); clear H23 rg b3)
                    | (at_builtin; refine app_own rfl (.tmp 115) (.tmp 116) rfl W2.heap.size (.slice a3 (i * 512) c3) (i * 512) T rfl HB3.out.2 g (some ⟨q3, 0, none⟩) 512 512 (F i) rfl HFl.out.2.symm y3 ?q1 ?q2 ?_; (case q1 => omega); (case q2 => exact HB3.out.1.size); intro v4 w4 o4 g4; have b4 := own_below HB3.out.2 HB3.out.1 g4; clear g4 o3))
                  go_roundg (gk - 1)
                  case measure => have := HIG.out; have := HT.out.2.2; omega
                  case rel => exact ⟨i + 1, k + 1, Lib.hid (by have := hk.out; omega), by push_cast; rfl, by have := HIG.out; have := HT.out.2.2; omega, by rw [img_succ, ← HT.out.1, show (i + 1) * 512 = i * 512 + 512 by omega]; exact o4, b4⟩
                · have f1 : decide (i * 512 < Lc) = false := by simp; omega
                  have f2 : decide ((i : Int) * 512 < (Lc : Int)) = false := by simp; omega
                  have f3 : ¬ ((i : Int) * 512 < (Lc : Int)) := by omega
                  have hil : i = nP Lc := by have := HIG.out; unfold nP at *; omega
                  obtain ⟨W3, hW3⟩ : ∃ W3, W3 = wr := ⟨_, rfl⟩
                  rw [← hW3] at hb ho t0 t1 ⊢
                  have HB := Lib.hid (And.intro hb (And.intro ho hil))
                  have z3 : (0 : Int) ≤ (Lc : Int) := by omega
                  have hcc : i * 512 ≤ c3 := by
                    rcases ho.2 with ⟨e, h0⟩ | ⟨q, cap, cur, e, _, _, h1, _⟩
                    · omega
                    · injection e with e1 e2 e3; omega
                  have z4 : (Lc : Int) ≤ (c3 : Int) := by unfold nP at hil; omega
                  have z5 : Lc ≤ c3 := by omega
                  clear hb ho hW3 hil hcc
                  go_upto_region 34 with fail
                  refine region_monoL (fun w1 => Below W3.heap.size W3 w1) (fun w w' => Below w.heap.size w w') (V34 W3.heap.size g q10 C Lc (i * 512) c3 a3) [(0, some 118), (1, some 119), (2, some 120), (3, some 121), (4, some 122), (5, some 123), (6, some 124), (7, some 125), (8, some 126), (9, some 2), (10, some 3), (11, some 4)] (by kernel_rfl) (by kernel_rfl) (by kernel_rfl) (fun _ _ h r => below_then h r) (fun i1 v1 w1 w2 _ h1 r1 => V34_keep W3.heap.size g q10 C Lc (i * 512) c3 a3 i1 v1 w1 w2 h1 r1) ((Below.refl _ W3).drew) ?_ (fun vs W4 hS hV => ?_)
                  · refine StepsL.cons0  (by kernel_rfl)  ?_ ?_
                    · rintro w1 hS  K hK
                      (try simp only [Act.put, List.setIfInBounds_toArray, List.set_cons_zero, List.set_cons_succ])
                      go_simp
                      exact hK.out _ _ rfl (Below.refl _ _)
                    refine StepsL.cons0  (by kernel_rfl)  ?_ ?_
                    · rintro w1 hS  K hK
                      (try simp only [Act.put, List.setIfInBounds_toArray, List.set_cons_zero, List.set_cons_succ])
                      go_simp
                      exact hK.out _ _ rfl (Below.refl _ _)
                    refine StepsL.cons1 1 (some 119) (by kernel_rfl) rfl ?_ ?_
                    · rintro w1 hS _ rfl K hK
                      (try simp only [Act.put, List.setIfInBounds_toArray, List.set_cons_zero, List.set_cons_succ])
                      have c0 := cell_below t0 hS
                      go_simp
                      exact hK.out _ _ rfl (Below.refl _ _)
                    refine StepsL.cons2 0 (some 118) 2 (some 120) (by kernel_rfl) rfl rfl ?_ ?_
                    · rintro w1 hS _ rfl _ rfl K hK
                      (try simp only [Act.put, List.setIfInBounds_toArray, List.set_cons_zero, List.set_cons_succ])
                      go_simp
                      exact hK.out _ _ rfl (Below.refl _ _)
                    refine StepsL.cons1 3 (some 121) (by kernel_rfl) rfl ?_ ?_
                    · rintro w1 hS _ rfl K hK
                      (try simp only [Act.put, List.setIfInBounds_toArray, List.set_cons_zero, List.set_cons_succ])
                      go_simp
                      exact hK.out _ _ ⟨w1.heap.size, rfl, hS.size, heap_alloc_new w1 _⟩ ((Below.refl _ _).alloc (Nat.le_refl _) _)
                    refine StepsL.cons0  (by kernel_rfl)  ?_ ?_
                    · rintro w1 hS  K hK
                      (try simp only [Act.put, List.setIfInBounds_toArray, List.set_cons_zero, List.set_cons_succ])
                      go_simp
                      exact hK.out _ _ rfl (Below.refl _ _)
                    refine StepsL.cons0  (by kernel_rfl)  ?_ ?_
                    · rintro w1 hS  K hK
                      (try simp only [Act.put, List.setIfInBounds_toArray, List.set_cons_zero, List.set_cons_succ])
                      go_simp
                      exact hK.out _ _ rfl (Below.refl _ _)
                    refine StepsL.cons1 6 (some 124) (by kernel_rfl) rfl ?_ ?_
                    · rintro w1 hS _ rfl K hK
                      (try simp only [Act.put, List.setIfInBounds_toArray, List.set_cons_zero, List.set_cons_succ])
                      have c0 := cell_below t1 hS
                      go_simp
                      exact hK.out _ _ rfl (Below.refl _ _)
                    refine StepsL.cons2 5 (some 123) 7 (some 125) (by kernel_rfl) rfl rfl ?_ ?_
                    · rintro w1 hS _ rfl _ rfl K hK
                      (try simp only [Act.put, List.setIfInBounds_toArray, List.set_cons_zero, List.set_cons_succ])
                      go_simp
                      exact hK.out _ _ rfl (Below.refl _ _)
                    refine StepsL.cons1 4 (some 122) (by kernel_rfl) rfl ?_ ?_
                    · rintro w1 hS _ ⟨z4, rfl, k4, h4⟩ K hK
                      (try simp only [Act.put, List.setIfInBounds_toArray, List.set_cons_zero, List.set_cons_succ])
                      go_simp
                      exact hK.out _ _ ⟨_, rfl, k4, h4⟩ (Below.refl _ _)
                    refine StepsL.cons1 8 (some 126) (by kernel_rfl) rfl ?_ ?_
                    · rintro w1 hS _ rfl K hK
                      (try simp only [Act.put, List.setIfInBounds_toArray, List.set_cons_zero, List.set_cons_succ])
                      go_simp
                      exact hK.out _ _ rfl (Below.refl _ _)
                    refine StepsL.cons0  (by kernel_rfl)  ?_ ?_
                    · rintro w1 hS  K hK
                      (try simp only [Act.put, List.setIfInBounds_toArray, List.set_cons_zero, List.set_cons_succ])
                      go_simp
                      exact hK.out _ _ rfl (Below.refl _ _)
                    exact StepsL.nil
                  obtain ⟨qv, e9, kv, hv⟩ := hV 9 (by decide)
                  have e10 : vs 10 = .slice a3 Lc c3 := hV 10 (by decide)
                  have e11 : vs 11 = .int .i64 0 := hV 11 (by decide)
                  simp only [putl, List.foldl_cons, List.foldl_nil, Act.put, List.setIfInBounds_toArray, List.set_cons_zero, List.set_cons_succ]
                  rw [e9, e10, e11]
                  have HV := Lib.hid (And.intro hS (And.intro kv hv))
                  clear hV hS e9 e10 e11 kv hv
                  go_wp2_with fail
                  go_ret3
                  have b34 := below_then HB.out.1 HV.out.1
                  unfold Out9
                  rw [← HCL.out.1, ← HCL.out.2, HE.out.1]
                  have hs1 := H1.out.1.size
                  have hs2 := HE.out.2.2.2.1.size
                  have hs3 := HB.out.1.size
                  refine ⟨?_, ?_, .inr ⟨rfl, qv, a3, c3, rfl, ?_, HV.out.2.2, ?_, ?_⟩⟩
                  · have h := HE.out.2.2.2.2.1.below b34
                    rw [HA2.out] at h
                    exact h.unrn H1.out.1.size HD.out.2.1
                  · refine Frm.unrn H1.out.1 rfl ?_
                    have h := HE.out.2.2.2.1.trans (Frm.of_below b34)
                    rw [HA2.out] at h
                    exact h
                  · have := HV.out.2.1; omega
                  · have h := ((bys_own HB.out.2.1).take Lc).below HV.out.1
                    rw [HP.out.2, HP.out.1, HB.out.2.2] at h
                    exact h
                  · intro a ha
                    subst ha
                    obtain ⟨h1, cs1, h2⟩ := own_lt HB.out.2.1 (k := a.block) rfl
                    refine ⟨?_, cs1, (HV.out.1.block _ h1).trans h2⟩
                    rcases HB.out.2.1.2 with ⟨e, _⟩ | ⟨q, cap, cur, e, hb, _⟩
                    · injection e with e; cases e
                    · injection e with e; injection e with e; rw [e]; show _ ≤ q; omega
end
end Go.Proofs.Ytjabkfccfecmgaa
