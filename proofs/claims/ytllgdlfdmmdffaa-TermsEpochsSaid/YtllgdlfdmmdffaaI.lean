/- Closure and Steps of the program; what the document asks of its arguments. -/
import Derived.Test.YtllgdlfdmmdffaaG
namespace Go.Proofs.Ytllgdlfdmmdffaa
open Go.ChangeShapes Go.WideShapes Go.ChangeAt Go.RowKit
set_option linter.unusedSimpArgs false
set_option linter.unusedVariables false
def cloB (many : Int) (Ks : List Int) (Rs : List Rl) : List Bool := if fitsB many Ks Rs = true then (fin many.toNat Ks Rs).1 else []
def stpL (many : Int) (Ks : List Int) (Rs : List Rl) : List Int := if fitsB many Ks Rs = true then (fin many.toNat Ks Rs).2 else []
/-- Answers that lie in memory. -/
structure Bz (w : World) (ao : Option Addr) (B : List Bool) : Prop where
  nil : ao = none → B = []
  cells : ∀ a, ao = some a → a.block < w.heap.size ∧ ∀ (j : Nat) x, B[j]? = some x → w.cell? (a.add j) = some (.bool x)
theorem Bz.below {w w' : World} {ao : Option Addr} {B : List Bool} (h : Bz w ao B) (k : Below w.heap.size w w') : Bz w' ao B :=
  ⟨h.nil, fun a ha => by
    obtain ⟨h1, h2⟩ := h.cells a ha
    exact ⟨Nat.lt_of_lt_of_le h1 k.size, fun j x hx => (World.cell?_of_block (by rw [add_block]; exact k.block _ h1)).trans (h2 j x hx)⟩⟩
theorem add_zero_mid (b i : Nat) : (⟨b, 0, none⟩ : Addr).add i = ⟨b, i, none⟩ := by rw [Addr.add_mid, Nat.zero_add]
theorem Bl.bz {w : World} {b : Nat} {B : List Bool} (h : Bl w b B) : Bz w (some ⟨b, 0, none⟩) B :=
  ⟨(fun e => by cases e), fun a ha => by
    injection ha with ha
    subst ha
    exact ⟨h.lt, fun j x hx => by rw [add_zero_mid]; exact h.cell hx⟩⟩
theorem bz_nil (w : World) : Bz w none [] := ⟨fun _ => rfl, fun _ h => by cases h⟩
theorem ilz_nil (n : Nat) (w : World) : Ilz n w none [] := ⟨fun _ => rfl, fun _ h => by cases h⟩
theorem own_ilz {w : World} {base n : Nat} {v : Value} {L : List Int} (h : w.ownsRow base 3 1 v n (L.map (Value.int .i64))) : ∃ ao c, v = .slice ao n c ∧ n = L.length ∧ Ilz w.heap.size w ao L := by
  have hl : n = L.length := by have := h.1; simp at this; omega
  rcases h.2 with ⟨rfl, rfl⟩ | ⟨q, cap, cur, rfl, hb, hh, hnc, hrest⟩
  · exact ⟨none, 0, rfl, hl, fun _ => List.eq_nil_of_length_eq_zero hl.symm, fun _ h => by cases h⟩
  · refine ⟨some ⟨q, 0, none⟩, cap, rfl, hl, (fun h => by cases h), fun a ha j x hx => ?_⟩
    injection ha with ha; subst ha
    exact ⟨(Array.getElem?_eq_some_iff.1 hh).1, h.cells (g := q) rfl j (.int .i64 x) (by rw [List.getElem?_map, hx]; rfl)⟩
theorem fix_sum {n : Nat} {Rs : List Rl} (hg : ∀ r ∈ Rs, ∃ k : Nat, r.gives = k ∧ k < n) : ∀ (f : Nat) (st : St), st.1.length = n → (fix Rs f st).1.length = n ∧ falses (fix Rs f st).1 + (fix Rs f st).2.length = falses st.1 + st.2.length
  | 0, st, hl => ⟨hl, rfl⟩
  | f + 1, st, hl => by
    obtain ⟨h1, h2⟩ := rndN_sum hl hg Rs.length (Nat.le_refl _)
    change (rnd Rs st).1.length = n at h1
    change falses (rnd Rs st).1 + (rnd Rs st).2.length = _ at h2
    rw [fix]
    split
    · exact ⟨h1, h2⟩
    · obtain ⟨h3, h4⟩ := fix_sum hg f (rnd Rs st) h1
      exact ⟨h3, by omega⟩
theorem fin_sum {n : Nat} {Ks : List Int} {Rs : List Rl} (h : Fits n Ks Rs) : (fin n Ks Rs).1.length = n ∧ (fin n Ks Rs).2.length ≤ n := by
  obtain ⟨h1, h2⟩ := fix_sum h.gs (n + 1) (marks Ks n, []) (marks_length Ks n)
  refine ⟨h1, ?_⟩
  have := falses_le (marks Ks n)
  rw [marks_length] at this
  have h3 : falses (fin n Ks Rs).1 + (fin n Ks Rs).2.length = falses (marks Ks n) + 0 := h2
  omega
/-- What tells who finds. -/
def Cl (w : World) (B : List Bool) (e : Ending) (w' : World) : Prop := ∃ ao n, e = .returned (.slice ao n n) ∧ n = B.length ∧ n ≤ 4096 ∧ Bz w' ao B ∧ Below w.heap.size w w'
def Sl (w : World) (L : List Int) (e : Ending) (w' : World) : Prop := ∃ ao n c, e = .returned (.slice ao n c) ∧ n = L.length ∧ n ≤ 4096 ∧ Ilz w'.heap.size w' ao L ∧ Below w.heap.size w w'
section
variable {many : Int} {ao lo : Option Addr} {n m c lc k : Nat} {Ks : List Int} {Rs : List Rl} {w : World}
set_option maxHeartbeats 4000000 in
theorem clo10 (hn : n = Ks.length) (hm : m = Rs.length) (n47 : n ≤ 9223372036854775807) (m47 : m ≤ 9223372036854775807) (hK : Ilz k w ao Ks) (hR : Rlz k w lo Rs) (hk : k ≤ w.heap.size) (hz : -9223372036854775808 ≤ many ∧ many < 9223372036854775808) :
    Calls Try.prog 10 #[.int .i64 many, .slice ao n c, .slice lo m lc] w (Cl w (cloB many Ks Rs)) := by
  have h17 := may17 many ao lo n m c lc k Ks Rs w hn hm n47 m47 hK hR hk hz
  cases hq : fitsB many Ks Rs with
  | false =>
    have e : cloB many Ks Rs = [] := by unfold cloB; rw [hq]; rfl
    rw [hq] at h17
    rw [e]
    clear hq e hn hm hK hR
    go_enter Try.func10, Try.ntmps10
    go_wp2_with (go_at_call 17; (with_reducible refine h17.mono ?_); rintro e w1 ⟨rfl, b1⟩)
    go_ret
    exact ⟨none, 0, rfl, rfl, by omega, bz_nil _, b1⟩
  | true =>
    obtain ⟨N, hN, hF⟩ := fits_nat hq
    subst hN
    have e : cloB (N : Int) Ks Rs = (fin N Ks Rs).1 := by unfold cloB; rw [if_pos hq]; rfl
    rw [hq] at h17
    rw [e]
    have HC : ∀ W, Below w.heap.size w W → Calls Try.prog 18 #[.int .i64 (N : Int), .slice ao n c, .slice lo m lc] W (Fo W N Ks Rs) := fun W hb => found18 N n m c lc k ao lo Ks Rs W hn hm hF n47 (hK.below hb hk) (hR.below hb hk) (Nat.le_trans hk hb.size)
    have HC := Lib.hid HC
    have HS := Lib.hid (And.intro (fin_sum hF) hF.hi)
    clear hq e hn hm hK hR hF
    go_enter Try.func10, Try.ntmps10
    go_wp2_with (first
      | (go_at_call 17; (with_reducible refine h17.mono ?_); rintro e w1 ⟨rfl, b1⟩; have B1 := Lib.hid b1; clear b1)
      | (go_at_call 18; (with_reducible refine (HC.out _ B1.out).mono ?_); rintro e w2 ⟨b, g, base, v, rfl, f2⟩; have F2 := Lib.hid f2; clear f2))
    go_ret
    exact ⟨_, N, rfl, HS.out.1.1.symm, HS.out.2, F2.out.bl.bz, below_then B1.out F2.out.k⟩
set_option maxHeartbeats 4000000 in
theorem stp13 (hn : n = Ks.length) (hm : m = Rs.length) (n47 : n ≤ 9223372036854775807) (m47 : m ≤ 9223372036854775807) (hK : Ilz k w ao Ks) (hR : Rlz k w lo Rs) (hk : k ≤ w.heap.size) (hz : -9223372036854775808 ≤ many ∧ many < 9223372036854775808) :
    Calls Try.prog 13 #[.int .i64 many, .slice ao n c, .slice lo m lc] w (Sl w (stpL many Ks Rs)) := by
  have h17 := may17 many ao lo n m c lc k Ks Rs w hn hm n47 m47 hK hR hk hz
  cases hq : fitsB many Ks Rs with
  | false =>
    have e : stpL many Ks Rs = [] := by unfold stpL; rw [hq]; rfl
    rw [hq] at h17
    rw [e]
    clear hq e hn hm hK hR
    go_enter Try.func13, Try.ntmps13
    go_wp2_with (go_at_call 17; (with_reducible refine h17.mono ?_); rintro e w1 ⟨rfl, b1⟩)
    go_ret
    exact ⟨none, 0, 0, rfl, rfl, by omega, ilz_nil _ _, b1⟩
  | true =>
    obtain ⟨N, hN, hF⟩ := fits_nat hq
    subst hN
    have e : stpL (N : Int) Ks Rs = (fin N Ks Rs).2 := by unfold stpL; rw [if_pos hq]; rfl
    rw [hq] at h17
    rw [e]
    have HC : ∀ W, Below w.heap.size w W → Calls Try.prog 18 #[.int .i64 (N : Int), .slice ao n c, .slice lo m lc] W (Fo W N Ks Rs) := fun W hb => found18 N n m c lc k ao lo Ks Rs W hn hm hF n47 (hK.below hb hk) (hR.below hb hk) (Nat.le_trans hk hb.size)
    have HC := Lib.hid HC
    have HS := Lib.hid (And.intro (fin_sum hF) hF.hi)
    clear hq e hn hm hK hR hF
    go_enter Try.func13, Try.ntmps13
    go_wp2_with (first
      | (go_at_call 17; (with_reducible refine h17.mono ?_); rintro e w1 ⟨rfl, b1⟩; have B1 := Lib.hid b1; clear b1)
      | (go_at_call 18; (with_reducible refine (HC.out _ B1.out).mono ?_); rintro e w2 ⟨b, g, base, v, rfl, f2⟩; obtain ⟨a2, c2, rfl, l2, i2⟩ := own_ilz f2.own; have F2 := Lib.hid (And.intro f2 i2); clear f2 l2 i2))
    go_ret
    exact ⟨_, _, _, rfl, rfl, by have := HS.out; omega, F2.out.2, below_then B1.out F2.out.1.k⟩
end
/-- The ways in which arguments do not fit. -/
theorem fits_no_k {many : Int} {Ks : List Int} {Rs : List Rl} {x : Int} (hx : x ∈ Ks) (h : inB many x = false) : fitsB many Ks Rs = false := by
  cases hq : fitsB many Ks Rs with
  | false => rfl
  | true =>
    simp only [fitsB, Bool.and_eq_true, List.all_eq_true] at hq
    rw [hq.1.2 x hx] at h; cases h
theorem fits_no_r {many : Int} {Ks : List Int} {Rs : List Rl} {r : Rl} (hx : r ∈ Rs) (h : fitR many r = false) : fitsB many Ks Rs = false := by
  cases hq : fitsB many Ks Rs with
  | false => rfl
  | true =>
    simp only [fitsB, Bool.and_eq_true, List.all_eq_true] at hq
    rw [hq.2 r hx] at h; cases h
end Go.Proofs.Ytllgdlfdmmdffaa
