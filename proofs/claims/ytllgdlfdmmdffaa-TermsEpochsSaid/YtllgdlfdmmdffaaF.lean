/- Searching with a predicate; whether rules and numbers fit. -/
import Derived.Test.YtllgdlfdmmdffaaE
import Derived.Shelf.Abstract
namespace Go.Proofs.Ytllgdlfdmmdffaa
open Go.ChangeShapes Go.WideShapes Go.ChangeAt Go.RowKit
set_option linter.unusedSimpArgs false
set_option linter.unusedVariables false
/-- A function value that tells of numbers of a list. -/
def PrI (g : Nat) (lb : Array Value) (p : Int → Bool) (L : List Int) (w : World) : Prop :=
  ∀ W x, x ∈ L → Below w.heap.size w W → Calls Try.prog g (#[.int .i64 x] ++ lb) W fun e w' => e = .returned (.bool (p x)) ∧ Below W.heap.size W w'
/-- The like, of rules. -/
def PrR (g : Nat) (lb : Array Value) (p : Rl → Bool) (k : Nat) (w : World) : Prop :=
  ∀ W r ao c, r.needs.length ≤ 9223372036854775807 → Below w.heap.size w W → Ilz k W ao r.needs → Calls Try.prog g (#[.agg #[.slice ao r.needs.length c, .int .i64 r.gives]] ++ lb) W fun e w' => e = .returned (.bool (p r)) ∧ Below W.heap.size W w'
/-- The first place, or less than nothing. -/
def ixOf {α : Type} (p : α → Bool) (L : List α) : Int := if L.any p = true then (L.findIdx p : Nat) else -1
theorem ixOf_hit {α : Type} (p : α → Bool) (L : List α) (k : Nat) (x : α) (hx : L[k]? = some x) (hp : p x = true) (hl : ∀ j y, j < k → L[j]? = some y → p y = false) : ixOf p L = k := by
  obtain ⟨hk, rfl⟩ := List.getElem?_eq_some_iff.1 hx
  have h1 : L.any p = true := List.any_eq_true.2 ⟨_, List.getElem_mem hk, hp⟩
  rw [ixOf, if_pos h1]
  congr 1
  rw [List.findIdx_eq hk]
  exact ⟨hp, fun j hj => hl j _ hj (List.getElem?_eq_getElem _)⟩
theorem ixOf_miss {α : Type} (p : α → Bool) (L : List α) (hl : ∀ j y, j < L.length → L[j]? = some y → p y = false) : ixOf p L = -1 := by
  rw [ixOf, if_neg]
  intro h
  obtain ⟨x, hx, hp⟩ := List.any_eq_true.1 h
  obtain ⟨j, hj, rfl⟩ := List.getElem_of_mem hx
  have := hl j _ hj (List.getElem?_eq_getElem hj)
  rw [this] at hp
  cases hp
theorem ixOf_any {α : Type} (p : α → Bool) (L : List α) : decide (0 ≤ ixOf p L) = L.any p := by
  unfold ixOf
  split
  · rename_i h; rw [h]; simp
  · rename_i h; simp at h ⊢; exact h
theorem ixOf_bd {α : Type} (p : α → Bool) (L : List α) : -1 ≤ ixOf p L := by unfold ixOf; split <;> omega
theorem below_then {a b c : World} (h : Below a.heap.size a b) (k : Below b.heap.size b c) : Below a.heap.size a c := h.trans (k.mono h.size)
set_option maxHeartbeats 4000000 in
theorem idx39 (g : Nat) (lb : Array Value) (p : Int → Bool) (eg : ∀ args w, (callFunc g args).run Try.prog w = .ok (.enter g args) w) (ao : Option Addr) (n c k : Nat) (L : List Int) (w : World) (hn : n = L.length) (h47 : n ≤ 9223372036854775807)
    (hI : Ilz k w ao L) (hk : k ≤ w.heap.size) (hp : PrI g lb p L w) :
    Calls Try.prog 39 #[.slice ao n c, .func (.func g) #[] lb] w fun e w' => e = .returned (.int .i64 (ixOf p L)) ∧ Below w.heap.size w w' := by
  have HN := Lib.hid hn
  have HP := Lib.hid hp
  clear hn hp
  go_enter Try.func39, Try.ntmps39
  go_wp2_with fail
  go_loopg [5, 8] n (fun gk v5 v8 wr => ∃ i : Nat, v8 = .int .i64 i ∧ i + gk = n ∧ Below w.heap.size w wr ∧ Hid (∀ j y, j < i → L[j]? = some y → p y = false))
  case atStart => exact ⟨0, rfl, by omega, Below.refl _ _, Lib.hid (fun j y hj => absurd hj (Nat.not_lt_zero _))⟩
  case round =>
    obtain ⟨i, rfl, hig, hb, hm⟩ := hrel
    have HG := Lib.hid hig
    by_cases h1 : i < n
    · have d1 : decide ((i : Int) < (n : Int)) = true := by simp; omega
      have hIr := hI.below hb hk
      obtain ⟨a, rfl⟩ := hI.some_ (by have := HN.out; omega)
      obtain ⟨x, hx⟩ : ∃ x, L[i]? = some x := ⟨L[i]'(by rw [← HN.out]; exact h1), List.getElem?_eq_getElem _⟩
      have hc := (hIr.cells a rfl i x hx).2
      have hcall := HP.out wr x (List.mem_of_getElem? hx) hb
      have HX := Lib.hid hx
      have q0 : (0 : Int) ≤ (i : Int) := by omega
      have q1 : (i : Int) < (n : Int) := by omega
      clear hig hI hIr hx
      cases hq : p x with
      | true =>
        have HQ := Lib.hid hq
        rw [hq] at hcall
        clear hq
        go_wp2_with (go_at_fn g; (with_reducible refine hcall.mono ?_); rintro e w' ⟨rfl, b2⟩)
        go_ret
        exact ⟨by rw [ixOf_hit p L i x HX.out HQ.out hm.out]; rfl, below_then hb b2⟩
      | false =>
        have HQ := Lib.hid hq
        rw [hq] at hcall
        clear hq
        go_wp2_with (go_at_fn g; (with_reducible refine hcall.mono ?_); rintro e w' ⟨rfl, b2⟩)
        go_roundg (gk - 1)
        case measure => have := HG.out; omega
        case rel =>
          refine ⟨i + 1, by simp, by have := HG.out; omega, below_then hb b2, Lib.hid fun j y hj hy => ?_⟩
          by_cases e : j = i
          · subst e
            rw [HX.out] at hy
            injection hy with hy
            rw [← hy]; exact HQ.out
          · exact hm.out j y (by omega) hy
    · have d1 : decide ((i : Int) < (n : Int)) = false := by simp; omega
      obtain rfl : i = n := by omega
      clear hig
      go_wp2_with fail
      go_ret
      exact ⟨by rw [ixOf_miss p L (by rw [← HN.out]; exact hm.out)]; rfl, hb⟩
set_option maxHeartbeats 4000000 in
theorem cf26 (g : Nat) (lb : Array Value) (p : Int → Bool) (eg : ∀ args w, (callFunc g args).run Try.prog w = .ok (.enter g args) w) (ao : Option Addr) (n c k : Nat) (L : List Int) (w : World) (hn : n = L.length) (h47 : n ≤ 9223372036854775807)
    (hI : Ilz k w ao L) (hk : k ≤ w.heap.size) (hp : PrI g lb p L w) :
    Calls Try.prog 26 #[.slice ao n c, .func (.func g) #[] lb] w fun e w' => e = .returned (.bool (L.any p)) ∧ Below w.heap.size w w' := by
  have hc := idx39 g lb p eg ao n c k L w hn h47 hI hk hp
  have HA := ixOf_any p L
  generalize ixOf p L = z at hc HA
  rw [← HA]
  clear hp hI HA hn
  go_enter Try.func26, Try.ntmps26
  go_wp2_with (go_at_call 39; (with_reducible refine hc.mono ?_); rintro e w' ⟨rfl, b2⟩)
  go_ret
  exact ⟨rfl, b2⟩
theorem row2 {w : World} {a : Addr} {x y : Value} (hx : w.cell? a = some x) (hy : w.cell? (a.add 1) = some y) : ∃ pb po, a = ⟨pb, po, none⟩ ∧ w.cell? ⟨pb, po, none⟩ = some x ∧ w.cell? ⟨pb, po + 1, none⟩ = some y := by
  have e := at_none hx
  obtain ⟨pb, po, s⟩ := a
  injection e with _ _ e
  subst e
  exact ⟨pb, po, rfl, hx, hy⟩
theorem info32 : (Try.prog.info? 32).map (·.size) = some 2 := by kernel_rfl
set_option maxHeartbeats 4000000 in
theorem idx40 (g : Nat) (lb : Array Value) (p : Rl → Bool) (eg : ∀ args w, (callFunc g args).run Try.prog w = .ok (.enter g args) w) (lo : Option Addr) (n c k : Nat) (Rs : List Rl) (w : World) (hn : n = Rs.length) (h47 : n ≤ 9223372036854775807)
    (hI : Rlz k w lo Rs) (hk : k ≤ w.heap.size) (hp : PrR g lb p k w) :
    Calls Try.prog 40 #[.slice lo n c, .func (.func g) #[] lb] w fun e w' => e = .returned (.int .i64 (ixOf p Rs)) ∧ Below w.heap.size w w' := by
  have HN := Lib.hid hn
  have HP := Lib.hid hp
  clear hn hp
  go_enter Try.func40, Try.ntmps40
  go_wp2_with fail
  go_loopg [5, 8] n (fun gk v5 v8 wr => ∃ i : Nat, v8 = .int .i64 i ∧ i + gk = n ∧ Below w.heap.size w wr ∧ Hid (∀ j y, j < i → Rs[j]? = some y → p y = false))
  case atStart => exact ⟨0, rfl, by omega, Below.refl _ _, Lib.hid (fun j y hj => absurd hj (Nat.not_lt_zero _))⟩
  case round =>
    obtain ⟨i, rfl, hig, hb, hm⟩ := hrel
    have HG := Lib.hid hig
    by_cases h1 : i < n
    · have d1 : decide ((i : Int) < (n : Int)) = true := by simp; omega
      have hIr := hI.below hb hk
      obtain ⟨a, rfl⟩ := hI.some_ (by have := HN.out; omega)
      obtain ⟨x, hx⟩ : ∃ x, Rs[i]? = some x := ⟨Rs[i]'(by rw [← HN.out]; exact h1), List.getElem?_eq_getElem _⟩
      obtain ⟨-, ⟨ao, ac, hac, hc0, hIn⟩, hc1⟩ := hIr.cells a rfl i x hx
      have hcall := HP.out wr x ao ac (hI.lens x (List.mem_of_getElem? hx)) hb hIn
      obtain ⟨pb, po, hpa, hc2, hc3⟩ := row2 hc0 hc1
      have HX := Lib.hid hx
      have q0 : (0 : Int) ≤ (i : Int) := by omega
      have q1 : (i : Int) < (n : Int) := by omega
      obtain ⟨m, hm0⟩ : ∃ m, x.needs.length = m := ⟨_, rfl⟩
      obtain ⟨y, hy0⟩ : ∃ y, x.gives = y := ⟨_, rfl⟩
      rw [hm0] at hc2
      rw [hy0] at hc3
      rw [hm0, hy0] at hcall
      clear hig hI hIr hx hIn hc0 hc1 hm0 hy0 hac
      cases hq : p x with
      | true =>
        have HQ := Lib.hid hq
        rw [hq] at hcall
        clear hq
        go_wp2_with (go_at_fn g; (with_reducible refine hcall.mono ?_); rintro e w' ⟨rfl, b2⟩)
        go_ret
        exact ⟨by rw [ixOf_hit p Rs i x HX.out HQ.out hm.out]; rfl, below_then hb b2⟩
      | false =>
        have HQ := Lib.hid hq
        rw [hq] at hcall
        clear hq
        go_wp2_with (go_at_fn g; (with_reducible refine hcall.mono ?_); rintro e w' ⟨rfl, b2⟩)
        go_roundg (gk - 1)
        case measure => have := HG.out; omega
        case rel =>
          refine ⟨i + 1, by simp, by have := HG.out; omega, below_then hb b2, Lib.hid fun j y hj hy => ?_⟩
          by_cases e : j = i
          · subst e
            rw [HX.out] at hy
            injection hy with hy
            rw [← hy]; exact HQ.out
          · exact hm.out j y (by omega) hy
    · have d1 : decide ((i : Int) < (n : Int)) = false := by simp; omega
      obtain rfl : i = n := by omega
      clear hig
      go_wp2_with fail
      go_ret
      exact ⟨by rw [ixOf_miss p Rs (by rw [← HN.out]; exact hm.out)]; rfl, hb⟩
set_option maxHeartbeats 4000000 in
theorem cf27 (g : Nat) (lb : Array Value) (p : Rl → Bool) (eg : ∀ args w, (callFunc g args).run Try.prog w = .ok (.enter g args) w) (lo : Option Addr) (n c k : Nat) (Rs : List Rl) (w : World) (hn : n = Rs.length) (h47 : n ≤ 9223372036854775807)
    (hI : Rlz k w lo Rs) (hk : k ≤ w.heap.size) (hp : PrR g lb p k w) :
    Calls Try.prog 27 #[.slice lo n c, .func (.func g) #[] lb] w fun e w' => e = .returned (.bool (Rs.any p)) ∧ Below w.heap.size w w' := by
  have hc := idx40 g lb p eg lo n c k Rs w hn h47 hI hk hp
  have HA := ixOf_any p Rs
  generalize ixOf p Rs = z at hc HA
  rw [← HA]
  clear hp hI HA hn
  go_enter Try.func27, Try.ntmps27
  go_wp2_with (go_at_call 40; (with_reducible refine hc.mono ?_); rintro e w' ⟨rfl, b2⟩)
  go_ret
  exact ⟨rfl, b2⟩
/-- What the two short predicates have captured. -/
structure Cap (w : World) (b3 b7 : Nat) (many : Int) : Prop where
  l3 : b3 < w.heap.size
  l7 : b7 < w.heap.size
  c3 : w.cell? ⟨b3, 0, none⟩ = some (.int .i64 many)
  c7 : w.cell? ⟨b7, 0, none⟩ = some (.func (.func 24) #[] #[.pointer (some ⟨b3, 0, none⟩)])
theorem Cap.below {w w' : World} {b3 b7 : Nat} {many : Int} (h : Cap w b3 b7 many) (k : Below w.heap.size w w') : Cap w' b3 b7 many :=
  ⟨Nat.lt_of_lt_of_le h.l3 k.size, Nat.lt_of_lt_of_le h.l7 k.size, (k.cell (p := ⟨b3, 0, none⟩) h.l3).trans h.c3, (k.cell (p := ⟨b7, 0, none⟩) h.l7).trans h.c7⟩
theorem eg24 : ∀ args w, (callFunc 24 args).run Try.prog w = .ok (.enter 24 args) w := enters_of Try.func24 (by kernel_rfl) rfl
theorem eg25 : ∀ args w, (callFunc 25 args).run Try.prog w = .ok (.enter 25 args) w := enters_of Try.func25 (by kernel_rfl) rfl
theorem eg28 : ∀ args w, (callFunc 28 args).run Try.prog w = .ok (.enter 28 args) w := enters_of Try.func28 (by kernel_rfl) rfl
theorem in24 (b3 : Nat) (many x : Int) (w : World) (hc : w.cell? ⟨b3, 0, none⟩ = some (.int .i64 many)) :
    Calls Try.prog 24 #[.int .i64 x, .pointer (some ⟨b3, 0, none⟩)] w fun e w' => e = .returned (.bool (inB many x)) ∧ Below w.heap.size w w' := by
  by_cases h : 0 ≤ x
  · have d : decide (0 ≤ x) = true := by simp; omega
    obtain ⟨q, hq⟩ : ∃ q, inB many x = q := ⟨_, rfl⟩
    have hq2 : decide (x < many) = q := by rw [← hq]; simp [inB, h]
    rw [hq]
    clear hq
    go_enter Try.func24, Try.ntmps24
    go_wp2_with fail
    go_ret
    exact ⟨by first | rfl | (rw [← hq2]; rfl), Below.refl _ _⟩
  · have d : decide (0 ≤ x) = false := by simp; omega
    have hq : inB many x = false := by simp [inB, h]
    rw [hq]
    go_enter Try.func24, Try.ntmps24
    go_wp2_with fail
    go_ret
    exact ⟨rfl, Below.refl _ _⟩
theorem none25 (b3 b7 : Nat) (many x : Int) (w : World) (h : Cap w b3 b7 many) :
    Calls Try.prog 25 #[.int .i64 x, .pointer (some ⟨b7, 0, none⟩)] w fun e w' => e = .returned (.bool (!inB many x)) ∧ Below w.heap.size w w' := by
  have hc7 := h.c7
  have e24 := eg24
  have hc := in24 b3 many x w h.c3
  generalize inB many x = q at hc ⊢
  go_enter Try.func25, Try.ntmps25
  go_wp2_with (go_at_fn 24; (with_reducible refine hc.mono ?_); rintro e w' ⟨rfl, b2⟩)
  go_ret
  exact ⟨rfl, b2⟩
theorem prI25 (b3 b7 : Nat) (many : Int) (L : List Int) (w : World) (h : Cap w b3 b7 many) : PrI 25 #[.pointer (some ⟨b7, 0, none⟩)] (fun x => !inB many x) L w :=
  fun W x _ hb => none25 b3 b7 many x W (h.below hb)
theorem any_not {α : Type} (p : α → Bool) (L : List α) : L.any (fun x => !p x) = !L.all p := by
  induction L with
  | nil => rfl
  | cons x L ih => simp only [List.any_cons, List.all_cons, ih, Bool.not_and]
set_option maxHeartbeats 4000000 in
theorem bad28 (b3 b7 b8 : Nat) (many : Int) (w : World) (r : Rl) (ao : Option Addr) (k c : Nat) (h : Cap w b3 b7 many) (l8 : b8 < w.heap.size) (c8 : w.cell? ⟨b8, 0, none⟩ = some (.func (.func 25) #[] #[.pointer (some ⟨b7, 0, none⟩)]))
    (hl : r.needs.length ≤ 9223372036854775807) (hI : Ilz k w ao r.needs) (hk : k ≤ w.heap.size) :
    Calls Try.prog 28 #[.agg #[.slice ao r.needs.length c, .int .i64 r.gives], .pointer (some ⟨b8, 0, none⟩)] w fun e w' => e = .returned (.bool (!fitR many r)) ∧ Below w.heap.size w w' := by
  have e25 := eg25
  have HF : fitR many r = (inB many r.gives && r.needs.all (inB many)) := rfl
  obtain ⟨n, hn⟩ : ∃ n, r.needs.length = n := ⟨_, rfl⟩
  obtain ⟨y, hy⟩ : ∃ y, r.gives = y := ⟨_, rfl⟩
  have HC : ∀ W, Below w.heap.size w W → Calls Try.prog 25 #[.int .i64 y, .pointer (some ⟨b7, 0, none⟩)] W fun e w' => e = .returned (.bool (!inB many y)) ∧ Below W.heap.size W w' := fun W hb => none25 b3 b7 many y W (h.below hb)
  have HD : ∀ W, Below w.heap.size w W → Calls Try.prog 26 #[.slice ao n c, .func (.func 25) #[] #[.pointer (some ⟨b7, 0, none⟩)]] W fun e w' => e = .returned (.bool (!r.needs.all (inB many))) ∧ Below W.heap.size W w' := fun W hb => by
    have := cf26 25 #[.pointer (some ⟨b7, 0, none⟩)] (fun x => !inB many x) eg25 ao n c k r.needs W hn.symm (by omega) (hI.below hb hk) (Nat.le_trans hk hb.size) (prI25 b3 b7 many r.needs W (h.below hb))
    rw [any_not] at this
    exact this
  have H8 : ∀ W, Below w.heap.size w W → W.cell? ⟨b8, 0, none⟩ = some (.func (.func 25) #[] #[.pointer (some ⟨b7, 0, none⟩)]) := fun W hb => (hb.cell (p := ⟨b8, 0, none⟩) l8).trans c8
  rw [hn, hy]
  rw [hy] at HF
  generalize inB many y = q1 at HC HF
  generalize r.needs.all (inB many) = q2 at HD HF
  rw [HF]
  have HC := Lib.hid HC
  have HD := Lib.hid HD
  have H8 := Lib.hid H8
  have HL8 := Lib.hid l8
  clear h hI hl hn hy HF l8 hk c8
  have b1 : Below w.heap.size w (w.alloc (.cells #[.slice ao n c, .int .i64 y] 32)) := (Below.refl _ w).alloc (Nat.le_refl _) _
  have g8 := H8.out _ b1
  have hc0 : (w.alloc (.cells #[.slice ao n c, .int .i64 y] 32)).cell? ⟨w.heap.size, 0, none⟩ = some (.slice ao n c) := by simp
  have HB1 := Lib.hid b1
  clear b1
  cases q1 with
  | false =>
    have hC := HC.out _ HB1.out
    go_enter Try.func28, Try.ntmps28
    go_wp2_with (go_at_fn 25; (with_reducible refine hC.mono ?_); rintro e w1 ⟨rfl, b2⟩)
    go_ret
    exact ⟨rfl, below_then HB1.out b2⟩
  | true =>
    have hC := HC.out _ HB1.out
    go_enter Try.func28, Try.ntmps28
    go_wp2_with (first
      | (go_at_fn 25; (with_reducible refine hC.mono ?_); rintro e w1 ⟨rfl, b2⟩; have HB2 := Lib.hid (below_then HB1.out b2); have g9 := H8.out _ HB2.out; have hc1 := (b2.cell (p := ⟨w.heap.size, 0, none⟩) (by simp)).trans hc0; clear b2)
      | (go_at_call 26; (with_reducible refine (HD.out _ HB2.out).mono ?_); rintro e w2 ⟨rfl, b3⟩))
    go_ret
    exact ⟨rfl, below_then HB2.out b3⟩
theorem prR28 (b3 b7 b8 : Nat) (many : Int) (k : Nat) (w : World) (h : Cap w b3 b7 many) (l8 : b8 < w.heap.size) (c8 : w.cell? ⟨b8, 0, none⟩ = some (.func (.func 25) #[] #[.pointer (some ⟨b7, 0, none⟩)])) (hk : k ≤ w.heap.size) :
    PrR 28 #[.pointer (some ⟨b8, 0, none⟩)] (fun r => !fitR many r) k w :=
  fun W r ao c hl hb hI => bad28 b3 b7 b8 many W r ao k c (h.below hb) (Nat.lt_of_lt_of_le l8 hb.size) ((hb.cell (p := ⟨b8, 0, none⟩) l8).trans c8) hl hI (Nat.le_trans hk hb.size)
set_option maxHeartbeats 4000000 in
/-- Whether they fit. -/
theorem may17 (many : Int) (ao lo : Option Addr) (n m c lc k : Nat) (Ks : List Int) (Rs : List Rl) (w : World) (hn : n = Ks.length) (hm : m = Rs.length) (n47 : n ≤ 9223372036854775807) (m47 : m ≤ 9223372036854775807)
    (hK : Ilz k w ao Ks) (hR : Rlz k w lo Rs) (hk : k ≤ w.heap.size) (hz : -9223372036854775808 ≤ many ∧ many < 9223372036854775808) :
    Calls Try.prog 17 #[.int .i64 many, .slice ao n c, .slice lo m lc] w fun e w' => e = .returned (.bool (fitsB many Ks Rs)) ∧ Below w.heap.size w w' := by
  have HF : fitsB many Ks Rs = (decide (0 ≤ many) && decide (many ≤ 4096) && decide (m ≤ 4096) && Ks.all (inB many) && Rs.all (fitR many)) := by rw [hm]; rfl
  have e26 := eg25
  have e28 := eg28
  have HX : ∀ wa wb w1 : World, w.alloc (.cells #[.int .i64 many] 3) = wa → wa.alloc (.cells #[.func (.func 24) #[] #[.pointer (some ⟨w.heap.size, 0, none⟩)]] 55) = wb →
      wb.alloc (.cells #[.func (.func 25) #[] #[.pointer (some ⟨wa.heap.size, 0, none⟩)]] 55) = w1 → Below w.heap.size w w1 ∧ w1.cell? ⟨w.heap.size, 0, none⟩ = some (.int .i64 many) ∧
      w1.cell? ⟨wb.heap.size, 0, none⟩ = some (.func (.func 25) #[] #[.pointer (some ⟨wa.heap.size, 0, none⟩)]) ∧
      Calls Try.prog 26 #[.slice ao n c, .func (.func 25) #[] #[.pointer (some ⟨wa.heap.size, 0, none⟩)]] w1 (fun e w' => e = .returned (.bool (!Ks.all (inB many))) ∧ Below w1.heap.size w1 w') ∧
      (∀ W, Below w1.heap.size w1 W → Calls Try.prog 27 #[.slice lo m lc, .func (.func 28) #[] #[.pointer (some ⟨wb.heap.size, 0, none⟩)]] W fun e w' => e = .returned (.bool (!Rs.all (fitR many))) ∧ Below W.heap.size W w') := fun wa wb w1 ha hb h1 => by
    have B1 : Below w.heap.size w w1 := by
      rw [← h1, ← hb, ← ha]
      exact (((Below.refl _ w).alloc (Nat.le_refl _) _).alloc (by simp) _).alloc (by simp; omega) _
    have hcap : Cap w1 w.heap.size wa.heap.size many := by
      refine ⟨by rw [← h1, ← hb, ← ha]; simp; omega, by rw [← h1, ← hb, ← ha]; simp, ?_, ?_⟩
      · rw [← h1, ← hb, ← ha]; exact old_cell (old_cell (new_cell w _ _) _) _
      · rw [← h1, ← hb]; exact old_cell (new_cell wa _ _) _
    have hs8 : wb.heap.size < w1.heap.size := by rw [← h1]; simp
    have hc8 : w1.cell? ⟨wb.heap.size, 0, none⟩ = some (.func (.func 25) #[] #[.pointer (some ⟨wa.heap.size, 0, none⟩)]) := by rw [← h1]; exact new_cell wb _ _
    refine ⟨B1, hcap.c3, hc8, ?_, fun W hb => ?_⟩
    · have := cf26 25 #[.pointer (some ⟨wa.heap.size, 0, none⟩)] (fun x => !inB many x) eg25 ao n c k Ks w1 hn n47 (hK.below B1 hk) (Nat.le_trans hk B1.size) (prI25 _ _ many Ks w1 hcap)
      rw [any_not] at this
      exact this
    · have := cf27 28 #[.pointer (some ⟨wb.heap.size, 0, none⟩)] (fun r => !fitR many r) eg28 lo m lc k Rs W hm m47 (hR.below (below_then B1 hb) hk) (Nat.le_trans hk (below_then B1 hb).size)
        (prR28 _ _ _ many k W (hcap.below hb) (Nat.lt_of_lt_of_le hs8 hb.size) ((hb.cell (p := ⟨wb.heap.size, 0, none⟩) hs8).trans hc8) (Nat.le_trans hk (below_then B1 hb).size))
      rw [any_not] at this
      exact this
  have HX := Lib.hid HX
  rw [HF]
  generalize Ks.all (inB many) = q1 at HX
  generalize Rs.all (fitR many) = q2 at HX
  clear hn hm hK hR HF hk
  go_enter Try.func17, Try.ntmps17
  go_upto_region 1 with (fail)
  generalize ha : w.alloc (.cells #[.int .i64 many] 3) = wa
  have HA := Lib.hid ha
  clear ha
  go_upto_region 2 with (fail)
  generalize hb : wa.alloc (.cells #[.func (.func 24) #[] #[.pointer (some ⟨w.heap.size, 0, none⟩)]] 55) = wb
  have HB := Lib.hid hb
  clear hb
  go_upto_region 3 with (fail)
  generalize h1 : wb.alloc (.cells #[.func (.func 25) #[] #[.pointer (some ⟨wa.heap.size, 0, none⟩)]] 55) = w1
  obtain ⟨b1, hc3, hc8, hA, hB⟩ := HX.out _ _ _ HA.out HB.out h1
  have hB := Lib.hid hB
  have HB1 := Lib.hid b1
  clear h1 HX HA HB b1
  by_cases h0 : 0 ≤ many
  · have d0 : decide (many < 0) = false := by simp; omega
    by_cases hle : many < (m : Int)
    · by_cases hL : m ≤ 4096
      · have d1 : decide (4096 < (m : Int)) = false := by simp; omega
        have e1 : ¬ (4096 : Int) < (m : Int) := by omega
        have g1 : ¬ (m : Int) ≤ many := by omega
        have HR := Lib.hid (show (decide (0 ≤ many) && decide (many ≤ 4096) && decide (m ≤ 4096)) = true by simp; omega)
        clear hL
        cases q1 with
        | true =>
          go_wp2_with (first
        | (go_at_call 26; (with_reducible refine hA.mono ?_); rintro e w2 ⟨rfl, b2⟩; have HB2 := Lib.hid (below_then HB1.out b2); have hB2 := hB.out _ b2; clear b2)
        | (go_at_call 27; (with_reducible refine hB2.mono ?_); rintro e w3 ⟨rfl, b3⟩))
          go_ret
          exact ⟨by rw [HR.out]; rfl, below_then HB2.out b3⟩
        | false =>
          go_wp2_with (first
        | (go_at_call 26; (with_reducible refine hA.mono ?_); rintro e w2 ⟨rfl, b2⟩; have HB2 := Lib.hid (below_then HB1.out b2); have hB2 := hB.out _ b2; clear b2)
        | (go_at_call 27; (with_reducible refine hB2.mono ?_); rintro e w3 ⟨rfl, b3⟩))
          go_ret
          exact ⟨by simp, HB2.out⟩
      · have d1 : decide (4096 < (m : Int)) = true := by simp; omega
        have e1 : (4096 : Int) < (m : Int) := by omega
        have g1 : ¬ (m : Int) ≤ many := by omega
        have HR := Lib.hid (show decide (m ≤ 4096) = false by simp; omega)
        clear hL
        go_wp2_with (first
        | (go_at_call 26; (with_reducible refine hA.mono ?_); rintro e w2 ⟨rfl, b2⟩; have HB2 := Lib.hid (below_then HB1.out b2); have hB2 := hB.out _ b2; clear b2)
        | (go_at_call 27; (with_reducible refine hB2.mono ?_); rintro e w3 ⟨rfl, b3⟩))
        go_ret
        exact ⟨by rw [HR.out]; simp, HB1.out⟩
    · by_cases hL : many ≤ 4096
      · have d1 : decide (4096 < many) = false := by simp; omega
        have e1 : ¬ (4096 : Int) < many := by omega
        have g1 : (m : Int) ≤ many := by omega
        have HR := Lib.hid (show (decide (0 ≤ many) && decide (many ≤ 4096) && decide (m ≤ 4096)) = true by simp; omega)
        clear hL
        cases q1 with
        | true =>
          go_wp2_with (first
        | (go_at_call 26; (with_reducible refine hA.mono ?_); rintro e w2 ⟨rfl, b2⟩; have HB2 := Lib.hid (below_then HB1.out b2); have hB2 := hB.out _ b2; clear b2)
        | (go_at_call 27; (with_reducible refine hB2.mono ?_); rintro e w3 ⟨rfl, b3⟩))
          go_ret
          exact ⟨by rw [HR.out]; rfl, below_then HB2.out b3⟩
        | false =>
          go_wp2_with (first
        | (go_at_call 26; (with_reducible refine hA.mono ?_); rintro e w2 ⟨rfl, b2⟩; have HB2 := Lib.hid (below_then HB1.out b2); have hB2 := hB.out _ b2; clear b2)
        | (go_at_call 27; (with_reducible refine hB2.mono ?_); rintro e w3 ⟨rfl, b3⟩))
          go_ret
          exact ⟨by simp, HB2.out⟩
      · have d1 : decide (4096 < many) = true := by simp; omega
        have e1 : (4096 : Int) < many := by omega
        have g1 : (m : Int) ≤ many := by omega
        have HR := Lib.hid (show decide (many ≤ 4096) = false by simp; omega)
        clear hL
        go_wp2_with (first
        | (go_at_call 26; (with_reducible refine hA.mono ?_); rintro e w2 ⟨rfl, b2⟩; have HB2 := Lib.hid (below_then HB1.out b2); have hB2 := hB.out _ b2; clear b2)
        | (go_at_call 27; (with_reducible refine hB2.mono ?_); rintro e w3 ⟨rfl, b3⟩))
        go_ret
        exact ⟨by rw [HR.out]; simp, HB1.out⟩
  · have d0 : decide (many < 0) = true := by simp; omega
    have HR := Lib.hid (show decide (0 ≤ many) = false by simp; omega)
    go_wp2_with fail
    go_ret
    exact ⟨by rw [HR.out]; simp, HB1.out⟩
end Go.Proofs.Ytllgdlfdmmdffaa
