/- Whether an act may be done, by one of a party of one. -/
import Derived.Test.YtllgdlfdmmdffaaQ
namespace Go.Proofs.Ytllgdlfdmmdffaa
open Go.ChangeShapes Go.WideShapes Go.ChangeAt Go.RowKit Go.MapKept Go.ChangeMaps
set_option linter.unusedSimpArgs false
set_option linter.unusedVariables false
section
variable {w0 w w' : World} {p t h : Nat} {many init : Int} {Rs : List Rl} {Kn Ep : List Int} {ins : Nat → Bool} {c : Nat → Value}
theorem leaf33 (x : Int) (w : World) : Calls Try.prog 33 #[.int .i64 x] w fun e w' => e = .returned (.bool (decide (0 ≤ x) && decide (x < 8))) ∧ w' = w := by
  by_cases h : 0 ≤ x
  · have d : decide (0 ≤ x) = true := by simp; omega
    rw [d]
    obtain ⟨q, hq⟩ : ∃ q, decide (x < 8) = q := ⟨_, rfl⟩
    rw [hq]
    go_enter Try.func33, Try.ntmps33
    go_wp2_with fail
    go_ret
    exact ⟨by first | rfl | simp [← hq], rfl⟩
  · have d : decide (0 ≤ x) = false := by simp; omega
    rw [d]
    go_enter Try.func33, Try.ntmps33
    go_wp2_with fail
    go_ret
    exact ⟨rfl, rfl⟩
theorem eg33 : ∀ args w, (callFunc 33 args).run Try.prog w = .ok (.enter 33 args) w := enters_of Try.func33 (by kernel_rfl) rfl
set_option maxRecDepth 20000 in
set_option maxHeartbeats 4000000 in
theorem can22 (hP : Pty w0 w p many Rs Kn Ep ins t h init c) (kind : Int) (l : Nat) (q : Bool) (hq : ins l = q) (hl : l < 8) (hk : kind = 1 ∨ kind = 5) (other : Int) :
    Calls Try.prog 22 #[.pointer (some ⟨p, 0, none⟩), .agg #[.int .i64 kind, .int .i64 l, .int .i64 other]] w fun e w' => e = .returned (.bool q) ∧ Below w.heap.size w w' := by
  have e33 := eg33
  have H33 := Lib.hid (leaf33 (l : Int))
  have PA := hP.below ((Below.refl _ w).alloc (Nat.le_refl _) (.cells #[.int .i64 kind, .int .i64 l, .int .i64 other] 42))
  have hb := (Below.refl w.heap.size w).alloc (Nat.le_refl _) (.cells #[.int .i64 kind, .int .i64 l, .int .i64 other] 42)
  have hc := PA.pc.cell (4 + l) (by omega)
  rw [PA.ci l hl, hq] at hc
  clear hP PA
  go_enter Try.func22, Try.ntmps22
  go_upto_region 2 with (fail)
  have q0 : (0 : Int) ≤ (l : Int) := by omega
  have q1 : (l : Int) < 8 := by omega
  have H := H33.out
  have dl : (decide ((0 : Int) ≤ (l : Int)) && decide ((l : Int) < 8)) = true := by simp; omega
  rw [dl] at H
  have H := Lib.hid H
  go_quiet ((go_at_fn 33; exact Calls.quiet_of_same (H.out _)))
  have hk0 : ((w.alloc (.cells #[.int .i64 kind, .int .i64 (l : Int), .int .i64 other] 42)).drewN nq).cell? ⟨w.heap.size, 0, none⟩ = some (.int .i64 kind) := by
    show (w.alloc (.cells #[.int .i64 kind, .int .i64 (l : Int), .int .i64 other] 42)).cell? ⟨w.heap.size, 0, none⟩ = _
    simp
  have hb2 : Below w.heap.size w ((w.alloc (.cells #[.int .i64 kind, .int .i64 (l : Int), .int .i64 other] 42)).drewN nq) := ⟨hb.os, hb.tape, hb.output, hb.size, hb.block⟩
  generalize (w.alloc (.cells #[.int .i64 kind, .int .i64 (l : Int), .int .i64 other] 42)).drewN nq = w2 at hk0 hb2 ⊢
  have HB := Lib.hid hb2
  clear hb hb2 hc
  cases q with
  | true =>
    rcases hk with rfl | rfl
    · go_wp2_with fail
      go_ret
      exact ⟨rfl, HB.out⟩
    · go_wp2_with fail
      go_ret
      exact ⟨rfl, HB.out⟩
  | false =>
    go_wp2_with fail
    go_ret
    exact ⟨rfl, HB.out⟩
end
/-- What stands beside the spots above a leaf. -/
def Besides (i deep : Nat) (w : World) (e : Ending) (w' : World) : Prop :=
  ∃ v xs, e = .returned v ∧ List.length xs = deep ∧ (∀ k x, xs[k]? = some x → Sp x.1 x.2 k (sib (i / 2 ^ k))) ∧ w'.ownsRow w.heap.size 75 1 v deep (xs.map cx) ∧ Below w.heap.size w w'
set_option maxRecDepth 20000 in
set_option maxHeartbeats 4000000 in
theorem beside61 (i deep : Nat) (hd : deep ≤ 16) (hi : i < 2 ^ deep) (w : World) : Calls Try.prog 61 #[.int .i64 i, .int .i64 deep] w (Besides i deep w) := by
  have hi2 : i < 65536 := Nat.lt_of_lt_of_le hi (pow16 deep hd).2
  have HL := Lib.hid (leafs_yes i hi2)
  have HP := Lib.hid (path12 i deep hd hi)
  obtain ⟨i0, hin, hz0, hz1, hz2⟩ := info_parts info75
  have HI := Lib.hid hi
  have HI2 := Lib.hid hi2
  clear hi hi2
  go_enter Try.func61, Try.ntmps61
  go_wp2_with (first
    | (go_at_call 56; (with_reducible refine (HL.out _).mono ?_); rintro e w' ⟨rfl, rfl⟩)
    | (go_at_call 45; (with_reducible refine (HP.out _).mono ?_); rintro e w1 ⟨v, xs, rfl, hlen, hab, hown, hkb⟩; obtain ⟨ax, cx0, rfl⟩ := row_form hown))
  have HR := Lib.hid (And.intro hlen (And.intro hab hkb))
  have hcell : ∀ k x, k < deep → xs[k]? = some x → ∀ wx, Below w1.heap.size w1 wx → ∃ ad, ax = some ad ∧ wx.cell? (ad.add k) = some (.complex .f64 x.1 x.2) := fun k x hk hx wx hb => by
    rcases hown.2 with ⟨e, e2⟩ | ⟨q, cap, cur, e, hq, hh, _⟩
    · omega
    · injection e with e1 _ _
      refine ⟨_, e1, ?_⟩
      have h1 := hown.cells (g := q) (by rw [e1]; rfl) k (cx x) (by rw [List.getElem?_map, hx]; rfl)
      refine (World.cell?_of_block (by rw [add_block]; exact hb.block q (Array.getElem?_eq_some_iff.1 hh).1)).trans h1
  have HC := Lib.hid hcell
  clear hlen hab hkb hcell hown
  go_loopg [5, 6, 8, 15] deep (fun gk v5 v6 v8 v15 wr => ∃ (k a b : Nat) (ys : List (Nat × Nat)), v15 = .int .i64 k ∧ v6 = .complex .f64 a b ∧ k + gk = deep ∧ Sp a b k (i / 2 ^ k) ∧ ys.length = k ∧ Hid (∀ j x, ys[j]? = some x → Sp x.1 x.2 j (sib (i / 2 ^ j))) ∧ wr.ownsRow w1.heap.size 75 1 v5 k (ys.map cx) ∧ Below w1.heap.size w1 wr)
  case atStart => exact ⟨0, 0, fl i, [], rfl, rfl, by omega, by simpa using sp_leaf i HI2.out, rfl, Lib.hid (fun j x hx => by simp at hx), World.ownsRow_nil _ _ _ _, Below.refl _ _⟩
  case round =>
    obtain ⟨k, a, b, ys, rfl, rfl, hkg, hsp, hyl, hys, hown, hkb⟩ := hrel
    have HG := Lib.hid (And.intro hkg hyl)
    obtain ⟨a5, c5, rfl⟩ := row_form hown
    by_cases h1 : k < deep
    · have d1 : decide ((k : Int) < (deep : Int)) = true := by simp; omega
      obtain ⟨x, hx⟩ : ∃ x, xs[k]? = some x := ⟨xs[k]'(by rw [HR.out.1]; exact h1), List.getElem?_eq_getElem _⟩
      obtain ⟨ad, rfl, hc⟩ := HC.out k x h1 hx wr hkb
      have HX := Lib.hid hx
      obtain ⟨x1, x2⟩ := x
      obtain ⟨c, d, hs2, ho⟩ := other_yes hsp (by omega)
      have HO := Lib.hid ho
      have HS := Lib.hid hs2
      have hbs : w1.heap.size ≤ wr.heap.size := hkb.size
      have q0 : (0 : Int) ≤ (k : Int) := by omega
      have q1 : (k : Int) < (deep : Int) := by omega
      clear ho hs2 hkg hyl hx hsp
      go_wp2_with (first
        | (go_at_call 68; (with_reducible refine (HO.out _).mono ?_); rintro e w' ⟨rfl, rfl⟩)
        | (at_builtin; refine wpList_append_own _ rfl _ _ 73 rfl w1.heap.size 75 i0 (.complex .f64 0 0) 1 16 Try.underlying73 hin hz0 hz1 hz2 rfl (by decide) _ _ _ rfl (hown.alloc _) ⟨wr.heap.size, 0, none⟩ 1 1 [.complex .f64 c d] rfl rfl ?c1 ?c2 ?c3 ?c4 ?c5 ?_; (case c1 => exact cell_one_new _ _ _); (case c2 => simp [Value.oneCell']); (case c3 => unfold maxLen; omega); (case c4 => omega); (case c5 => simp; omega); intro v' w4 o4 g4 _))
      have hkb4 : Below w1.heap.size w1 w4 := (hkb.alloc hbs _).grown g4 (by simp; omega) (fun q hq => (hown.lt q hq).1)
      have hcx : ys.map cx ++ [Value.complex .f64 c d] = (ys ++ [(c, d)]).map cx := by simp [cx]
      rw [hcx] at o4
      go_roundg (gk - 1)
      case measure => have := HG.out.1; omega
      case rel =>
        refine ⟨k + 1, x1, x2, ys ++ [(c, d)], by simp, rfl, by have := HG.out.1; omega, HR.out.2.1 k _ HX.out, by rw [List.length_append, HG.out.2]; rfl, Lib.hid fun j y hy => ?_, o4, hkb4⟩
        rcases Nat.lt_or_ge j ys.length with hj | hj
        · rw [List.getElem?_append_left hj] at hy; exact hys.out j y hy
        · rw [List.getElem?_append_right hj] at hy
          have e : j = ys.length := by
            rcases Nat.lt_or_ge (j - ys.length) 1 with q | q
            · omega
            · rw [List.getElem?_eq_none (by simpa using q)] at hy; cases hy
          subst e
          simp at hy
          subst hy
          rw [HG.out.2]
          exact HS.out
    · have d1 : decide ((k : Int) < (deep : Int)) = false := by simp; omega
      obtain rfl : k = deep := by omega
      clear hkg
      go_wp2_with fail
      go_ret
      exact ⟨_, ys, rfl, HG.out.2, hys.out, hown.mono HR.out.2.2.size, below_then HR.out.2.2 hkb⟩
end Go.Proofs.Ytllgdlfdmmdffaa
