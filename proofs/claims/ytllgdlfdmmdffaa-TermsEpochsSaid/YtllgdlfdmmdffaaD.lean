/- The spots above a leaf, walked. -/
import Derived.Test.YtllgdlfdmmdffaaC
import Derived.WalkMore
import Derived.ScopeJumps
import Derived.Laws.AppendOwn
import Derived.OwnWalk
import Derived.Maps.AppendAt
namespace Go.Proofs.Ytllgdlfdmmdffaa
open Go.ChangeShapes Go.WideShapes Go.ChangeAt Go.RowKit
set_option linter.unusedSimpArgs false
set_option linter.unusedVariables false

theorem scope_again {P : Program} {c X : Code} {a : Act} {w : World} {Q : Exit → Act → World → Prop} (l : Nat) (J : Act → World → Prop) (μ : Act → World → Nat) (hf : findLabel c l = some (.seq .skip X))
    (pass : ∀ a w, J a w → X.wp P (Exit.jump l (fun a' w' => J a' w' ∧ μ a' w' < μ a w) Q) a w)
    (first : (∀ a w, J a w → X.wp P (Exit.jump l J Q) a w) → c.wp P (Exit.jump l J Q) a w) : (Code.scope c).wp P Q a w :=
  wp_scope_jumps l J μ hf (first fun a w h => Code.wp_mono (fun e a' w' hq => by
    cases e with
    | goto l' => exact ⟨hq.1, hq.2.1⟩
    | _ => exact hq) (pass a w h)) (fun a w h => wp_seq (wp_skip (pass a w h)))
def lenOf : Value → Nat
  | .slice _ n _ => n
  | _ => 0
theorem lenOf_own {w : World} {base n size : Nat} {e : TypeId} {v : Value} {xs : List Value} (h : w.ownsRow base e size v n xs) : lenOf v = n := by
  rcases h.2 with ⟨rfl, rfl⟩ | ⟨g, cap, cur, rfl, _⟩ <;> rfl
def cx (x : Nat × Nat) : Value := .complex .f64 x.1 x.2
/-- The first spots above leaf i. -/
def Above (i : Nat) (xs : List (Nat × Nat)) : Prop := ∀ k x, xs[k]? = some x → Sp x.1 x.2 (k + 1) (i / 2 ^ (k + 1))
theorem Above.snoc {i : Nat} {xs : List (Nat × Nat)} {c d : Nat} (h : Above i xs) (hs : Sp c d (xs.length + 1) (i / 2 ^ (xs.length + 1))) : Above i (xs ++ [(c, d)]) := by
  intro k x hx
  by_cases hk : k < xs.length
  · rw [List.getElem?_append_left hk] at hx; exact h k x hx
  · rw [List.getElem?_append_right (by omega)] at hx
    have : k = xs.length := by
      rcases Nat.eq_or_lt_of_le (show xs.length ≤ k by omega) with e | e
      · exact e.symm
      · rw [List.getElem?_eq_none (by simp; omega)] at hx; cases hx
    subst this
    simp at hx; subst hx; exact hs
def Fr (i deep : Nat) (v : Value) (a b : Nat) (u : Nat → Value) : Act := { tmps := #[.int .i64 i, .int .i64 deep, u 2, u 3, u 4, v, .complex .f64 a b, u 7, u 8, u 9, u 10, u 11, u 12, u 13, u 14, u 15, u 16, u 17, u 18, u 19, u 20, u 21, u 22, u 23, u 24, u 25, u 26, u 27, u 28, u 29, u 30], defers := [] }
structure JF (w : World) (i deep : Nat) (k : Nat) (v : Value) (a b : Nat) (xs : List (Nat × Nat)) (w' : World) : Prop where
  kd : k ≤ deep
  len : xs.length = k
  sp : Sp a b k (i / 2 ^ k)
  ab : Above i xs
  own : w'.ownsRow w.heap.size 75 1 v k (xs.map cx)
  kb : Below w.heap.size w w'
def JJ (w : World) (i deep : Nat) (a' : Act) (w' : World) : Prop :=
  ∃ (k : Nat) (v : Value) (a b : Nat) (xs : List (Nat × Nat)) (u : Nat → Value), JF w i deep k v a b xs w' ∧ a' = Fr i deep v a b u
theorem JJ.mk {w : World} {i deep : Nat} {a' : Act} {w' : World} (k : Nat) (v : Value) (a b : Nat) (xs : List (Nat × Nat)) (h : JF w i deep k v a b xs w')
    (ha : a' = Fr i deep v a b (fun j => a'.tmps.getD j undef)) : JJ w i deep a' w' := ⟨k, v, a, b, xs, _, h, ha⟩
/-- What Path hands back. -/
def Paths (i deep : Nat) (w : World) (e : Ending) (w' : World) : Prop :=
  ∃ v xs, e = .returned v ∧ List.length xs = deep ∧ Above i xs ∧ w'.ownsRow w.heap.size 75 1 v deep (xs.map cx) ∧ Below w.heap.size w w'

theorem info75 : (Try.prog.info? 75).map (fun i => (i.zero, i.size, i.bytes)) = some (some (.complex .f64 0 0), 1, 16) := by kernel_rfl
theorem Sp.at_ {a b l p : Nat} (h : Sp a b l p) (m : Int) (e : m = l) (w : World) : (convert 87 3 (.float .f64 a)).run Try.prog w = .ok (.int .i64 m) w := by
  subst e; exact conv28 h.re (by have := h.l16; omega) w
set_option maxHeartbeats 1000000 in
theorem path12 (i deep : Nat) (hd : deep ≤ 16) (hi : i < 2 ^ deep) (w : World) : Calls Try.prog 45 #[.int .i64 i, .int .i64 deep] w (Paths i deep w) := by
  have hi2 : i < 65536 := Nat.lt_of_lt_of_le hi (pow16 deep hd).2
  have HL := Lib.hid (leafs_yes i hi2)
  have HF := Lib.hid (leaf_yes i hi2)
  have HR := Lib.hid (right_yes (a := 0) (b := fl i) (l := 0) (p := i) (deep := deep) is0 (is_fl i (by omega)) (by omega) hd (by simpa using hi))
  obtain ⟨i0, hin, hz0, hz1, hz2⟩ := info_parts info75
  have HI := Lib.hid hi
  have HI2 := Lib.hid hi2
  clear hi hi2
  go_enter Try.func45, Try.ntmps45
  go_wp2_with fail
  refine scope_again 0 (JJ w i deep) (fun a' w' => 16 - lenOf (a'.tmps.getD 5 undef)) rfl ?pass ?first
  case first =>
    intro hp
    go_wp2_with (first | (go_at_call 56; (with_reducible refine (HL.out _).mono ?_); rintro e w' ⟨rfl, rfl⟩) | (go_at_call 55; (with_reducible refine (HR.out _).mono ?_); rintro e w' ⟨rfl, rfl⟩) | (go_at_call 57; (with_reducible refine (HF.out _).mono ?_); rintro e w' ⟨rfl, rfl⟩))
    go_step3
    rename_i hk
    exact hk _ _ (hp _ _ (JJ.mk 0 (.slice none 0 0) 0 (fl i) [] ⟨Nat.zero_le _, rfl, by simpa using sp_leaf i HI2.out, fun k x hx => by simp at hx, World.ownsRow_nil _ _ _ _, Below.refl _ _⟩ rfl))
  case pass =>
    rintro a' wr ⟨k, v, a, b, xs, u, ⟨hk, hlen, hsp, hab, hown, hkb⟩, rfl⟩
    simp only [Fr]
    have hlv : lenOf v = k := lenOf_own hown
    have hc := conv28 hsp.re (by omega)
    have HLEN := Lib.hid hlen; have HAB := Lib.hid hab; have HLV := Lib.hid hlv
    clear hlen hab hlv
    by_cases hlt : k < deep
    · obtain ⟨c, d, hs2, hup⟩ := up_yes hsp (by omega)
      rw [Nat.div_div_eq_div_mul, ← Nat.pow_succ] at hs2
      have HUP := Lib.hid hup
      clear hup
      have hbs : w.heap.size ≤ wr.heap.size := hkb.size
      go_wp2_with (first | (go_at_call 58; (with_reducible refine (HUP.out _).mono ?_); rintro e w' ⟨rfl, rfl⟩) | (at_builtin; refine wpList_append_own _ rfl _ _ 73 rfl w.heap.size 75 i0 (.complex .f64 0 0) 1 16 Try.underlying73 hin hz0 hz1 hz2 rfl (by decide) _ _ _ rfl (hown.alloc _) ⟨wr.heap.size, 0, none⟩ 1 1 [.complex .f64 c d] rfl rfl ?c1 ?c2 ?c3 ?c4 ?c5 ?_))
      case c1 => exact cell_one_new _ _ _
      case c2 => simp [Value.oneCell']
      case c3 => unfold maxLen; omega
      case c4 => omega
      case c5 => simp; omega
      intro v' w1 hown1 hgr _
      have hkb1 : Below w.heap.size w w1 := (hkb.alloc hbs _).grown hgr (by simp; omega) (fun q hq => (hown.lt q hq).1)
      have hcx : xs.map cx ++ [Value.complex .f64 c d] = (xs ++ [(c, d)]).map cx := by simp [cx]
      rw [hcx] at hown1
      clear hgr hcx hkb hown hbs hc hsp
      go_wp2_with fail
      go_step3
      exact ⟨rfl, JJ.mk (k + 1) v' c d (xs ++ [(c, d)]) ⟨by omega, by simp [HLEN.out], hs2, HAB.out.snoc (by rw [HLEN.out]; exact hs2), hown1, hkb1⟩ rfl, by show 16 - lenOf v' < 16 - lenOf v; rw [lenOf_own hown1, HLV.out]; omega⟩
    · have e1 : k = deep := by omega
      subst e1
      have hd2 : decide ((k : Int) < (k : Int)) = false := by simp
      go_wp2_with fail
      change bodyPost Try.prog Try.f45 (Paths i k w) Exit.ret _ _
      go_ret
      exact ⟨v, xs, rfl, HLEN.out, HAB.out, hown, hkb⟩
end Go.Proofs.Ytllgdlfdmmdffaa
