/- A party in general: all above a leaf is blank. -/
import Derived.Test.YtllgdlfdmmdffaaG2
namespace Go.Proofs.Ytllgdlfdmmdffaa
open Go.ChangeShapes Go.WideShapes Go.ChangeAt Go.RowKit Go.MapKept Go.ChangeMaps
set_option linter.unusedSimpArgs false
set_option linter.unusedVariables false
def V36q (pp t a b : Nat) (i : Int) : Nat → Value → World → Prop
  | 0, v, w => v = .pointer (some ⟨pp, 0, none⟩)
  | 1, v, w => v = .pointer (some ⟨pp, 0, none⟩)
  | 2, v, w => v = .pointer (some ⟨pp, 12, none⟩)
  | 3, v, w => v = .map (some t)
  | 4, v, w => v = .complex .f64 a b
  | 5, v, w => v = .int .i64 i
  | _, _, _ => True
theorem V36q_keep (pp t a b : Nat) (i : Int) (i1 : Nat) (v : Value) (w w' : World) (h : V36q pp t a b i i1 v w) (r : (fun w w' => w' = w) w w') : V36q pp t a b i i1 v w' := by
  rcases i1 with _ | _ | _ | _ | _ | _ | _
  · exact h
  · exact h
  · exact h
  · exact h
  · exact h
  · exact h
  · trivial
section
variable {w0 w w' : World} {p t h : Nat} {m : Md} {c c' : Nat → Value} {mb : Nat → Nat}
theorem kc_drew (w : World) : KC w w.drew := ⟨rfl, rfl, rfl, Nat.le_refl _, fun _ _ _ _ x => x⟩
/-- All maps but one are as they were. -/
def KT (t : Nat) (w w' : World) : Prop := ∀ (k : Nat) es cl, k ≠ t → w.heap[k]? = some (Obj.map es cl) → w'.heap[k]? = some (Obj.map es cl)
theorem KT.refl (t : Nat) (w : World) : KT t w w := fun _ _ _ _ h => h
theorem KT.trans {t : Nat} {a b c : World} (h : KT t a b) (k : KT t b c) : KT t a c := fun i es cl x y => k i es cl x (h i es cl x y)
theorem KT.of {t : Nat} {w w' : World} (h : KM w w') : KT t w w' := fun i es cl _ y => h i es cl y
theorem kt_set {w : World} {t : Nat} {es : Array MapEntry} {cl : Nat} (ht : w.heap[t]? = some (.map es cl)) (o : Obj) : KT t w (setBlock w t o) := fun i es cl x y => (set_other ht o x).trans y
/-- The entry of a key goes out of the tree. -/
theorem Gp.delT (G : Gp w0 w p m t h c mb) (z : Int) : ∃ es' cl, (∀ ty t2, (Builtin.delete_ #[51, t2] ty #[.map (some t), .int .i64 z]).run Try.prog w = .ok (.tuple #[]) (setBlock w t (.map es' cl))) ∧ Gp w0 (setBlock w t (.map es' cl)) p { m with T := upd m.T z none } t h c mb ∧ KC w (setBlock w t (.map es' cl)) ∧ KT t w (setBlock w t (.map es' cl)) := by
  obtain ⟨es, cl, h1, h2, h3⟩ := G.tr
  obtain ⟨es', r, v1, v2⟩ := mp_del (T := 51) Try.underlying51 h1 h2 h3 z
  exact ⟨es', cl, r, G.setT h1 v1 v2, set_kc h1 _, kt_set h1 _⟩
set_option maxRecDepth 20000 in
set_option maxHeartbeats 8000000 in
theorem blank36k (G : Gp w0 w p m t h c mb) (l : Nat) (hl : l < 8) :
    Calls Try.prog 36 #[.pointer (some ⟨p, 0, none⟩), .int .i64 (l : Int)] w fun e w' => e = .returned (.tuple #[]) ∧ Gp w0 w' p (blkM m l) t h c mb ∧ KT t w w' ∧ KC w w' := by
  have HL := Lib.hid hl
  have H2 : Calls Try.prog 45 #[.int .i64 (l : Int), .int .i64 3] w (Paths l 3 w) := path12 l 3 (by omega) (by omega) w
  have HG0 := Lib.hid G
  clear hl G
  go_enter Try.func36, Try.ntmps36
  go_wp2_with (first
    | (go_at_call 45; (with_reducible refine H2.mono ?_); rintro e w3 ⟨v, xs, rfl, hxl, hxs, hxo, b3⟩; obtain ⟨ax, cx1, rfl⟩ := row_form hxo; have HX := Lib.hid (And.intro hxl (And.intro hxs (And.intro hxo b3))); clear hxl hxs hxo b3))
  go_loopg [9] 3 (fun gk v9 wr => ∃ k : Nat, v9 = .int .i64 k ∧ k + gk = 3 ∧ Gp w0 wr p { m with T := blkT m.T l k } t h c mb ∧ KC w3 wr ∧ KT t w wr)
  case atStart => exact ⟨0, rfl, by omega, HG0.out.below HX.out.2.2.2, KC.refl _, KT.of (KM.of HX.out.2.2.2)⟩
  case round =>
    obtain ⟨k, rfl, hkg, hG, hkc, hkt⟩ := hrel
    have HK := Lib.hid hkg
    by_cases h1 : k < 3
    · have d1 : decide ((k : Int) < 3) = true := by simp; omega
      obtain ⟨x, hx⟩ : ∃ x, xs[k]? = some x := ⟨xs[k]'(by rw [HX.out.1]; exact h1), List.getElem?_eq_getElem _⟩
      obtain ⟨adx, rfl, hcx⟩ := row_cx (hkc.own HX.out.2.2.1) k x hx wr (Below.refl _ _)
      have hsp := HX.out.2.1 k x hx
      have HI := Lib.hid (index_yes hsp)
      obtain ⟨i, hi⟩ : ∃ i : Int, i = (((2 * (l / 2 ^ (k + 1)) + 1) * 2 ^ (k + 1) - 1 : Nat) : Int) := ⟨_, rfl⟩
      rw [← hi] at HI
      have HIU := Lib.hid (show i = upn l k from hi)
      have h12 := hG.P.pc.cell 12 (by decide)
      rw [hG.P.ct] at h12
      have HC12 := Lib.hid (show wr.drew.cell? ⟨p, 12, none⟩ = some (.map (some t)) from h12)
      have hGd : Gp w0 wr.drew p { m with T := blkT m.T l k } t h c mb := hG.below ((Below.refl _ wr).drew)
      obtain ⟨es', cl, hrun, hG2, hk2, hk3⟩ := hGd.delT i
      have HD := Lib.hid (And.intro hG2 (And.intro ((hkc.trans (kc_drew wr)).trans hk2) ((hkt.trans (KT.of (KM.of (Below.refl wr.heap.size wr).drew))).trans hk3)))
      have HRUN := Lib.hid hrun
      obtain ⟨x1, x2⟩ := x
      have q0 : (0 : Int) ≤ (k : Int) := by omega
      have q1 : (k : Int) < 3 := by omega
      clear hkg hsp hx hi hG hkc hkt h12 hGd hrun hG2 hk2 hk3
      go_upto_region 3 with (fail)
      refine region_monoT 6 (fun x => x = wr.drew) (fun w w' => w' = w) (V36q p t x1 x2 i) [(0, some 13), (1, some 14), (2, some 15), (3, some 16), (4, some 17), (5, some 18)] (by kernel_rfl) (by kernel_rfl) (by kernel_rfl) (by kernel_rfl) (fun _ _ h r => r.trans h) (fun i1 v1 w1 w2 _ h1 r1 => V36q_keep p t x1 x2 i i1 v1 w1 w2 h1 r1) (rfl) ?_ (fun vs w5 hS hV => ?_)
      · refine StepsL.cons0  (by kernel_rfl)  ?_ ?_
        · rintro w1 hS  K hK
          subst hS
          (try simp only [Act.put, List.setIfInBounds_toArray, List.set_cons_zero, List.set_cons_succ])
          go_simp
          exact hK.out _ _ rfl (rfl)
        refine StepsL.cons1 0 (some 13) (by kernel_rfl) rfl ?_ ?_
        · rintro w1 hS _ rfl K hK
          subst hS
          (try simp only [Act.put, List.setIfInBounds_toArray, List.set_cons_zero, List.set_cons_succ])
          go_simp
          exact hK.out _ _ rfl (rfl)
        refine StepsL.cons1 1 (some 14) (by kernel_rfl) rfl ?_ ?_
        · rintro w1 hS _ rfl K hK
          subst hS
          (try simp only [Act.put, List.setIfInBounds_toArray, List.set_cons_zero, List.set_cons_succ])
          go_simp
          exact hK.out _ _ rfl (rfl)
        refine StepsL.cons1 2 (some 15) (by kernel_rfl) rfl ?_ ?_
        · rintro w1 hS _ rfl K hK
          subst hS
          (try simp only [Act.put, List.setIfInBounds_toArray, List.set_cons_zero, List.set_cons_succ])
          have hc := HC12.out
          go_simp
          exact hK.out _ _ rfl rfl
        refine StepsL.cons0  (by kernel_rfl)  ?_ ?_
        · rintro w1 hS  K hK
          subst hS
          (try simp only [Act.put, List.setIfInBounds_toArray, List.set_cons_zero, List.set_cons_succ])
          go_simp
          exact hK.out _ _ rfl (rfl)
        refine StepsL.cons1 4 (some 17) (by kernel_rfl) rfl ?_ ?_
        · rintro w1 hS _ rfl K hK
          subst hS
          (try simp only [Act.put, List.setIfInBounds_toArray, List.set_cons_zero, List.set_cons_succ])
          go_simp
          go_at_call 46
          refine (HI.out _).mono ?_
          rintro e w7 ⟨rfl, hw⟩
          subst hw
          exact hK.out _ _ rfl rfl
        exact StepsL.nil
      subst hS
      have e3 : vs 3 = .map (some t) := hV 3 (by decide)
      have e5 : vs 5 = .int .i64 i := hV 5 (by decide)
      simp only [putl, List.foldl_cons, List.foldl_nil, Act.put, List.setIfInBounds_toArray, List.set_cons_zero, List.set_cons_succ, List.drop_succ_cons, List.drop_zero]
      rw [e3, e5]
      clear hV e3 e5 hcx
      have hr := HRUN.out
      go_wp2_with fail
      go_roundg (gk - 1)
      case measure => have := HK.out; omega
      case rel => exact ⟨k + 1, by simp, by have := HK.out; omega, by have h1 := HD.out.1; rw [HIU.out] at h1; exact h1, HD.out.2⟩
    · have d1 : decide ((k : Int) < 3) = false := by simp; omega
      obtain rfl : k = 3 := by omega
      have HE := Lib.hid (And.intro hG (And.intro hkt ((KC.of HX.out.2.2.2).trans hkc)))
      clear hkg hG hkc hkt
      go_wp2_with fail
      go_end0
      exact ⟨rfl, HE.out⟩
theorem blank36g (G : Gp w0 w p m t h c mb) (l : Nat) (hl : l < 8) :
    Calls Try.prog 36 #[.pointer (some ⟨p, 0, none⟩), .int .i64 (l : Int)] w fun e w' => e = .returned (.tuple #[]) ∧ Gp w0 w' p (blkM m l) t h c mb ∧ KT t w w' := (blank36k G l hl).mono fun e w' h => ⟨h.1, h.2.1, h.2.2.1⟩
end
end Go.Proofs.Ytllgdlfdmmdffaa
