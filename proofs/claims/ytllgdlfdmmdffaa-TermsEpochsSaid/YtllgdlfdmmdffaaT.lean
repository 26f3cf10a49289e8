/- All above a leaf is blank, where nothing is. -/
import Derived.Test.YtllgdlfdmmdffaaS
namespace Go.Proofs.Ytllgdlfdmmdffaa
open Go.ChangeShapes Go.WideShapes Go.ChangeAt Go.RowKit Go.MapKept Go.ChangeMaps
set_option linter.unusedSimpArgs false
set_option linter.unusedVariables false
theorem setBlock_id {w : World} {b : Nat} {o : Obj} (h : w.heap[b]? = some o) : setBlock w b o = w := by
  have : w.heap.setIfInBounds b o = w.heap := by
    apply Array.ext
    · simp
    · intro i h1 h2
      rw [Array.getElem_setIfInBounds]
      split
      · rename_i e
        subst e
        obtain ⟨_, h3⟩ := Array.getElem?_eq_some_iff.1 h
        exact h3.symm
      · rfl
  unfold setBlock
  rw [this]
theorem run_delete_none {w : World} {b T e t2 : Nat} {es : Array MapEntry} {cl : Nat} {z : Int} (hT : Try.prog.underlying T = some (.map 3 e)) (hb : w.heap[b]? = some (.map es cl)) (hks : IKs es) (hno : ∀ x ∈ es.toList, x.key ≠ .int .i64 z) (ty : TypeId) :
    (Builtin.delete_ #[T, t2] ty #[.map (some b), .int .i64 z]).run Try.prog w = .ok (.tuple #[]) w := by
  rw [run_delete_miss hT hb hks hno, setBlock_id hb]
def V36 (pp t a b : Nat) (i : Int) : Nat → Value → World → Prop
  | 0, v, w => v = .pointer (some ⟨pp, 0, none⟩)
  | 1, v, w => v = .pointer (some ⟨pp, 0, none⟩)
  | 2, v, w => v = .pointer (some ⟨pp, 12, none⟩)
  | 3, v, w => v = .map (some t)
  | 4, v, w => v = .complex .f64 a b
  | 5, v, w => v = .int .i64 i
  | 6, v, w => True
  | _, _, _ => True
theorem V36_keep (pp t a b : Nat) (i : Int) (i1 : Nat) (v : Value) (w w' : World) (h : V36 pp t a b i i1 v w) (r : (fun w w' => Below w.heap.size w w') w w') : V36 pp t a b i i1 v w' := by
  rcases i1 with _ | _ | _ | _ | _ | _ | _ | _
  · exact h
  · exact h
  · exact h
  · exact h
  · exact h
  · exact h
  · exact h
  · trivial
set_option maxRecDepth 20000 in
set_option maxHeartbeats 8000000 in
theorem blank36 (pp t : Nat) (k1 : Int) (w : World) (hpp : pp < w.heap.size) (hc : w.cell? ⟨pp, 12, none⟩ = some (.map (some t))) (ht : w.heap[t]? = some (eT k1)) :
    Calls Try.prog 36 #[.pointer (some ⟨pp, 0, none⟩), .int .i64 0] w fun e w' => e = .returned (.tuple #[]) ∧ Below w.heap.size w w' := by
  have HP := Lib.hid (fun x => path12 0 3 (by omega) (by omega) x)
  have HCT := Lib.hid (And.intro hpp (And.intro hc ht))
  clear hpp hc ht
  have H2 : Calls Try.prog 45 #[.int .i64 0, .int .i64 3] w (Paths 0 3 w) := HP.out w
  go_enter Try.func36, Try.ntmps36
  go_wp2_with (first
    | (go_at_call 45; (with_reducible refine H2.mono ?_); rintro e w3 ⟨v, xs, rfl, hxl, hxs, hxo, b3⟩; obtain ⟨ax, cx1, rfl⟩ := row_form hxo; have HX := Lib.hid (And.intro hxl (And.intro hxs (And.intro hxo b3))); clear hxl hxs hxo b3))
  go_loopg [9] 3 (fun gk v9 wr => ∃ k : Nat, v9 = .int .i64 k ∧ k + gk = 3 ∧ Below w3.heap.size w3 wr)
  case atStart => exact ⟨0, rfl, by omega, Below.refl _ _⟩
  case round =>
    obtain ⟨k, rfl, hkg, hkb⟩ := hrel
    have HG := Lib.hid hkg
    by_cases h1 : k < 3
    · have d1 : decide ((k : Int) < 3) = true := by simp; omega
      obtain ⟨x, hx⟩ : ∃ x, xs[k]? = some x := ⟨xs[k]'(by rw [HX.out.1]; exact h1), List.getElem?_eq_getElem _⟩
      obtain ⟨adx, rfl, hcx⟩ := row_cx HX.out.2.2.1 k x hx wr hkb
      have hsp := HX.out.2.1 k x hx
      have HI := Lib.hid (index_yes hsp)
      obtain ⟨i, hi⟩ : ∃ i : Int, i = (((2 * (0 / 2 ^ (k + 1)) + 1) * 2 ^ (k + 1) - 1 : Nat) : Int) := ⟨_, rfl⟩
      rw [← hi] at HI
      have hne : i ≠ 0 := by rw [hi]; exact idx_ne (k + 1) _ (.inr (by omega))
      have BW := Lib.hid (below_then HX.out.2.2.2 hkb)
      have hppw := Nat.lt_of_lt_of_le HCT.out.1 BW.out.size
      have hcw := (BW.out.cell (p := ⟨pp, 12, none⟩) HCT.out.1).trans HCT.out.2.1
      have htw := (BW.out.block t (Array.getElem?_eq_some_iff.1 HCT.out.2.2).1).trans HCT.out.2.2
      obtain ⟨x1, x2⟩ := x
      have q0 : (0 : Int) ≤ (k : Int) := by omega
      have q1 : (k : Int) < 3 := by omega
      clear hkg hsp hx hi
      go_upto_region 3 with (fail)
      refine region_monoL (fun x => pp < x.heap.size ∧ x.cell? ⟨pp, 12, none⟩ = some (.map (some t)) ∧ x.heap[t]? = some (eT k1) ∧ Below w3.heap.size w3 x) (fun w w' => Below w.heap.size w w') (V36 pp t x1 x2 i) [(0, some 13), (1, some 14), (2, some 15), (3, some 16), (4, some 17), (5, some 18), (6, none)] (by kernel_rfl) (by kernel_rfl) (by kernel_rfl) (fun _ _ h r => ⟨Nat.lt_of_lt_of_le h.1 r.size, (r.cell (p := ⟨pp, 12, none⟩) h.1).trans h.2.1, (r.block t (Array.getElem?_eq_some_iff.1 h.2.2.1).1).trans h.2.2.1, below_then h.2.2.2 r⟩) (fun i1 v1 w1 w2 _ h1 r1 => V36_keep pp t x1 x2 i i1 v1 w1 w2 h1 r1) (⟨hppw, hcw, htw, hkb.drew⟩) ?_ (fun vs w' hS hV => ?_)
      · refine StepsL.cons0  (by kernel_rfl)  ?_ ?_
        · rintro w1 hS  K hK
          (try simp only [Act.put, List.setIfInBounds_toArray, List.set_cons_zero, List.set_cons_succ])
          go_simp
          exact hK.out _ _ rfl (Below.refl _ _)
        refine StepsL.cons1 0 (some 13) (by kernel_rfl) rfl ?_ ?_
        · rintro w1 hS _ rfl K hK
          (try simp only [Act.put, List.setIfInBounds_toArray, List.set_cons_zero, List.set_cons_succ])
          go_simp
          exact hK.out _ _ rfl (Below.refl _ _)
        refine StepsL.cons1 1 (some 14) (by kernel_rfl) rfl ?_ ?_
        · rintro w1 hS _ rfl K hK
          (try simp only [Act.put, List.setIfInBounds_toArray, List.set_cons_zero, List.set_cons_succ])
          go_simp
          exact hK.out _ _ rfl (Below.refl _ _)
        refine StepsL.cons1 2 (some 15) (by kernel_rfl) rfl ?_ ?_
        · rintro w1 hS _ rfl K hK
          (try simp only [Act.put, List.setIfInBounds_toArray, List.set_cons_zero, List.set_cons_succ])
          have hc := hS.2.1
          go_simp
          exact hK.out _ _ rfl (Below.refl _ _)
        refine StepsL.cons0  (by kernel_rfl)  ?_ ?_
        · rintro w1 hS  K hK
          (try simp only [Act.put, List.setIfInBounds_toArray, List.set_cons_zero, List.set_cons_succ])
          go_simp
          exact hK.out _ _ rfl (Below.refl _ _)
        refine StepsL.cons1 4 (some 17) (by kernel_rfl) rfl ?_ ?_
        · rintro w1 hS _ rfl K hK
          (try simp only [Act.put, List.setIfInBounds_toArray, List.set_cons_zero, List.set_cons_succ])
          go_simp
          go_at_call 46
          refine (HI.out _).mono ?_
          rintro e w7 ⟨rfl, rfl⟩
          exact hK.out _ _ rfl (Below.refl _ _)
        refine StepsL.cons2 3 (some 16) 5 (some 18) (by kernel_rfl) rfl rfl ?_ ?_
        · rintro w1 hS _ rfl _ rfl K hK
          (try simp only [Act.put, List.setIfInBounds_toArray, List.set_cons_zero, List.set_cons_succ])
          have hd := run_delete_none (T := 51) (t2 := 3) (z := i) Try.underlying51 hS.2.2.1 (iks_one 0 _ 0) (one_ne hne)
          go_simp
          exact hK.out (.tuple #[]) _ trivial (Below.refl _ _)
        exact StepsL.nil
      have HS := Lib.hid hS.2.2.2
      simp only [putl, List.foldl_cons, List.foldl_nil, Act.put, List.setIfInBounds_toArray, List.set_cons_zero, List.set_cons_succ]
      clear hS hV hcw htw hppw hcx
      go_wp2_with fail
      go_roundg (gk - 1)
      case measure => have := HG.out; omega
      case rel => exact ⟨k + 1, by simp, by have := HG.out; omega, HS.out⟩
    · have d1 : decide ((k : Int) < 3) = false := by simp; omega
      obtain rfl : k = 3 := by omega
      clear hkg
      have BW := Lib.hid (below_then HX.out.2.2.2 hkb)
      go_wp2_with fail
      go_end0
      exact ⟨rfl, BW.out⟩
end Go.Proofs.Ytllgdlfdmmdffaa
