/- A group of one begins; whether an act may be done. -/
import Derived.Test.YtllgdlfdmmdffaaG12
namespace Go.Proofs.Ytllgdlfdmmdffaa
open Go.ChangeShapes Go.WideShapes Go.ChangeAt Go.RowKit Go.MapKept Go.ChangeMaps
set_option linter.unusedSimpArgs false
set_option linter.unusedVariables false
/-- A party of one. -/
def Stg (w0 : World) (e : Ending) (w' : World) : Prop := ∃ p t h c' mb', e = .returned (.pointer (some ⟨p, 0, none⟩)) ∧ Gp w0 w' p staM t h c' mb'
set_option maxRecDepth 20000 in
set_option maxHeartbeats 4000000 in
theorem start21g (w : World) : Calls Try.prog 21 #[] w (Stg w) := by
  have hz := zero54
  have hm1 := run_mk 51
  have hm2 := run_mk 52
  go_enter Try.func21, Try.ntmps21
  go_upto_region 2 with (fail)
  have ht3 : (((w.alloc (.map #[] 0)).alloc (.map #[] 0)).alloc (.cells #[Value.int .i64 0, .slice none 0 0, .slice none 0 0, .slice none 0 0, .bool false, .bool false, .bool false, .bool false, .bool false, .bool false, .bool false, .bool false, .map (some w.heap.size), .map (some (w.heap.size + 1)), .int .i64 0] 54)).heap[w.heap.size]? = some (.map #[] 0) :=
    (Below.heap_alloc _ _ _ (by simp; omega)).trans ((Below.heap_alloc _ _ _ (by simp)).trans (heap_alloc_new _ _))
  have hh3 : (((w.alloc (.map #[] 0)).alloc (.map #[] 0)).alloc (.cells #[Value.int .i64 0, .slice none 0 0, .slice none 0 0, .slice none 0 0, .bool false, .bool false, .bool false, .bool false, .bool false, .bool false, .bool false, .bool false, .map (some w.heap.size), .map (some (w.heap.size + 1)), .int .i64 0] 54)).heap[w.heap.size + 1]? = some (.map #[] 0) := by
    refine (Below.heap_alloc _ _ _ (by simp)).trans ?_
    have := heap_alloc_new (w.alloc (.map #[] 0)) (.map #[] 0)
    rwa [World.size_alloc] at this
  have hp3 := heap_alloc_new ((w.alloc (.map #[] 0)).alloc (.map #[] 0)) (.cells #[Value.int .i64 0, .slice none 0 0, .slice none 0 0, .slice none 0 0, .bool false, .bool false, .bool false, .bool false, .bool false, .bool false, .bool false, .bool false, .map (some w.heap.size), .map (some (w.heap.size + 1)), .int .i64 0] 54)
  rw [World.size_alloc, World.size_alloc] at hp3
  have hb3 : Below w.heap.size w (((w.alloc (.map #[] 0)).alloc (.map #[] 0)).alloc (.cells #[Value.int .i64 0, .slice none 0 0, .slice none 0 0, .slice none 0 0, .bool false, .bool false, .bool false, .bool false, .bool false, .bool false, .bool false, .bool false, .map (some w.heap.size), .map (some (w.heap.size + 1)), .int .i64 0] 54)) :=
    (((Below.refl _ w).alloc (Nat.le_refl _) _).alloc (by simp) _).alloc (by simp; omega) _
  generalize (((w.alloc (.map #[] 0)).alloc (.map #[] 0)).alloc (.cells #[Value.int .i64 0, .slice none 0 0, .slice none 0 0, .slice none 0 0, .bool false, .bool false, .bool false, .bool false, .bool false, .bool false, .bool false, .bool false, .map (some w.heap.size), .map (some (w.heap.size + 1)), .int .i64 0] 54)) = w3 at ht3 hh3 hp3 hb3 ⊢
  have P0 := pty0 w w3 (w.heap.size + 1 + 1) w.heap.size (w.heap.size + 1) hp3 (by omega) hb3
  have HX := Lib.hid (show w.heap.size ≠ w.heap.size + 1 by omega)
  generalize w.heap.size + 1 + 1 = p at P0 ⊢
  generalize hhh : w.heap.size + 1 = h at P0 hh3 HX ⊢
  have HM := Lib.hid (And.intro ht3 hh3)
  have G0 : Gp w w3 p ⟨0, [], [], [], fun _ => false, 0, fun _ => none, fun _ _ => none⟩ w.heap.size h (c0 w.heap.size h) (fun _ => 0) := by
    refine ⟨P0, ⟨#[], 0, ht3, mo_nil 0, mp_nil⟩, ⟨⟨#[], 0, hh3, mo_nil 0, ?_⟩, fun l _ hi => by simp at hi, fun l l' _ _ hi => by simp at hi⟩, HX.out, Nat.le_refl _, by omega⟩
    exact ⟨fun k _ ⟨x, hx, _⟩ => by simp at hx, fun k a hk => by simp [inM] at hk⟩
  have H30 : Calls Try.prog 30 #[.pointer (some ⟨p, 0, none⟩), .int .i64 3] w3 (Pg (c0 w.heap.size h) w w3 p 3 [] [] [] (fun _ => false) w.heap.size h 0 (.int .i64 0)) := fresh30g P0 3 (by omega)
  have HG0 := Lib.hid G0
  clear G0
  clear hz hm1 hm2 P0 ht3 hh3 hp3 hb3
  clear hhh
  have HW := Lib.hid (show ∃ t, t = w.heap.size from ⟨_, rfl⟩)
  go_wp2_with (first
    | (go_at_call 30; (with_reducible refine H30.mono ?_); rintro e w4 ⟨rfl, ⟨m4, _⟩, c4, P4, n4⟩; have G4 := HG0.out.keep P4 m4 n4; have H31 : Calls Try.prog 31 #[.pointer (some ⟨p, 0, none⟩), .int .i64 0, .int .i64 0] w4 _ := enter31g G4 0 (by omega) 0; clear m4 P4 n4 G4)
    | (go_at_call 31; (with_reducible refine H31.mono ?_); rintro e w5 ⟨rfl, c5, mb5, G5⟩; have H32 := epoch32g G5.P 1 (by omega) (by simp [entM]) (by simp [entM]); have HG5 := Lib.hid G5; clear G5)
    | (go_at_call 32; (with_reducible refine H32.mono ?_); rintro e w6 ⟨rfl, ⟨m6, _⟩, c6, P6, n6⟩))
  have G6 := HG5.out.keep P6 m6 n6
  go_ret
  exact ⟨p, w.heap.size, h, c6, mb5, rfl, G6.congr rfl rfl rfl rfl rfl rfl rfl (fun l _ _ => rfl)⟩
section
variable {w0 w w' : World} {p t h : Nat} {m : Md} {c c' : Nat → Value} {mb : Nat → Nat}
theorem isL_yes {x : Int} (h : isL x = true) : ∃ l : Nat, x = (l : Int) ∧ l < 8 := by
  unfold isL at h
  simp at h
  exact ⟨x.toNat, by omega, by omega⟩
theorem isL_nat (l : Nat) (hl : l < 8) : isL (l : Int) = true := by unfold isL; simp; omega
set_option maxRecDepth 20000 in
set_option maxHeartbeats 4000000 in
theorem can_out (G : Gp w0 w p m t h c mb) (kind leaf other : Int) (hl : isL leaf = false) :
    Calls Try.prog 22 #[.pointer (some ⟨p, 0, none⟩), .agg #[.int .i64 kind, .int .i64 leaf, .int .i64 other]] w fun e w' => e = .returned (.bool false) ∧ Below w.heap.size w w' := by
  have e33 := eg33
  have H33 := Lib.hid (leaf33 (leaf))
  have hb := (Below.refl w.heap.size w).alloc (Nat.le_refl _) (.cells #[.int .i64 kind, .int .i64 (leaf), .int .i64 other] 42)
  have PA := G.P.below ((Below.refl _ w).alloc (Nat.le_refl _) (.cells #[.int .i64 kind, .int .i64 (leaf), .int .i64 other] 42))
  clear G PA
  have HB := Lib.hid hb
  have H := H33.out
  rw [show (decide (0 ≤ leaf) && decide (leaf < 8)) = false from hl] at H
  have H := Lib.hid H
  clear hl hb
  go_enter Try.func22, Try.ntmps22
  go_upto_region 2 with (fail)
  go_quiet ((go_at_fn 33; exact Calls.quiet_of_same (H.out _)))
  go_wp2_with fail
  go_ret
  exact ⟨rfl, ⟨HB.out.os, HB.out.tape, HB.out.output, HB.out.size, HB.out.block⟩⟩
set_option maxRecDepth 20000 in
set_option maxHeartbeats 16000000 in
theorem can_in (G : Gp w0 w p m t h c mb) (kind : Int) (l : Nat) (other : Int) (hl : l < 8) :
    Calls Try.prog 22 #[.pointer (some ⟨p, 0, none⟩), .agg #[.int .i64 kind, .int .i64 (l : Int), .int .i64 other]] w fun e w' => e = .returned (.bool (canM m ⟨kind, (l : Int), other⟩)) ∧ Below w.heap.size w w' := by
  have e33 := eg33
  have H33 := Lib.hid (leaf33 ((l : Int)))
  have hb := (Below.refl w.heap.size w).alloc (Nat.le_refl _) (.cells #[.int .i64 kind, .int .i64 ((l : Int)), .int .i64 other] 42)
  have PA := G.P.below ((Below.refl _ w).alloc (Nat.le_refl _) (.cells #[.int .i64 kind, .int .i64 ((l : Int)), .int .i64 other] 42))
  have hc := PA.pc.cell (4 + l) (by omega)
  rw [PA.ci l hl] at hc
  obtain ⟨q, hq⟩ : ∃ q, m.ins l = q := ⟨_, rfl⟩
  rw [hq] at hc
  have HQ := Lib.hid hq
  have HG := Lib.hid (And.intro G hl)
  clear G PA hq
  go_enter Try.func22, Try.ntmps22
  go_upto_region 2 with (fail)
  have q0 : (0 : Int) ≤ (l : Int) := by omega
  have q1 : (l : Int) < 8 := by omega
  have H := H33.out
  rw [show (decide ((0 : Int) ≤ (l : Int)) && decide ((l : Int) < 8)) = true by simp; omega] at H
  have H := Lib.hid H
  go_quiet ((go_at_fn 33; exact Calls.quiet_of_same (H.out _)))
  have hk0 : ((w.alloc (.cells #[.int .i64 kind, .int .i64 (l : Int), .int .i64 other] 42)).drewN nq).cell? ⟨w.heap.size, 0, none⟩ = some (.int .i64 kind) := by
    show (w.alloc (.cells #[.int .i64 kind, .int .i64 (l : Int), .int .i64 other] 42)).cell? ⟨w.heap.size, 0, none⟩ = _
    simp
  have hk1 : ((w.alloc (.cells #[.int .i64 kind, .int .i64 (l : Int), .int .i64 other] 42)).drewN nq).cell? ⟨w.heap.size, 1, none⟩ = some (.int .i64 (l : Int)) := by
    show (w.alloc (.cells #[.int .i64 kind, .int .i64 (l : Int), .int .i64 other] 42)).cell? ⟨w.heap.size, 1, none⟩ = _
    simp
  have hk2 : ((w.alloc (.cells #[.int .i64 kind, .int .i64 (l : Int), .int .i64 other] 42)).drewN nq).cell? ⟨w.heap.size, 2, none⟩ = some (.int .i64 other) := by
    show (w.alloc (.cells #[.int .i64 kind, .int .i64 (l : Int), .int .i64 other] 42)).cell? ⟨w.heap.size, 2, none⟩ = _
    simp
  have hb2 : Below w.heap.size w ((w.alloc (.cells #[.int .i64 kind, .int .i64 (l : Int), .int .i64 other] 42)).drewN nq) := ⟨hb.os, hb.tape, hb.output, hb.size, hb.block⟩
  generalize (w.alloc (.cells #[.int .i64 kind, .int .i64 (l : Int), .int .i64 other] 42)).drewN nq = w2 at hk0 hk1 hk2 hb2 ⊢
  have HB := Lib.hid (And.intro hb2 (And.intro hk0 (And.intro hk1 hk2)))
  clear hb hb2 hc hl hk0 hk1 hk2

  cases q with
  | false =>
    go_wp2_with fail
    go_ret
    exact ⟨congrArg (fun b => Ending.returned (Value.bool b)) (by simp [canM, isL_nat l HG.out.2, HQ.out]), HB.out.1⟩
  | true =>
    have c0 := HB.out.2.1
    have c1 := HB.out.2.2.1
    have c2 := HB.out.2.2.2
    by_cases k1 : kind = 1
    · subst k1
      go_wp2_with fail
      go_ret
      exact ⟨congrArg (fun b => Ending.returned (Value.bool b)) (by simp [canM, isL_nat l HG.out.2, HQ.out]), HB.out.1⟩
    by_cases k5 : kind = 5
    · subst k5
      go_wp2_with fail
      go_ret
      exact ⟨congrArg (fun b => Ending.returned (Value.bool b)) (by simp [canM, isL_nat l HG.out.2, HQ.out]), HB.out.1⟩
    have n1 : (kind == 1) = false := by simpa using k1
    have n5 : (kind == 5) = false := by simpa using k5
    by_cases k2 : kind = 2
    · subst k2
      go_upto_region 9 with (fail)
      by_cases ho : isL other = true
      · obtain ⟨o, rfl, ho8⟩ := isL_yes ho
        have H3 := leaf33 (o : Int)
        rw [show (decide ((0 : Int) ≤ (o : Int)) && decide ((o : Int) < 8)) = true by simp; omega] at H3
        have H3 := Lib.hid H3
        have s0 : (0 : Int) ≤ (o : Int) := by omega
        have s1 : (o : Int) < 8 := by omega
        have hc := (HG.out.1.P.below HB.out.1).pc.cell (4 + o) (by omega)
        rw [(HG.out.1.P.below HB.out.1).ci o ho8] at hc
        obtain ⟨q2, hq2⟩ : ∃ q2, m.ins o = q2 := ⟨_, rfl⟩
        rw [hq2] at hc
        have HQ2 := Lib.hid hq2
        clear hq2 ho
        go_quiet ((go_at_fn 33; exact Calls.quiet_of_same (H3.out _)))
        go_wp2_with fail
        go_ret
        exact ⟨congrArg (fun b => Ending.returned (Value.bool b)) (by first | ((simp [canM, isL_nat l HG.out.2, HQ.out, isL_nat o ho8, HQ2.out]); done) | ((simp [canM, isL_nat l HG.out.2, HQ.out, isL_nat o ho8, HQ2.out]); rfl)), ⟨HB.out.1.os, HB.out.1.tape, HB.out.1.output, HB.out.1.size, HB.out.1.block⟩⟩
      · have ho2 : isL other = false := by simpa using ho
        have H3 := leaf33 other
        rw [show (decide (0 ≤ other) && decide (other < 8)) = false from ho2] at H3
        have H3 := Lib.hid H3
        have HO2 := Lib.hid ho2
        clear ho ho2
        go_quiet ((go_at_fn 33; exact Calls.quiet_of_same (H3.out _)))
        go_wp2_with fail
        go_ret
        exact ⟨congrArg (fun b => Ending.returned (Value.bool b)) (by first | ((simp [canM, isL_nat l HG.out.2, HQ.out, HO2.out]); done) | ((simp [canM, isL_nat l HG.out.2, HQ.out, HO2.out]); rfl)), ⟨HB.out.1.os, HB.out.1.tape, HB.out.1.output, HB.out.1.size, HB.out.1.block⟩⟩
    have n2 : (kind == 2) = false := by simpa using k2
    by_cases k3 : kind = 3
    · subst k3
      go_upto_region 12 with (fail)
      by_cases ho : isL other = true
      · obtain ⟨o, rfl, ho8⟩ := isL_yes ho
        have H3 := leaf33 (o : Int)
        rw [show (decide ((0 : Int) ≤ (o : Int)) && decide ((o : Int) < 8)) = true by simp; omega] at H3
        have H3 := Lib.hid H3
        have s0 : (0 : Int) ≤ (o : Int) := by omega
        have s1 : (o : Int) < 8 := by omega
        have hc := (HG.out.1.P.below HB.out.1).pc.cell (4 + o) (by omega)
        rw [(HG.out.1.P.below HB.out.1).ci o ho8] at hc
        obtain ⟨q2, hq2⟩ : ∃ q2, m.ins o = q2 := ⟨_, rfl⟩
        rw [hq2] at hc
        have HQ2 := Lib.hid hq2
        clear hq2 ho
        cases q2 with
        | false =>
          go_quiet ((go_at_fn 33; exact Calls.quiet_of_same (H3.out _)))
          go_wp2_with fail
          go_ret
          exact ⟨congrArg (fun b => Ending.returned (Value.bool b)) (by first | ((simp [canM, isL_nat l HG.out.2, HQ.out, isL_nat o ho8, HQ2.out]); done) | ((simp [canM, isL_nat l HG.out.2, HQ.out, isL_nat o ho8, HQ2.out]); rfl)), ⟨HB.out.1.os, HB.out.1.tape, HB.out.1.output, HB.out.1.size, HB.out.1.block⟩⟩
        | true =>
          go_quiet ((go_at_fn 33; exact Calls.quiet_of_same (H3.out _)))
          go_wp2_with fail
          go_ret
          exact ⟨congrArg (fun b => Ending.returned (Value.bool b)) (by first | ((simp [canM, isL_nat l HG.out.2, HQ.out, isL_nat o ho8, HQ2.out]); done) | ((simp [canM, isL_nat l HG.out.2, HQ.out, isL_nat o ho8, HQ2.out]); rfl)), ⟨HB.out.1.os, HB.out.1.tape, HB.out.1.output, HB.out.1.size, HB.out.1.block⟩⟩
      · have ho2 : isL other = false := by simpa using ho
        have H3 := leaf33 other
        rw [show (decide (0 ≤ other) && decide (other < 8)) = false from ho2] at H3
        have H3 := Lib.hid H3
        have HO2 := Lib.hid ho2
        clear ho ho2
        go_quiet ((go_at_fn 33; exact Calls.quiet_of_same (H3.out _)))
        go_wp2_with fail
        go_ret
        exact ⟨congrArg (fun b => Ending.returned (Value.bool b)) (by first | ((simp [canM, isL_nat l HG.out.2, HQ.out, HO2.out]); done) | ((simp [canM, isL_nat l HG.out.2, HQ.out, HO2.out]); rfl)), ⟨HB.out.1.os, HB.out.1.tape, HB.out.1.output, HB.out.1.size, HB.out.1.block⟩⟩
    have n3 : (kind == 3) = false := by simpa using k3
    by_cases k4 : kind = 4
    · subst k4
      go_upto_region 12 with (fail)
      by_cases ho : isL other = true
      · obtain ⟨o, rfl, ho8⟩ := isL_yes ho
        have H3 := leaf33 (o : Int)
        rw [show (decide ((0 : Int) ≤ (o : Int)) && decide ((o : Int) < 8)) = true by simp; omega] at H3
        have H3 := Lib.hid H3
        have s0 : (0 : Int) ≤ (o : Int) := by omega
        have s1 : (o : Int) < 8 := by omega
        have hc := (HG.out.1.P.below HB.out.1).pc.cell (4 + o) (by omega)
        rw [(HG.out.1.P.below HB.out.1).ci o ho8] at hc
        obtain ⟨q2, hq2⟩ : ∃ q2, m.ins o = q2 := ⟨_, rfl⟩
        rw [hq2] at hc
        have HQ2 := Lib.hid hq2
        clear hq2 ho
        cases q2 with
        | false =>
          go_quiet ((go_at_fn 33; exact Calls.quiet_of_same (H3.out _)))
          go_wp2_with fail
          go_ret
          exact ⟨congrArg (fun b => Ending.returned (Value.bool b)) (by first | ((simp [canM, isL_nat l HG.out.2, HQ.out, isL_nat o ho8, HQ2.out]); done) | ((simp [canM, isL_nat l HG.out.2, HQ.out, isL_nat o ho8, HQ2.out]); rfl)), ⟨HB.out.1.os, HB.out.1.tape, HB.out.1.output, HB.out.1.size, HB.out.1.block⟩⟩
        | true =>
          go_quiet ((go_at_fn 33; exact Calls.quiet_of_same (H3.out _)))
          go_wp2_with fail
          go_ret
          exact ⟨congrArg (fun b => Ending.returned (Value.bool b)) (by first | ((simp [canM, isL_nat l HG.out.2, HQ.out, isL_nat o ho8, HQ2.out]); done) | ((simp [canM, isL_nat l HG.out.2, HQ.out, isL_nat o ho8, HQ2.out]); rfl)), ⟨HB.out.1.os, HB.out.1.tape, HB.out.1.output, HB.out.1.size, HB.out.1.block⟩⟩
      · have ho2 : isL other = false := by simpa using ho
        have H3 := leaf33 other
        rw [show (decide (0 ≤ other) && decide (other < 8)) = false from ho2] at H3
        have H3 := Lib.hid H3
        have HO2 := Lib.hid ho2
        clear ho ho2
        go_quiet ((go_at_fn 33; exact Calls.quiet_of_same (H3.out _)))
        go_wp2_with fail
        go_ret
        exact ⟨congrArg (fun b => Ending.returned (Value.bool b)) (by first | ((simp [canM, isL_nat l HG.out.2, HQ.out, HO2.out]); done) | ((simp [canM, isL_nat l HG.out.2, HQ.out, HO2.out]); rfl)), ⟨HB.out.1.os, HB.out.1.tape, HB.out.1.output, HB.out.1.size, HB.out.1.block⟩⟩
    have n4 : (kind == 4) = false := by simpa using k4
    go_wp2_with fail
    go_ret
    exact ⟨congrArg (fun b => Ending.returned (Value.bool b)) (by simp [canM, isL_nat l HG.out.2, HQ.out, k1, k2, k3, k4, k5]), HB.out.1⟩
theorem can22g (G : Gp w0 w p m t h c mb) (a : Ac) :
    Calls Try.prog 22 #[.pointer (some ⟨p, 0, none⟩), .agg #[.int .i64 a.kind, .int .i64 a.leaf, .int .i64 a.other]] w fun e w' => e = .returned (.bool (canM m a)) ∧ Below w.heap.size w w' := by
  obtain ⟨kind, leaf, other⟩ := a
  by_cases hl : isL leaf = true
  · obtain ⟨l, rfl, hl8⟩ := isL_yes hl
    exact can_in G kind l other hl8
  · have hl2 : isL leaf = false := by simpa using hl
    have e : canM m ⟨kind, leaf, other⟩ = false := by simp [canM, hl2]
    rw [e]
    exact can_out G kind leaf other hl2
end
end Go.Proofs.Ytllgdlfdmmdffaa
