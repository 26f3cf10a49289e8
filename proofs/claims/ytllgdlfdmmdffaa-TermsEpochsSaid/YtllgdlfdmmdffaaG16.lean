/- One act. -/
import Derived.Test.YtllgdlfdmmdffaaG15
namespace Go.Proofs.Ytllgdlfdmmdffaa
open Go.ChangeShapes Go.WideShapes Go.ChangeAt Go.RowKit Go.MapKept Go.ChangeMaps
set_option linter.unusedSimpArgs false
set_option linter.unusedVariables false
/-- A party that has had one number more. -/
def C1 (p : Nat) (many : Int) (w : World) : Prop := w.cell? ⟨p, 0, none⟩ = some (.int .i64 (many + 1))
def V23 (p b : Nat) (o many : Int) : Nat → Value → World → Prop
  | 0, v, w => v = .pointer (some ⟨p, 0, none⟩)
  | 1, v, w => v = .pointer (some ⟨b, 2, none⟩)
  | 2, v, w => v = .int .i64 o
  | 3, v, w => v = .pointer (some ⟨p, 0, none⟩)
  | 4, v, w => v = .int .i64 many ∧ C1 p many w
  | 5, v, w => True
  | _, _, _ => True
theorem V23_keep (p b : Nat) (o many : Int) (k1 i1 : Nat) (v : Value) (w w' : World) (hk : k1 ≠ i1) (h : V23 p b o many i1 v w) (r : k1 ≠ 4 → C1 p many w → C1 p many w') : V23 p b o many i1 v w' := by
  rcases i1 with _ | _ | _ | _ | _ | _ | _
  · exact h
  · exact h
  · exact h
  · exact h
  · exact ⟨h.1, r hk h.2⟩
  · exact h
  · trivial
/-- A region in which a number is taken and a leaf enters. -/
structure S23 (W0 : World) (p b : Nat) (k l o many : Int) (G1 GF : World → Prop) (L : Nat → Bool) (w : World) : Prop where
  b4 : L 4 = false → w = W0
  g1 : L 5 = false → C1 p many w → G1 w
  gf : L 5 = true → GF w
  bb : w.heap[b]? = some (.cells #[.int .i64 k, .int .i64 l, .int .i64 o] 42 (0, 0))
theorem S23.bx {W0 : World} {p b : Nat} {k l o many : Int} {G1 GF : World → Prop} {L : Nat → Bool} {w : World} (h : S23 W0 p b k l o many G1 GF L w) : w.cell? ⟨b, 2, none⟩ = some (.int .i64 o) := by rw [cell_of_row _ _ _ _ _ _ h.bb]; rfl
theorem S23.step {W0 : World} {p b : Nat} {k l o many : Int} {G1 GF : World → Prop} {L : Nat → Bool} {w : World} (h : S23 W0 p b k l o many G1 GF L w) (i : Nat) (h4 : i ≠ 4) (h5 : i ≠ 5) : S23 W0 p b k l o many G1 GF (fun j => j == i || L j) w := by
  have e4 : (4 == i) = false := by simp; omega
  have e5 : (5 == i) = false := by simp; omega
  exact ⟨fun e => h.b4 (by simpa [e4] using e), fun e => h.g1 (by simpa [e5] using e), fun e => h.gf (by simpa [e5] using e), h.bb⟩
section
variable {w0 w w' : World} {p t h : Nat} {m : Md} {c c' : Nat → Value} {mb : Nat → Nat}
theorem commit_ok (G : Gp w0 w p m t h c mb) (K : Ok m) (h1 : m.many ≤ 90000) (h2 : m.Rs.length ≤ 8000000) (h3 : m.Ep.length ≤ 1000) (l : Nat) (hl : l < 8) (hi : m.ins l = true) (wel : Int) (hw : -1000000 ≤ wel ∧ wel ≤ 1000000) :
    Calls Try.prog 38 #[.pointer (some ⟨p, 0, none⟩), .int .i64 (l : Int), .int .i64 wel] w (Eg w0 p (comM m l wel) t h) := by
  have q1 := K.init
  have q2 := K.many1
  exact commit38g G (TOk_of K.tk) l hl hi wel hw ⟨by omega, h1⟩ ⟨by have := q1.1; omega, by have := q1.2; omega⟩ h2 h3
theorem box_leaf {w w' : World} {b : Nat} {k l o : Int} (hb : w.heap[b]? = some (.cells #[.int .i64 k, .int .i64 l, .int .i64 o] 42 (0, 0))) (h : K7 w w') : w'.heap[b]? = some (.cells #[.int .i64 k, .int .i64 l, .int .i64 o] 42 (0, 0)) := h _ _ _ _ (by decide) (by decide) (by decide) hb
theorem box_cells {w : World} {b : Nat} {k l o : Int} (hb : w.heap[b]? = some (.cells #[.int .i64 k, .int .i64 l, .int .i64 o] 42 (0, 0))) : w.cell? ⟨b, 0, none⟩ = some (.int .i64 k) ∧ w.cell? ⟨b, 1, none⟩ = some (.int .i64 l) ∧ w.cell? ⟨b, 2, none⟩ = some (.int .i64 o) :=
  ⟨by rw [cell_of_row _ _ _ _ _ _ hb]; rfl, by rw [cell_of_row _ _ _ _ _ _ hb]; rfl, by rw [cell_of_row _ _ _ _ _ _ hb]; rfl⟩
set_option maxRecDepth 20000 in
set_option maxHeartbeats 8000000 in
theorem act5 (G : Gp w0 w p m t h c mb) (K : Ok m) (h3 : m.Ep.length ≤ 900) (h4 : m.Kn.length ≤ 900000) (l : Nat) (hl : l < 8) (hi : m.ins l = true) (o : Int) :
    Calls Try.prog 23 #[.pointer (some ⟨p, 0, none⟩), .agg #[.int .i64 5, .int .i64 (l : Int), .int .i64 o]] w (Eg w0 p (revM m l) t h) := by
  have kA : Below w.heap.size w (w.alloc (.cells #[.int .i64 5, .int .i64 (l : Int), .int .i64 o] 42)) := (Below.refl _ w).alloc (Nat.le_refl _) _
  have hb := heap_alloc_new w (.cells #[.int .i64 5, .int .i64 (l : Int), .int .i64 o] 42)
  have GA := G.below kA
  obtain ⟨e, he⟩ := List.getLast?_isSome.2 K.e1 |> Option.isSome_iff_exists.1
  have H34 := reveal34g GA l hl hi (fun k z hk => (K.hh l hl hi k z hk).1) he (by omega) (by omega)
  clear G K GA kA hb h3 h4 hl hi he
  go_enter Try.func23, Try.ntmps23
  go_wp2_with (go_at_call 34; (with_reducible refine H34.mono ?_); rintro e1 w1 ⟨rfl, c1, mb1, G1⟩)
  go_end0
  exact ⟨rfl, c1, mb1, G1⟩
set_option maxRecDepth 20000 in
set_option maxHeartbeats 8000000 in
theorem act1 (G : Gp w0 w p m t h c mb) (K : Ok m) (h1 : m.many ≤ 80000) (h2 : m.Rs.length ≤ 7000000) (h3 : m.Ep.length ≤ 900) (l : Nat) (hl : l < 8) (hi : m.ins l = true) (o : Int) :
    Calls Try.prog 23 #[.pointer (some ⟨p, 0, none⟩), .agg #[.int .i64 1, .int .i64 (l : Int), .int .i64 o]] w (Eg w0 p (comM m l (-1)) t h) := by
  have kA : Below w.heap.size w (w.alloc (.cells #[.int .i64 1, .int .i64 (l : Int), .int .i64 o] 42)) := (Below.refl _ w).alloc (Nat.le_refl _) _
  have hb := heap_alloc_new w (.cells #[.int .i64 1, .int .i64 (l : Int), .int .i64 o] 42)
  have GA := G.below kA
  have H38 := commit_ok GA K (by omega) (by omega) (by omega) l hl hi (-1) (by omega)
  clear G K GA kA hb h1 h2 h3 hl hi
  go_enter Try.func23, Try.ntmps23
  go_wp2_with (go_at_call 38; (with_reducible refine H38.mono ?_); rintro e1 w1 ⟨rfl, c1, mb1, G1⟩)
  go_end0
  exact ⟨rfl, c1, mb1, G1⟩
set_option maxRecDepth 20000 in
set_option maxHeartbeats 8000000 in
theorem act2 (G : Gp w0 w p m t h c mb) (K : Ok m) (h1 : m.many ≤ 80000) (h2 : m.Rs.length ≤ 7000000) (h3 : m.Ep.length ≤ 900) (l : Nat) (hl : l < 8) (hi : m.ins l = true) (o : Nat) (ho : o < 8) (hno : m.ins o = false) :
    Calls Try.prog 23 #[.pointer (some ⟨p, 0, none⟩), .agg #[.int .i64 2, .int .i64 (l : Int), .int .i64 (o : Int)]] w (Eg w0 p (comM (addM m o) l (m.many + 1)) t h) := by
  have kA : Below w.heap.size w (w.alloc (.cells #[.int .i64 2, .int .i64 (l : Int), .int .i64 (o : Int)] 42)) := (Below.refl _ w).alloc (Nat.le_refl _) _
  have hb := heap_alloc_new w (.cells #[.int .i64 2, .int .i64 (l : Int), .int .i64 (o : Int)] 42)
  have GA := G.below kA
  have q1 := K.many1
  have H35 := add35g GA (TOk_of K.tk) o ho ⟨by omega, by omega⟩
  have K2 := addM_ok K o ho hno
  have HC := Lib.hid (fun (W : World) (c2 : Nat → Value) (mb2 : Nat → Nat) (G2 : Gp w0 W p (addM m o) t h c2 mb2) => commit_ok G2 K2 (by show m.many + 2 ≤ 90000; omega) (by show m.Rs.length ≤ 8000000; omega) (by show m.Ep.length ≤ 1000; omega) l hl (by show setL m.ins o true l = true; unfold setL; split; rfl; exact hi) (m.many + 1) (by omega))
  have HB := Lib.hid hb
  obtain ⟨b, hbe⟩ : ∃ b, b = w.heap.size := ⟨_, rfl⟩
  have HBE := Lib.hid hbe
  clear G K GA kA hb h1 h2 h3 hl hi K2 q1 hbe
  go_enter Try.func23, Try.ntmps23
  go_wp2_with (first
    | (go_at_call 35; (with_reducible refine H35.mono ?_); rintro e1 w1 ⟨rfl, ⟨c1, mb1, G1⟩, k1⟩; have hb1 := (box_cells (box_leaf HB.out k1)).2.1; have H38 := HC.out _ _ _ G1; clear H35 G1 k1)
    | (go_at_call 38; (with_reducible refine H38.mono ?_); rintro e1 w2 ⟨rfl, c2, mb2, G2⟩))
  go_end0
  exact ⟨rfl, c2, mb2, G2⟩
set_option maxRecDepth 20000 in
set_option maxHeartbeats 8000000 in
theorem act4 (G : Gp w0 w p m t h c mb) (K : Ok m) (h1 : m.many ≤ 80000) (h2 : m.Rs.length ≤ 7000000) (h3 : m.Ep.length ≤ 900) (l : Nat) (hl : l < 8) (hi : m.ins l = true) (o : Nat) (ho : o < 8) (hol : o ≠ l) :
    Calls Try.prog 23 #[.pointer (some ⟨p, 0, none⟩), .agg #[.int .i64 4, .int .i64 (l : Int), .int .i64 (o : Int)]] w (Eg w0 p (comM (remM m o) l (-1)) t h) := by
  have kA : Below w.heap.size w (w.alloc (.cells #[.int .i64 4, .int .i64 (l : Int), .int .i64 (o : Int)] 42)) := (Below.refl _ w).alloc (Nat.le_refl _) _
  have hb := heap_alloc_new w (.cells #[.int .i64 4, .int .i64 (l : Int), .int .i64 (o : Int)] 42)
  have GA := G.below kA
  have H37 := remove37g GA o ho
  have K2 := remM_ok K o ho
  have HC := Lib.hid (fun (W : World) (c2 : Nat → Value) (mb2 : Nat → Nat) (G2 : Gp w0 W p (remM m o) t h c2 mb2) => commit_ok G2 K2 (by show m.many ≤ 90000; omega) (by show m.Rs.length ≤ 8000000; omega) (by show m.Ep.length ≤ 1000; omega) l hl (by show setL m.ins o false l = true; unfold setL; rw [if_neg (fun e => hol e.symm)]; exact hi) (-1) (by omega))
  have HB := Lib.hid hb
  clear G K GA kA hb h1 h2 h3 hl hi K2
  go_enter Try.func23, Try.ntmps23
  go_wp2_with (first
    | (go_at_call 37; (with_reducible refine H37.mono ?_); rintro e1 w1 ⟨rfl, ⟨c1, mb1, G1⟩, k1⟩; have hb1 := (box_cells (box_leaf HB.out k1)).2.1; have H38 := HC.out _ _ _ G1; clear H37 G1 k1)
    | (go_at_call 38; (with_reducible refine H38.mono ?_); rintro e1 w2 ⟨rfl, c2, mb2, G2⟩))
  go_end0
  exact ⟨rfl, c2, mb2, G2⟩
set_option maxRecDepth 20000 in
set_option maxHeartbeats 8000000 in
theorem act3 (G : Gp w0 w p m t h c mb) (K : Ok m) (h1 : m.many ≤ 80000) (h2 : m.Rs.length ≤ 7000000) (h3 : m.Ep.length ≤ 900) (l : Nat) (hl : l < 8) (hi : m.ins l = true) (o : Nat) (ho : o < 8) :
    Calls Try.prog 23 #[.pointer (some ⟨p, 0, none⟩), .agg #[.int .i64 3, .int .i64 (l : Int), .int .i64 (o : Int)]] w (Eg w0 p (comM (entM { blkM m o with many := m.many + 1 } o m.many) l (-1)) t h) := by
  have kA : Below w.heap.size w (w.alloc (.cells #[.int .i64 3, .int .i64 (l : Int), .int .i64 (o : Int)] 42)) := (Below.refl _ w).alloc (Nat.le_refl _) _
  have hb := heap_alloc_new w (.cells #[.int .i64 3, .int .i64 (l : Int), .int .i64 (o : Int)] 42)
  have GA := G.below kA
  have q1 := K.many1
  have H36 := blank36k GA o ho
  have K1 : Ok { blkM m o with many := m.many + 1 } := many_ok (blkM_ok K o ho) 1 (by omega)
  have K2 := entM_ok K1 o ho m.many ⟨by omega, by show m.many < m.many + 1; omega⟩
  have HC := Lib.hid (fun (W : World) (c2 : Nat → Value) (mb2 : Nat → Nat) (G2 : Gp w0 W p (entM { blkM m o with many := m.many + 1 } o m.many) t h c2 mb2) => commit_ok G2 K2 (by show m.many + 1 ≤ 90000; omega) (by show m.Rs.length ≤ 8000000; omega) (by show m.Ep.length ≤ 1000; omega) l hl (by show setL m.ins o true l = true; unfold setL; split; rfl; exact hi) (-1) (by omega))
  have HB := Lib.hid hb
  have HO := Lib.hid ho
  have HMM := Lib.hid (And.intro q1 h1)
  obtain ⟨b, hbe⟩ : ∃ b, b = w.heap.size := ⟨_, rfl⟩
  rw [← hbe] at HB
  clear G K GA kA hb h1 h2 h3 hl hi K1 K2 q1 ho
  go_enter Try.func23, Try.ntmps23
  go_upto_region 9 with (first
    | (go_at_call 36; (with_reducible refine H36.mono ?_); rintro e1 w1 ⟨rfl, G1, _, k1⟩; have HG1 := Lib.hid (And.intro G1 (box_leaf HB.out (k7_kc k1))); clear H36 G1 k1))
  rw [← hbe]
  clear hbe
  obtain ⟨wq, hwq⟩ : ∃ wq, wq = w1.drew := ⟨_, rfl⟩
  have HBQ := Lib.hid (show wq.heap[b]? = some (.cells #[.int .i64 3, .int .i64 (l : Int), .int .i64 (o : Int)] 42 (0, 0)) by rw [hwq]; exact HG1.out.2)
  have HG1 := Lib.hid (show Gp w0 wq p (blkM m o) t h c mb by rw [hwq]; exact HG1.out.1.below (Below.refl _ w1).drew)
  have HNC := Lib.hid (show ¬ C1 p m.many wq from fun e => by
    have h0 := (HG1.out.P.pc.cell 0 (by decide)).trans (congrArg some HG1.out.P.c0)
    unfold C1 at e
    rw [h0] at e
    injection e with e
    injection e with _ e
    have e : m.many = m.many + 1 := e
    omega)
  have HS0 := Lib.hid (show S23 wq p b 3 (l : Int) (o : Int) m.many (fun x => ∃ c1, Gp w0 x p { blkM m o with many := m.many + 1 } t h c1 mb) (fun x => ∃ c2 mb2, Gp w0 x p (entM { blkM m o with many := m.many + 1 } o m.many) t h c2 mb2) (fun _ => false) w1.drew from ⟨fun _ => hwq.symm, fun _ e => (HNC.out (by rw [hwq]; exact e)).elim, fun e => by simp at e, by rw [← hwq]; exact HBQ.out⟩)
  have H30 := Lib.hid (show Calls Try.prog 30 #[.pointer (some ⟨p, 0, none⟩), .int .i64 1] wq (Pg c w0 wq p (m.many + 1) m.Rs m.Kn m.Ep m.ins t h m.init (.int .i64 m.many)) from fresh30g HG1.out.P 1 (by show 0 ≤ m.many ∧ (0 : Int) ≤ 1 ∧ m.many + 1 ≤ 1000000; have := HMM.out; omega))
  clear hwq
  refine region_monoN (S23 wq p b 3 (l : Int) (o : Int) m.many (fun x => ∃ c1, Gp w0 x p { blkM m o with many := m.many + 1 } t h c1 mb) (fun x => ∃ c2 mb2, Gp w0 x p (entM { blkM m o with many := m.many + 1 } o m.many) t h c2 mb2)) (fun (k : Nat) (w w' : World) => k ≠ 4 → C1 p m.many w → C1 p m.many w') (V23 p b (o : Int) m.many) [(0, some 25), (1, some 26), (2, some 27), (3, some 28), (4, some 29), (5, some 30)] (by kernel_rfl) (by kernel_rfl) (by kernel_rfl) (fun k1 i1 v1 w1 w2 hk1 h1 r1 => V23_keep p b (o : Int) m.many k1 i1 v1 w1 w2 hk1 h1 r1) (HS0.out) ?_ (fun vs w5 L hS hLL hV => ?_)
  · refine StepsN.cons0  (by kernel_rfl)  ?_ ?_
    · rintro L hC hL w1 hS  K hK
      (try simp only [Act.put, List.setIfInBounds_toArray, List.set_cons_zero, List.set_cons_succ])
      go_simp
      exact hK.out _ _ rfl ⟨hS.step _ (by decide) (by decide), fun _ h => h⟩
    refine StepsN.cons0  (by kernel_rfl)  ?_ ?_
    · rintro L hC hL w1 hS  K hK
      (try simp only [Act.put, List.setIfInBounds_toArray, List.set_cons_zero, List.set_cons_succ])
      go_simp
      exact hK.out _ _ rfl ⟨hS.step _ (by decide) (by decide), fun _ h => h⟩
    refine StepsN.cons1 1 (some 26) (by kernel_rfl) rfl ?_ ?_
    · rintro L hC hL w1 hS _ rfl K hK
      (try simp only [Act.put, List.setIfInBounds_toArray, List.set_cons_zero, List.set_cons_succ])
      have hbx := hS.bx
      go_simp
      exact hK.out _ _ rfl ⟨hS.step _ (by decide) (by decide), fun _ h => h⟩
    refine StepsN.cons0  (by kernel_rfl)  ?_ ?_
    · rintro L hC hL w1 hS  K hK
      (try simp only [Act.put, List.setIfInBounds_toArray, List.set_cons_zero, List.set_cons_succ])
      go_simp
      exact hK.out _ _ rfl ⟨hS.step _ (by decide) (by decide), fun _ h => h⟩
    refine StepsN.cons1 3 (some 28) (by kernel_rfl) rfl ?_ ?_
    · rintro L hC hL w1 hS _ rfl K hK
      (try simp only [Act.put, List.setIfInBounds_toArray, List.set_cons_zero, List.set_cons_succ])
      have h4 : L 4 = false := hL
      have h5 : L 5 = false := hC.no h4 (j := 5) rfl (by kernel_rfl)
      have e0 := hS.b4 h4
      subst e0
      go_simp
      go_at_call 30
      refine (H30.out).mono ?_
      rintro e w7 ⟨rfl, ⟨m7, s7⟩, c7, P7, n7⟩
      have hc7 : C1 p m.many w7 := (P7.pc.cell 0 (by decide)).trans (congrArg some P7.c0)
      exact hK.out _ _ ⟨rfl, hc7⟩ ⟨⟨fun e => by simp at e, fun _ _ => ⟨_, HG1.out.keep P7 m7 n7⟩, fun e => by simp [h5] at e, box_leaf hS.bb s7⟩, fun e _ => absurd rfl e⟩
    refine StepsN.cons3 0 (some 25) 2 (some 27) 4 (some 29) (by kernel_rfl) rfl rfl rfl ?_ ?_
    · rintro L hC hL w1 hS _ rfl _ rfl _ ⟨rfl, c4⟩ K hK
      (try simp only [Act.put, List.setIfInBounds_toArray, List.set_cons_zero, List.set_cons_succ])
      have h5 : L 5 = false := hL
      obtain ⟨c8, G8⟩ := hS.g1 h5 c4
      have hbad : L 4 = false → False := fun h4 => HNC.out (by rw [← hS.b4 h4]; exact c4)
      have H31 := enter31k G8 o HO.out m.many
      have hbb := Lib.hid hS.bb
      clear hS c4 G8
      go_simp
      go_at_call 31
      refine H31.mono ?_
      rintro e w8 ⟨rfl, ⟨c9, mb9, G9⟩, k9⟩
      have hc9 : C1 p m.many w8 := (G9.P.pc.cell 0 (by decide)).trans (congrArg some G9.P.c0)
      exact hK.out _ _ trivial ⟨⟨fun e => (hbad (by simpa using e)).elim, fun e => by simp at e, fun _ => ⟨c9, mb9, G9⟩, box_leaf hbb.out k9⟩, fun _ _ => hc9⟩
    exact StepsN.nil
  have hl5 : L 5 = true := hLL 5 (by decide)
  obtain ⟨c6, mb6, G6⟩ := hS.gf hl5
  have hb6 := (box_cells hS.bb).2.1
  have H38 := HC.out _ _ _ G6
  clear hS hLL hV hl5 G6
  simp only [putl, List.foldl_cons, List.foldl_nil, Act.put, List.setIfInBounds_toArray, List.set_cons_zero, List.set_cons_succ]
  go_wp2_with (go_at_call 38; (with_reducible refine H38.mono ?_); rintro e1 w2 ⟨rfl, c2, mb2, G2⟩)
  go_end0
  exact ⟨rfl, c2, mb2, G2⟩
theorem act23g (G : Gp w0 w p m t h c mb) (K : Ok m) {n : Nat} (L : Lm n m) (hn : n ≤ 64) (a : Ac) (hc : canM m a = true) :
    Calls Try.prog 23 #[.pointer (some ⟨p, 0, none⟩), .agg #[.int .i64 a.kind, .int .i64 a.leaf, .int .i64 a.other]] w (Eg w0 p (actM m a) t h) := by
  have q1 := L.many
  have q2 := L.rs
  have q3 := L.ep
  have q4 := L.kn
  obtain ⟨kind, leaf, other⟩ := a
  unfold canM at hc
  simp only [Bool.and_eq_true] at hc
  obtain ⟨⟨hL, hin⟩, hk⟩ := hc
  obtain ⟨l, rfl, hl⟩ := isL_yes hL
  have hin : m.ins l = true := by simpa using hin
  unfold actM
  by_cases k5 : kind = 5
  · subst k5
    rw [if_pos rfl]
    exact act5 G K (by omega) (by omega) l hl hin other
  by_cases k2 : kind = 2
  · subst k2
    rw [if_neg (by simp), if_pos rfl]
    rw [if_neg (by simp), if_neg (by simp), if_pos rfl] at hk
    simp only [Bool.and_eq_true] at hk
    obtain ⟨o, rfl, ho⟩ := isL_yes hk.1
    exact act2 G K (by omega) (by omega) (by omega) l hl hin o ho (by simpa using hk.2)
  by_cases k3 : kind = 3
  · subst k3
    rw [if_neg (by simp), if_neg (by simp), if_pos rfl]
    rw [if_neg (by simp), if_neg (by simp), if_neg (by simp), if_pos (.inl rfl)] at hk
    simp only [Bool.and_eq_true] at hk
    obtain ⟨o, rfl, ho⟩ := isL_yes hk.1.1
    exact act3 G K (by omega) (by omega) (by omega) l hl hin o ho
  by_cases k4 : kind = 4
  · subst k4
    rw [if_neg (by simp), if_neg (by simp), if_neg (by simp), if_pos rfl]
    rw [if_neg (by simp), if_neg (by simp), if_neg (by simp), if_pos (.inr rfl)] at hk
    simp only [Bool.and_eq_true, decide_eq_true_eq] at hk
    obtain ⟨o, rfl, ho⟩ := isL_yes hk.1.1
    exact act4 G K (by omega) (by omega) (by omega) l hl hin o ho (fun e => hk.2 (by rw [e]))
  by_cases k1 : kind = 1
  · subst k1
    rw [if_neg (by simp), if_neg (by simp), if_neg (by simp), if_neg (by simp)]
    exact act1 G K (by omega) (by omega) (by omega) l hl hin other
  · rw [if_neg k1, if_neg k5, if_neg k2, if_neg (by omega)] at hk
    cases hk
end
end Go.Proofs.Ytllgdlfdmmdffaa
