/- What waits, settled: Crash, Sync. -/
import Derived.Test.YtjabkfccfecmgaaC
import Derived.Deep.DeepCutAuto
import Derived.Outline
import Derived.BigRegion
namespace Go.Proofs.Ytjabkfccfecmgaa
open Go.ChangeShapes Go.WideShapes Go.ChangeAt Go.RowKit
set_option linter.unusedSimpArgs false
set_option linter.unusedVariables false
def fin (S : Nat → Sct) (W : List Wt) : Nat → Sct := W.foldl (fun S p => updS S p.1 p.2) S
theorem fin_snoc (S : Nat → Sct) (W : List Wt) (p : Wt) : fin S (W ++ [p]) = updS (fin S W) p.1 p.2 := by simp [fin, List.foldl_append]
theorem info58' : (Try.prog.info? 63).map (·.size) = some 512 := by kernel_rfl
theorem info60' : (Try.prog.info? 76).map (·.size) = some 513 := by kernel_rfl
theorem load60m {ops : Array Oper} {rest : List Oper} {o : Oper} {a : Act} {w : World} {Q : Exit → Act → World → Prop} (hgd : o.guard = none) (x : Operand) (ho : o.op = .load 76 x)
    (b off : Nat) (p : Wt) (hx : a.eval x = .pointer (some ⟨b, off, none⟩)) (hp : p.2.length = 512) (r : w.rangeAt b off (wc p))
    (h : wpList Try.prog ops Q rest (a.put o.dst (.agg (wc p).toArray)) w) : wpList Try.prog ops Q (o :: rest) a w :=
  wpList_load_mid hgd 76 x ho b off hx (wc p) _ r Try.underlying76 rfl (by rw [wc_len hp]; exact info60') h
theorem one_c8 (D : Sct) : (D.map c8).toArray.all (·.oneCell') = true := all_oneCell_toArray (c8_one D)
theorem one_wc (p : Wt) : (wc p).toArray.all (·.oneCell') = true := all_oneCell_toArray (fun v hv => by
  unfold wc at hv
  rcases List.mem_cons.1 hv with e | e
  · subst e; rfl
  · exact c8_one _ v e)
theorem store60m {ops : Array Oper} {rest : List Oper} {o : Oper} {a : Act} {w : World} {Q : Exit → Act → World → Prop} (hgd : o.guard = none) (x y : Operand) (ho : o.op = .store 76 x y)
    (b off : Nat) (p : Wt) (hx : a.eval x = .pointer (some ⟨b, off, none⟩)) (hy : a.eval y = .agg (wc p).toArray) (hp : p.2.length = 512) (ht : w.there b off 513)
    (h : wpList Try.prog ops Q rest (a.put o.dst undef) (w.setCells b off (wc p))) : wpList Try.prog ops Q (o :: rest) a w :=
  wpList_store_mid hgd 76 x y ho b off _ hx hy (by rw [List.size_toArray, wc_len hp]; exact ht) (by rw [List.size_toArray, wc_len hp]; exact info60') (one_wc p) (by simpa using h)
theorem load58m {ops : Array Oper} {rest : List Oper} {o : Oper} {a : Act} {w : World} {Q : Exit → Act → World → Prop} (hgd : o.guard = none) (x : Operand) (ho : o.op = .load 63 x)
    (b off : Nat) (D : Sct) (hx : a.eval x = .pointer (some ⟨b, off, none⟩)) (hp : D.length = 512) (r : w.rangeAt b off (D.map c8))
    (h : wpList Try.prog ops Q rest (a.put o.dst (.agg (D.map c8).toArray)) w) : wpList Try.prog ops Q (o :: rest) a w :=
  wpList_load_mid hgd 63 x ho b off hx (D.map c8) _ r Try.underlying63 rfl (by rw [List.length_map, hp]; exact info58') h
theorem wp_load58 {o : Oper} {a : Act} {w : World} {K : Act → World → Prop} {Q : Exit → Act → World → Prop} (x : Operand) (ho : o.op = .load 63 x)
    (b off : Nat) (D : Sct) (hx : a.eval x = .pointer (some ⟨b, off, none⟩)) (hp : D.length = 512) (r : w.rangeAt b off (D.map c8))
    (h : K (a.put o.dst (.agg (D.map c8).toArray)) w) : o.wp Try.prog a w K Q :=
  wp_load_mid 63 x ho b off hx (D.map c8) _ r Try.underlying63 rfl (by rw [List.length_map, hp]; exact info58') h
theorem store58m {ops : Array Oper} {rest : List Oper} {o : Oper} {a : Act} {w : World} {Q : Exit → Act → World → Prop} (hgd : o.guard = none) (x y : Operand) (ho : o.op = .store 63 x y)
    (b off : Nat) (D : Sct) (hx : a.eval x = .pointer (some ⟨b, off, none⟩)) (hy : a.eval y = .agg (D.map c8).toArray) (hp : D.length = 512) (ht : w.there b off 512)
    (h : wpList Try.prog ops Q rest (a.put o.dst undef) (w.setCells b off (D.map c8))) : wpList Try.prog ops Q (o :: rest) a w :=
  wpList_store_mid hgd 63 x y ho b off _ hx hy (by rw [List.size_toArray, List.length_map, hp]; exact ht) (by rw [List.size_toArray, List.length_map, hp]; exact info58') (one_c8 D) (by simpa using h)
/-- A new block, filled. -/
theorem below_fill (w : World) (cs : Array Value) (t : TypeId) (off : Nat) (vs : List Value) : Below w.heap.size w ((w.alloc (.cells cs t)).setCells w.heap.size off vs) :=
  ⟨World.os_setCells _ _ _ _, tape_setCells _ _ _ _, World.output_setCells _ _ _ _, by rw [sz_setCells]; simp, fun k hk => (World.heap_setCells_other _ _ _ _ (by simp; omega) (by omega)).trans (Below.heap_alloc w _ k hk)⟩
theorem there_new (w : World) (cs : Array Value) (t : TypeId) (n : Nat) (hn : n ≤ cs.size) : (w.alloc (.cells cs t)).there w.heap.size 0 n := fun j hj => by
  have hb : (w.alloc (.cells cs t)).heap[w.heap.size]? = some (.cells cs t (0, 0)) := heap_alloc_new w _
  rw [Nat.zero_add]
  refine ⟨?_, frozen_of_row _ _ j _ t hb⟩
  rw [cell_of_row _ _ j _ t _ hb, Array.getElem?_eq_getElem (by omega)]
  rfl
theorem zero60w (w : World) : (zeroValue 76).run Try.prog w = .ok (.agg (.int .i64 0 :: List.replicate 512 (.int .u8 0)).toArray) w := by kernel_rfl
theorem zero60 : ∃ Z : Array Value, Z.size = 513 ∧ ∀ w : World, (zeroValue 76).run Try.prog w = .ok (.agg Z) w := ⟨_, by rw [List.size_toArray, List.length_cons, List.length_replicate], zero60w⟩
theorem wc_parts {w : World} {x : Nat} {p : Wt} (h : w.rangeAt x 0 (wc p)) : w.cell? ⟨x, 0, none⟩ = some (.int .i64 p.1) ∧ w.rangeAt x 1 (p.2.map c8) :=
  ⟨h 0 _ rfl, fun j v hv => by
    have := h (j + 1) v (by unfold wc; simpa using hv)
    rwa [show 0 + (j + 1) = 1 + j by omega] at this⟩
def V26a (g l c k : Nat) (ao : Option Addr) (z m : Int) : Nat → Value → World → Prop
  | 0, v, w => v = .pointer (some ⟨g, 0, none⟩)
  | 1, v, w => v = .pointer (some ⟨g, 0, none⟩)
  | 2, v, w => v = .pointer (some ⟨g, 1, none⟩)
  | 3, v, w => v = .slice ao l c
  | 4, v, w => v = .int .i64 z
  | 5, v, w => v = .int .i64 m
  | 6, v, w => v = .pointer (some ⟨g, 0, none⟩)
  | 7, v, w => v = .pointer (some ⟨g, 0, none⟩)
  | 8, v, w => v = .pointer (some ⟨g, 1, none⟩)
  | 9, v, w => v = .slice ao l c
  | 10, v, w => v = .int .i64 (l : Nat)
  | 11, v, w => v = .int .i64 (k : Nat)
  | 12, v, w => v = .slice ao k c
  | 13, v, w => v = .int .i64 (k : Nat)
  | 14, v, w => v = .int .i64 0
  | _, _, _ => True
theorem V26a_keep (g l c k : Nat) (ao : Option Addr) (z m : Int) (i1 : Nat) (v : Value) (w w' : World) (h : V26a g l c k ao z m i1 v w) (r : (fun w w' => w' = w) w w') : V26a g l c k ao z m i1 v w' := by
  rcases i1 with _ | _ | _ | _ | _ | _ | _ | _ | _ | _ | _ | _ | _ | _ | _ | _
  · exact h
  · exact h
  · exact h
  · exact h
  · exact h
  · exact h
  · exact h
  · exact h
  · exact h
  · exact h
  · exact h
  · exact h
  · exact h
  · exact h
  · exact h
  · trivial
def V26b (g b n x i : Nat) (D : Sct) : Nat → Value → World → Prop
  | 0, v, w => v = .pointer (some ⟨g, 0, none⟩)
  | 1, v, w => v = .pointer (some ⟨g, 0, none⟩)
  | 2, v, w => v = .pointer (some ⟨g, 0, none⟩)
  | 3, v, w => v = .slice (some ⟨b, 0, none⟩) n n
  | 4, v, w => v = .pointer (some ⟨x, 0, none⟩)
  | 5, v, w => v = .int .i64 (i : Nat)
  | 6, v, w => v = .pointer (some ⟨x, 1, none⟩)
  | 7, v, w => v = .agg (D.map c8).toArray
  | _, _, _ => True
theorem V26b_keep (g b n x i : Nat) (D : Sct) (i1 : Nat) (v : Value) (w w' : World) (h : V26b g b n x i D i1 v w) (r : (fun w w' => w' = w) w w') : V26b g b n x i D i1 v w' := by
  rcases i1 with _ | _ | _ | _ | _ | _ | _ | _ | _
  · exact h
  · exact h
  · exact h
  · exact h
  · exact h
  · exact h
  · exact h
  · exact h
  · trivial
set_option maxRecDepth 4000 in
set_option maxHeartbeats 4000000 in
theorem settle26 (A : Nat → Prop) (w : World) (g b n : Nat) (d : DS) (hD : Dk A w g b n d) (hA : ∀ k, w.heap.size ≤ k → A k) (z : Int) (k : Nat) (hk : k = min z.toNat d.W.length) :
    Calls Try.prog 30 #[.pointer (some ⟨g, 0, none⟩), .int .i64 z] w fun e w' => e = .returned (.tuple #[]) ∧ Dk A w' g b n { d with S := fin d.S (d.W.take k), W := [] } ∧ Frm A g b w w' := by
  obtain ⟨ao, c, c1, own, hoA, hlc⟩ := hD.c1
  have hkl : k ≤ d.W.length := by omega
  have hW63 : d.W.length ≤ maxLen := by
    rcases own.2 with ⟨_, e0⟩ | ⟨q', cap, cur, e, _, _, h1, h2, _⟩
    · rw [e0]; exact Nat.zero_le _
    · exact Nat.le_trans h1 h2
  have hW63 : d.W.length ≤ 9223372036854775807 := by unfold maxLen at hW63; omega
  obtain ⟨m, hm1⟩ : ∃ m : Int, m = if z < 0 then 0 else z := ⟨_, rfl⟩
  have hk1 : (k : Int) = if (d.W.length : Int) < m then (d.W.length : Int) else m := by
    rw [hm1]; split <;> split <;> omega
  have HM := Lib.hid hm1
  have HK := Lib.hid hk1
  have hkc : k ≤ c := by omega
  clear hm1 hk1 hk
  go_enter Try.func30, Try.ntmps30
  go_upto_region 15 with fail
  refine region_monoL (fun x => x = w.drew) (fun w w' => w' = w) (V26a g d.W.length c k ao z m) [(0, some 6), (1, some 7), (2, some 8), (3, some 9), (4, some 10), (5, some 11), (6, some 12), (7, some 13), (8, some 14), (9, some 15), (10, some 16), (11, some 17), (12, some 18), (13, some 19), (14, some 20)] (by kernel_rfl) (by kernel_rfl) (by kernel_rfl) (fun _ _ h r => r.trans h) (fun i1 v1 w1 w2 _ h1 r1 => V26a_keep g d.W.length c k ao z m i1 v1 w1 w2 h1 r1) (rfl) ?_ (fun vs w' hS hV => ?_)
  · refine StepsL.cons0  (by kernel_rfl)  ?_ ?_
    · rintro w1 hS  K hK
      subst hS
      (try simp only [Act.put, List.setIfInBounds_toArray, List.set_cons_zero, List.set_cons_succ])
      go_simp
      exact hK.out _ _ rfl (rfl)
    refine StepsL.cons1 0 (some 6) (by kernel_rfl) rfl ?_ ?_
    · rintro w1 hS _ rfl K hK
      subst hS
      (try simp only [Act.put, List.setIfInBounds_toArray, List.set_cons_zero, List.set_cons_succ])
      go_simp
      exact hK.out _ _ rfl (rfl)
    refine StepsL.cons1 1 (some 7) (by kernel_rfl) rfl ?_ ?_
    · rintro w1 hS _ rfl K hK
      subst hS
      (try simp only [Act.put, List.setIfInBounds_toArray, List.set_cons_zero, List.set_cons_succ])
      go_simp
      exact hK.out _ _ rfl (rfl)
    refine StepsL.cons1 2 (some 8) (by kernel_rfl) rfl ?_ ?_
    · rintro w1 hS _ rfl K hK
      subst hS
      (try simp only [Act.put, List.setIfInBounds_toArray, List.set_cons_zero, List.set_cons_succ])
      go_simp
      exact hK.out _ _ rfl (rfl)
    refine StepsL.cons0  (by kernel_rfl)  ?_ ?_
    · rintro w1 hS  K hK
      subst hS
      (try simp only [Act.put, List.setIfInBounds_toArray, List.set_cons_zero, List.set_cons_succ])
      go_simp
      exact hK.out _ _ rfl (rfl)
    refine StepsL.cons1 4 (some 10) (by kernel_rfl) rfl ?_ ?_
    · rintro w1 hS _ rfl K hK
      subst hS
      (try simp only [Act.put, List.setIfInBounds_toArray, List.set_cons_zero, List.set_cons_succ])
      go_simp
      rw [← HM.out]
      exact hK.out _ _ rfl rfl
    refine StepsL.cons0  (by kernel_rfl)  ?_ ?_
    · rintro w1 hS  K hK
      subst hS
      (try simp only [Act.put, List.setIfInBounds_toArray, List.set_cons_zero, List.set_cons_succ])
      go_simp
      exact hK.out _ _ rfl (rfl)
    refine StepsL.cons1 6 (some 12) (by kernel_rfl) rfl ?_ ?_
    · rintro w1 hS _ rfl K hK
      subst hS
      (try simp only [Act.put, List.setIfInBounds_toArray, List.set_cons_zero, List.set_cons_succ])
      go_simp
      exact hK.out _ _ rfl (rfl)
    refine StepsL.cons1 7 (some 13) (by kernel_rfl) rfl ?_ ?_
    · rintro w1 hS _ rfl K hK
      subst hS
      (try simp only [Act.put, List.setIfInBounds_toArray, List.set_cons_zero, List.set_cons_succ])
      go_simp
      exact hK.out _ _ rfl (rfl)
    refine StepsL.cons1 8 (some 14) (by kernel_rfl) rfl ?_ ?_
    · rintro w1 hS _ rfl K hK
      subst hS
      (try simp only [Act.put, List.setIfInBounds_toArray, List.set_cons_zero, List.set_cons_succ])
      go_simp
      exact hK.out _ _ rfl (rfl)
    refine StepsL.cons1 9 (some 15) (by kernel_rfl) rfl ?_ ?_
    · rintro w1 hS _ rfl K hK
      subst hS
      (try simp only [Act.put, List.setIfInBounds_toArray, List.set_cons_zero, List.set_cons_succ])
      go_simp
      exact hK.out _ _ rfl (rfl)
    refine StepsL.cons2 5 (some 11) 10 (some 16) (by kernel_rfl) rfl rfl ?_ ?_
    · rintro w1 hS _ rfl _ rfl K hK
      subst hS
      (try simp only [Act.put, List.setIfInBounds_toArray, List.set_cons_zero, List.set_cons_succ])
      go_simp
      rw [← HK.out]
      exact hK.out _ _ rfl rfl
    refine StepsL.cons2 3 (some 9) 11 (some 17) (by kernel_rfl) rfl rfl ?_ ?_
    · rintro w1 hS _ rfl _ rfl K hK
      subst hS
      (try simp only [Act.put, List.setIfInBounds_toArray, List.set_cons_zero, List.set_cons_succ])
      go_simp
      exact hK.out _ _ rfl (rfl)
    refine StepsL.cons1 12 (some 18) (by kernel_rfl) rfl ?_ ?_
    · rintro w1 hS _ rfl K hK
      subst hS
      (try simp only [Act.put, List.setIfInBounds_toArray, List.set_cons_zero, List.set_cons_succ])
      go_simp
      exact hK.out _ _ rfl (rfl)
    refine StepsL.cons0  (by kernel_rfl)  ?_ ?_
    · rintro w1 hS  K hK
      subst hS
      (try simp only [Act.put, List.setIfInBounds_toArray, List.set_cons_zero, List.set_cons_succ])
      go_simp
      exact hK.out _ _ rfl (rfl)
    exact StepsL.nil
  · have e18 : vs 12 = .slice ao k c := hV 12 (by simp)
    have e19 : vs 13 = .int .i64 (k : Nat) := hV 13 (by simp)
    have e20 : vs 14 = .int .i64 0 := hV 14 (by simp)
    have hS2 : w' = w.drew := hS
    subst hS2
    simp only [putl, List.foldl_cons, List.foldl_nil, Act.put, List.setIfInBounds_toArray, List.set_cons_zero, List.set_cons_succ, e18, e19, e20]
    have hDd := hD.drew
    have hrow : (ao = none ∧ d.W.length = 0) ∨ ∃ qb, ao = some ⟨qb, 0, none⟩ ∧ g < qb ∧ qb < w.heap.size ∧ ∀ j p, d.W[j]? = some p → w.rangeAt qb (j * 513) (wc p) := by
      rcases own.2 with ⟨e, e0⟩ | ⟨q', cap, cur, e, _⟩
      · injection e with e1; exact .inl ⟨e1, e0⟩
      · injection e with e1
        subst e1
        have hlt := own.lt q' rfl
        refine .inr ⟨q', rfl, by omega, hlt.2, fun j p hp i v hv => ?_⟩
        have := own.cells (g := q') rfl (j * 513 + i) v (flat_at (fun p hp => (hD.wl p hp).2) j p hp i v hv)
        rwa [Addr.add_mid, Nat.zero_add] at this
    have HROW := Lib.hid hrow
    clear hV e18 e19 e20 hrow own c1
    go_wp2_with fail
    go_loopg [20] k (fun gk v wr => ∃ (j : Nat), v = .int .i64 j ∧ j + gk = k ∧ Dk A wr g b n { d with S := fin d.S (d.W.take j) } ∧ Frm A g b w wr ∧ (∀ q, ao = some q → wr.heap[q.block]? = w.heap[q.block]?))
    case atStart => exact ⟨0, rfl, by omega, hDd, ⟨rfl, rfl, rfl, Nat.le_refl _, fun _ _ _ _ _ => rfl⟩, fun _ _ => rfl⟩
    case round =>
      clear hDd
      obtain ⟨j, rfl, hj, hDj, hF, hq⟩ := hrel
      have HJ := Lib.hid hj
      obtain ⟨Z, hZl, hz60⟩ := zero60
      by_cases hjk : j < k
      · have hjl : j < d.W.length := by omega
        obtain ⟨p, hp⟩ : ∃ p, d.W[j]? = some p := ⟨d.W[j], List.getElem?_eq_getElem hjl⟩
        obtain ⟨-, h0⟩ | ⟨qb, rfl, hqg, hqs, hqr⟩ := HROW.out
        · omega
        obtain ⟨hpn, hpl⟩ := hD.wl p (List.mem_of_getElem? hp)
        have hqb : wr.heap[qb]? = w.heap[qb]? := hq ⟨qb, 0, none⟩ rfl
        have hr2 : wr.rangeAt qb (j * 513) (wc p) := fun i v hv => (World.cell?_of_block (a := ⟨qb, _, none⟩) hqb).trans (hqr j p hp i v hv)
        have HQ := Lib.hid hqb
        clear hqb
        have z1 : (0 : Int) ≤ (j : Int) := by omega
        have z2 : (j : Int) < (k : Int) := by omega
        have ht := there_new wr Z 76 513 (by omega)
        clear hqr hj
        go_upto_region 10 with (first
          | (with_reducible refine load60m rfl (.tmp 22) rfl qb (j * 513) p rfl hpl hr2 ?_)
          | (with_reducible refine store60m rfl (.tmp 5) (.tmp 23) rfl wr.heap.size 0 p rfl rfl hpl ht ?_))
        simp only [Act.put]
        have hbf := below_fill wr Z 76 0 (wc p)
        obtain ⟨hx0, hx1⟩ := wc_parts (World.rangeAt_setCells_same _ _ _ (wc p) (by rw [wc_len hpl]; exact ht))
        have hDx := hDj.below hbf
        have hFx := hF.trans (Frm.of_below hbf)
        have hqx := (hbf.block qb (by have := hF.size; omega)).trans HQ.out
        obtain ⟨x2, hx2⟩ : ∃ x2, (wr.alloc (.cells Z 76)).setCells wr.heap.size 0 (wc p) = x2 := ⟨_, rfl⟩
        rw [hx2] at hx0 hx1 hDx hFx hqx ⊢
        clear hx2 hbf ht hr2 hF hDj hq
        have hth := hDx.drew.sec.thereAt p.1 hpn
        have z3 : (0 : Int) ≤ (p.1 : Int) := by omega
        have z4 : (p.1 : Int) < (n : Int) := by omega
        refine region_monoT 8 (fun x => x = x2.drew) (fun w w' => w' = w) (V26b g b n wr.heap.size p.1 p.2) [(0, some 24), (1, some 25), (2, some 26), (3, some 27), (4, some 28), (5, some 29), (6, some 30), (7, some 31)] (by kernel_rfl) (by kernel_rfl) (by kernel_rfl) (by kernel_rfl) (fun _ _ h r => r.trans h) (fun i1 v1 w1 w2 _ h1 r1 => V26b_keep g b n wr.heap.size p.1 p.2 i1 v1 w1 w2 h1 r1) (rfl) ?_ (fun vs3 w3 hS3 hV3 => ?_)
        · refine StepsL.cons0  (by kernel_rfl)  ?_ ?_
          · rintro w1 hS  K hK
            subst hS
            (try simp only [Act.put, List.setIfInBounds_toArray, List.set_cons_zero, List.set_cons_succ])
            go_simp
            exact hK.out _ _ rfl (rfl)
          refine StepsL.cons1 0 (some 24) (by kernel_rfl) rfl ?_ ?_
          · rintro w1 hS _ rfl K hK
            subst hS
            (try simp only [Act.put, List.setIfInBounds_toArray, List.set_cons_zero, List.set_cons_succ])
            go_simp
            exact hK.out _ _ rfl (rfl)
          refine StepsL.cons1 1 (some 25) (by kernel_rfl) rfl ?_ ?_
          · rintro w1 hS _ rfl K hK
            subst hS
            (try simp only [Act.put, List.setIfInBounds_toArray, List.set_cons_zero, List.set_cons_succ])
            go_simp
            exact hK.out _ _ rfl (rfl)
          refine StepsL.cons1 2 (some 26) (by kernel_rfl) rfl ?_ ?_
          · rintro w1 hS _ rfl K hK
            subst hS
            (try simp only [Act.put, List.setIfInBounds_toArray, List.set_cons_zero, List.set_cons_succ])
            have hc0 := hDx.drew.c0
            go_simp
            exact hK.out _ _ rfl rfl
          refine StepsL.cons0  (by kernel_rfl)  ?_ ?_
          · rintro w1 hS  K hK
            subst hS
            (try simp only [Act.put, List.setIfInBounds_toArray, List.set_cons_zero, List.set_cons_succ])
            go_simp
            exact hK.out _ _ rfl (rfl)
          refine StepsL.cons1 4 (some 28) (by kernel_rfl) rfl ?_ ?_
          · rintro w1 hS _ rfl K hK
            subst hS
            (try simp only [Act.put, List.setIfInBounds_toArray, List.set_cons_zero, List.set_cons_succ])
            have hc5 : x2.drew.cell? ⟨wr.heap.size, 0, none⟩ = some (.int .i64 p.1) := hx0
            go_simp
            exact hK.out _ _ rfl rfl
          refine StepsL.cons0  (by kernel_rfl)  ?_ ?_
          · rintro w1 hS  K hK
            subst hS
            (try simp only [Act.put, List.setIfInBounds_toArray, List.set_cons_zero, List.set_cons_succ])
            go_simp
            exact hK.out _ _ rfl (rfl)
          refine StepsL.cons1 6 (some 30) (by kernel_rfl) rfl ?_ ?_
          · rintro w1 hS _ rfl K hK
            subst hS
            (try simp only [Act.put, List.setIfInBounds_toArray, List.set_cons_zero, List.set_cons_succ])
            rw [if_pos (by rfl)]
            refine wp_load58 (.tmp 30) rfl wr.heap.size 1 p.2 rfl hpl hx1 ?_
            exact hK.out _ _ rfl rfl
          exact StepsL.nil
        · have e32 : vs3 3 = .slice (some ⟨b, 0, none⟩) n n := hV3 3 (by simp)
          have e33 : vs3 5 = .int .i64 (p.1 : Nat) := hV3 5 (by simp)
          have e34 : vs3 7 = .agg (p.2.map c8).toArray := hV3 7 (by simp)
          have hS2 : w3 = x2.drew := hS3
          subst hS2
          simp only [putl, List.foldl_cons, List.foldl_nil, Act.put, List.setIfInBounds_toArray, List.set_cons_zero, List.set_cons_succ, e32, e33, e34]
          clear hV3 e32 e33 e34
          go_wp2_with (first
            | (with_reducible refine store58m rfl (.tmp 32) (.tmp 31) rfl b (p.1 * 512) p.2 rfl rfl hpl hth ?_))
          have hD9 := hDx.drew.setSec p.1 hpn p.2 hpl
          have hF9 := Frm.setCells hFx b (.inr (.inl rfl)) (p.2.map c8) (p.1 * 512) x2.drew ⟨hFx.os, hFx.tape, hFx.output, hFx.size, hFx.block⟩
          have hq9 : (x2.drew.setCells b (p.1 * 512) (p.2.map c8)).heap[qb]? = w.heap[qb]? := (World.heap_setCells_other x2.drew b _ _ (by have : w.heap.size ≤ x2.drew.heap.size := hFx.size; omega) (by have := hD.bg; omega)).trans hqx
          go_roundg (gk - 1)
          case measure => have := HJ.out; omega
          case rel =>
            have hj63 : (j : Int) + 1 < 9223372036854775808 := by omega
            have ew : IntKind.i64.wrap ((j : Int) + 1) = (j : Int) + 1 := IntWalk.i64_in _ (by omega)
            refine ⟨j + 1, by first | (simp; done) | (simp; omega) | (rw [← ew]; simp), by have := HJ.out; omega, ?_, hF9, fun q e => ?_⟩
            · have e : fin d.S (d.W.take (j + 1)) = updS (fin d.S (d.W.take j)) p.1 p.2 := by rw [List.take_add_one, hp]; exact fin_snoc _ _ _
              rw [e]
              exact hD9
            · injection e with e; subst e; exact hq9
      · have hd3 : decide (j < k) = false := by simp; omega
        obtain ⟨ao2, c2, hc1, -⟩ := hDj.c1
        have hf1 := hDj.frozen 1
        obtain rfl : j = k := by omega
        have hD9 := hDj.setWait (.slice none 0 0) [] (World.ownsRow_nil _ _ _ _) (fun k hk => by cases hk) (fun p hp => by cases hp)
        have hF9 := hF.setCell ⟨g, 1, none⟩ (.slice none 0 0) (.inl rfl)
        clear hDj hF hz60
        go_wp2_with fail
        go_end0
        exact ⟨rfl, hD9, hF9⟩
def crashed (d : DS) (z : Int) : DS := if d.down then d else { S := fin d.S (d.W.take z.toNat), W := [], fuse := -1, down := true }
theorem take_min (W : List Wt) (m : Nat) : W.take (min m W.length) = W.take m := by
  rcases Nat.le_total m W.length with h | h
  · rw [Nat.min_eq_left h]
  · rw [Nat.min_eq_right h, List.take_of_length_le (Nat.le_refl _), List.take_of_length_le h]
theorem settleN (A : Nat → Prop) (w : World) (g b n : Nat) (d : DS) (hD : Dk A w g b n d) (hA : ∀ k, w.heap.size ≤ k → A k) (z : Int) :
    Calls Try.prog 30 #[.pointer (some ⟨g, 0, none⟩), .int .i64 z] w fun e w' => e = .returned (.tuple #[]) ∧ Dk A w' g b n { d with S := fin d.S (d.W.take z.toNat), W := [] } ∧ Frm A g b w w' := by
  have := settle26 A w g b n d hD hA z _ rfl
  rwa [take_min] at this
theorem crash16 (A : Nat → Prop) (w : World) (g b n : Nat) (d : DS) (hD : Dk A w g b n d) (hA : ∀ k, w.heap.size ≤ k → A k) (z : Int) :
    Calls Try.prog 13 #[.pointer (some ⟨g, 0, none⟩), .int .i64 z] w fun e w' => e = .returned (.tuple #[]) ∧ Dk A w' g b n (crashed d z) ∧ Frm A g b w w' := by
  have c3 := hD.c3
  have HS := Lib.hid (settleN A w g b n d hD hA z)
  unfold crashed
  cases hd : d.down with
  | true =>
    rw [hd] at c3
    go_enter Try.func13, Try.ntmps13
    go_wp2_with fail
    go_end0
    exact ⟨rfl, hD, Frm.refl _ _ _ _⟩
  | false =>
    rw [hd] at c3
    go_enter Try.func13, Try.ntmps13
    go_wp2_with (first | (go_at_call 30; (with_reducible refine HS.out.mono ?_); rintro e w2 ⟨rfl, hD2, hF2⟩; have c2 := hD2.c2; have c3' := hD2.c3; have f2 := hD2.frozen 2; have f3 := hD2.frozen 3))
    go_end0
    have hD3 := (hD2.setFuse (-1) (by omega)).setDown true
    exact ⟨rfl, by simpa using hD3, (hF2.setCell _ _ (.inl rfl)).setCell _ _ (.inl rfl)⟩
theorem sync14 (A : Nat → Prop) (w : World) (g b n : Nat) (d : DS) (hD : Dk A w g b n d) (hA : ∀ k, w.heap.size ≤ k → A k) (hd : d.down = false) :
    Calls Try.prog 25 #[.pointer (some ⟨g, 0, none⟩)] w fun e w' => e = .returned (.int .i64 0) ∧ Dk A w' g b n { d with S := fin d.S d.W, W := [] } ∧ Frm A g b w w' := by
  have c3 := hD.c3
  obtain ⟨ao, c, c1, -⟩ := hD.c1
  rw [hd] at c3
  have HS := Lib.hid (settleN A w g b n d hD hA d.W.length)
  go_enter Try.func25, Try.ntmps25
  go_wp2_with (first | (go_at_call 30; (with_reducible refine HS.out.mono ?_); rintro e w2 ⟨rfl, hD2, hF2⟩))
  go_ret
  rw [Int.toNat_natCast, List.take_of_length_le (Nat.le_refl _)] at hD2
  exact ⟨rfl, hD2, hF2⟩
theorem sync14n (A : Nat → Prop) (w : World) (g b n : Nat) (d : DS) (hD : Dk A w g b n d) (hd : d.down = true) :
    Calls Try.prog 25 #[.pointer (some ⟨g, 0, none⟩)] w fun e w' => e = .returned (.int .i64 201) ∧ w' = w := by
  have c3 := hD.c3
  rw [hd] at c3
  go_enter Try.func25, Try.ntmps25
  go_wp2_with fail
  go_ret
  exact ⟨rfl, rfl⟩
end Go.Proofs.Ytjabkfccfecmgaa
