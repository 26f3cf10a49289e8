/- What waits, settled, as the document does. -/
import Derived.Test.YtklndocfgbbegaaQ
namespace Go.Proofs.Ytklndocfgbbegaa
open Go.ChangeShapes Go.WideShapes Go.ChangeAt Go.RowKit
set_option linter.unusedSimpArgs false
set_option linter.unusedVariables false
theorem flat2 {WL : List (Wt × Value)} : ∀ (k : Nat) (e : Wt × Value), WL[k]? = some e → (WL.flatMap wq)[k * 2]? = some (.int .i64 e.1.1) ∧ (WL.flatMap wq)[k * 2 + 1]? = some e.2 := by
  induction WL with
  | nil => intro k e h; simp at h
  | cons q WL ih =>
    intro k e h
    cases k with
    | zero => simp at h; subst h; exact ⟨rfl, rfl⟩
    | succ k =>
      have := ih k e (by simpa using h)
      rw [List.flatMap_cons, show (k + 1) * 2 = k * 2 + 2 by omega]
      exact this
/-- The document's disk, opened. -/
theorem Rf.slots {w : World} {gt n : Nat} {d : DS} (h : Rf w gt n d) : ∃ La Lc Wa Wc, w.cell? ⟨gt, 0, none⟩ = some (.slice La n Lc) ∧ w.cell? ⟨gt, 1, none⟩ = some (.slice Wa d.W.length Wc) := by
  obtain ⟨Lv, Wv, LL, WL, h1, h2, h3, h4, h5, h6⟩ := h.at_
  obtain ⟨La, Lc, rfl⟩ := row_form h2
  obtain ⟨Wa, Wc, rfl⟩ := row_form h3
  exact ⟨La, Lc, Wa, Wc, by rw [cell_of_row w gt 0 _ 51 _ h1]; rfl, by rw [cell_of_row w gt 1 _ 51 _ h1]; rfl⟩
theorem row_pos {w : World} {base e size n : Nat} {v : Value} {xs : List Value} (h : w.ownsRow base e size v n xs) (hn : 0 < n) : ∃ q c, v = .slice (some ⟨q, 0, none⟩) n c ∧ base ≤ q ∧ TP w q e ∧ (∀ (j : Nat) u, xs[j]? = some u → w.cell? ⟨q, j, none⟩ = some u) ∧ (∀ j, w.frozen? ⟨q, j, none⟩ = false) := by
  rcases h.2 with ⟨_, e0⟩ | ⟨q, cap, cur, rfl, hb, hq, hnc, hrest⟩
  · omega
  · refine ⟨q, cap, rfl, hb, ⟨_, _, hq⟩, fun j u hu => ?_, fun j => frozen_of_row w q j _ e hq⟩
    have := h.cells (g := q) rfl j u hu
    rwa [Addr.add_mid, Nat.zero_add] at this
/-- A sector of the list: its slice. -/
theorem Rf.sec {w : World} {gt n : Nat} {d : DS} (h : Rf w gt n d) (i : Nat) (hi : i < n) : ∃ lb lc kb cb, w.cell? ⟨gt, 0, none⟩ = some (.slice (some ⟨lb, 0, none⟩) n lc) ∧ w.cell? ⟨lb, i, none⟩ = some (.slice (some ⟨kb, 0, none⟩) 512 cb) ∧ Sl gt w (.slice (some ⟨kb, 0, none⟩) 512 cb) (d.S i) := by
  obtain ⟨Lv, Wv, LL, WL, h1, h2, h3, h4, h5, h6⟩ := h.at_
  obtain ⟨lb, lc, rfl, hb, ht, hc, hf⟩ := row_pos h2 (by omega)
  have hl : LL.length = n := by have := h2.1; omega
  have hLi : LL[i]? = some (LL[i]'(by omega)) := List.getElem?_eq_getElem _
  obtain ⟨kb, cb, e, hs⟩ := h5 i _ hLi
  refine ⟨lb, lc, kb, cb, by rw [cell_of_row w gt 0 _ 51 _ h1]; rfl, ?_, ⟨kb, cb, rfl, hs⟩⟩
  rw [hc i _ hLi, e]
/-- A write that waits: its cells. -/
theorem Rf.wait {w : World} {gt n : Nat} {d : DS} (h : Rf w gt n d) (k : Nat) (p : Wt) (hp : d.W[k]? = some p) : ∃ wb wc kb cb, w.cell? ⟨gt, 1, none⟩ = some (.slice (some ⟨wb, 0, none⟩) d.W.length wc) ∧ w.cell? ⟨wb, k * 2, none⟩ = some (.int .i64 p.1) ∧ w.cell? ⟨wb, k * 2 + 1, none⟩ = some (.slice (some ⟨kb, 0, none⟩) 512 cb) ∧ Sl gt w (.slice (some ⟨kb, 0, none⟩) 512 cb) p.2 := by
  obtain ⟨Lv, Wv, LL, WL, h1, h2, h3, h4, h5, h6⟩ := h.at_
  have hk : k < d.W.length := (List.getElem?_eq_some_iff.1 hp).1
  obtain ⟨wb, wc, rfl, hb, ht, hc, hf⟩ := row_pos h3 (by omega)
  have hl : WL.length = d.W.length := by rw [← h4, List.length_map]
  have hWk : WL[k]? = some (WL[k]'(by omega)) := List.getElem?_eq_getElem _
  have hfst : (WL[k]'(by omega)).1 = p := by
    have : (WL.map (·.1))[k]? = some (WL[k]'(by omega)).1 := by rw [List.getElem?_map, hWk]; rfl
    rw [h4, hp] at this
    exact (Option.some.inj this).symm
  obtain ⟨kb, cb, e, hs⟩ := h6 _ (List.getElem_mem (l := WL) (by omega : k < WL.length))
  obtain ⟨f1, f2⟩ := flat2 k _ hWk
  refine ⟨wb, wc, kb, cb, by rw [cell_of_row w gt 1 _ 51 _ h1]; rfl, ?_, ?_, ⟨kb, cb, rfl, by rw [← hfst]; exact hs⟩⟩
  · rw [hc _ _ f1, hfst]
  · rw [hc _ _ f2, e]
/-- A sector of the list, set. -/
theorem Rf.setL {w : World} {gt n : Nat} {d : DS} (h : Rf w gt n d) (i : Nat) (hi : i < n) (v : Value) (D : Sct) (hv : Sl gt w v D) (lb lc : Nat) (hc0 : w.cell? ⟨gt, 0, none⟩ = some (.slice (some ⟨lb, 0, none⟩) n lc)) :
    Rf (w.setCell ⟨lb, i, none⟩ v) gt n { d with S := updS d.S i D } ∧ XR gt w lb ∧ (w.cell? ⟨lb, i, none⟩).isSome = true ∧ w.frozen? ⟨lb, i, none⟩ = false := by
  have hlt := h.lt
  have htp := h.tp
  obtain ⟨Lv, Wv, LL, WL, h1, h2, h3, h4, h5, h6⟩ := h.at_
  have e0 : w.cell? ⟨gt, 0, none⟩ = some Lv := by rw [cell_of_row w gt 0 _ 51 _ h1]; rfl
  rw [hc0] at e0
  injection e0 with e0
  subst e0
  obtain ⟨lb', lc', e, hb, ht, hc, hf⟩ := row_pos h2 (by omega)
  injection e with e1 _ e2
  injection e1 with e1
  injection e1 with e1
  subst e1
  subst e2
  have hl : LL.length = n := by have := h2.1; omega
  have hLi : LL[i]? = some (LL[i]'(by omega)) := List.getElem?_eq_getElem _
  obtain ⟨hst, hj⟩ := h2.stored i v
  have hne : ∀ k, k ≠ lb → (w.setCell ⟨lb, i, none⟩ v).heap[k]? = w.heap[k]? := fun k hk => heap_setCell_other w _ k v hk
  have hS : ∀ {u E}, Sl gt w u E → Sl gt (w.setCell ⟨lb, i, none⟩ v) u E := fun hs => hs.keep fun k hg h5 => hne k (h5.ne ht (by decide))
  refine ⟨⟨⟨_, Wv, LL.set i v, WL, (hne gt (by omega)).trans h1, hst, rowKeep h3 fun q e => hne q ((row_tp h3 q e).ne ht (by decide)), h4, fun j u hu => ?_, fun e he => hS (h6 e he)⟩, h.wl, h.fb⟩, .inr ⟨hb, .inl ht⟩, by rw [hc i _ hLi]; rfl, hf i⟩
  show Sl gt _ u (updS d.S i D j)
  unfold updS
  by_cases e : j = i
  · subst e
    rw [if_pos rfl]
    rw [List.getElem?_set_self (by omega)] at hu
    injection hu with hu
    subst hu
    exact hS hv
  · rw [if_neg e]
    rw [List.getElem?_set_ne (fun h => e h.symm)] at hu
    exact hS (h5 j u hu)
/-- Another row of what waits. -/
theorem Rf.setW {w : World} {gt n : Nat} {d : DS} (h : Rf w gt n d) (v : Value) (WL : List (Wt × Value)) (ho : w.ownsRow (gt + 1) 66 2 v WL.length (WL.flatMap wq)) (hS : ∀ e ∈ WL, Sl gt w e.2 e.1.2) (hw : ∀ p ∈ WL.map (·.1), p.1 < n ∧ p.2.length = 512) :
    Rf (w.setCell ⟨gt, 1, none⟩ v) gt n { d with W := WL.map (·.1) } := by
  obtain ⟨Lv, Wv, LL, WL', h1, h2, h3, h4, h5, h6⟩ := h.at_
  have hne : ∀ k, gt < k → (w.setCell ⟨gt, 1, none⟩ v).heap[k]? = w.heap[k]? := fun k hk => heap_setCell_other w _ k v (fun e => by have e2 : k = gt := e; omega)
  refine ⟨⟨Lv, v, LL, WL, by rw [heap_setCell_same w gt 1 _ 51 _ h1]; rfl, rowKeep h2 fun q e => hne q (h2.lt q e).1, by rw [List.length_map]; exact rowKeep ho fun q e => hne q (ho.lt q e).1, rfl, fun i u hu => (h5 i u hu).keep fun k hg _ => hne k hg, fun e he => (hS e he).keep fun k hg _ => hne k hg⟩, hw, h.fb⟩
def V35 (gt lb n lc wb l wc' k i kb cb : Nat) : Nat → Value → World → Prop
  | 0, v, w => v = .pointer (some ⟨gt, 0, none⟩)
  | 1, v, w => v = .pointer (some ⟨gt, 0, none⟩)
  | 2, v, w => v = .pointer (some ⟨gt, 0, none⟩)
  | 3, v, w => v = .slice (some ⟨lb, 0, none⟩) n lc
  | 4, v, w => v = .pointer (some ⟨gt, 0, none⟩)
  | 5, v, w => v = .pointer (some ⟨gt, 0, none⟩)
  | 6, v, w => v = .pointer (some ⟨gt, 1, none⟩)
  | 7, v, w => v = .slice (some ⟨wb, 0, none⟩) l wc'
  | 8, v, w => v = .int .i64 (k : Nat)
  | 9, v, w => v = .pointer (some ⟨wb, k * 2, none⟩)
  | 10, v, w => v = .pointer (some ⟨wb, k * 2, none⟩)
  | 11, v, w => v = .int .i64 (i : Nat)
  | 12, v, w => v = .pointer (some ⟨gt, 0, none⟩)
  | 13, v, w => v = .pointer (some ⟨gt, 0, none⟩)
  | 14, v, w => v = .pointer (some ⟨gt, 1, none⟩)
  | 15, v, w => v = .slice (some ⟨wb, 0, none⟩) l wc'
  | 16, v, w => v = .int .i64 (k : Nat)
  | 17, v, w => v = .pointer (some ⟨wb, k * 2, none⟩)
  | 18, v, w => v = .pointer (some ⟨wb, k * 2 + 1, none⟩)
  | 19, v, w => v = .slice (some ⟨kb, 0, none⟩) 512 cb
  | _, _, _ => True
theorem V35_keep (gt lb n lc wb l wc' k i kb cb : Nat) (i1 : Nat) (v' : Value) (w w' : World) (h : V35 gt lb n lc wb l wc' k i kb cb i1 v' w) (hr9 : (fun w w' => w' = w) w w') : V35 gt lb n lc wb l wc' k i kb cb i1 v' w' := by subst hr9; exact h
set_option maxRecDepth 4000 in
set_option maxHeartbeats 4000000 in
theorem rlast35 (w : World) (gt n : Nat) (d : DS) (hD : Rf w gt n d) (z : Int) :
    Calls Try.prog 35 #[.pointer (some ⟨gt, 0, none⟩), .int .i64 z] w fun e w' => e = .returned (.tuple #[]) ∧ Rf w' gt n { d with S := fin d.S (d.W.take z.toNat), W := [] } ∧ Ft (XR gt w) w w' := by
  have hW63 : d.W.length ≤ 9223372036854775807 := by
    obtain ⟨Lv, Wv, LL, WL, h1, h2, h3, _⟩ := hD.at_
    rcases h3.2 with ⟨_, e0⟩ | ⟨q', cap, cur, e, _, _, h1, h2, _⟩
    · rw [e0]; omega
    · unfold maxLen at h2; omega
  go_enter Try.func35, Try.ntmps35
  go_wp2_with fail
  go_loopg [4] d.W.length (fun gk v wr => ∃ k : Nat, v = .int .i64 k ∧ k + gk = d.W.length ∧ k ≤ z.toNat ∧ Rf wr gt n { d with S := fin d.S (d.W.take k) } ∧ Ft (XR gt w) w wr)
  case atStart => exact ⟨0, rfl, by omega, by omega, hD, Ft.refl _ _⟩
  case round =>
    obtain ⟨k, rfl, hk, hkz, hDk, hF⟩ := hrel
    have HK := Lib.hid (And.intro hk hkz)
    by_cases hgo : k < d.W.length ∧ (k : Int) < z
    · have d1 : decide ((k : Int) < (d.W.length : Int)) = true := by simp; omega
      have d2 : decide ((k : Int) < z) = true := by simp; omega
      have q0 : (0 : Int) ≤ (k : Int) := by omega
      have q1 : (k : Int) < (d.W.length : Int) := by omega
      obtain ⟨p, hp⟩ : ∃ p, d.W[k]? = some p := ⟨d.W[k]'hgo.1, List.getElem?_eq_getElem hgo.1⟩
      obtain ⟨wb, wc', kb, cb, e1, e2, e3, hsl⟩ := hDk.wait k p hp
      have hpn := (hD.wl p (List.mem_of_getElem? hp)).1
      obtain ⟨lb, lc, _, _, e0, _, _⟩ := hDk.sec p.1 hpn
      obtain ⟨hR, hX, hc, hf⟩ := hDk.setL p.1 hpn _ p.2 hsl lb lc e0
      have HR := Lib.hid (And.intro hR hX)
      obtain ⟨u, hu⟩ := Option.isSome_iff_exists.1 hc
      have z3 : (0 : Int) ≤ (p.1 : Int) := by omega
      have z4 : (p.1 : Int) < (n : Int) := by omega
      have HP := Lib.hid hp
      have HGO := Lib.hid hgo
      clear hk hkz hgo hp hR hX hc hsl
      go_upto_region 3 with fail
      refine region_monoT 20 (fun z => z = wr.drew) (fun w w' => w' = w) (V35 gt lb n lc wb d.W.length wc' k p.1 kb cb) [(0, some 19), (1, some 20), (2, some 21), (3, some 22), (4, some 23), (5, some 24), (6, some 25), (7, some 26), (8, some 27), (9, some 28), (10, some 29), (11, some 30), (12, some 31), (13, some 32), (14, some 33), (15, some 34), (16, some 35), (17, some 36), (18, some 37), (19, some 38)] (by kernel_rfl) (by kernel_rfl) (by kernel_rfl) (by kernel_rfl) (fun _ _ h r => r.trans h) (fun i1 v1 w1 w2 _ h1 r1 => V35_keep gt lb n lc wb d.W.length wc' k p.1 kb cb i1 v1 w1 w2 h1 r1) (rfl) ?_ (fun vs w' hS hV => ?_)
      · refine StepsL.cons0  (by kernel_rfl)  ?_ ?_
        · rintro w1 hS  K hK
          subst hS
          (try simp only [Act.put, List.setIfInBounds_toArray, List.set_cons_zero, List.set_cons_succ])
          go_simp
          exact hK.out _ _ rfl (rfl)
        refine StepsL.cons1 0 (some 19) (by kernel_rfl) rfl ?_ ?_
        · rintro w1 hS _ rfl K hK
          subst hS
          (try simp only [Act.put, List.setIfInBounds_toArray, List.set_cons_zero, List.set_cons_succ])
          go_simp
          exact hK.out _ _ rfl (rfl)
        refine StepsL.cons1 1 (some 20) (by kernel_rfl) rfl ?_ ?_
        · rintro w1 hS _ rfl K hK
          subst hS
          (try simp only [Act.put, List.setIfInBounds_toArray, List.set_cons_zero, List.set_cons_succ])
          go_simp
          exact hK.out _ _ rfl (rfl)
        refine StepsL.cons1 2 (some 21) (by kernel_rfl) rfl ?_ ?_
        · rintro w1 hS _ rfl K hK
          subst hS
          (try simp only [Act.put, List.setIfInBounds_toArray, List.set_cons_zero, List.set_cons_succ])
          have hx : wr.drew.cell? ⟨gt, 0, none⟩ = _ := e0
          go_simp
          exact hK.out _ _ rfl rfl
        refine StepsL.cons0  (by kernel_rfl)  ?_ ?_
        · rintro w1 hS  K hK
          subst hS
          (try simp only [Act.put, List.setIfInBounds_toArray, List.set_cons_zero, List.set_cons_succ])
          go_simp
          exact hK.out _ _ rfl (rfl)
        refine StepsL.cons1 4 (some 23) (by kernel_rfl) rfl ?_ ?_
        · rintro w1 hS _ rfl K hK
          subst hS
          (try simp only [Act.put, List.setIfInBounds_toArray, List.set_cons_zero, List.set_cons_succ])
          go_simp
          exact hK.out _ _ rfl (rfl)
        refine StepsL.cons1 5 (some 24) (by kernel_rfl) rfl ?_ ?_
        · rintro w1 hS _ rfl K hK
          subst hS
          (try simp only [Act.put, List.setIfInBounds_toArray, List.set_cons_zero, List.set_cons_succ])
          go_simp
          exact hK.out _ _ rfl (rfl)
        refine StepsL.cons1 6 (some 25) (by kernel_rfl) rfl ?_ ?_
        · rintro w1 hS _ rfl K hK
          subst hS
          (try simp only [Act.put, List.setIfInBounds_toArray, List.set_cons_zero, List.set_cons_succ])
          have hx : wr.drew.cell? ⟨gt, 1, none⟩ = _ := e1
          go_simp
          exact hK.out _ _ rfl rfl
        refine StepsL.cons0  (by kernel_rfl)  ?_ ?_
        · rintro w1 hS  K hK
          subst hS
          (try simp only [Act.put, List.setIfInBounds_toArray, List.set_cons_zero, List.set_cons_succ])
          go_simp
          exact hK.out _ _ rfl (rfl)
        refine StepsL.cons2 7 (some 26) 8 (some 27) (by kernel_rfl) rfl rfl ?_ ?_
        · rintro w1 hS _ rfl _ rfl K hK
          subst hS
          (try simp only [Act.put, List.setIfInBounds_toArray, List.set_cons_zero, List.set_cons_succ])
          go_simp
          exact hK.out _ _ rfl (rfl)
        refine StepsL.cons1 9 (some 28) (by kernel_rfl) rfl ?_ ?_
        · rintro w1 hS _ rfl K hK
          subst hS
          (try simp only [Act.put, List.setIfInBounds_toArray, List.set_cons_zero, List.set_cons_succ])
          go_simp
          exact hK.out _ _ rfl (rfl)
        refine StepsL.cons1 10 (some 29) (by kernel_rfl) rfl ?_ ?_
        · rintro w1 hS _ rfl K hK
          subst hS
          (try simp only [Act.put, List.setIfInBounds_toArray, List.set_cons_zero, List.set_cons_succ])
          have hx : wr.drew.cell? ⟨wb, k * 2, none⟩ = _ := e2
          go_simp
          exact hK.out _ _ rfl rfl
        refine StepsL.cons0  (by kernel_rfl)  ?_ ?_
        · rintro w1 hS  K hK
          subst hS
          (try simp only [Act.put, List.setIfInBounds_toArray, List.set_cons_zero, List.set_cons_succ])
          go_simp
          exact hK.out _ _ rfl (rfl)
        refine StepsL.cons1 12 (some 31) (by kernel_rfl) rfl ?_ ?_
        · rintro w1 hS _ rfl K hK
          subst hS
          (try simp only [Act.put, List.setIfInBounds_toArray, List.set_cons_zero, List.set_cons_succ])
          go_simp
          exact hK.out _ _ rfl (rfl)
        refine StepsL.cons1 13 (some 32) (by kernel_rfl) rfl ?_ ?_
        · rintro w1 hS _ rfl K hK
          subst hS
          (try simp only [Act.put, List.setIfInBounds_toArray, List.set_cons_zero, List.set_cons_succ])
          go_simp
          exact hK.out _ _ rfl (rfl)
        refine StepsL.cons1 14 (some 33) (by kernel_rfl) rfl ?_ ?_
        · rintro w1 hS _ rfl K hK
          subst hS
          (try simp only [Act.put, List.setIfInBounds_toArray, List.set_cons_zero, List.set_cons_succ])
          have hx : wr.drew.cell? ⟨gt, 1, none⟩ = _ := e1
          go_simp
          exact hK.out _ _ rfl rfl
        refine StepsL.cons0  (by kernel_rfl)  ?_ ?_
        · rintro w1 hS  K hK
          subst hS
          (try simp only [Act.put, List.setIfInBounds_toArray, List.set_cons_zero, List.set_cons_succ])
          go_simp
          exact hK.out _ _ rfl (rfl)
        refine StepsL.cons2 15 (some 34) 16 (some 35) (by kernel_rfl) rfl rfl ?_ ?_
        · rintro w1 hS _ rfl _ rfl K hK
          subst hS
          (try simp only [Act.put, List.setIfInBounds_toArray, List.set_cons_zero, List.set_cons_succ])
          go_simp
          exact hK.out _ _ rfl (rfl)
        refine StepsL.cons1 17 (some 36) (by kernel_rfl) rfl ?_ ?_
        · rintro w1 hS _ rfl K hK
          subst hS
          (try simp only [Act.put, List.setIfInBounds_toArray, List.set_cons_zero, List.set_cons_succ])
          go_simp
          exact hK.out _ _ rfl (rfl)
        refine StepsL.cons1 18 (some 37) (by kernel_rfl) rfl ?_ ?_
        · rintro w1 hS _ rfl K hK
          subst hS
          (try simp only [Act.put, List.setIfInBounds_toArray, List.set_cons_zero, List.set_cons_succ])
          have hx : wr.drew.cell? ⟨wb, k * 2 + 1, none⟩ = _ := e3
          go_simp
          exact hK.out _ _ rfl rfl
        exact StepsL.nil
      · have v3 : vs 3 = .slice (some ⟨lb, 0, none⟩) n lc := hV 3 (by simp)
        have v11 : vs 11 = .int .i64 (p.1 : Nat) := hV 11 (by simp)
        have v19 : vs 19 = .slice (some ⟨kb, 0, none⟩) 512 cb := hV 19 (by simp)
        have hS2 : w' = wr.drew := hS
        subst hS2
        simp only [putl, List.foldl_cons, List.foldl_nil, Act.put, List.setIfInBounds_toArray, List.set_cons_zero, List.set_cons_succ, v3, v11, v19]
        simp only [List.drop_succ_cons, List.drop_zero]
        have hu2 : wr.drew.cell? ⟨lb, p.1, none⟩ = some u := hu
        have hf2 : wr.drew.frozen? ⟨lb, p.1, none⟩ = false := hf
        clear hV v3 v11 v19 hS
        go_wp2_with fail
        have e9 : fin d.S (d.W.take (k + 1)) = updS (fin d.S (d.W.take k)) p.1 p.2 := by rw [List.take_add_one, HP.out]; exact fin_snoc _ _ _
        have hRd : Rf (wr.drew.setCell ⟨lb, p.1, none⟩ (.slice (some ⟨kb, 0, none⟩) 512 cb)) gt n { d with S := fin d.S (d.W.take (k + 1)) } := by
          rw [e9]
          exact HR.out.1.drew
        have hFd : Ft (XR gt w) w (wr.drew.setCell ⟨lb, p.1, none⟩ (.slice (some ⟨kb, 0, none⟩) 512 cb)) :=
          hF.trans ((Ft.setCell (Ft.refl _ wr) ⟨lb, p.1, none⟩ _ HR.out.2).drew)
        go_roundg (gk - 1)
        case measure => have := HK.out; have := HGO.out; omega
        case rel => exact ⟨k + 1, by simp, by have := HK.out; have := HGO.out; omega, by have := HGO.out; omega, hRd, hFd⟩
    · have hcase : decide (k < d.W.length) = false ∨ (decide (k < d.W.length) = true ∧ decide ((k : Int) < z) = false) := by
        by_cases h1 : k < d.W.length
        · right; simp; omega
        · left; simp; omega
      have eT : d.W.take k = d.W.take z.toNat := by
        by_cases h1 : k < d.W.length
        · rw [show k = z.toNat by omega]
        · rw [List.take_of_length_le (by omega), List.take_of_length_le (by omega)]
      obtain ⟨La, Lc, Wa, Wc, e0, e1⟩ := hDk.slots
      have f1 := hDk.frozen 1
      have hR := hDk.setW (.slice none 0 0) [] (World.ownsRow_nil _ _ _ _) (fun e he => by cases he) (fun p hp => by cases hp)
      rw [eT] at hR
      have HR := Lib.hid hR
      clear hgo hk hkz hR eT
      rcases hcase with d1 | ⟨d1, d2⟩
      all_goals
        go_wp2_with fail
        go_end0
        exact ⟨rfl, HR.out, hF.setCell _ _ (.inl rfl)⟩
end Go.Proofs.Ytklndocfgbbegaa
