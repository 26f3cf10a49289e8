/- slices.Sorted over slices.Values: own walks. -/
import Derived.Test.YtllgdlfdmmdffaaG7
import Derived.RangeFuncNested
import Derived.RangeFuncBound
import Derived.RangeFuncCalls
import Derived.RangeFuncLeaves
import Derived.RangeFuncBox
import Derived.Shelf.Abstract
import Derived.Shelf.RegionOpen
import Derived.OwnWalkIn
import Derived.TacticsInMore
import Derived.LoopNIn
import Derived.LoopIn
namespace Go.Proofs.Ytllgdlfdmmdffaa
open Go.ChangeShapes Go.WideShapes Go.ChangeAt Go.RowKit Go.Shelf
set_option linter.unusedSimpArgs false
set_option linter.unusedVariables false
attribute [local go_sem] Oper.semAt_some
def encI (x : Int) : Array Value := #[.int .i64 x]
set_option maxRecDepth 100000 in
set_option maxHeartbeats 4000000 in
theorem vals1 (n : Nat) (hn : 1 ≤ n) (l Bs n₀ g cap m : Nat) (L : List Int) (hm : m = L.length) (hb : g < n₀) (hml : m ≤ 100000) (J Jx : List Int → World → Prop)
    (hY : ∀ pre x X, J pre X → pre.length < m → YieldAt Fence.wide (n - 1) Try.prog l (encI x) X fun e X' =>
      (e = .returned (.bool true) ∧ J (pre ++ [x]) X' ∧ Below n₀ X X') ∨ (e = .returned (.bool false) ∧ Jx (pre ++ [x]) X'))
    (X : World) (hBs : X.cell? ⟨Bs, 0, none⟩ = some (.slice (some ⟨g, 0, none⟩) m cap)) (hc : ∀ (j : Nat) (y : Int), L[j]? = some y → X.cell? ⟨g, j, none⟩ = some (.int .i64 y)) (h0 : J [] X) :
    CallsIn Fence.wide n Try.prog 60 #[.func (.yield l) #[] #[], .pointer (some ⟨Bs, 0, none⟩)] X fun e X' => (∃ v, e = .returned v) ∧
      ((∃ ys, ys = L ∧ J ys X') ∨ (∃ pre, (∃ k, k ≤ m ∧ pre = L.take k) ∧ Jx pre X')) := by
  refine callsIn_of_wp Try.func60 rfl trivial ?_ rfl
  simp only [Try.ntmps60, List.size_toArray, List.length_cons, List.length_nil, Nat.reduceAdd, Nat.reduceSub, Array.replicate_succ, Array.replicate_zero, List.push_toArray, List.append_toArray, List.nil_append, List.cons_append]
  have HM := Lib.hid hm
  clear hm
  gi_wp2
  gi_loopw [7] (fun i wr => ∃ k : Nat, k ≤ m ∧ i = .int .i64 (k : Int) ∧ J (L.take k) wr ∧ Below n₀ X wr)
    (fun i _ => m - (intOf i).toNat)
  case atStart => exact ⟨0, Nat.zero_le _, rfl, by simpa using h0, Below.refl _ _⟩
  case round =>
    obtain ⟨k, hk, rfl, hJs, hnx⟩ := hrel
    by_cases hlt : k < m
    · obtain ⟨y, hy⟩ : ∃ y, L[k]? = some y := ⟨_, List.getElem?_eq_getElem (by rw [← HM.out]; exact hlt)⟩
      have hcx : wr.cell? ⟨g, k, none⟩ = some (.int .i64 y) := (hnx.cell (p := ⟨g, k, none⟩) hb).trans (hc k y hy)
      obtain ⟨fn, tmps, assign, body, hyy, hR⟩ := hY _ y wr hJs (by rw [List.length_take]; omega)
      have htk : L.take (k + 1) = L.take k ++ [y] := by rw [List.take_add_one, hy]; rfl
      have HT := Lib.hid htk
      dsimp only [encI] at hyy
      have q0 : (0 : Int) ≤ (k : Int) := by omega
      have q1 : (k : Int) < (m : Int) := by omega
      clear htk hy
      gi_wp2
      refine hR.mono ?_
      rintro e X3 (⟨rfl, hJ3, hk3⟩ | ⟨rfl, hJx3⟩)
      · gi_wp2
        go_roundw
        case rel => exact ⟨k + 1, by omega, by push_cast; rfl, by rw [HT.out]; exact hJ3, hnx.trans hk3⟩
        case measure => simp [intOf]; omega
      · gi_wp2
        refine bodyPost_ret (results_none rfl _ _ _) rfl ?_
        exact ⟨⟨_, rfl⟩, .inr ⟨_, ⟨k + 1, by omega, HT.out.symm⟩, hJx3⟩⟩
    · obtain rfl : k = m := by omega
      gi_wp2
      go_end0
      exact ⟨⟨_, rfl⟩, .inl ⟨_, rfl, by have := HM.out; rw [this, List.take_length] at hJs; exact hJs⟩⟩
theorem vals_stops (n : Nat) (hn : 1 ≤ n) (Bs n₀ g cap m : Nat) (L : List Int) (hm : m = L.length) (hb : g < n₀) (hml : m ≤ 100000) (w : World) (hBs : Bs < w.heap.size) (hn₀ : n₀ ≤ w.heap.size)
    (hs : w.cell? ⟨Bs, 0, none⟩ = some (.slice (some ⟨g, 0, none⟩) m cap)) (hc : ∀ (j : Nat) (y : Int), L[j]? = some y → w.cell? ⟨g, j, none⟩ = some (.int .i64 y)) :
    SeqStopsK Fence.wide n Try.prog 60 #[.pointer (some ⟨Bs, 0, none⟩)] encI (Below n₀) (fun ys => ys = L) (fun pre => ∃ k, k ≤ m ∧ pre = L.take k) m w := fun l J Jx X hX hJ _ hY h0 =>
  vals1 n hn l Bs n₀ g cap m L hm hb hml J Jx hY X ((hX.cell (p := ⟨Bs, 0, none⟩) hBs).trans hs) (fun j y h => (hX.cell (p := ⟨g, j, none⟩) (show g < w.heap.size by omega)).trans (hc j y h)) h0
theorem values47 (ao : Option Addr) (m c : Nat) (w : World) :
    Calls Try.prog 47 #[.slice ao m c] w fun e w' => e = .returned (.func (.func 60) #[] #[.pointer (some ⟨w.heap.size, 0, none⟩)]) ∧ w' = w.alloc (.cells #[.slice ao m c] 22) := by
  go_enter Try.func47, Try.ntmps47
  go_wp2_with fail
  go_ret
  exact ⟨by simp, rfl⟩
/-- What has come so far. -/
structure Ap (w : World) (qs B : Nat) (pre : List Int) (X : World) : Prop where
  l : ∃ lv, X.heap[qs]? = some (.cells #[lv] 22 (0, 0)) ∧ X.ownsRow B 3 1 lv pre.length (pre.map (Value.int .i64))
  b : Below w.heap.size w X
  s : B ≤ X.heap.size
theorem kc_of' {A B : World} {row : Option Nat} (hg : A.grownBy B row) (hr : ∀ r, row = some r → ∃ o : Obj, A.heap[r]? = some o ∧ o.isCells = false) : KC A B :=
  ⟨hg.os, hg.tape, hg.output, hg.size, fun k cs t f hk => (hg.block k (Array.getElem?_eq_some_iff.1 hk).1 (fun e => by
    obtain ⟨o, h1, h2⟩ := hr k e.symm
    rw [hk] at h1
    injection h1 with h1
    rw [← h1] at h2
    cases h2)).trans hk⟩
theorem Ap.kc {w X X' : World} {qs b : Nat} {pre : List Int} (h : Ap w qs b pre X) (k : KC X X') (hb : Below w.heap.size w X') (s : X.heap.size ≤ X'.heap.size) : Ap w qs b pre X' := by
  obtain ⟨lv, h1, h2⟩ := h.l
  exact ⟨⟨lv, k.block _ _ _ _ h1, k.own h2⟩, hb, Nat.le_trans h.s s⟩
/-- One more has come. -/
theorem Ap.step {w X X3 : World} {qs b : Nat} {pre : List Int} (h : Ap w qs b pre X) {x : Int} (q1 : w.heap.size ≤ qs ∧ qs < b) {lv lv' : Value} (hl : X.heap[qs]? = some (.cells #[lv] 22 (0, 0))) (ho : X.ownsRow b 3 1 lv pre.length (pre.map (Value.int .i64)))
    (o3 : X3.ownsRow b 3 1 lv' (pre.length + 1) (pre.map (Value.int .i64) ++ [.int .i64 x])) (g3 : (X.alloc (.cells #[.int .i64 x] 3)).grownBy X3 lv.ownBlock) :
    Ap w qs b (pre ++ [x]) (X3.setCell ⟨qs, 0, none⟩ lv') ∧ KeepsFrom b X (X3.setCell ⟨qs, 0, none⟩ lv') ∧ Below w.heap.size X (X3.setCell ⟨qs, 0, none⟩ lv') := by
  have hs := h.s
  have hwx := h.b.size
  have row : ∀ k, lv.ownBlock = some k → b ≤ k ∧ ∃ cur, X.heap[k]? = some (.cells cur 3 (0, 0)) := fun k hk => by
    refine ⟨(ho.lt k hk).1, ?_⟩
    rcases ho.2 with ⟨e, _⟩ | ⟨gq, cap, cur, e, _, hh, _⟩
    · rw [e] at hk; cases hk
    · rw [e] at hk
      injection hk with hk
      change gq = k at hk
      exact ⟨cur, by rw [← hk]; exact hh⟩
  have b2 : Below X.heap.size X (X.alloc (.cells #[.int .i64 x] 3)) := (Below.refl _ X).alloc (Nat.le_refl _) _
  generalize X.alloc (.cells #[.int .i64 x] 3) = X2 at g3 b2
  have k3 : ∀ (k : Nat) o, X.heap[k]? = some o → (∀ cur, o ≠ .cells cur 3 (0, 0)) → X3.heap[k]? = some o := fun k o hk hn => by
    have hkl := (Array.getElem?_eq_some_iff.1 hk).1
    refine (g3.block k (Nat.lt_of_lt_of_le hkl b2.size) (fun e => ?_)).trans ((b2.block k hkl).trans hk)
    obtain ⟨_, cur, hc⟩ := row k e.symm
    rw [hk] at hc
    injection hc with hc
    exact hn cur hc
  have hl3 := k3 _ _ hl (by simp)
  have o4 : ∀ k, k ≠ qs → (X3.setCell ⟨qs, 0, none⟩ lv').heap[k]? = X3.heap[k]? := fun k hk => heap_setCell_other X3 _ k _ (fun e => hk e)
  have s4 : (X3.setCell ⟨qs, 0, none⟩ lv').heap.size = X3.heap.size := by simp
  have s3 : X.heap.size ≤ X3.heap.size := Nat.le_trans b2.size g3.size
  have bX3 : Below w.heap.size X X3 := (b2.mono hwx).grown g3 (Nat.le_trans hwx b2.size) (fun k hk => by have := (row k hk).1; omega)
  have bX4 : Below w.heap.size X (X3.setCell ⟨qs, 0, none⟩ lv') := bX3.setCell (p := ⟨qs, 0, none⟩) q1.1 _
  refine ⟨⟨⟨lv', by rw [heap_setCell_same X3 qs 0 _ 22 _ hl3]; rfl, ?_⟩, h.b.trans bX4, by omega⟩, ⟨by omega, fun k o hB hk ho2 => ?_⟩, bX4⟩
  · rw [List.length_append, List.map_append]
    show World.ownsRow _ _ _ _ _ (pre.length + 1) _
    refine ⟨o3.1, o3.2.imp id ?_⟩
    rintro ⟨gq, cap, cur, e1, e2, e3, e4⟩
    exact ⟨gq, cap, cur, e1, e2, (o4 gq (by omega)).trans e3, e4⟩
  · exact (o4 k (by omega)).trans (k3 k o hk (fun cur e => by rw [e] at ho2; cases ho2))
set_option maxRecDepth 4000 in
set_option maxHeartbeats 4000000 in
theorem app63 (w : World) (Bs g cap m : Nat) (L : List Int) (hm : m = L.length) (hml : m ≤ 100000) (hBs : Bs < w.heap.size) (hg : g < w.heap.size)
    (hs : w.cell? ⟨Bs, 0, none⟩ = some (.slice (some ⟨g, 0, none⟩) m cap)) (hc : ∀ (j : Nat) (y : Int), L[j]? = some y → w.cell? ⟨g, j, none⟩ = some (.int .i64 y)) :
    Calls Try.prog 63 #[.slice none 0 0, .func (.func 60) #[] #[.pointer (some ⟨Bs, 0, none⟩)]] w fun e w' => ∃ v, e = .returned v ∧ Ro w.heap.size w' v L ∧ Below w.heap.size w w' := by
  obtain ⟨i0, hin, hz0, hz1, hz2⟩ := info_parts info3
  refine (callsIn_wide (n := 9)).1 (callsIn_of_wp_marks Try.func63 rfl trivial (wpIn_wide.2 ?_))
  simp only [Try.ntmps63, List.size_toArray, List.length_cons, List.length_nil, Nat.reduceAdd, Nat.reduceSub, Array.replicate_succ, Array.replicate_zero, List.push_toArray, List.append_toArray, List.nil_append, List.cons_append]
  go_wp2_with fail
  obtain ⟨Y, hY⟩ : ∃ Y, w.alloc (.cells #[.slice none 0 0] 22) = Y := ⟨_, rfl⟩
  obtain ⟨qs, hqs⟩ : ∃ qs, qs = w.heap.size := ⟨_, rfl⟩
  have hYs : Y.heap.size = w.heap.size + 1 := by rw [← hY]; simp
  have hYb : Below w.heap.size w Y := by rw [← hY]; exact (Below.refl w.heap.size w).alloc (Nat.le_refl _) _
  have hl0 : Y.heap[qs]? = some (.cells #[.slice none 0 0] 22 (0, 0)) := by rw [← hY, hqs]; exact heap_alloc_new w _
  rw [hY, ← hqs]
  have q1 : w.heap.size ≤ qs ∧ qs < Y.heap.size := by omega
  have hI0 : Ap w qs Y.heap.size [] Y := ⟨⟨.slice none 0 0, hl0, World.ownsRow_nil _ _ _ _⟩, hYb, Nat.le_refl _⟩
  clear hY hl0 hqs
  refine (wpIn_wide (n := 9)).1 (wpIn_rangeFunc_ownH (F := Fence.wide) rfl (by omega) (gf := 60) (lb := #[.pointer (some ⟨Bs, 0, none⟩)]) rfl trivial (enters_of Try.func60 (by kernel_rfl) rfl)
    (vals_stops 8 (by omega) Bs w.heap.size g cap m L hm hg hml Y (by omega) (by omega) ((hYb.cell (p := ⟨Bs, 0, none⟩) hBs).trans hs) (fun j y h => (hYb.cell (p := ⟨g, j, none⟩) hg).trans (hc j y h)))
    (fun h1 h2 => h1.trans h2)
    (fun X l o o' hl hX hc hw => belowK_b (w := Y) (by omega) X l o o' hl hX hc hw)
    (Below.refl _ _) (fun _ => rfl)
    (fun pre X => Ap w qs Y.heap.size pre X)
    (fun cd pre X => False)
    (fun s A B row hs hg hr => hs.kc (kc_of' hg (fun r e => (hr r e).2)) (hs.b.grown hg hs.b.size (fun k e => by have := (hr k e).1; omega)) hg.size)
    (fun cd s A B row hs hg hr => hs)
    hI0
    (fun x a' X => a' = { tmps := #[.slice none 0 0, .func (.func 60) #[] #[.pointer (some ⟨Bs, 0, none⟩)], .pointer (some ⟨qs, 0, none⟩), undef, .slice none 0 0, .int .i64 x, .func (.func 60) #[] #[.pointer (some ⟨Bs, 0, none⟩)], .int .i64 x, undef, undef, undef, undef, undef], defers := [] })
    (fun x a' _ A B row hs hg hr => hs)
    ?assign ?body ?done ?stop)
  case assign =>
    rintro l pre x X K hI hK
    dsimp only [encI]
    gi_wp2
    exact hK _ _ (KeepsFrom.refl _ _) (Below.refl _ _) hI rfl
  case body =>
    rintro l pre x a' X hlD hr hI rfl hlt
    obtain ⟨lv, hl, ho⟩ := hI.l
    have hcl : X.cell? ⟨qs, 0, none⟩ = some lv := by rw [cell_of_row _ _ _ _ _ _ hl]; rfl
    obtain ⟨pn, hpn⟩ : ∃ pn, pre.length = pn := ⟨_, rfl⟩
    have hpl : pn ≤ 100000 := by omega
    have HI := Lib.hid (And.intro hI (And.intro hl (And.intro ho hpn)))
    have o2 := ho.alloc (.cells #[.int .i64 x] 3)
    rw [hpn] at o2
    have hYX := hI.s
    have hff : ∀ (X3 : World), (X.alloc (.cells #[.int .i64 x] 3)).grownBy X3 lv.ownBlock → X3.heap[qs]? = some (.cells #[lv] 22 (0, 0)) := fun X3 g3 => by
      refine (g3.block qs (by simp; omega) (fun e => ?_)).trans ((Below.heap_alloc X _ qs (by omega)).trans hl)
      have := (ho.lt qs e.symm).1
      omega
    obtain ⟨al, cl, rfl⟩ := row_form ho
    clear hl ho hI hpn
    gi_wp2_with (first
      | (refine wpListIn_append_own _ rfl (.tmp 8) (.tmp 10) 22 rfl Y.heap.size 3 i0 (.int .i64 0) 1 8 Try.underlying22 hin hz0 hz1 hz2 rfl (by decide) _ pn (pre.map (Value.int .i64)) rfl o2 ⟨X.heap.size, 0, none⟩ 1 1 [.int .i64 x] rfl rfl ?c1 ?c2 ?c3 ?c4 ?c5 ?_; (case c1 => exact cell_one_new _ _ _); (case c2 => simp [Value.oneCell']); (case c3 => unfold maxLen; omega); (case c4 => omega); (case c5 => simp; omega); intro lv' X3 o7 g7 _; obtain ⟨a7, c7, rfl⟩ := row_form o7; have hx3 := hff X3 g7; have bx1 : X3.cell? ⟨qs, 0, none⟩ = _ := cell_of_row _ _ _ _ _ _ hx3; have bx2 := frozen_of_row _ _ 0 _ _ hx3; have HR := Lib.hid (And.intro o7 g7); clear o7 g7 hx3))
    obtain ⟨h1, h2, h3, hpn⟩ := HI.out
    subst hpn
    have hst := h1.step q1 h2 h3 HR.out.1 HR.out.2
    exact ⟨hst.2.1, hst.2.2, hst.1⟩
  case done =>
    rintro D ys X hDl rfl hI hK
    obtain ⟨lv, hl, ho⟩ := hI.l
    have hcl : X.cell? ⟨qs, 0, none⟩ = some lv := by rw [cell_of_row _ _ _ _ _ _ hl]; rfl
    have HI := Lib.hid (And.intro hI (And.intro hl ho))
    clear hl ho hI
    go_wp2_with fail
    refine ⟨by simp, .inl ⟨_, _, rfl, run_takeDeferred hK, ?_⟩⟩
    have gb := grownBy_putObj' X D (.deferred none)
    have kk := kc_of' gb (fun r e => by cases e; exact ⟨_, hK, rfl⟩)
    refine ⟨_, results_tmp rfl _ _ _, lv, rfl, ?_, HI.out.1.b.grown gb HI.out.1.b.size (fun k e => by cases e; omega)⟩
    exact own_le (kk.own HI.out.2.2) (by omega)
  case stop =>
    rintro D cd pre X hDl _ h
    exact h.elim
theorem collect51v (w : World) (Bs g cap m : Nat) (L : List Int) (hm : m = L.length) (hml : m ≤ 100000) (hBs : Bs < w.heap.size) (hg : g < w.heap.size)
    (hs : w.cell? ⟨Bs, 0, none⟩ = some (.slice (some ⟨g, 0, none⟩) m cap)) (hc : ∀ (j : Nat) (y : Int), L[j]? = some y → w.cell? ⟨g, j, none⟩ = some (.int .i64 y)) :
    Calls Try.prog 51 #[.func (.func 60) #[] #[.pointer (some ⟨Bs, 0, none⟩)]] w fun e w' => ∃ v, e = .returned v ∧ Ro w.heap.size w' v L ∧ Below w.heap.size w w' := by
  have H := Lib.hid (app63 w Bs g cap m L hm hml hBs hg hs hc)
  clear hs hc hm
  go_enter Try.func51, Try.ntmps51
  go_wp2_with (go_at_call 63; (with_reducible refine H.out.mono ?_); rintro e w1 ⟨v, rfl, ho, hb⟩; have HO := Lib.hid (And.intro ho hb); clear ho hb)
  go_ret
  exact ⟨v, rfl, HO.out⟩
theorem sort52 (blk cap : Nat) (ss : List Int) (W : World) (hH : Go.Sort.Holds Go.encZ W blk 0 ss.toArray) (hb : blk < W.heap.size) (hl : ss.length < 4611686018427387904) :
    Calls Try.prog 52 #[.slice (some ⟨blk, 0, none⟩) ss.length cap] W fun e w' => e = .returned (.tuple #[]) ∧ ∃ k os, w' = Go.Sort.grow (Go.Sort.putRow Go.encZ (Go.Sort.ahead W k) blk 0 (ss.mergeSort fun x y => decide (x ≤ y)).toArray) os :=
  (callsIn_wide (n := 5)).1 ((sortsL 5).1 blk 0 cap ss W hH hb hl)
theorem sorted42v (w : World) (Bs g cap m : Nat) (L : List Int) (hm : m = L.length) (hm1 : 1 ≤ m) (hml : m ≤ 100000) (hBs : Bs < w.heap.size) (hg : g < w.heap.size)
    (hs : w.cell? ⟨Bs, 0, none⟩ = some (.slice (some ⟨g, 0, none⟩) m cap)) (hc : ∀ (j : Nat) (y : Int), L[j]? = some y → w.cell? ⟨g, j, none⟩ = some (.int .i64 y)) :
    Calls Try.prog 42 #[.func (.func 60) #[] #[.pointer (some ⟨Bs, 0, none⟩)]] w fun e w' => ∃ v, e = .returned v ∧ Ro w.heap.size w' v (L.mergeSort (fun x y => decide (x ≤ y))) ∧ Below w.heap.size w w' := by
  have H := Lib.hid (collect51v w Bs g cap m L hm hml hBs hg hs hc)
  have HM := Lib.hid (And.intro hm hm1)
  clear hs hc hm hm1
  go_enter Try.func42, Try.ntmps42
  go_upto_region 2 with (go_at_call 51; (with_reducible refine H.out.mono ?_); rintro e w1 ⟨v, rfl, ho, hb⟩; have HO := Lib.hid (And.intro ho hb); clear ho hb)
  rcases HO.out.1.2 with ⟨_, e2⟩ | ⟨gb, cp, cur, rfl, hbase, hgb, r1, r2, r3, r4⟩
  · have := HM.out; omega
  · have hH : Go.Sort.Holds Go.encZ w1 gb 0 L.toArray := Go.Proofs.holds_of_block_i hgb (by simpa using r4)
    have hgl : gb < w1.heap.size := (Array.getElem?_eq_some_iff.1 hgb).1
    have HS := Lib.hid (sort52 gb cp L w1 hH hgl (by have := HM.out; omega))
    have HB := Lib.hid (And.intro hbase (And.intro hgb (And.intro r1 (And.intro r2 r3))))
    clear hH hgb r1 r2 r3 r4 hbase
    go_wp2_with (go_at_call 52; (with_reducible refine HS.out.mono ?_); rintro e w2 ⟨rfl, nn, os, hw⟩; have HW := Lib.hid hw; clear hw)
    go_ret
    have hw := HW.out
    subst hw
    have hl : (L.mergeSort (fun x y => decide (x ≤ y))).length = L.length := List.length_mergeSort _
    refine ⟨_, rfl, ?_, HO.out.2.grown (Go.Proofs.grownBy_sorted_i _) HO.out.2.size (fun j hj => by cases hj; exact HB.out.1)⟩
    unfold Ro
    rw [hl]
    exact Go.Proofs.ownsRow_sorted_i (by simp) HB.out.1 HB.out.2.1 HB.out.2.2.1 HB.out.2.2.2.1 HB.out.2.2.2.2
end Go.Proofs.Ytllgdlfdmmdffaa
