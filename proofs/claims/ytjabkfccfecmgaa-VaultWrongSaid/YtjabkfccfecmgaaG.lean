/- The library's iterator over what waits, from the end; the disk's Read. -/
import Derived.Test.YtjabkfccfecmgaaF
import Derived.RangeFuncNested
import Derived.RangeFuncBound
import Derived.RangeFuncCalls
import Derived.RangeFuncLeaves
import Derived.RangeFuncBox
import Derived.Shelf.Abstract
import Derived.Shelf.RegionOpen
import Derived.OwnWalkIn
import Derived.TacticsInMore
import Derived.LoopNIn
import Derived.LoopIn
namespace Go.Proofs.Ytjabkfccfecmgaa
open Go.ChangeShapes Go.WideShapes Go.ChangeAt Go.RowKit Go.Shelf
set_option linter.unusedSimpArgs false
set_option linter.unusedVariables false
attribute [local go_sem] Oper.semAt_some
section
variable {F : Fence} {n : Nat}
theorem inLoad60 {ops : Array Oper} {rest : List Oper} {o : Oper} {a : Act} {w : World} {Q : Exit → Act → World → Prop} (hgd : o.guard = none) (x : Operand) (ho : o.op = .load 76 x)
    (b off : Nat) (p : Wt) (hx : a.eval x = .pointer (some ⟨b, off, none⟩)) (hp : p.2.length = 512) (r : w.rangeAt b off (wc p))
    (h : wpListIn F n Try.prog ops Q rest (a.put o.dst (.agg (wc p).toArray)) w) : wpListIn F n Try.prog ops Q (o :: rest) a w := by
  refine wpListIn_plain hgd fun K hK' => ?_
  have hrun := run_loadAt_mid (P := Try.prog) w b off 76 (wc p) _ r Try.underlying76 rfl (by rw [wc_len hp]; exact info60')
  unfold Oper.wpIn
  refine ⟨by simp [Oper.about, ho], ?_⟩
  rw [Oper.semAt_plain F _ _ (by rw [ho]; intro c hc'; cases hc')]
  simp only [execOp, ho, hx, Sem.run_bind, hrun, Result.andThen_ok, Sem.run_pure]
  exact hK' _ _ h
theorem inLoad58 {ops : Array Oper} {rest : List Oper} {o : Oper} {a : Act} {w : World} {Q : Exit → Act → World → Prop} (hgd : o.guard = none) (x : Operand) (ho : o.op = .load 63 x)
    (b off : Nat) (D : Sct) (hx : a.eval x = .pointer (some ⟨b, off, none⟩)) (hp : D.length = 512) (r : w.rangeAt b off (D.map c8))
    (h : wpListIn F n Try.prog ops Q rest (a.put o.dst (.agg (D.map c8).toArray)) w) : wpListIn F n Try.prog ops Q (o :: rest) a w := by
  refine wpListIn_plain hgd fun K hK' => ?_
  have hrun := run_loadAt_mid (P := Try.prog) w b off 63 (D.map c8) _ r Try.underlying63 rfl (by rw [List.length_map, hp]; exact info58')
  unfold Oper.wpIn
  refine ⟨by simp [Oper.about, ho], ?_⟩
  rw [Oper.semAt_plain F _ _ (by rw [ho]; intro c hc'; cases hc')]
  simp only [execOp, ho, hx, Sem.run_bind, hrun, Result.andThen_ok, Sem.run_pure]
  exact hK' _ _ h
theorem inStore60 {ops : Array Oper} {rest : List Oper} {o : Oper} {a : Act} {w : World} {Q : Exit → Act → World → Prop} (hgd : o.guard = none) (x y : Operand) (ho : o.op = .store 76 x y)
    (b off : Nat) (p : Wt) (hx : a.eval x = .pointer (some ⟨b, off, none⟩)) (hy : a.eval y = .agg (wc p).toArray) (hp : p.2.length = 512) (ht : w.there b off 513)
    (h : wpListIn F n Try.prog ops Q rest (a.put o.dst undef) (w.setCells b off (wc p))) : wpListIn F n Try.prog ops Q (o :: rest) a w := by
  refine wpListIn_plain hgd fun K hK' => ?_
  have hrun := run_storeAt_mid (P := Try.prog) w b off 76 (wc p).toArray (by rw [List.size_toArray, wc_len hp]; exact ht) (by rw [List.size_toArray, wc_len hp]; exact info60') (one_wc p)
  unfold Oper.wpIn
  refine ⟨by simp [Oper.about, ho], ?_⟩
  rw [Oper.semAt_plain F _ _ (by rw [ho]; intro c hc'; cases hc')]
  simp only [execOp, ho, hx, hy, Sem.run_bind, hrun, Result.andThen_ok, Sem.run_pure]
  exact hK' _ _ (by simpa using h)
theorem inStore58 {ops : Array Oper} {rest : List Oper} {o : Oper} {a : Act} {w : World} {Q : Exit → Act → World → Prop} (hgd : o.guard = none) (x y : Operand) (ho : o.op = .store 63 x y)
    (b off : Nat) (D : Sct) (hx : a.eval x = .pointer (some ⟨b, off, none⟩)) (hy : a.eval y = .agg (D.map c8).toArray) (hp : D.length = 512) (ht : w.there b off 512)
    (h : wpListIn F n Try.prog ops Q rest (a.put o.dst undef) (w.setCells b off (D.map c8))) : wpListIn F n Try.prog ops Q (o :: rest) a w := by
  refine wpListIn_plain hgd fun K hK' => ?_
  have hrun := run_storeAt_mid (P := Try.prog) w b off 63 (D.map c8).toArray (by rw [List.size_toArray, List.length_map, hp]; exact ht) (by rw [List.size_toArray, List.length_map, hp]; exact info58') (one_c8 D)
  unfold Oper.wpIn
  refine ⟨by simp [Oper.about, ho], ?_⟩
  rw [Oper.semAt_plain F _ _ (by rw [ho]; intro c hc'; cases hc')]
  simp only [execOp, ho, hx, hy, Sem.run_bind, hrun, Result.andThen_ok, Sem.run_pure]
  exact hK' _ _ (by simpa using h)
end
/-- An entry that waits. -/
abbrev Ent := { p : Wt // p.2.length = 512 }
def ent (W : List Wt) (hW : ∀ p ∈ W, p.2.length = 512) (j : Nat) : Ent := if h : j < W.length then ⟨W[j], hW _ (List.getElem_mem h)⟩ else ⟨(0, zs), zs_len⟩
theorem ent_at {W : List Wt} {hW : ∀ p ∈ W, p.2.length = 512} {j : Nat} (h : j < W.length) : W[j]? = some (ent W hW j).1 := by
  unfold ent
  rw [dif_pos h, List.getElem?_eq_getElem h]
/-- What has come when k rounds are over. -/
def upk (f : Nat → Nat × Ent) (k : Nat) : List (Nat × Ent) := (List.range k).map f
theorem upk_succ (f : Nat → Nat × Ent) (k : Nat) : upk f (k + 1) = upk f k ++ [f k] := by simp [upk, List.range_succ]
theorem upk_length (f : Nat → Nat × Ent) (k : Nat) : (upk f k).length = k := by simp [upk]
def rev (W : List Wt) (hW : ∀ p ∈ W, p.2.length = 512) (k : Nat) : Nat × Ent := (W.length - 1 - k, ent W hW (W.length - 1 - k))
def encE (x : Nat × Ent) : Array Value := #[.int .i64 (x.1 : Int), .agg (wc x.2.1).toArray]
/-- What a round keeps. -/
structure Kp20 (n₀ Bs : Nat) (A B : World) : Prop where
  b : Below n₀ A B
  c : ∀ v, A.cell? ⟨Bs, 0, none⟩ = some v → B.cell? ⟨Bs, 0, none⟩ = some v
set_option maxRecDepth 100000 in
set_option maxHeartbeats 2000000 in
theorem back1 (F : Fence) (n : Nat) (h34 : F.fn 46) (hro : F.round = none) (hn : 1 ≤ n) (l Bs n₀ qb cap : Nat) (W : List Wt) (hW : ∀ p ∈ W, p.2.length = 512) (hb : qb < n₀) (hWl : W.length ≤ 1000000) (J Jx : List (Nat × Ent) → World → Prop)
    (hY : ∀ pre x X, J pre X → pre.length < W.length → YieldAt F (n - 1) Try.prog l (encE x) X fun e X' =>
      (e = .returned (.bool true) ∧ J (pre ++ [x]) X' ∧ Kp20 n₀ Bs X X') ∨ (e = .returned (.bool false) ∧ Jx (pre ++ [x]) X'))
    (X : World) (hBs : X.cell? ⟨Bs, 0, none⟩ = some (.slice (some ⟨qb, 0, none⟩) W.length cap)) (hc : ∀ j p, W[j]? = some p → X.rangeAt qb (j * 513) (wc p)) (h0 : J [] X) :
    CallsIn F n Try.prog 46 #[.func (.yield l) #[] #[], .pointer (some ⟨Bs, 0, none⟩)] X fun e X' => (∃ v, e = .returned v) ∧
      ((∃ ys, ys = upk (rev W hW) W.length ∧ J ys X') ∨ (∃ pre, (∃ k, k ≤ W.length ∧ pre = upk (rev W hW) k) ∧ Jx pre X')) := by
  refine callsIn_of_wp Try.func46 rfl h34 ?_ hro
  simp only [Try.ntmps46, List.size_toArray, List.length_cons, List.length_nil, Nat.reduceAdd, Nat.reduceSub, Array.replicate_succ, Array.replicate_zero, List.push_toArray, List.append_toArray, List.nil_append, List.cons_append]
  gi_wp2
  gi_loopw [3] (fun i wr => ∃ k : Nat, k ≤ W.length ∧ i = .int .i64 ((W.length : Int) - 1 - k) ∧ J (upk (rev W hW) k) wr ∧ Kp20 n₀ Bs X wr)
    (fun i _ => (intOf i + 1).toNat)
  case atStart => exact ⟨0, Nat.zero_le _, by simp, h0, ⟨Below.refl _ _, fun v h => h⟩⟩
  case round =>
    obtain ⟨k, hk, rfl, hJs, hnx⟩ := hrel
    have hbx := hnx.c _ hBs
    by_cases hlt : k < W.length
    · obtain ⟨fn, tmps, assign, body, hy, hR⟩ := hY _ (rev W hW k) wr hJs (by rw [upk_length]; exact hlt)
      obtain ⟨m, hm⟩ : ∃ m, m = W.length - 1 - k := ⟨_, rfl⟩
      have hml : m < W.length := by omega
      have em : (W.length : Int) - 1 - k = (m : Int) := by omega
      have hr : wr.rangeAt qb (m * 513) (wc (ent W hW m).1) := fun i v hv => (hnx.b.cell (p := ⟨qb, _, none⟩) hb).trans (hc m _ (ent_at hml) i v hv)
      dsimp only [encE, rev] at hy
      rw [← hm] at hy
      rw [em]
      have HM := Lib.hid (And.intro hm em)
      clear hm em
      gi_wp2_with (first
        | (refine inLoad60 rfl (.tmp 15) rfl qb (m * 513) (ent W hW m).1 rfl (ent W hW m).2 hr ?_))
      refine hR.mono ?_
      rintro e X3 (⟨rfl, hJ3, hk3⟩ | ⟨rfl, hJx3⟩)
      · gi_wp2
        go_roundw
        case rel => exact ⟨k + 1, by omega, by have := HM.out; (try simp); omega, by rw [upk_succ]; exact hJ3, ⟨hnx.b.trans hk3.b, fun v h => hk3.c v (hnx.c v h)⟩⟩
        case measure => have := HM.out; simp [intOf]
      · gi_wp2
        refine bodyPost_ret (results_none rfl _ _ _) rfl ?_
        exact ⟨⟨_, rfl⟩, .inr ⟨_, ⟨k + 1, by omega, (upk_succ _ _).symm⟩, hJx3⟩⟩
    · obtain rfl : k = W.length := by omega
      gi_wp2
      go_end0
      exact ⟨⟨_, rfl⟩, .inl ⟨_, rfl, hJs⟩⟩
set_option maxRecDepth 100000 in
set_option maxHeartbeats 1000000 in
theorem backNil (F : Fence) (n : Nat) (h34 : F.fn 46) (hro : F.round = none) (l Bs : Nat) (J : List (Nat × Ent) → World → Prop) (X : World) (hBs : X.cell? ⟨Bs, 0, none⟩ = some (.slice none 0 0)) (h0 : J [] X) :
    CallsIn F n Try.prog 46 #[.func (.yield l) #[] #[], .pointer (some ⟨Bs, 0, none⟩)] X fun e X' => (∃ v, e = .returned v) ∧ J [] X' := by
  refine callsIn_of_wp Try.func46 rfl h34 ?_ hro
  simp only [Try.ntmps46, List.size_toArray, List.length_cons, List.length_nil, Nat.reduceAdd, Nat.reduceSub, Array.replicate_succ, Array.replicate_zero, List.push_toArray, List.append_toArray, List.nil_append, List.cons_append]
  gi_wp2
  gi_loopw [3] (fun i wr => i = .int .i64 (-1) ∧ J [] wr) (fun _ _ => 0)
  case atStart => exact ⟨rfl, h0⟩
  case round =>
    obtain ⟨rfl, hJs⟩ := hrel
    gi_wp2
    go_end0
    exact ⟨⟨_, rfl⟩, hJs⟩
/-- What a slice value of entries holds. -/
def Ents (n₀ : Nat) (w : World) (sv : Value) (W : List Wt) : Prop :=
  (sv = .slice none 0 0 ∧ W = []) ∨ ∃ qb cap, sv = .slice (some ⟨qb, 0, none⟩) W.length cap ∧ qb < n₀ ∧ ∀ j p, W[j]? = some p → w.rangeAt qb (j * 513) (wc p)
theorem Ents.below {n₀ : Nat} {w w' : World} {sv : Value} {W : List Wt} (h : Ents n₀ w sv W) (j : Below n₀ w w') : Ents n₀ w' sv W := by
  rcases h with h | ⟨qb, cap, e, hb, hr⟩
  · exact .inl h
  · exact .inr ⟨qb, cap, e, hb, fun i p hp k v hv => (j.cell (p := ⟨qb, _, none⟩) hb).trans (hr i p hp k v hv)⟩
theorem back_stops (F : Fence) (n : Nat) (h34 : F.fn 46) (hro : F.round = none) (hn : 1 ≤ n) (Bs n₀ : Nat) (sv : Value) (W : List Wt) (hW : ∀ p ∈ W, p.2.length = 512) (hWl : W.length ≤ 1000000) (w : World) (hBs : Bs < w.heap.size) (hn₀ : n₀ ≤ w.heap.size)
    (hc : w.cell? ⟨Bs, 0, none⟩ = some sv) (hI : Ents n₀ w sv W) :
    SeqStopsK F n Try.prog 46 #[.pointer (some ⟨Bs, 0, none⟩)] encE (Kp20 n₀ Bs) (fun ys => ys = upk (rev W hW) W.length) (fun pre => ∃ k, k ≤ W.length ∧ pre = upk (rev W hW) k) W.length w := fun l J Jx X hX _ _ hY h0 => by
  have hc' := (hX.cell (p := ⟨Bs, 0, none⟩) hBs).trans hc
  rcases hI.below (hX.mono hn₀) with ⟨rfl, rfl⟩ | ⟨qb, cap, rfl, hb, hr⟩
  · exact (backNil F n h34 hro l Bs J X hc' h0).mono fun e X' ⟨he, hj⟩ => ⟨he, .inl ⟨_, rfl, hj⟩⟩
  · exact back1 F n h34 hro hn l Bs n₀ qb cap W hW hb hWl J Jx hY X hc' hr h0
theorem back27 (a : Option Addr) (len cap : Nat) (w : World) :
    Calls Try.prog 38 #[.slice a len cap] w fun e w' => e = .returned (.func (.func 46) #[] #[.pointer (some ⟨w.heap.size, 0, none⟩)]) ∧ w' = w.alloc (.cells #[.slice a len cap] 42) := by
  go_enter Try.func38, Try.ntmps38
  go_wp2_with fail
  go_ret
  exact ⟨rfl, rfl⟩
theorem zero58 : ∃ Z : Array Value, Z.size = 512 ∧ ∀ w : World, (zeroValue 63).run Try.prog w = .ok (.agg Z) w := ⟨(List.replicate 512 (.int .u8 0)).toArray, by rw [List.size_toArray, List.length_replicate], fun w => by kernel_rfl⟩
/-- What a sector will be. -/
def look (D : Sct) (W : List Wt) (i : Nat) : Sct := W.foldl (fun r p => if p.1 = i then p.2 else r) D
def V15 (g b n i s : Nat) (D : Sct) : Nat → Value → World → Prop
  | 0, v, w => v = .pointer (some ⟨g, 0, none⟩)
  | 1, v, w => v = .pointer (some ⟨g, 0, none⟩)
  | 2, v, w => v = .pointer (some ⟨g, 0, none⟩)
  | 3, v, w => v = .slice (some ⟨b, 0, none⟩) n n
  | 4, v, w => v = .int .i64 (i : Nat)
  | 5, v, w => v = .pointer (some ⟨b, i * 512, none⟩)
  | 6, v, w => v = .agg (D.map c8).toArray
  | 7, v, w => ∃ q, v = .pointer (some ⟨q, 0, none⟩) ∧ s ≤ q ∧ q < w.heap.size ∧ w.there q 0 512
  | _, _, _ => True
theorem V15_keep (g b n i s : Nat) (D : Sct) (i1 : Nat) (v : Value) (w w' : World) (h : V15 g b n i s D i1 v w) (r : (fun w w' => Below w.heap.size w w') w w') : V15 g b n i s D i1 v w' := by
  rcases i1 with _ | _ | _ | _ | _ | _ | _ | _ | _
  · exact h
  · exact h
  · exact h
  · exact h
  · exact h
  · exact h
  · exact h
  · exact (let ⟨q, e, h1, h2, h3⟩ := h; ⟨q, e, h1, Nat.lt_of_lt_of_le h2 r.size, fun j hj => ⟨by rw [World.cell?_of_block (a := ⟨q, _, none⟩) (r.block q h2)]; exact (h3 j hj).1, by rw [World.frozen?_of_block (a := ⟨q, _, none⟩) (r.block q h2)]; exact (h3 j hj).2⟩⟩)
  · trivial
theorem keeps_setCells (b : Nat) : ∀ (vs : List Value) (o : Nat) (W : World), KeepsOthers W (W.setCells b o vs)
  | [], _, W => KeepsOthers.refl W
  | v :: r, o, W => (KeepsOthers.setCell W ⟨b, o, none⟩ v).trans (keeps_setCells b r (o + 1) _)
theorem look_none (D : Sct) (W : List Wt) (i : Nat) (h : ∀ p ∈ W, p.1 ≠ i) : look D W i = D := by
  unfold look
  induction W generalizing D with
  | nil => rfl
  | cons p W ih => rw [List.foldl_cons, if_neg (h p (by simp))]; exact ih D (fun q hq => h q (by simp [hq]))
theorem look_at (D : Sct) (W : List Wt) (i j : Nat) (p : Wt) (hj : W[j]? = some p) (hp : p.1 = i) (h : ∀ m q, j < m → W[m]? = some q → q.1 ≠ i) : look D W i = p.2 := by
  have hl := (List.getElem?_eq_some_iff.1 hj).1
  have e : W = W.take (j + 1) ++ W.drop (j + 1) := (List.take_append_drop _ _).symm
  have e2 : W.take (j + 1) = W.take j ++ [p] := by rw [List.take_add_one, hj]; rfl
  have e3 : look D W i = look (look D (W.take (j + 1)) i) (W.drop (j + 1)) i := by
    unfold look
    rw [← List.foldl_append, ← e]
  rw [e3, e2, look_none _ (W.drop (j + 1)) i (fun q hq => by
    obtain ⟨m, hm⟩ := List.getElem?_of_mem hq
    rw [List.getElem?_drop] at hm
    exact h _ q (by omega) hm)]
  unfold look
  rw [List.foldl_append, List.foldl_cons, List.foldl_nil, if_pos hp]
theorem upk_mem {W : List Wt} {hW : ∀ p ∈ W, p.2.length = 512} {k j : Nat} (hj : j < k) : rev W hW j ∈ upk (rev W hW) k := by
  unfold upk
  exact List.mem_map.2 ⟨j, List.mem_range.2 hj, rfl⟩
theorem upk_last {f : Nat → Nat × Ent} {m : Nat} {ini : List (Nat × Ent)} {last : Nat × Ent} (h : upk f m = ini ++ [last]) : ∃ k, m = k + 1 ∧ ini = upk f k ∧ last = f k := by
  cases m with
  | zero => have := congrArg List.length h; simp [upk] at this
  | succ k =>
    rw [upk_succ] at h
    have h1 := List.append_inj' h rfl
    exact ⟨k, rfl, h1.1.symm, by have := h1.2; simp at this; exact this.symm⟩
theorem len_look (D : Sct) (W : List Wt) (i : Nat) (hD : D.length = 512) (hW : ∀ p ∈ W, p.2.length = 512) : (look D W i).length = 512 := by
  unfold look
  induction W generalizing D with
  | nil => exact hD
  | cons p W ih =>
    rw [List.foldl_cons]
    refine ih _ ?_ (fun q hq => hW q (by simp [hq]))
    split
    · exact hW p (by simp)
    · exact hD
/-- The walk's own cells, between two rounds. -/
structure IR (w : World) (R k : Nat) (D : Sct) (X : World) : Prop where
  r : X.rangeAt R 0 (D.map c8)
  t : X.there R 0 512
  c : X.cell? ⟨w.heap.size, 0, none⟩ = some (.int .i64 (k : Int))
theorem there_kept {A B : World} {row : Option Nat} {b o n : Nat} (h : A.there b o n) (hg : A.grownBy B row) (hr : ∀ r, row = some r → ∃ o : Obj, A.heap[r]? = some o ∧ o.isCells = false) : B.there b o n := fun j hj => by
  obtain ⟨v, hv⟩ := Option.isSome_iff_exists.1 (h j hj).1
  exact ⟨by rw [cell_kept hv hg hr]; rfl, (frozen_kept hv hg hr).trans (h j hj).2⟩
theorem IR.kept {w A B : World} {row : Option Nat} {R k : Nat} {D : Sct} (h : IR w R k D A) (hg : A.grownBy B row) (hr : ∀ r, row = some r → ∃ o : Obj, A.heap[r]? = some o ∧ o.isCells = false) : IR w R k D B :=
  ⟨fun j v hv => cell_kept (h.r j v hv) hg hr, there_kept h.t hg hr, cell_kept h.c hg hr⟩
theorem IR.below {w A B : World} {R k : Nat} {D : Sct} (h : IR w R k D A) (hD : D.length = 512) (j : Below A.heap.size A B) : IR w R k D B := by
  have hR : R < A.heap.size := by
    have := Option.isSome_iff_exists.1 (h.t 0 (by omega)).1
    obtain ⟨v, hv⟩ := this
    exact World.block_lt_of_cell? A _ hv
  have h3 : w.heap.size < A.heap.size := World.block_lt_of_cell? A _ h.c
  exact ⟨fun i v hv => (World.cell?_of_block (a := ⟨R, _, none⟩) (j.block R hR)).trans (h.r i v hv), fun i hi => ⟨by rw [World.cell?_of_block (a := ⟨R, _, none⟩) (j.block R hR)]; exact (h.t i hi).1, by rw [World.frozen?_of_block (a := ⟨R, _, none⟩) (j.block R hR)]; exact (h.t i hi).2⟩, (World.cell?_of_block (a := ⟨w.heap.size, 0, none⟩) (j.block _ h3)).trans h.c⟩

set_option maxRecDepth 4000 in
set_option maxHeartbeats 4000000 in
theorem read15 (A : Nat → Prop) (w : World) (g b n : Nat) (d : DS) (hD : Dk A w g b n d) (k : Nat) (hkn : k < n) (hd : d.down = false) (hW : d.W.length ≤ 1000000) :
    Calls Try.prog 23 #[.pointer (some ⟨g, 0, none⟩), .int .i64 k] w fun e w' => ∃ q, e = .returned (.tuple #[.slice (some ⟨q, 0, none⟩) 512 512, .int .i64 0]) ∧ w.heap.size ≤ q ∧ q < w'.heap.size ∧ w'.rangeAt q 0 ((look (d.S k) d.W k).map c8) ∧ Below w.heap.size w w' := by
  obtain ⟨Z, hZl, hz58⟩ := zero58
  have hmay : Mayc n d k = 0 := by unfold Mayc; rw [hd, if_neg (by simp), if_neg (by omega)]
  have hlk : (d.S k).length = 512 := hD.sec.len k hkn
  refine (callsIn_wide (n := 9)).1 (callsIn_of_wp_marks Try.func23 rfl trivial (wpIn_wide.2 ?_))
  simp only [Try.ntmps23, List.size_toArray, List.length_cons, List.length_nil, Nat.reduceAdd, Nat.reduceSub, Array.replicate_succ, Array.replicate_zero, List.push_toArray, List.append_toArray, List.nil_append, List.cons_append]
  have hD0 := hD
  obtain ⟨x, hx⟩ : ∃ x, w.alloc (.cells #[.int .i64 (k : Int)] 3) = x := ⟨_, rfl⟩
  have hbx0 : Below w.heap.size w x := by rw [← hx]; exact (Below.refl _ _).alloc (Nat.le_refl _) _
  have hDx : Dk A x g b n d := hD.below hbx0
  have M25 := Lib.hid (may25 hDx k)
  rw [hmay] at M25
  have c3x : x.cell? ⟨w.heap.size, 0, none⟩ = some (.int .i64 (k : Int)) := by rw [← hx]; exact (Boxed.new w 3 (.int .i64 (k : Int))).cell
  have HX := Lib.hid hx
  go_upto_region 9 with (first | (go_at_call 37; (with_reducible refine M25.out.mono ?_); rintro e w2 ⟨rfl, h2⟩; obtain rfl : x = w2 := h2.symm))
  have hgx : g < x.heap.size := hDx.lt
  have hbx : b < x.heap.size := hDx.sec.lt
  have h3x : w.heap.size < x.heap.size := by rw [← hx]; simp
  obtain ⟨ao, c, c1w, own0, hoA, hlc⟩ := hD0.c1
  have own := own0
  have c1x : x.cell? ⟨g, 1, none⟩ = some (.slice ao d.W.length c) := (World.cell?_of_block (a := ⟨g, 1, none⟩) (hbx0.block g hD0.lt)).trans c1w
  have hD := hDx
  have q0 : (0 : Int) ≤ (k : Int) := by omega
  have q1 : (k : Int) < (n : Int) := by omega
  clear hx HX M25
  refine region_monoT 8 (fun z => Below x.heap.size x z) (fun w w' => Below w.heap.size w w') (V15 g b n k x.heap.size (d.S k)) [(0, some 16), (1, some 17), (2, some 18), (3, some 19), (4, some 20), (5, some 21), (6, some 22), (7, some 7)] (by kernel_rfl) (by kernel_rfl) (by kernel_rfl) (by kernel_rfl) (fun _ _ h r => h.trans (r.mono h.size)) (fun i1 v1 w1 w2 _ h1 r1 => V15_keep g b n k x.heap.size (d.S k) i1 v1 w1 w2 h1 r1) ((Below.refl _ _).drew) ?_ (fun vs w' hS hV => ?_)
  · refine StepsL.cons0  (by kernel_rfl)  ?_ ?_
    · rintro w1 hS  K hK
      (try simp only [Act.put, List.setIfInBounds_toArray, List.set_cons_zero, List.set_cons_succ])
      go_simp
      exact hK.out _ _ rfl (Below.refl _ _)
    refine StepsL.cons1 0 (some 16) (by kernel_rfl) rfl ?_ ?_
    · rintro w1 hS _ rfl K hK
      (try simp only [Act.put, List.setIfInBounds_toArray, List.set_cons_zero, List.set_cons_succ])
      go_simp
      exact hK.out _ _ rfl (Below.refl _ _)
    refine StepsL.cons1 1 (some 17) (by kernel_rfl) rfl ?_ ?_
    · rintro w1 hS _ rfl K hK
      (try simp only [Act.put, List.setIfInBounds_toArray, List.set_cons_zero, List.set_cons_succ])
      go_simp
      exact hK.out _ _ rfl (Below.refl _ _)
    refine StepsL.cons1 2 (some 18) (by kernel_rfl) rfl ?_ ?_
    · rintro w1 hS _ rfl K hK
      (try simp only [Act.put, List.setIfInBounds_toArray, List.set_cons_zero, List.set_cons_succ])
      have hc0 : w1.cell? ⟨g, 0, none⟩ = some (.slice (some ⟨b, 0, none⟩) n n) := (World.cell?_of_block (a := ⟨g, 0, none⟩) (hS.block g hgx)).trans hD.c0
      go_simp
      exact hK.out _ _ rfl (Below.refl _ _)
    refine StepsL.cons0  (by kernel_rfl)  ?_ ?_
    · rintro w1 hS  K hK
      (try simp only [Act.put, List.setIfInBounds_toArray, List.set_cons_zero, List.set_cons_succ])
      have hc3 : w1.cell? ⟨w.heap.size, 0, none⟩ = some (.int .i64 (k : Nat)) := (World.cell?_of_block (a := ⟨w.heap.size, 0, none⟩) (hS.block _ h3x)).trans c3x
      go_simp
      exact hK.out _ _ rfl (Below.refl _ _)
    refine StepsL.cons2 3 (some 19) 4 (some 20) (by kernel_rfl) rfl rfl ?_ ?_
    · rintro w1 hS _ rfl _ rfl K hK
      (try simp only [Act.put, List.setIfInBounds_toArray, List.set_cons_zero, List.set_cons_succ])
      go_simp
      exact hK.out _ _ rfl (Below.refl _ _)
    refine StepsL.cons1 5 (some 21) (by kernel_rfl) rfl ?_ ?_
    · rintro w1 hS _ rfl K hK
      (try simp only [Act.put, List.setIfInBounds_toArray, List.set_cons_zero, List.set_cons_succ])
      rw [if_pos (by rfl)]
      refine wp_load58 (.tmp 21) rfl b (k * 512) (d.S k) rfl hlk (fun j v hv => (World.cell?_of_block (a := ⟨b, _, none⟩) (hS.block b hbx)).trans (hDx.sec.rng k hkn j v hv)) ?_
      exact hK.out _ _ rfl (Below.refl _ _)
    refine StepsL.cons0  (by kernel_rfl)  ?_ ?_
    · rintro w1 hS  K hK
      (try simp only [Act.put, List.setIfInBounds_toArray, List.set_cons_zero, List.set_cons_succ])
      have hz := hz58 w1
      go_simp
      exact hK.out _ _ ⟨w1.heap.size, rfl, hS.size, by simp, there_new w1 Z 63 512 (by omega)⟩ ((Below.refl _ _).alloc (Nat.le_refl _) _)
    exact StepsL.nil
  · have e7 := hV 7 (by simp)
    obtain ⟨R, e7, hRs, hRl, hRt⟩ : ∃ q, vs 7 = .pointer (some ⟨q, 0, none⟩) ∧ x.heap.size ≤ q ∧ q < w'.heap.size ∧ w'.there q 0 512 := e7
    have e6 : vs 6 = .agg ((d.S k).map c8).toArray := hV 6 (by simp)
    have hS2 : Below x.heap.size x w' := hS
    simp only [putl, List.foldl_cons, List.foldl_nil, Act.put, List.setIfInBounds_toArray, List.set_cons_zero, List.set_cons_succ, e6, e7]
    clear hV e6 e7 hS
    have hst : Below x.heap.size x (w'.setCells R 0 ((d.S k).map c8)) := ⟨(World.os_setCells _ _ _ _).trans hS2.os, (tape_setCells _ _ _ _).trans hS2.tape, (World.output_setCells _ _ _ _).trans hS2.output, by rw [sz_setCells]; exact hS2.size, fun i hi => (World.heap_setCells_other _ _ _ _ (by have := hS2.size; omega) (by omega)).trans (hS2.block i hi)⟩
    have hRr := World.rangeAt_setCells_same w' R 0 ((d.S k).map c8) (by rw [List.length_map, hlk]; exact hRt)
    have hRt2 := World.there_setCells hRt R 0 ((d.S k).map c8)
    have hRl2 : R < (w'.setCells R 0 ((d.S k).map c8)).heap.size := by rw [sz_setCells]; exact hRl
    obtain ⟨y, hy⟩ : ∃ y, w'.setCells R 0 ((d.S k).map c8) = y := ⟨_, rfl⟩
    have hc1y : y.cell? ⟨g, 1, none⟩ = some (.slice ao d.W.length c) := by rw [← hy]; exact (World.cell?_of_block (a := ⟨g, 1, none⟩) (hst.block g hgx)).trans c1x
    simp only [List.drop_succ_cons, List.drop_zero]
    go_wp2_with (first
      | (with_reducible refine store58m rfl (.tmp 7) (.tmp 22) rfl R 0 (d.S k) rfl rfl hlk hRt ?_)
      | (go_at_call 38; (with_reducible refine (back27 _ _ _ _).mono ?_); rintro e w4 ⟨rfl, rfl⟩))
    have hpw : ∀ p ∈ d.W, p.2.length = 512 := fun p hp => (hDx.wl p hp).2
    have hsy : w.heap.size ≤ y.heap.size := by rw [← hy]; exact Nat.le_trans (Nat.le_of_lt h3x) hst.size
    have hb0y : Below w.heap.size w y := by rw [← hy]; exact hbx0.trans (hst.mono (Nat.le_of_lt h3x))
    have hI0 : IR w R k (d.S k) y := by
      rw [← hy]
      exact ⟨hRr, hRt2, (World.cell?_of_block (a := ⟨w.heap.size, 0, none⟩) (hst.block _ h3x)).trans c3x⟩
    have hE0 : Ents w.heap.size y (.slice ao d.W.length c) d.W := by
      rcases own0.2 with ⟨e, e0⟩ | ⟨q', cap, cur, e, _⟩
      · have e1 : d.W = [] := List.eq_nil_of_length_eq_zero e0
        exact .inl ⟨e, e1⟩
      · injection e with e1 _ e3
        subst e1
        have hlt := own0.lt q' rfl
        refine .inr ⟨q', c, rfl, hlt.2, fun j p hp i v hv => ?_⟩
        have := own0.cells (g := q') rfl (j * 513 + i) v (flat_at hpw j p hp i v hv)
        rw [Addr.add_mid, Nat.zero_add] at this
        exact (hb0y.cell (p := ⟨q', _, none⟩) hlt.2).trans this
    have hR2 : w.heap.size ≤ R ∧ R < y.heap.size := ⟨by omega, by rw [← hy]; exact hRl2⟩
    have hRw : w.heap.size < R := by omega
    clear hy hst hRr hRt2 hRl2 hRl hRt hS2 hc1y hDx hD own hoA hlc c1x c3x hz58 hbx0
    obtain ⟨Y, hY⟩ : ∃ Y, y.alloc (.cells #[.slice ao d.W.length c] 42) = Y := ⟨_, rfl⟩
    have hbY : Below y.heap.size y Y := by rw [← hY]; exact (Below.refl _ _).alloc (Nat.le_refl _) _
    have hcY : Y.cell? ⟨y.heap.size, 0, none⟩ = some (.slice ao d.W.length c) := by rw [← hY]; exact (Boxed.new y 42 _).cell
    have hyY : y.heap.size < Y.heap.size := by rw [← hY]; simp
    rw [hY]
    clear hY
    have hIY : IR w R k (d.S k) Y := hI0.below hlk hbY
    have hb0Y : Below w.heap.size w Y := hb0y.trans (hbY.mono hsy)
    refine (wpIn_wide (n := 9)).1 (wpIn_rangeFunc_ownH (F := Fence.wide) rfl (by omega) (gf := 46) (lb := #[.pointer (some ⟨y.heap.size, 0, none⟩)]) rfl trivial (enters_of Try.func46 (by kernel_rfl) rfl)
      (back_stops Fence.wide 8 trivial rfl (by omega) y.heap.size w.heap.size _ d.W hpw hW Y hyY (by omega) hcY (hE0.below (hbY.mono hsy)))
      (fun h1 h2 => ⟨h1.b.trans h2.b, fun v h => h2.c v (h1.c v h)⟩)
      (fun X l o o' hl hX hc hw => ⟨belowK_b (w := Y) (by omega) X l o o' hl hX hc hw, fun v h => cell_kept h (grownBy_putObj' X l o') (fun r e => by cases e; exact ⟨o, hX, hc⟩)⟩)
      (Below.refl _ _) (fun _ => rfl)
      (fun pre X => ((∀ e ∈ pre, e.2.1.1 ≠ k) ∧ IR w R k (d.S k) X) ∧ Below w.heap.size w X)
      (fun cd pre X => (cd = .exit 0 ∧ ∃ ini last, pre = ini ++ [last] ∧ (∀ e ∈ ini, e.2.1.1 ≠ k) ∧ last.2.1.1 = k ∧ IR w R k last.2.1.2 X) ∧ Below w.heap.size w X)
      (OwnFrom.and (fun s A B row hs hg hr => ⟨hs.1, hs.2.kept hg (fun r e => (hr r e).2)⟩) (ownFrom_below (Nat.le_refl _) (by omega)))
      (fun cd => OwnFrom.and (fun s A B row hs hg hr => by obtain ⟨e0, ini, last, e1, e2, e3, e4⟩ := hs; exact ⟨e0, ini, last, e1, e2, e3, e4.kept hg (fun r e => (hr r e).2)⟩) (ownFrom_below (Nat.le_refl _) (by omega)))
      ⟨⟨fun e he => by simp at he, hIY⟩, hb0Y⟩
      (fun e a' X => ∃ Bx, True ∧ X.rangeAt Bx 0 (wc e.2.1) ∧ a' = { tmps := #[.pointer (some ⟨g, 0, none⟩), .int .i64 (k : Int), undef, .pointer (some ⟨w.heap.size, 0, none⟩), .slice none 0 0, .int .i64 0, .int .i64 0, .pointer (some ⟨R, 0, none⟩), undef, .pointer (some ⟨Bx, 0, none⟩), .pointer (some ⟨g, 0, none⟩), .int .i64 (k : Int), .int .i64 0, .int .i64 0, .bool false, undef, vs 0, vs 1, vs 2, vs 3, vs 4, vs 5, .agg ((d.S k).map c8).toArray, .pointer (some ⟨g, 0, none⟩), .pointer (some ⟨g, 0, none⟩), .pointer (some ⟨g, 1, none⟩), .slice ao d.W.length c, .func (.func 46) #[] #[.pointer (some ⟨y.heap.size, 0, none⟩)], .int .i64 (e.1 : Int), .agg (wc e.2.1).toArray, undef, undef, undef, undef, undef, undef, undef], defers := [] })
      (fun e a' _ A B row hs hg hr => by obtain ⟨Bx, h1, h2, h3⟩ := hs; exact ⟨Bx, h1, fun j v hv => cell_kept (h2 j v hv) hg (fun r e => (hr r e).2), h3⟩)
      ?assign ?body ?done ?stop)
    case assign =>
      rintro l pre e X K ⟨⟨hp, hI⟩, hB⟩ hK
      obtain ⟨Z6, hZ6, hz60⟩ := zero60
      have hsX := hB.size
      have ht := there_new X Z6 76 513 (by omega)
      have hbf := below_fill X Z6 76 0 (wc e.2.1)
      have hrr := World.rangeAt_setCells_same _ X.heap.size 0 (wc e.2.1) (by rw [wc_len e.2.2]; exact ht)
      dsimp only [encE]
      gi_wp2_with (first
        | (refine inStore60 rfl (.tmp 9) (.tmp 29) rfl X.heap.size 0 e.2.1 rfl rfl e.2.2 ht ?_))
      exact hK _ _ (((KeepsOthers.alloc X _).trans (keeps_setCells _ _ _ _)).from _) ⟨hbf.mono hsX, fun v h => (World.cell?_of_block (a := ⟨y.heap.size, 0, none⟩) (hbf.block _ (World.block_lt_of_cell? X _ h))).trans h⟩ ⟨⟨hp, hI.below hlk hbf⟩, hB.trans (hbf.mono hsX)⟩ ⟨X.heap.size, trivial, hrr, rfl⟩
    case body =>
      rintro l pre e a' X hl hr ⟨⟨hp, hI⟩, hB⟩ ⟨Bx, -, hxr, rfl⟩ hlt
      obtain ⟨hx0, hx1⟩ := wc_parts hxr
      have hc3 := hI.c
      by_cases hek : e.2.1.1 = k
      · rw [hek] at hx0
        have hIt := hI.t
        gi_wp2_with (first
          | (refine inLoad58 rfl (.tmp 34) rfl Bx 1 e.2.1.2 rfl e.2.2 hx1 ?_)
          | (refine inStore58 rfl (.tmp 7) (.tmp 35) rfl R 0 e.2.1.2 rfl rfl e.2.2 hIt ?_))
        have hRX : R < X.heap.size := by
          obtain ⟨v, hv⟩ := Option.isSome_iff_exists.1 (hIt 0 (by omega)).1
          exact World.block_lt_of_cell? X _ hv
        exact ⟨(keeps_setCells _ _ _ _).from _, ⟨rfl, pre, e, rfl, hp, hek, ⟨World.rangeAt_setCells_same X R 0 _ (by rw [List.length_map, e.2.2]; exact hIt), World.there_setCells hIt _ _ _, (World.cell?_of_block (a := ⟨w.heap.size, 0, none⟩) (World.heap_setCells_other X R _ _ (World.block_lt_of_cell? X _ hc3) (by show w.heap.size ≠ R; omega))).trans hc3⟩⟩, hB.trans ⟨World.os_setCells _ _ _ _, tape_setCells _ _ _ _, World.output_setCells _ _ _ _, by rw [sz_setCells]; exact Nat.le_refl _, fun i hi => World.heap_setCells_other _ _ _ _ (by have := hB.size; omega) (by omega)⟩⟩
      · have hne : ((e.2.1.1 : Int) == (k : Int)) = false := by simp; omega
        gi_wp2
        exact ⟨KeepsFrom.refl _ _, ⟨Below.refl _ _, fun v h => h⟩, ⟨fun e2 he => (List.mem_append.1 he).elim (hp e2) (fun h => by rw [List.mem_singleton] at h; subst h; exact hek), hI⟩, hB⟩
    case done =>
      rintro D ys X hDl rfl ⟨⟨hp, hI⟩, hB⟩ hK
      have hI2 := hI.kept (grownBy_putObj' X D (.deferred none)) (fun r e => by cases e; exact ⟨_, hK, rfl⟩)
      have hlo : look (d.S k) d.W k = d.S k := look_none _ _ _ (fun p hpp => by
        obtain ⟨m, hm⟩ := List.getElem?_of_mem hpp
        have hml := (List.getElem?_eq_some_iff.1 hm).1
        have h1 := hp _ (upk_mem (hW := hpw) (show d.W.length - 1 - m < d.W.length by omega))
        unfold rev at h1
        rw [show d.W.length - 1 - (d.W.length - 1 - m) = m by omega] at h1
        have h2 := ent_at (hW := hpw) hml
        rw [hm] at h2
        injection h2 with h2
        rw [h2]; exact h1)
      have hRX : R < (X.putObj D (.deferred none)).heap.size := by
        obtain ⟨v, hv⟩ := Option.isSome_iff_exists.1 (hI2.t 0 (by omega)).1
        exact World.block_lt_of_cell? _ _ hv
      go_wp2_with fail
      refine ⟨by simp, .inl ⟨_, _, rfl, run_takeDeferred hK, ?_⟩⟩
      exact ⟨_, results_tmp2 rfl _ _ _, R, rfl, Nat.le_of_lt hRw, hRX, by rw [hlo]; exact hI2.r, hB.trans (belowK_b (w := Y) (by omega) X D _ _ hDl hK rfl rfl)⟩
    case stop =>
      rintro D cd pre X hDl ⟨m, hm, rfl⟩ ⟨⟨rfl, ini, last, e1, e2, e3, hI⟩, hB⟩ hK
      have hI2 := hI.kept (grownBy_putObj' X D (.deferred none)) (fun r e => by cases e; exact ⟨_, hK, rfl⟩)
      obtain ⟨m2, rfl, rfl, rfl⟩ := upk_last e1
      obtain ⟨j, hj⟩ : ∃ j, j = d.W.length - 1 - m2 := ⟨_, rfl⟩
      have hjl : j < d.W.length := by omega
      have hlo : look (d.S k) d.W k = (rev d.W hpw m2).2.1.2 := by
        refine look_at _ _ _ j (rev d.W hpw m2).2.1 ?_ e3 (fun q p hq hp => ?_)
        · unfold rev; rw [← hj]; exact ent_at (hW := hpw) hjl
        · have hql := (List.getElem?_eq_some_iff.1 hp).1
          have h1 := e2 _ (upk_mem (hW := hpw) (show d.W.length - 1 - q < m2 by omega))
          unfold rev at h1
          rw [show d.W.length - 1 - (d.W.length - 1 - q) = q by omega] at h1
          have h2 := ent_at (hW := hpw) hql
          rw [hp] at h2
          injection h2 with h2
          rw [h2]; exact h1
      have hRX : R < (X.putObj D (.deferred none)).heap.size := by
        obtain ⟨v, hv⟩ := Option.isSome_iff_exists.1 (hI2.t 0 (by omega)).1
        exact World.block_lt_of_cell? _ _ hv
      refine wpIn_wide.2 ?_
      go_wp2_with fail
      refine ⟨by simp, .inl ⟨_, _, rfl, run_takeDeferred hK, ?_⟩⟩
      exact ⟨_, results_tmp2 rfl _ _ _, R, rfl, Nat.le_of_lt hRw, hRX, by rw [hlo]; exact hI2.r, hB.trans (belowK_b (w := Y) (by omega) X D _ _ hDl hK rfl rfl)⟩
theorem read15n (A : Nat → Prop) (w : World) (g b n : Nat) (d : DS) (hD : Dk A w g b n d) (z : Int) (hm : Mayc n d z ≠ 0) :
    Calls Try.prog 23 #[.pointer (some ⟨g, 0, none⟩), .int .i64 z] w fun e w' => e = .returned (.tuple #[.slice none 0 0, .int .i64 (Mayc n d z)]) ∧ Below w.heap.size w w' := by
  obtain ⟨x, hx⟩ : ∃ x, w.alloc (.cells #[.int .i64 z] 3) = x := ⟨_, rfl⟩
  have hbx0 : Below w.heap.size w x := by rw [← hx]; exact (Below.refl _ _).alloc (Nat.le_refl _) _
  have hDx : Dk A x g b n d := hD.below hbx0
  have M25 := Lib.hid (may25 hDx z)
  have c3x : x.cell? ⟨w.heap.size, 0, none⟩ = some (.int .i64 z) := by rw [← hx]; exact (Boxed.new w 3 (.int .i64 z)).cell
  have hm1 : (Mayc n d z != 0) = true := by simpa using hm
  obtain ⟨mm, hmm⟩ : ∃ mm, Mayc n d z = mm := ⟨_, rfl⟩
  rw [hmm] at M25 hm1 ⊢
  clear hmm hm
  go_enter Try.func23, Try.ntmps23
  go_wp2_with (first | (go_at_call 37; (with_reducible refine M25.out.mono ?_); rintro e w2 ⟨rfl, h2⟩; obtain rfl : x = w2 := h2.symm))
  exact bodyPost_ret (results_tmp2 rfl _ _ _) rfl ⟨rfl, hbx0⟩

end Go.Proofs.Ytjabkfccfecmgaa
