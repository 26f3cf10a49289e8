/- Steps that write bytes from a sector on. -/
import Derived.Test.YtjabkfccfecmgaaC1
namespace Go.Proofs.Ytjabkfccfecmgaa
open Go.ChangeShapes Go.WideShapes Go.ChangeAt Go.RowKit Go.Shelf
set_option linter.unusedSimpArgs false
set_option linter.unusedVariables false
attribute [local go_sem] Oper.semAt_some
theorem chunk_stops (n : Nat) (hn : 1 ≤ n) (Bs Bn : Nat) (ad : Addr) (ao : Option Addr) (m c : Nat) (hao : 0 < m → ao = some ad) (hmc : m ≤ c) (hml : m ≤ 100000) (w : World) (hs : w.cell? ⟨Bs, 0, none⟩ = some (.slice ao m c)) (hn2 : w.cell? ⟨Bn, 0, none⟩ = some (.int .i64 512)) :
    SeqStopsK Fence.wide n Try.prog 47 #[.pointer (some ⟨Bs, 0, none⟩), .pointer (some ⟨Bn, 0, none⟩)] (encC ad m) (KS Bs Bn) (fun ys => ys = List.range (nP m)) (fun pre => ∃ k, k ≤ nP m ∧ pre = List.range k) (nP m) w := fun l J Jx X hX hJ _ hY h0 =>
  chunk1 n hn l Bs Bn ad ao m c hao hmc hml J Jx (fun pre Y h => hJ pre Y Y.drew none h ⟨rfl, rfl, rfl, Nat.le_refl _, fun _ _ _ => rfl⟩ (fun r e => by cases e)) hY X (cell_below hs hX) (cell_below hn2 hX) h0
theorem chunk39 (ao : Option Addr) (m c : Nat) (w : World) :
    Calls Try.prog 39 #[.slice ao m c, .int .i64 512] w fun e w' => e = .returned (.func (.func 47) #[] #[.pointer (some ⟨w.heap.size, 0, none⟩), .pointer (some ⟨w.heap.size + 1, 0, none⟩)]) ∧ w' = (w.alloc (.cells #[.slice ao m c] 23)).alloc (.cells #[.int .i64 512] 3) := by
  go_enter Try.func39, Try.ntmps39
  go_wp2_with fail
  go_ret
  exact ⟨by simp, rfl⟩
/-- All blocks of cells are as they were. -/
def Kc (w w' : World) : Prop := ∀ (k : Nat) cs t f, w.heap[k]? = some (Obj.cells cs t f) → w'.heap[k]? = some (Obj.cells cs t f)
theorem kc_of {A B : World} {row : Option Nat} (hg : A.grownBy B row) (hr : ∀ r, row = some r → ∃ o : Obj, A.heap[r]? = some o ∧ o.isCells = false) : Kc A B := fun k cs t f hk =>
  (hg.block k (Array.getElem?_eq_some_iff.1 hk).1 (fun e => by
    obtain ⟨o, h1, h2⟩ := hr k e.symm
    rw [hk] at h1
    injection h1 with h1
    rw [← h1] at h2
    cases h2)).trans hk
theorem kc_below {A B : World} (h : Below A.heap.size A B) : Kc A B := fun k cs t f hk => (h.block k (Array.getElem?_eq_some_iff.1 hk).1).trans hk
def svC (ad : Addr) (m x : Nat) : Value := .slice (some (ad.add (512 * x))) (pl m x) (pl m x)
/-- One closure. -/
def El (Y X : World) (qd at_ : Nat) (ad : Addr) (m j x : Nat) (v : Value) : Prop :=
  ∃ xt xp, v = .func (.func 40) #[] #[.pointer (some ⟨qd, 0, none⟩), .pointer (some ⟨xt, 0, none⟩), .pointer (some ⟨xp, 0, none⟩)] ∧ Y.heap.size ≤ xt ∧ Y.heap.size ≤ xp ∧
    X.heap[xt]? = some (.cells #[.int .i64 ((at_ + j : Nat) : Int)] 3 (0, 0)) ∧ X.heap[xp]? = some (.cells #[svC ad m x] 23 (0, 0))
/-- What has been laid so far. -/
structure LI (w Y : World) (ql qa qd g at_ : Nat) (ad : Addr) (m : Nat) (pre : List Nat) (X : World) : Prop where
  l : ∃ lv vals, X.heap[ql]? = some (.cells #[lv] 51 (0, 0)) ∧ X.ownsRow Y.heap.size 68 1 lv pre.length vals ∧ ∀ (j x : Nat), pre[j]? = some x → ∃ v, vals[j]? = some v ∧ El Y X qd at_ ad m j x v
  a : X.heap[qa]? = some (.cells #[.int .i64 ((at_ + pre.length : Nat) : Int)] 3 (0, 0))
  d : X.heap[qd]? = some (.cells #[.pointer (some ⟨g, 0, none⟩)] 25 (0, 0))
  b : Below w.heap.size w X
  s : Y.heap.size ≤ X.heap.size
theorem El.kc {Y X X' : World} {qd at_ : Nat} {ad : Addr} {m j x : Nat} {v : Value} (h : El Y X qd at_ ad m j x v) (k : Kc X X') : El Y X' qd at_ ad m j x v := by
  obtain ⟨xt, xp, h1, h2, h3, h4, h5⟩ := h
  exact ⟨xt, xp, h1, h2, h3, k _ _ _ _ h4, k _ _ _ _ h5⟩
theorem own_kc {w w' : World} {base n size : Nat} {e : TypeId} {v : Value} {xs : List Value} (h : w.ownsRow base e size v n xs) (k : Kc w w') : w'.ownsRow base e size v n xs := by
  refine ⟨h.1, h.2.imp id ?_⟩
  rintro ⟨g, cap, cur, h1, h2, h3, h4⟩
  exact ⟨g, cap, cur, h1, h2, k _ _ _ _ h3, h4⟩
theorem LI.kc {w Y X X' : World} {ql qa qd g at_ : Nat} {ad : Addr} {m : Nat} {pre : List Nat} (h : LI w Y ql qa qd g at_ ad m pre X) (k : Kc X X') (b : Below w.heap.size w X') (s : X.heap.size ≤ X'.heap.size) : LI w Y ql qa qd g at_ ad m pre X' := by
  obtain ⟨lv, vals, h1, h2, h3⟩ := h.l
  exact ⟨⟨lv, vals, k _ _ _ _ h1, own_kc h2 k, fun j x hj => by obtain ⟨v, e1, e2⟩ := h3 j x hj; exact ⟨v, e1, e2.kc k⟩⟩, k _ _ _ _ h.a, k _ _ _ _ h.d, b, Nat.le_trans h.s s⟩
/-- One more is laid. -/
theorem LI.step {w Y X X3 : World} {ql qa qd g at_ : Nat} {ad : Addr} {m : Nat} {pre : List Nat} (h : LI w Y ql qa qd g at_ ad m pre X) {p8 x : Nat} (h8 : X.heap[p8]? = some (.cells #[svC ad m x] 23 (0, 0))) (hp8 : Y.heap.size ≤ p8)
    (q1 : w.heap.size ≤ qd ∧ qd < qa ∧ qa < ql ∧ ql < Y.heap.size) {lv lv' : Value} {vals : List Value} (hl : X.heap[ql]? = some (.cells #[lv] 51 (0, 0))) (ho : X.ownsRow Y.heap.size 68 1 lv pre.length vals) (hv : ∀ (j x : Nat), pre[j]? = some x → ∃ v, vals[j]? = some v ∧ El Y X qd at_ ad m j x v)
    (o3 : X3.ownsRow Y.heap.size 68 1 lv' (pre.length + 1) (vals ++ [.func (.func 40) #[] #[.pointer (some ⟨qd, 0, none⟩), .pointer (some ⟨X.heap.size, 0, none⟩), .pointer (some ⟨p8, 0, none⟩)]])) (g3 : ((X.alloc (.cells #[.int .i64 ((at_ + pre.length : Nat) : Int)] 3)).alloc (.cells #[.func (.func 40) #[] #[.pointer (some ⟨qd, 0, none⟩), .pointer (some ⟨X.heap.size, 0, none⟩), .pointer (some ⟨p8, 0, none⟩)]] 68)).grownBy X3 lv.ownBlock)
    {Bs Bn : Nat} (hBs : Bs < Y.heap.size ∧ Bs ≠ ql ∧ Bs ≠ qa) (hBn : Bn < Y.heap.size ∧ Bn ≠ ql ∧ Bn ≠ qa) :
    LI w Y ql qa qd g at_ ad m (pre ++ [x]) ((X3.setCell ⟨ql, 0, none⟩ lv').setCell ⟨qa, 0, none⟩ (.int .i64 ((at_ + (pre.length + 1) : Nat) : Int))) ∧
    KeepsFrom Y.heap.size X ((X3.setCell ⟨ql, 0, none⟩ lv').setCell ⟨qa, 0, none⟩ (.int .i64 ((at_ + (pre.length + 1) : Nat) : Int))) ∧ KS Bs Bn X ((X3.setCell ⟨ql, 0, none⟩ lv').setCell ⟨qa, 0, none⟩ (.int .i64 ((at_ + (pre.length + 1) : Nat) : Int))) := by
  have hs := h.s
  have row : ∀ k, lv.ownBlock = some k → Y.heap.size ≤ k ∧ ∃ cur, X.heap[k]? = some (.cells cur 68 (0, 0)) := fun k hk => by
    refine ⟨(ho.lt k hk).1, ?_⟩
    rcases ho.2 with ⟨e, _⟩ | ⟨gq, cap, cur, e, _, hh, _⟩
    · rw [e] at hk; cases hk
    · rw [e] at hk
      injection hk with hk
      change gq = k at hk
      exact ⟨cur, by rw [← hk]; exact hh⟩
  obtain ⟨X2, hX2⟩ : ∃ X2, (X.alloc (.cells #[.int .i64 ((at_ + pre.length : Nat) : Int)] 3)).alloc (.cells #[.func (.func 40) #[] #[.pointer (some ⟨qd, 0, none⟩), .pointer (some ⟨X.heap.size, 0, none⟩), .pointer (some ⟨p8, 0, none⟩)]] 68) = X2 := ⟨_, rfl⟩
  have b2 : Below X.heap.size X X2 := by rw [← hX2]; exact ((Below.refl _ X).alloc (Nat.le_refl _) _).alloc (by simp) _
  have hxt : X2.heap[X.heap.size]? = some (.cells #[.int .i64 ((at_ + pre.length : Nat) : Int)] 3 (0, 0)) := by
    rw [← hX2]; exact (Below.heap_alloc _ _ _ (by simp)).trans (heap_alloc_new X _)
  rw [hX2] at g3
  -- what is kept from X to X3
  have k3 : ∀ (k : Nat) o, X.heap[k]? = some o → (∀ cur, o ≠ .cells cur 68 (0, 0)) → X3.heap[k]? = some o := fun k o hk hn => by
    have hkl := (Array.getElem?_eq_some_iff.1 hk).1
    refine (g3.block k (Nat.lt_of_lt_of_le hkl b2.size) (fun e => ?_)).trans ((b2.block k hkl).trans hk)
    obtain ⟨_, cur, hc⟩ := row k e.symm
    rw [hk] at hc
    injection hc with hc
    exact hn cur hc
  have hxt3 : X3.heap[X.heap.size]? = some (.cells #[.int .i64 ((at_ + pre.length : Nat) : Int)] 3 (0, 0)) := by
    refine (g3.block _ (Array.getElem?_eq_some_iff.1 hxt).1 (fun e => ?_)).trans hxt
    have := (ho.lt _ e.symm).2
    omega
  have s3 : X.heap.size ≤ X3.heap.size := Nat.le_trans b2.size g3.size
  have hl3 := k3 _ _ hl (by simp)
  have ha3 := k3 _ _ h.a (by simp)
  have hd3 := k3 _ _ h.d (by simp)
  have h83 := k3 _ _ h8 (by simp)
  obtain ⟨X4, hX4⟩ : ∃ X4, X3.setCell ⟨ql, 0, none⟩ lv' = X4 := ⟨_, rfl⟩
  obtain ⟨X5, hX5⟩ : ∃ X5, X4.setCell ⟨qa, 0, none⟩ (.int .i64 ((at_ + (pre.length + 1) : Nat) : Int)) = X5 := ⟨_, rfl⟩
  rw [hX4, hX5]
  have o4 : ∀ k, k ≠ ql → X4.heap[k]? = X3.heap[k]? := fun k hk => by rw [← hX4]; exact heap_setCell_other X3 _ k _ (fun e => hk e)
  have o5 : ∀ k, k ≠ qa → X5.heap[k]? = X4.heap[k]? := fun k hk => by rw [← hX5]; exact heap_setCell_other X4 _ k _ (fun e => hk e)
  have o35 : ∀ k, k ≠ ql → k ≠ qa → X5.heap[k]? = X3.heap[k]? := fun k h1 h2 => (o5 k h2).trans (o4 k h1)
  have s5 : X5.heap.size = X3.heap.size := by rw [← hX5, ← hX4]; simp
  have hl5 : X5.heap[ql]? = some (.cells #[lv'] 51 (0, 0)) := by
    rw [o5 ql (by omega), ← hX4, heap_setCell_same X3 ql 0 _ 51 _ hl3]; rfl
  have ha5 : X5.heap[qa]? = some (.cells #[.int .i64 ((at_ + (pre.length + 1) : Nat) : Int)] 3 (0, 0)) := by
    have : X4.heap[qa]? = some (.cells #[.int .i64 ((at_ + pre.length : Nat) : Int)] 3 (0, 0)) := (o4 qa (by omega)).trans ha3
    rw [← hX5, heap_setCell_same X4 qa 0 _ 3 _ this]; rfl
  have hd5 := (o35 qd (by omega) (by omega)).trans hd3
  have hlen : vals.length = pre.length := by have := ho.1; omega
  have bX3 : Below w.heap.size w X3 := (h.b.trans (b2.mono h.b.size)).grown g3 (Nat.le_trans h.b.size b2.size) (fun k hk => by have := (row k hk).1; omega)
  refine ⟨⟨⟨lv', vals ++ [.func (.func 40) #[] #[.pointer (some ⟨qd, 0, none⟩), .pointer (some ⟨X.heap.size, 0, none⟩), .pointer (some ⟨p8, 0, none⟩)]], hl5, ?_, fun j y hj => ?_⟩, by rw [List.length_append]; exact ha5, hd5, ?_, by omega⟩, ⟨by omega, fun k o hB hk ho2 => ?_⟩, ⟨fun v hv2 => ?_, fun v hv2 => ?_⟩⟩
  · rw [List.length_append]
    show X5.ownsRow _ _ _ _ (pre.length + 1) _
    refine ⟨o3.1, o3.2.imp id ?_⟩
    rintro ⟨gq, cap, cur, e1, e2, e3, e4⟩
    exact ⟨gq, cap, cur, e1, e2, (o35 gq (by omega) (by omega)).trans e3, e4⟩
  · rcases Nat.lt_or_ge j pre.length with hj2 | hj2
    · rw [List.getElem?_append_left hj2] at hj
      obtain ⟨v, e1, xt, xp, e2, e3, e4, e5, e6⟩ := hv j y hj
      refine ⟨v, by rw [List.getElem?_append_left (by omega)]; exact e1, xt, xp, e2, e3, e4, (o35 xt (by omega) (by omega)).trans (k3 _ _ e5 (by simp)), (o35 xp (by omega) (by omega)).trans (k3 _ _ e6 (by simp))⟩
    · rw [List.getElem?_append_right hj2] at hj
      have hj3 : j = pre.length := by
        have := (List.getElem?_eq_some_iff.1 hj).1
        simp at this; omega
      subst hj3
      simp at hj
      subst hj
      refine ⟨_, by rw [List.getElem?_append_right (by omega), hlen]; simp, X.heap.size, p8, rfl, hs, hp8, (o35 _ (by omega) (by omega)).trans hxt3, (o35 p8 (by omega) (by omega)).trans h83⟩
  · rw [← hX5, ← hX4]
    exact (bX3.setCell (p := ⟨ql, 0, none⟩) (by show w.heap.size ≤ ql; omega) _).setCell (p := ⟨qa, 0, none⟩) (by show w.heap.size ≤ qa; omega) _
  · have hk1 : k ≠ ql := by omega
    have hk2 : k ≠ qa := by omega
    exact (o35 k hk1 hk2).trans (k3 k o hk (fun cur e => by rw [e] at ho2; cases ho2))
  · have hb := World.block_lt_of_cell? _ _ hv2
    refine (World.cell?_of_block (a := ⟨Bs, 0, none⟩) ?_).trans hv2
    show X5.heap[Bs]? = X.heap[Bs]?
    rw [o35 Bs hBs.2.1 hBs.2.2, g3.block Bs (Nat.lt_of_lt_of_le hb b2.size) (fun e => by have := (row Bs e.symm).1; omega), b2.block Bs hb]
  · have hb := World.block_lt_of_cell? _ _ hv2
    refine (World.cell?_of_block (a := ⟨Bn, 0, none⟩) ?_).trans hv2
    show X5.heap[Bn]? = X.heap[Bn]?
    rw [o35 Bn hBn.2.1 hBn.2.2, g3.block Bn (Nat.lt_of_lt_of_le hb b2.size) (fun e => by have := (row Bn e.symm).1; omega), b2.block Bn hb]
/-- What the append leaves of the boxes. -/
theorem LI.boxes {w Y X X3 : World} {ql qa qd g at_ : Nat} {ad : Addr} {m : Nat} {pre : List Nat} (h : LI w Y ql qa qd g at_ ad m pre X) {o1 o2 : Obj}
    (q1 : w.heap.size ≤ qd ∧ qd < qa ∧ qa < ql ∧ ql < Y.heap.size) {lv : Value} {vals : List Value} (hl : X.heap[ql]? = some (.cells #[lv] 51 (0, 0))) (ho : X.ownsRow Y.heap.size 68 1 lv pre.length vals)
    (g3 : ((X.alloc o1).alloc o2).grownBy X3 lv.ownBlock) (lv' : Value) :
    X3.cell? ⟨ql, 0, none⟩ = some lv ∧ X3.frozen? ⟨ql, 0, none⟩ = false ∧ (X3.setCell ⟨ql, 0, none⟩ lv').cell? ⟨qa, 0, none⟩ = some (.int .i64 ((at_ + pre.length : Nat) : Int)) ∧ (X3.setCell ⟨ql, 0, none⟩ lv').frozen? ⟨qa, 0, none⟩ = false := by
  have hs := h.s
  have b2 : Below X.heap.size X ((X.alloc o1).alloc o2) := ((Below.refl _ X).alloc (Nat.le_refl _) _).alloc (by simp) _
  have k3 : ∀ k, k < Y.heap.size → X3.heap[k]? = X.heap[k]? := fun k hk => (g3.block k (by simp; omega) (fun e => by have := (ho.lt k e.symm).1; omega)).trans (b2.block k (by omega))
  have hl3 := (k3 ql q1.2.2.2).trans hl
  have ha3 := (k3 qa (by omega)).trans h.a
  have ha4 : (X3.setCell ⟨ql, 0, none⟩ lv').heap[qa]? = some (.cells #[.int .i64 ((at_ + pre.length : Nat) : Int)] 3 (0, 0)) := (heap_setCell_other X3 _ qa _ (fun e => by have e2 : qa = ql := e; omega)).trans ha3
  exact ⟨by rw [cell_of_row _ _ _ _ _ _ hl3]; rfl, frozen_of_row _ _ _ _ _ hl3, by rw [cell_of_row _ _ _ _ _ _ ha4]; rfl, frozen_of_row _ _ _ _ _ ha4⟩
theorem add_zero_mid (b i : Nat) : (⟨b, 0, none⟩ : Addr).add i = ⟨b, i, none⟩ := by rw [Addr.add_mid, Nat.zero_add]
theorem five (h : Array Obj) (a b c d e : Obj) : (((((h.push a).push b).push c).push d).push e)[h.size]? = some a ∧ (((((h.push a).push b).push c).push d).push e)[h.size + 1]? = some b ∧ (((((h.push a).push b).push c).push d).push e)[h.size + 2]? = some c ∧
    (((((h.push a).push b).push c).push d).push e)[h.size + 3]? = some d ∧ (((((h.push a).push b).push c).push d).push e)[h.size + 4]? = some e := by
  refine ⟨?_, ?_, ?_, ?_, ?_⟩ <;> simp only [Array.getElem?_push, Array.size_push]
  · rw [if_neg (by omega), if_neg (by omega), if_neg (by omega), if_neg (by omega), if_pos trivial]
  · rw [if_neg (by omega), if_neg (by omega), if_neg (by omega), if_pos trivial]
  · rw [if_neg (by omega), if_neg (by omega), if_pos trivial]
  · rw [if_neg (by omega), if_pos trivial]
  · rw [if_pos trivial]
theorem info68' : (Try.prog.info? 68).map (·.size) = some 1 := by kernel_rfl
set_option maxRecDepth 4000 in
set_option maxHeartbeats 4000000 in
theorem lay24 (w : World) (g at_ : Nat) (ao : Option Addr) (m c : Nat) (ad : Addr) (hao : 0 < m → ao = some ad) (hmc : m ≤ c) (hml : m ≤ 100000) (hat : at_ ≤ 100000) :
    Calls Try.prog 24 #[.pointer (some ⟨g, 0, none⟩), .int .i64 (at_ : Int), .slice ao m c] w fun e w' => ∃ lv, e = .returned lv ∧ ∃ Y, LI w Y (w.heap.size + 2) (w.heap.size + 1) w.heap.size g at_ ad m (List.range (nP m)) w' ∧ w'.heap[w.heap.size + 2]? = some (.cells #[lv] 51 (0, 0)) ∧ w.heap.size + 5 ≤ Y.heap.size := by
  obtain ⟨i0, hin, hz0, hz1, hz2⟩ := info_parts info68
  refine (callsIn_wide (n := 9)).1 (callsIn_of_wp_marks Try.func24 rfl trivial (wpIn_wide.2 ?_))
  simp only [Try.ntmps24, List.size_toArray, List.length_cons, List.length_nil, Nat.reduceAdd, Nat.reduceSub, Array.replicate_succ, Array.replicate_zero, List.push_toArray, List.append_toArray, List.nil_append, List.cons_append]
  go_wp2_with (first
    | (go_at_call 39; (with_reducible refine (chunk39 _ _ _ _).mono ?_); rintro e w4 ⟨rfl, rfl⟩))
  obtain ⟨Y, hY⟩ : ∃ Y, ((((w.alloc (.cells #[.pointer (some ⟨g, 0, none⟩)] 25)).alloc (.cells #[.int .i64 (at_ : Int)] 3)).alloc (.cells #[.slice none 0 0] 51)).alloc (.cells #[.slice ao m c] 23)).alloc (.cells #[.int .i64 512] 3) = Y := ⟨_, rfl⟩
  have hYs : Y.heap.size = w.heap.size + 5 := by rw [← hY]; simp
  have hYb : Below w.heap.size w Y := by
    rw [← hY]
    exact (((((Below.refl w.heap.size w).alloc (Nat.le_refl _) _).alloc (by simp) _).alloc (by simp; omega) _).alloc (by simp; omega) _).alloc (by simp; omega) _
  have hd0 : Y.heap[w.heap.size]? = some (.cells #[.pointer (some ⟨g, 0, none⟩)] 25 (0, 0)) := by rw [← hY]; exact (five w.heap _ _ _ _ _).1
  have ha0 : Y.heap[w.heap.size + 1]? = some (.cells #[.int .i64 (at_ : Int)] 3 (0, 0)) := by rw [← hY]; exact (five w.heap _ _ _ _ _).2.1
  have hl0 : Y.heap[w.heap.size + 2]? = some (.cells #[.slice none 0 0] 51 (0, 0)) := by rw [← hY]; exact (five w.heap _ _ _ _ _).2.2.1
  have hs0 : Y.cell? ⟨w.heap.size + 3, 0, none⟩ = some (.slice ao m c) := by
    have : Y.heap[w.heap.size + 3]? = some (.cells #[.slice ao m c] 23 (0, 0)) := by rw [← hY]; exact (five w.heap _ _ _ _ _).2.2.2.1
    rw [cell_of_row _ _ _ _ _ _ this]; rfl
  have hn0 : Y.cell? ⟨w.heap.size + 4, 0, none⟩ = some (.int .i64 512) := by
    have : Y.heap[w.heap.size + 4]? = some (.cells #[.int .i64 512] 3 (0, 0)) := by rw [← hY]; exact (five w.heap _ _ _ _ _).2.2.2.2
    rw [cell_of_row _ _ _ _ _ _ this]; rfl
  obtain ⟨qd, hqd⟩ : ∃ qd, qd = w.heap.size := ⟨_, rfl⟩
  obtain ⟨qa, hqa⟩ : ∃ qa, qa = w.heap.size + 1 := ⟨_, rfl⟩
  obtain ⟨ql, hql⟩ : ∃ ql, ql = w.heap.size + 2 := ⟨_, rfl⟩
  obtain ⟨Bs, hBs⟩ : ∃ Bs, Bs = w.heap.size + 3 := ⟨_, rfl⟩
  obtain ⟨Bn, hBn⟩ : ∃ Bn, Bn = w.heap.size + 4 := ⟨_, rfl⟩
  rw [show w.heap.size + 1 + 1 + 1 + 1 = w.heap.size + 4 from rfl, show w.heap.size + 1 + 1 + 1 = w.heap.size + 3 from rfl, show w.heap.size + 1 + 1 = w.heap.size + 2 from rfl, hY, ← hBn, ← hBs, ← hql, ← hqa]
  rw [← hqd] at hd0
  rw [← hqa] at ha0
  rw [← hql] at hl0
  rw [← hBs] at hs0
  rw [← hBn] at hn0
  have q1 : w.heap.size ≤ qd ∧ qd < qa ∧ qa < ql ∧ ql < Y.heap.size := by omega
  have hBs1 : Bs < Y.heap.size ∧ Bs ≠ ql ∧ Bs ≠ qa := by omega
  have hBn1 : Bn < Y.heap.size ∧ Bn ≠ ql ∧ Bn ≠ qa := by omega
  have hI0 : LI w Y ql qa qd g at_ ad m [] Y := ⟨⟨.slice none 0 0, [], hl0, World.ownsRow_nil _ _ _ _, fun j x hj => by simp at hj⟩, ha0, hd0, hYb, Nat.le_refl _⟩
  rw [← hqd]
  have HQ := Lib.hid (And.intro hqd (And.intro hqa hql))
  clear hY hd0 ha0 hl0 hqd hqa hql hBs hBn
  refine (wpIn_wide (n := 9)).1 (wpIn_rangeFunc_ownH (F := Fence.wide) rfl (by omega) (gf := 47) (lb := #[.pointer (some ⟨Bs, 0, none⟩), .pointer (some ⟨Bn, 0, none⟩)]) rfl trivial (enters_of Try.func47 (by kernel_rfl) rfl)
    (chunk_stops 8 (by omega) Bs Bn ad ao m c hao hmc hml Y hs0 hn0)
    (fun h1 h2 => h1.trans h2)
    (fun X l o o' hl hX hc hw => ⟨fun v h => cell_kept h (grownBy_putObj' X l o') (fun r e => by cases e; exact ⟨o, hX, hc⟩), fun v h => cell_kept h (grownBy_putObj' X l o') (fun r e => by cases e; exact ⟨o, hX, hc⟩)⟩)
    (Below.refl _ _) (fun _ => rfl)
    (fun pre X => LI w Y ql qa qd g at_ ad m pre X)
    (fun cd pre X => False)
    (fun s A B row hs hg hr => hs.kc (kc_of hg (fun r e => (hr r e).2)) (hs.b.grown hg hs.b.size (fun k e => by have := (hr k e).1; omega)) hg.size)
    (fun cd s A B row hs hg hr => hs)
    hI0
    (fun x a' X => ∃ p8, Y.heap.size ≤ p8 ∧ X.heap[p8]? = some (.cells #[svC ad m x] 23 (0, 0)) ∧ a' = { tmps := #[.pointer (some ⟨g, 0, none⟩), .int .i64 (at_ : Int), .slice ao m c, .pointer (some ⟨qd, 0, none⟩), .pointer (some ⟨qa, 0, none⟩), undef, .slice none 0 0, .pointer (some ⟨ql, 0, none⟩), .pointer (some ⟨p8, 0, none⟩), undef, .slice ao m c, .func (.func 47) #[] #[.pointer (some ⟨Bs, 0, none⟩), .pointer (some ⟨Bn, 0, none⟩)], svC ad m x, undef, undef, undef, undef, undef, undef, undef, undef], defers := [] })
    (fun x a' _ A B row hs hg hr => by obtain ⟨p8, h1, h2, h3⟩ := hs; exact ⟨p8, h1, kc_of hg (fun r e => (hr r e).2) _ _ _ _ h2, h3⟩)
    ?assign ?body ?done ?stop)
  case assign =>
    rintro l pre x X K hI hK
    dsimp only [encC]
    gi_wp2
    have ba : Below X.heap.size X (X.alloc (.cells #[.slice (some (ad.add (512 * x))) (pl m x) (pl m x)] 23)) := (Below.refl _ X).alloc (Nat.le_refl _) _
    exact hK _ _ ((KeepsOthers.alloc X _).from _) ⟨fun v h => cell_below h ba, fun v h => cell_below h ba⟩ (hI.kc (kc_below ba) (hI.b.trans (ba.mono hI.b.size)) ba.size) ⟨X.heap.size, hI.s, heap_alloc_new X _, rfl⟩
  case body =>
    rintro l pre x a' X hlD hr hI ⟨p8, hp8, h8, rfl⟩ hlt
    obtain ⟨lv, vals, hl, ho, hv⟩ := hI.l
    have hca : X.cell? ⟨qa, 0, none⟩ = some (.int .i64 ((at_ + pre.length : Nat) : Int)) := by rw [cell_of_row _ _ _ _ _ _ hI.a]; rfl
    have hcl : (X.alloc (.cells #[.int .i64 ((at_ + pre.length : Nat) : Int)] 3)).cell? ⟨ql, 0, none⟩ = some lv := by
      refine cell_below ?_ ((Below.refl X.heap.size X).alloc (Nat.le_refl _) _)
      rw [cell_of_row _ _ _ _ _ _ hl]; rfl
    obtain ⟨kk, hkk⟩ : ∃ kk, at_ + pre.length = kk := ⟨_, rfl⟩
    obtain ⟨pn, hpn⟩ : ∃ pn, pre.length = pn := ⟨_, rfl⟩
    have hpl : pn ≤ 1000 := by rw [← hpn]; unfold nP at hlt; omega
    have e1 : IntKind.i64.wrap ((kk : Int) + 1) = (kk : Int) + 1 := IntWalk.i64_in _ (by omega)
    rw [hkk] at hca hcl
    have HI := Lib.hid (And.intro hI (And.intro hl (And.intro ho (And.intro hv (And.intro hkk hpn)))))
    have o2 := (ho.alloc (.cells #[.int .i64 (kk : Int)] 3)).alloc (.cells #[.func (.func 40) #[] #[.pointer (some ⟨qd, 0, none⟩), .pointer (some ⟨X.heap.size, 0, none⟩), .pointer (some ⟨p8, 0, none⟩)]] 68)
    rw [hpn] at o2
    have hYX := hI.s
    obtain ⟨al, cl, rfl⟩ := row_form ho
    clear hl ho hv hI hkk hpn
    gi_wp2_with (first
      | (refine wpListIn_append_own _ rfl (.tmp 14) (.tmp 16) 51 rfl Y.heap.size 68 i0 .nilFunc 1 8 Try.underlying51 hin hz0 hz1 hz2 rfl (by decide) _ pn vals rfl o2 ⟨X.heap.size + 1, 0, none⟩ 1 1 [.func (.func 40) #[] #[.pointer (some ⟨qd, 0, none⟩), .pointer (some ⟨X.heap.size, 0, none⟩), .pointer (some ⟨p8, 0, none⟩)]] rfl rfl ?c1 ?c2 ?c3 ?c4 ?c5 ?_; (case c1 => exact fun j u hu => by rw [add_zero_mid, cell_of_row _ _ _ _ _ _ (show ((X.alloc (.cells #[.int .i64 (kk : Int)] 3)).alloc (.cells #[.func (.func 40) #[] #[.pointer (some ⟨qd, 0, none⟩), .pointer (some ⟨X.heap.size, 0, none⟩), .pointer (some ⟨p8, 0, none⟩)]] 68)).heap[X.heap.size + 1]? = some (.cells #[.func (.func 40) #[] #[.pointer (some ⟨qd, 0, none⟩), .pointer (some ⟨X.heap.size, 0, none⟩), .pointer (some ⟨p8, 0, none⟩)]] 68 (0, 0)) by have := heap_alloc_new (X.alloc (.cells #[.int .i64 (kk : Int)] 3)) (.cells #[.func (.func 40) #[] #[.pointer (some ⟨qd, 0, none⟩), .pointer (some ⟨X.heap.size, 0, none⟩), .pointer (some ⟨p8, 0, none⟩)]] 68); rwa [World.size_alloc] at this)]; simpa using hu); (case c2 => simp [Value.oneCell']); (case c3 => unfold maxLen; omega); (case c4 => omega); (case c5 => simp; omega); intro lv' X3 o7 g7 _; obtain ⟨a7, c7, rfl⟩ := row_form o7; obtain ⟨bx1, bx2, bx3, bx4⟩ := HI.out.1.boxes q1 HI.out.2.1 HI.out.2.2.1 (o1 := .cells #[.int .i64 (kk : Int)] 3) g7 (.slice a7 (pn + 1) c7); (rw [HI.out.2.2.2.2.1] at bx3); have HR := Lib.hid (And.intro o7 g7); clear o7 g7))
    obtain ⟨h1, h2, h3, h4, hkk, hpn⟩ := HI.out
    subst hpn
    subst hkk
    have hst := h1.step h8 hp8 q1 h2 h3 h4 HR.out.1 HR.out.2 hBs1 hBn1
    have e : ((at_ + (pre.length + 1) : Nat) : Int) = ((at_ + pre.length : Nat) : Int) + 1 := by omega
    rw [e] at hst
    exact ⟨hst.2.1, hst.2.2, hst.1⟩
  case done =>
    rintro D ys X hDl rfl hI hK
    obtain ⟨lv, vals, hl, ho, hv⟩ := hI.l
    have hcl : X.cell? ⟨ql, 0, none⟩ = some lv := by rw [cell_of_row _ _ _ _ _ _ hl]; rfl
    have HI := Lib.hid (And.intro hI hl)
    clear hl ho hv hI
    go_wp2_with fail
    refine ⟨by simp, .inl ⟨_, _, rfl, run_takeDeferred hK, ?_⟩⟩
    have kk := kc_of (grownBy_putObj' X D (.deferred none)) (fun r e => by cases e; exact ⟨_, hK, rfl⟩)
    have gb := grownBy_putObj' X D (.deferred none)
    have hI2 := HI.out.1.kc kk (HI.out.1.b.grown gb HI.out.1.b.size (fun k e => by cases e; omega)) gb.size
    refine ⟨_, results_tmp rfl _ _ _, lv, rfl, Y, ?_, ?_, by omega⟩
    · rw [← HQ.out.2.2, ← HQ.out.2.1, ← HQ.out.1]; exact hI2
    · rw [← HQ.out.2.2]; exact kk _ _ _ _ HI.out.2
  case stop =>
    rintro D cd pre X hDl _ h
    exact h.elim
end Go.Proofs.Ytjabkfccfecmgaa
