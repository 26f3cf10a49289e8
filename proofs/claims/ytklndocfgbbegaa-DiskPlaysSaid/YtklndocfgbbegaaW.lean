/- The document's disk of bytes. -/
import Derived.Test.YtklndocfgbbegaaV
namespace Go.Proofs.Ytklndocfgbbegaa
open Go.ChangeShapes Go.WideShapes Go.ChangeAt Go.RowKit
set_option linter.unusedSimpArgs false
set_option linter.unusedVariables false
theorem info28' : (Try.prog.info? 28).map (fun i => (i.zero, i.size, i.bytes)) = some (some (.slice none 0 0), 1, 24) := by kernel_rfl
theorem zero51 (w : World) : (zeroValue 51).run Try.prog w = .ok (.agg #[.slice none 0 0, .slice none 0 0, .int .i64 0, .bool false]) w := by kernel_rfl
theorem wp_bs48 {o : Oper} {a : Act} {w : World} {K : Act → World → Prop} {Q : Exit → Act → World → Prop} (x : Operand) (ho : o.op = .buildSlice 48 1 #[(0, x)])
    (u : Value) (hx : a.eval x = u) (hu : u.cells = #[u]) (h : K (a.put o.dst (.slice (some ⟨w.heap.size, 0, none⟩) 1 1)) (w.alloc (.cells #[u] 28))) : o.wp Try.prog a w K Q := by
  obtain ⟨i0, hi, hz0, hz1, hz2⟩ := info_parts info28'
  have hb : (Instr.buildSlice 48 1 #[(0, u)]).run Try.prog w = .ok (.slice (some ⟨w.heap.size, 0, none⟩) 1 1) (w.alloc (.cells #[u] 28)) := by
    have e2 : Array.range 1 = #[0] := by simp [Array.range]; rfl
    simp [Instr.buildSlice, run_underlying Try.underlying48, sizeOf, typeInfo, zeroValue, hi, hz0, hz1, Instr.fill, newRow, hu, e2]
  unfold Oper.wp execOp
  simp only [ho, List.map_toArray, List.map_cons, List.map_nil, hx, Sem.run_bind, hb, Result.andThen_ok]
  exact h
theorem wp_app48 {o : Oper} {a : Act} {w : World} {K : Act → World → Prop} {Q : Exit → Act → World → Prop} (s x : Operand)
    (ho : o.op = .call { callee := .builtin .append, args := #[s, x], argTypes := #[48, 48] })
    (base : Nat) (v : Value) (n : Nat) (xs : List Value) (hs : a.eval s = v) (hown : w.ownsRow base 28 1 v n xs) (y : Nat) (e : Value) (hx : a.eval x = .slice (some ⟨y, 0, none⟩) 1 1) (hone : e.oneCell' = true) (hr : w.rangeAt y 0 [e])
    (hn : n ≤ 1000000) (hbase : base ≤ w.heap.size)
    (h : ∀ v' w', w'.ownsRow base 28 1 v' (n + 1) (xs ++ [e]) → w.grownBy w' v.ownBlock → K (a.put o.dst v') w') : o.wp Try.prog a w K Q := by
  obtain ⟨i0, hi, hz0, hz1, hz2⟩ := info_parts info28'
  have hcell : ∀ (j : Nat) u, [e][j]? = some u → w.cell? ((⟨y, 0, none⟩ : Addr).add j) = some u := fun j u hu => by rw [Addr.add_mid]; exact hr j u hu
  obtain ⟨v', w', hrun, h2, h3, _⟩ := run_append_own (P := Try.prog) w base 48 o.type 28 i0 _ 1 24 Try.underlying48 hi hz0 hz1 hz2 rfl (by omega) v n xs hown ⟨y, 0, none⟩ 1 1 [e] rfl hcell (fun u hu => by rw [List.mem_singleton] at hu; subst hu; exact hone) (by unfold maxLen; omega) (by omega) hbase
  unfold Oper.wp execOp
  simp only [ho, resolve, invoke, builtin, Sem.run_bind, Sem.run_pure, Result.andThen_ok, List.map_toArray, List.map_cons, List.map_nil, hs, hx, hrun]
  exact h v' w' h2 h3
/-- How the region's operations change the world. -/
structure Rv (ob : Option Nat) (g : Nat) (k : Nat) (w w' : World) : Prop where
  b : k ≠ 15 → k ≠ 18 → Below w.heap.size w w'
  o : k = 15 → w.grownBy w' ob
  s : k = 18 → w.grownBy w' (some g)
section
variable {g k1 s : Nat} {ob : Option Nat} {w w' : World}
theorem Rv.same (h2 : k1 ≠ 15) (h3 : k1 ≠ 18) (j : Below w.heap.size w w') : Rv ob g k1 w w' := ⟨fun _ _ => j, fun e => absurd e h2, fun e => absurd e h3⟩
theorem Rv.app (hj : w.grownBy w' ob) : Rv ob g 15 w w' := ⟨fun e => absurd rfl e, fun _ => hj, fun e => absurd e (by decide)⟩
theorem Rv.store {v : Value} {i : Nat} : Rv ob g 18 w (w.setCell ⟨g, i, none⟩ v) := ⟨fun _ e => absurd rfl e, fun e => absurd e (by decide), fun _ => ⟨rfl, rfl, rfl, by simp, fun k hk hne => heap_setCell_other w _ k _ (fun e => hne (by rw [e]))⟩⟩
theorem Rv.keep (r : Rv ob g k1 w w') (hob : ∀ q, ob = some q → q < s) (hg : g + 1 ≤ s) {j : Nat} (hj : s ≤ j) (hlt : j < w.heap.size) : w'.heap[j]? = w.heap[j]? := by
  by_cases h15 : k1 = 15
  · exact (r.o h15).block j hlt (fun e => by have := hob j e.symm; omega)
  · by_cases h18 : k1 = 18
    · exact (r.s h18).block j hlt (fun e => by injection e with e; omega)
    · exact (r.b h15 h18).block j hlt
theorem Rv.zw (r : Rv ob g k1 w w') (hob : ∀ q, ob = some q → q < s) (hg : g + 1 ≤ s) {q : Nat} {D : Sct} (z : Zw s w q D) : Zw s w' q D := z.keep (r.keep hob hg z.le z.tp.lt)
theorem Rv.own (r : Rv ob g k1 w w') {v : Value} {n : Nat} {T : List Byte} (h : Own w s v n T) (hob : ∀ q, ob = some q → q < s) (hg : g + 1 ≤ s) : Own w' s v n T :=
  rowKeep h fun q e => r.keep hob hg (h.lt q e).1 (h.lt q e).2
theorem Rv.row (r : Rv ob g k1 w w') (h15 : k1 ≠ 15) {v : Value} {n : Nat} {xs : List Value} (h : w.ownsRow (g + 1) 28 1 v n xs) : w'.ownsRow (g + 1) 28 1 v n xs := by
  refine rowKeep h fun q e => ?_
  by_cases h18 : k1 = 18
  · exact (r.s h18).block q (h.lt q e).2 (fun e2 => by injection e2 with e2; have := (h.lt q e).1; omega)
  · exact (r.b h15 h18).block q (h.lt q e).2
end
def V20 (g l c1 s x o m c i p p2 : Nat) (ao1 : Option Addr) (T : Sct) (F : List Value) : Nat → Value → World → Prop
  | 0, v, w => v = .pointer (some ⟨g, 0, none⟩)
  | 1, v, w => v = .pointer (some ⟨g, 0, none⟩)
  | 2, v, w => v = .pointer (some ⟨g, 0, none⟩)
  | 3, v, w => v = .pointer (some ⟨g, 0, none⟩)
  | 4, v, w => v = .slice ao1 l c1
  | 5, v, w => ∃ y, v = .slice (some ⟨y, 0, none⟩) 0 0 ∧ Own w s v 0 []
  | 6, v, w => v = .slice (some ⟨x, o, none⟩) m c
  | 7, v, w => v = .int .i64 (i : Nat)
  | 8, v, w => v = .int .i64 (p : Nat)
  | 9, v, w => v = .int .i64 (i : Nat)
  | 10, v, w => v = .int .i64 ((i + 1 : Nat) : Int)
  | 11, v, w => v = .int .i64 (p2 : Nat)
  | 12, v, w => ∃ a k, v = .slice (some ⟨x, o + p, none⟩) a k ∧ a = 512
  | 13, v, w => ∃ q c, v = .slice (some ⟨q, 0, none⟩) 512 c ∧ Zw s w q T
  | 14, v, w => ∃ y q c, v = .slice (some ⟨y, 0, none⟩) 1 1 ∧ s ≤ y ∧ TP w y 28 ∧ w.rangeAt y 0 [.slice (some ⟨q, 0, none⟩) 512 c] ∧ Zw s w q T
  | 15, v, w => ∃ a c2 q c, v = .slice a (l + 1) c2 ∧ w.ownsRow (g + 1) 28 1 v (l + 1) (F ++ [.slice (some ⟨q, 0, none⟩) 512 c]) ∧ Zw s w q T
  | 16, v, w => v = .pointer (some ⟨g, 0, none⟩)
  | 17, v, w => v = .pointer (some ⟨g, 0, none⟩)
  | 18, v, w => True
  | _, _, _ => True
theorem V20_keep (g l c1 s x o m c i p p2 : Nat) (ao1 : Option Addr) (T : Sct) (F : List Value) {ob : Option Nat} (hob : ∀ q, ob = some q → q < s) (hg : g + 1 ≤ s) (k1 i1 : Nat) (v : Value) (w w' : World) (hne : k1 ≠ i1) (h : V20 g l c1 s x o m c i p p2 ao1 T F i1 v w) (r : Rv ob g k1 w w') : V20 g l c1 s x o m c i p p2 ao1 T F i1 v w' := by
  rcases i1 with _ | _ | _ | _ | _ | _ | _ | _ | _ | _ | _ | _ | _ | _ | _ | _ | _ | _ | _ | _
  · exact h
  · exact h
  · exact h
  · exact h
  · exact h
  · obtain ⟨y, rfl, o⟩ := h
    exact ⟨_, rfl, r.own o hob hg⟩
  · exact h
  · exact h
  · exact h
  · exact h
  · exact h
  · exact h
  · exact h
  · obtain ⟨q, c, rfl, z⟩ := h
    exact ⟨_, _, rfl, r.zw hob hg z⟩
  · obtain ⟨y, q, c, rfl, s1, t1, r1, z⟩ := h
    exact ⟨_, _, _, rfl, s1, t1.same (r.keep hob hg s1 t1.lt), fun j u hu => (World.cell?_of_block (a := ⟨y, _, none⟩) (r.keep hob hg s1 t1.lt)).trans (r1 j u hu), r.zw hob hg z⟩
  · obtain ⟨a, c2, q, c, rfl, o, z⟩ := h
    exact ⟨_, _, _, _, rfl, r.row (fun e => hne e) o, r.zw hob hg z⟩
  · exact h
  · exact h
  · exact h
  · trivial
theorem SU.appL {gt n : Nat} {x w w' : World} {ob : Option Nat} {d2 : DS} {L : Nat → Bool} (h : SU gt n x ob d2 L w) (h18 : L 18 = false) (j : w.grownBy w' ob) (hob : ∀ q, ob = some q → gt < q ∧ TP x q 28) : SU gt n x ob d2 (fun j => j == 15 || L j) w' := by
  have ho := h.o h18
  have o2 : x.grownBy w' ob := ⟨j.os.trans ho.os, j.tape.trans ho.tape, j.output.trans ho.output, Nat.le_trans ho.size j.size, fun k hk hne => (j.block k (Nat.lt_of_lt_of_le hk ho.size) hne).trans (ho.block k hk hne)⟩
  exact ⟨Ft.grown o2 (fun q e => .inr ⟨(hob q e).1, .inl (hob q e).2⟩), fun e => by simp at e, fun _ => o2, fun e => by simp [h18] at e⟩
/-- A sector more, at the end. -/
theorem Rf.pushL {x w : World} {gt n : Nat} {d d' : DS} (h : Rf x gt n d) (Lv : Value) (LL : List Value) (hrow : x.ownsRow (gt + 1) 28 1 Lv n LL) (hLS : ∀ i v, LL[i]? = some v → Sl gt x v (d.S i)) (hc : x.cell? ⟨gt, 0, none⟩ = some Lv) (hj : x.grownBy w Lv.ownBlock) (hob : ∀ q, Lv.ownBlock = some q → gt < q ∧ TP x q 28) (v u : Value) (ho : w.ownsRow (gt + 1) 28 1 v (n + 1) (LL ++ [u])) (hu : Sl gt w u (d'.S n))
    (hS : ∀ i, i < n → d'.S i = d.S i) (hW : d'.W = d.W) (hf : d'.fuse = d.fuse) (hd : d'.down = d.down) : Rf (w.setCell ⟨gt, 0, none⟩ v) gt (n + 1) d' := by
  have hlt := h.lt
  have hl : LL.length = n := by have := hrow.1; omega
  obtain ⟨Lv', Wv, LL', WL, h1, h2, h3, h4, h5, h6⟩ := h.at_
  have hk : ∀ q e, TP x q e → e ≠ 28 → w.heap[q]? = x.heap[q]? := fun q e ht he => hj.block q ht.lt (fun e2 => (ht.ne (hob q e2.symm).2 he) rfl)
  have hg : w.heap[gt]? = x.heap[gt]? := hj.block gt hlt (fun e => by have := (hob gt e.symm).1; omega)
  have hne : ∀ k, gt < k → (w.setCell ⟨gt, 0, none⟩ v).heap[k]? = w.heap[k]? := fun k hk => heap_setCell_other w _ k v (fun e => by have e2 : k = gt := e; omega)
  refine ⟨⟨v, Wv, LL ++ [u], WL, by rw [heap_setCell_same w gt 0 _ 51 _ (hg.trans h1), hf, hd]; rfl, rowKeep ho fun q e => hne q (ho.lt q e).1, by rw [hW]; exact rowKeep h3 fun q e => (hne q (h3.lt q e).1).trans (hk q 66 (row_tp h3 q e) (by decide)), by rw [hW]; exact h4, fun i y hy => ?_, fun e he => (h6 e he).keep fun k hg ht => (hne k hg).trans (hk k 5 ht (by decide))⟩, fun p hp => by
    rw [hW] at hp
    have := h.wl p hp
    exact ⟨by omega, this.2⟩, by rw [hf]; exact h.fb⟩
  by_cases e : i < n
  · rw [List.getElem?_append_left (by omega)] at hy
    rw [hS i e]
    exact (hLS i y hy).keep fun k hg ht => (hne k hg).trans (hk k 5 ht (by decide))
  · rw [List.getElem?_append_right (by omega)] at hy
    have e2 : i = n := by
      rcases Nat.eq_or_lt_of_le (Nat.le_of_not_lt e) with h | h
      · exact h.symm
      · rw [List.getElem?_eq_none (by simp; omega)] at hy; cases hy
    subst e2
    rw [show i - LL.length = 0 by omega] at hy
    injection hy with hy
    subst hy
    exact hu.keep fun k hg _ => hne k hg
set_option maxRecDepth 4000 in
set_option maxHeartbeats 4000000 in
theorem rof20 (w : World) (x0 o0 c m n : Nat) (D : List Byte) (hm : m = D.length) (hn : D.length = n * 512) (h1 : 1 ≤ n ∧ n ≤ 4096) (hc : m ≤ c) (hr : w.rangeAt x0 o0 (D.map c8)) (hx : x0 < w.heap.size) :
    Calls Try.prog 20 #[.slice (some ⟨x0, o0, none⟩) m c] w fun e w' => ∃ g, e = .returned (.pointer (some ⟨g, 0, none⟩)) ∧ w.heap.size ≤ g ∧ Rf w' g n (dI D n) ∧ Below w.heap.size w w' := by
  have e1 : ((m : Int).tmod 512 != 0) = false := by rw [Int.tmod_eq_emod_of_nonneg (by omega)]; simp; omega
  have e2 : ((m : Int) % 512 != 0) = false := by simp; omega
  have e3 : (m : Int).tdiv 512 = n := by rw [Int.tdiv_eq_ediv_of_nonneg (by omega)]; omega
  have e4 : (m : Int) / 512 = n := by omega
  have ew : IntKind.i64.wrap (n : Int) = n := IntWalk.i64_in _ (by omega)
  have t1 : decide ((n : Int) < 1) = false := by simp; omega
  have t1' : decide (n < 1) = false := by simp; omega
  have t2 : decide ((n : Int) > 4096) = false := by simp; omega
  have t2' : decide (4096 < n) = false := by simp; omega
  have hz51 := zero51
  have HM := Lib.hid hm
  have HN := Lib.hid hn
  have hz : m = n * 512 := by omega
  have HZ := Lib.hid hz
  clear hm hn hz
  go_enter Try.func20, Try.ntmps20
  go_wp2_with fail
  go_loopg [5] n (fun gk v5 wr => ∃ j : Nat, v5 = .int .i64 j ∧ j + gk = n ∧ Rf wr w.heap.size j (dI D j) ∧ Below w.heap.size w wr)
  case atStart =>
    refine ⟨0, rfl, by omega, ⟨⟨.slice none 0 0, .slice none 0 0, [], [], heap_alloc_new w _, World.ownsRow_nil _ _ _ _, World.ownsRow_nil _ _ _ _, rfl, (fun i v hv => by simp at hv), (fun e he => by cases he)⟩, (fun p hp => by cases hp), ⟨by show (-1 : Int) ≤ -1; omega, by show (-1 : Int) < _; omega⟩⟩, (Below.refl _ w).alloc (Nat.le_refl _) _⟩
  case round =>
    obtain ⟨j, rfl, hj, hDk, hF⟩ := hrel
    have HI := Lib.hid hj
    by_cases hin : j < n
    · have d1 : decide (j < n) = true := by simp; omega
      have d2 : decide ((j : Int) < (n : Int)) = true := by simp; omega
      obtain ⟨g, hge⟩ : ∃ g, w.heap.size = g := ⟨_, rfl⟩
      rw [hge] at hDk
      obtain ⟨p, hp⟩ : ∃ p, p = j * 512 := ⟨_, rfl⟩
      obtain ⟨p2, hp2⟩ : ∃ p2, p2 = (j + 1) * 512 := ⟨_, rfl⟩
      have HP : Hid (IntKind.i64.wrap ((j : Int) * 512) = (p : Int)) := Lib.hid (by rw [IntWalk.i64_in _ (by omega)]; omega)
      have HI1 : Hid (IntKind.i64.wrap ((j : Int) + 1) = ((j + 1 : Nat) : Int)) := Lib.hid (by rw [IntWalk.i64_in _ (by omega)]; omega)
      have HP2 : Hid (IntKind.i64.wrap (((j : Int) + 1) * 512) = (p2 : Int)) := Lib.hid (by rw [IntWalk.i64_in _ (by omega)]; omega)
      obtain ⟨T, hT⟩ : ∃ T, T = sec D j := ⟨_, rfl⟩
      have HT : Hid (T.length = 512) := Lib.hid (by rw [hT]; exact sec_len HN.out hin)
      have HL : Hid (p + 512 = p2 ∧ p2 ≤ m ∧ m ≤ c) := Lib.hid ⟨by omega, by have := HZ.out; have : (j + 1) * 512 ≤ n * 512 := Nat.mul_le_mul_right _ hin; omega, hc⟩
      have hl1 : (p : Int) ≤ (p2 : Int) := by have := HL.out; omega
      have hl2 : (p2 : Int) ≤ (c : Int) := by have := HL.out; omega
      have hl3 : (0 : Int) ≤ (p : Int) := by omega
      have HJN := Lib.hid (show j ≤ 4096 by omega)
      obtain ⟨x, hxr⟩ : ∃ x, wr = x := ⟨_, rfl⟩
      subst hxr
      obtain ⟨Lv, Wv, LL, WL, q1, q2, q3, q4, q5, q6⟩ := hDk.at_
      obtain ⟨ao1, k1, rfl⟩ := row_form q2
      have hgx : g + 1 ≤ wr.heap.size := hDk.lt
      have cx1 : wr.cell? ⟨g, 0, none⟩ = some (.slice ao1 j k1) := by rw [cell_of_row wr g 0 _ 51 _ q1]; rfl
      have hobx : ∀ q, (Value.slice ao1 j k1).ownBlock = some q → g < q ∧ TP wr q 28 := fun q e => ⟨(q2.lt q e).1, row_tp q2 q e⟩
      have HOB : Hid (∀ q, (Value.slice ao1 j k1).ownBlock = some q → q < wr.heap.size) := Lib.hid (fun q e => (q2.lt q e).2)
      have HB : Hid (∀ w1, Below wr.heap.size wr w1 → Bys w1 (some ⟨x0, o0 + p, none⟩) T) := Lib.hid (fun w1 jb => ⟨(fun e => by cases e), fun a ha i u hu => by
        injection ha with ha
        subst ha
        have hxw := hF.size
        have h9 : w1.rangeAt x0 o0 (D.map c8) := fun i v hv => (World.cell?_of_block (a := ⟨x0, _, none⟩) ((jb.block x0 (by omega)).trans (hF.block x0 hx))).trans (hr i v hv)
        have h10 := sec_rng h9 j i (c8 u) (by rw [← hT, List.getElem?_map, hu]; rfl)
        rw [Addr.add_mid, hp]
        exact h10⟩)
      have HOWN : Hid (∀ w1, Below wr.heap.size wr w1 → w1.ownsRow (g + 1) 28 1 (.slice ao1 j k1) j LL) := Lib.hid (fun w1 jb => rowKeep q2 fun q e => jb.block q (q2.lt q e).2)
      have HBL : ∀ L w1, SU g (j + 1) wr (Value.slice ao1 j k1).ownBlock (dI D (j + 1)) L w1 → L 18 = false → w1.heap[g]? = wr.heap[g]? := fun L w1 hS h18 => (hS.o h18).block g hgx (fun e => by have := (hobx g e.symm).1; omega)
      have HC1 : Hid (∀ L w1, SU g (j + 1) wr (Value.slice ao1 j k1).ownBlock (dI D (j + 1)) L w1 → L 18 = false → w1.cell? ⟨g, 0, none⟩ = some (.slice ao1 j k1)) := Lib.hid (fun L w1 hS h18 => (World.cell?_of_block (a := ⟨g, 0, none⟩) (HBL L w1 hS h18)).trans cx1)
      have HF1 : Hid (∀ L w1, SU g (j + 1) wr (Value.slice ao1 j k1).ownBlock (dI D (j + 1)) L w1 → L 18 = false → w1.frozen? ⟨g, 0, none⟩ = false) := Lib.hid (fun L w1 hS h18 => (World.frozen?_of_block (a := ⟨g, 0, none⟩) (HBL L w1 hS h18)).trans (hDk.frozen 0))
      have HAP : Hid (∀ (L : Nat → Bool) (w1 w2 : World), SU g (j + 1) wr (Value.slice ao1 j k1).ownBlock (dI D (j + 1)) L w1 → L 18 = false → w1.grownBy w2 (Value.slice ao1 j k1).ownBlock → SU g (j + 1) wr (Value.slice ao1 j k1).ownBlock (dI D (j + 1)) (fun j => j == 15 || L j) w2) := Lib.hid (fun L w1 w2 hS h18 hj => hS.appL h18 hj hobx)
      have HST : Hid (∀ (L : Nat → Bool) (w1 : World) (v : Value) (q c : Nat), SU g (j + 1) wr (Value.slice ao1 j k1).ownBlock (dI D (j + 1)) L w1 → L 18 = false → w1.ownsRow (g + 1) 28 1 v (j + 1) (LL ++ [.slice (some ⟨q, 0, none⟩) 512 c]) → Zw wr.heap.size w1 q T → SU g (j + 1) wr (Value.slice ao1 j k1).ownBlock (dI D (j + 1)) (fun j => j == 18 || L j) (w1.setCell ⟨g, 0, none⟩ v)) := Lib.hid (fun L w1 v q c hS h18 ho hz => by
        have eT : SI D (j + 1) j = T := by rw [hT]; exact if_pos (by omega)
        have hR := hDk.pushL (d' := dI D (j + 1)) (.slice ao1 j k1) LL q2 q5 cx1 (hS.o h18) hobx v (.slice (some ⟨q, 0, none⟩) 512 c) ho ⟨q, c, rfl, by show (SI D (j + 1) j).length = 512; rw [eT]; exact HT.out, by have := hz.le; omega, hz.tp, by show w1.rangeAt q 0 ((SI D (j + 1) j).map c8); rw [eT]; exact hz.rng⟩ (fun i hi => by
          show SI D (j + 1) i = SI D j i
          rw [SI_succ]
          exact if_neg (by omega)) rfl rfl rfl
        exact ⟨hS.f.setCell _ _ (.inl rfl), fun _ e => by simp at e, fun e => by simp at e, fun _ => hR⟩)
      have p20 : SU g (j + 1) wr (Value.slice ao1 j k1).ownBlock (dI D (j + 1)) (fun _ => false) wr.drew := ⟨Ft.of_below ((Below.refl _ _).drew), fun _ _ => (Below.refl _ _).drew, fun _ => ⟨rfl, rfl, rfl, Nat.le_refl _, fun _ _ _ => rfl⟩, fun e => by cases e⟩
      have HPP := Lib.hid hp
      have HPQ := Lib.hid hp2
      have HTT := Lib.hid hT
      clear hj hp hp2 hT cx1 hobx HBL q1 q3 q4 q5 q6
      go_upto_region 8 with fail
      rw [hge]
      refine region_monoN (SU g (j + 1) wr (Value.slice ao1 j k1).ownBlock (dI D (j + 1))) (Rv (Value.slice ao1 j k1).ownBlock g) (V20 g j k1 wr.heap.size x0 o0 m c j p p2 ao1 T LL) [(0, some 28), (1, some 29), (2, some 30), (3, some 31), (4, some 32), (5, some 33), (6, some 34), (7, some 35), (8, some 36), (9, some 37), (10, some 38), (11, some 39), (12, some 40), (13, some 41), (14, some 42), (15, some 43), (16, some 44), (17, some 45), (18, none)] (by kernel_rfl) (by kernel_rfl) (by kernel_rfl) (fun i1 j1 v1 w1 w2 hne h1 h4 => V20_keep g _ _ _ _ _ _ _ _ _ _ _ _ _ HOB.out hgx i1 j1 v1 w1 w2 hne h1 h4) (p20) ?_ (fun vs w' L hS hLL hV => ?_)
      · refine StepsN.cons0  (by kernel_rfl)  ?_ ?_
        · rintro L hC hL w1 hS  K hK
          (try simp only [Act.put, List.setIfInBounds_toArray, List.set_cons_zero, List.set_cons_succ])
          go_simp
          exact hK.out _ _ rfl ⟨hS.step _ (by decide) (by decide), Rv.same (by decide) (by decide) (Below.refl _ _)⟩
        refine StepsN.cons0  (by kernel_rfl)  ?_ ?_
        · rintro L hC hL w1 hS  K hK
          (try simp only [Act.put, List.setIfInBounds_toArray, List.set_cons_zero, List.set_cons_succ])
          go_simp
          exact hK.out _ _ rfl ⟨hS.step _ (by decide) (by decide), Rv.same (by decide) (by decide) (Below.refl _ _)⟩
        refine StepsN.cons1 1 (some 29) (by kernel_rfl) rfl ?_ ?_
        · rintro L hC hL w1 hS _ rfl K hK
          (try simp only [Act.put, List.setIfInBounds_toArray, List.set_cons_zero, List.set_cons_succ])
          go_simp
          exact hK.out _ _ rfl ⟨hS.step _ (by decide) (by decide), Rv.same (by decide) (by decide) (Below.refl _ _)⟩
        refine StepsN.cons1 2 (some 30) (by kernel_rfl) rfl ?_ ?_
        · rintro L hC hL w1 hS _ rfl K hK
          (try simp only [Act.put, List.setIfInBounds_toArray, List.set_cons_zero, List.set_cons_succ])
          go_simp
          exact hK.out _ _ rfl ⟨hS.step _ (by decide) (by decide), Rv.same (by decide) (by decide) (Below.refl _ _)⟩
        refine StepsN.cons1 3 (some 31) (by kernel_rfl) rfl ?_ ?_
        · rintro L hC hL w1 hS _ rfl K hK
          (try simp only [Act.put, List.setIfInBounds_toArray, List.set_cons_zero, List.set_cons_succ])
          have h4 : L 4 = false := hL
          have h15 := hC.no h4 (j := 15) rfl (by kernel_rfl)
          have h18 := hC.no h15 (j := 18) rfl (by kernel_rfl)
          have hc1 : w1.cell? ⟨g, 0, none⟩ = some (.slice ao1 j k1) := HC1.out L w1 hS h18
          go_simp
          exact hK.out _ _ rfl ⟨hS.step _ (by decide) (by decide), Rv.same (by decide) (by decide) (Below.refl _ _)⟩
        refine StepsN.cons0  (by kernel_rfl)  ?_ ?_
        · rintro L hC hL w1 hS  K hK
          (try simp only [Act.put, List.setIfInBounds_toArray, List.set_cons_zero, List.set_cons_succ])
          have h5 : L 5 = false := hL
          have h13 := hC.no h5 (j := 13) rfl (by kernel_rfl)
          have h14 := hC.no h13 (j := 14) rfl (by kernel_rfl)
          have h15 := hC.no h14 (j := 15) rfl (by kernel_rfl)
          have h18 := hC.no h15 (j := 18) rfl (by kernel_rfl)
          go_simp
          exact hK.out _ _ ⟨w1.heap.size, rfl, own_mono (own_new w1) hS.f.size⟩ ⟨hS.more 5 (by decide) (by decide) h15 h18 (B := wr.heap.size) rfl (below_le ((Below.refl _ w1).alloc (Nat.le_refl _) _) hS.f.size), Rv.same (by decide) (by decide) ((Below.refl _ w1).alloc (Nat.le_refl _) _)⟩
        refine StepsN.cons0  (by kernel_rfl)  ?_ ?_
        · rintro L hC hL w1 hS  K hK
          (try simp only [Act.put, List.setIfInBounds_toArray, List.set_cons_zero, List.set_cons_succ])
          go_simp
          exact hK.out _ _ rfl ⟨hS.step _ (by decide) (by decide), Rv.same (by decide) (by decide) (Below.refl _ _)⟩
        refine StepsN.cons0  (by kernel_rfl)  ?_ ?_
        · rintro L hC hL w1 hS  K hK
          (try simp only [Act.put, List.setIfInBounds_toArray, List.set_cons_zero, List.set_cons_succ])
          go_simp
          exact hK.out _ _ rfl ⟨hS.step _ (by decide) (by decide), Rv.same (by decide) (by decide) (Below.refl _ _)⟩
        refine StepsN.cons1 7 (some 35) (by kernel_rfl) rfl ?_ ?_
        · rintro L hC hL w1 hS _ rfl K hK
          (try simp only [Act.put, List.setIfInBounds_toArray, List.set_cons_zero, List.set_cons_succ])
          have ew := HP.out
          go_simp
          exact hK.out _ _ rfl ⟨hS.step _ (by decide) (by decide), Rv.same (by decide) (by decide) (Below.refl _ _)⟩
        refine StepsN.cons0  (by kernel_rfl)  ?_ ?_
        · rintro L hC hL w1 hS  K hK
          (try simp only [Act.put, List.setIfInBounds_toArray, List.set_cons_zero, List.set_cons_succ])
          go_simp
          exact hK.out _ _ rfl ⟨hS.step _ (by decide) (by decide), Rv.same (by decide) (by decide) (Below.refl _ _)⟩
        refine StepsN.cons1 9 (some 37) (by kernel_rfl) rfl ?_ ?_
        · rintro L hC hL w1 hS _ rfl K hK
          (try simp only [Act.put, List.setIfInBounds_toArray, List.set_cons_zero, List.set_cons_succ])
          have ew := HI1.out
          go_simp
          exact hK.out _ _ rfl ⟨hS.step _ (by decide) (by decide), Rv.same (by decide) (by decide) (Below.refl _ _)⟩
        refine StepsN.cons1 10 (some 38) (by kernel_rfl) rfl ?_ ?_
        · rintro L hC hL w1 hS _ rfl K hK
          (try simp only [Act.put, List.setIfInBounds_toArray, List.set_cons_zero, List.set_cons_succ])
          have ew := HP2.out
          go_simp
          exact hK.out _ _ rfl ⟨hS.step _ (by decide) (by decide), Rv.same (by decide) (by decide) (Below.refl _ _)⟩
        refine StepsN.cons3 6 (some 34) 8 (some 36) 11 (some 39) (by kernel_rfl) rfl rfl rfl ?_ ?_
        · rintro L hC hL w1 hS _ rfl _ rfl _ rfl K hK
          (try simp only [Act.put, List.setIfInBounds_toArray, List.set_cons_zero, List.set_cons_succ])
          have h1 := HL.out
          go_simp
          exact hK.out _ _ ⟨p2 - p, c - p, congrArg (fun q => Value.slice q (p2 - p) (c - p)) (if_neg (by omega)), by omega⟩ ⟨hS.step _ (by decide) (by decide), Rv.same (by decide) (by decide) (Below.refl _ _)⟩
        refine StepsN.cons2 5 (some 33) 12 (some 40) (by kernel_rfl) rfl rfl ?_ ?_
        · rintro L hC hL w1 hS _ ⟨y5, rfl, o5⟩ _ ⟨a12, k12, rfl, h12⟩ K hK
          (try simp only [Act.put, List.setIfInBounds_toArray, List.set_cons_zero, List.set_cons_succ])
          have h13 : L 13 = false := hL
          have h14 := hC.no h13 (j := 14) rfl (by kernel_rfl)
          have h15 := hC.no h14 (j := 15) rfl (by kernel_rfl)
          have h18 := hC.no h15 (j := 18) rfl (by kernel_rfl)
          rw [if_pos (by rfl)]
          refine wp_app_fresh (.tmp 33) (.tmp 40) rfl wr.heap.size y5 rfl o5 (some ⟨x0, o0 + p, none⟩) a12 k12 T rfl (h12.trans HT.out.symm) (HB.out w1 (hS.h h15 h18)) (by omega) hS.f.size ?_
          intro v' w2 ho hj
          subst h12
          obtain ⟨q9, c9, e9, hq1, hq2, hq3, -⟩ := row_pos ho (by omega)
          subst e9
          exact hK.out _ _ ⟨q9, c9, rfl, hq1, hq2, fun i9 u9 hu9 => by rw [Nat.zero_add]; exact hq3 i9 u9 hu9⟩ ⟨hS.more 13 (by decide) (by decide) h15 h18 rfl (below_le hj hS.f.size), Rv.same (by decide) (by decide) hj⟩
        refine StepsN.cons1 13 (some 41) (by kernel_rfl) rfl ?_ ?_
        · rintro L hC hL w1 hS _ ⟨q13, c13, rfl, z13⟩ K hK
          (try simp only [Act.put, List.setIfInBounds_toArray, List.set_cons_zero, List.set_cons_succ])
          have h14 : L 14 = false := hL
          have h15 := hC.no h14 (j := 15) rfl (by kernel_rfl)
          have h18 := hC.no h15 (j := 18) rfl (by kernel_rfl)
          rw [if_pos (by rfl)]
          refine wp_bs48 (.tmp 41) rfl (.slice (some ⟨q13, 0, none⟩) 512 c13) rfl rfl ?_
          have hj := (Below.refl w1.heap.size w1).alloc (Nat.le_refl _) (.cells [.slice (some ⟨q13, 0, none⟩) 512 c13].toArray 28)
          exact hK.out _ _ ⟨w1.heap.size, q13, c13, rfl, hS.f.size, ⟨_, _, heap_alloc_new w1 _⟩, range_new w1 _ 28, z13.below hj⟩ ⟨hS.more 14 (by decide) (by decide) h15 h18 rfl (below_le hj hS.f.size), Rv.same (by decide) (by decide) hj⟩
        refine StepsN.cons2 4 (some 32) 14 (some 42) (by kernel_rfl) rfl rfl ?_ ?_
        · rintro L hC hL w1 hS _ rfl _ ⟨y14, q14, c14, rfl, s14, t14, r14, z14⟩ K hK
          (try simp only [Act.put, List.setIfInBounds_toArray, List.set_cons_zero, List.set_cons_succ])
          have h15 : L 15 = false := hL
          have h18 := hC.no h15 (j := 18) rfl (by kernel_rfl)
          rw [if_pos (by rfl)]
          refine wp_app48 (.tmp 32) (.tmp 42) rfl (g + 1) (.slice ao1 j k1) j LL rfl (HOWN.out w1 (hS.h h15 h18)) y14 (.slice (some ⟨q14, 0, none⟩) 512 c14) rfl rfl r14 (by have := HJN.out; omega) (Nat.le_trans hgx hS.f.size) ?_
          intro v' w2 ho hj
          obtain ⟨a9, c9, rfl⟩ := row_form ho
          exact hK.out _ _ ⟨a9, c9, q14, c14, rfl, ho, z14.grown hj HOB.out⟩ ⟨HAP.out L w1 w2 hS h18 hj, Rv.app hj⟩
        refine StepsN.cons1 0 (some 28) (by kernel_rfl) rfl ?_ ?_
        · rintro L hC hL w1 hS _ rfl K hK
          (try simp only [Act.put, List.setIfInBounds_toArray, List.set_cons_zero, List.set_cons_succ])
          go_simp
          exact hK.out _ _ rfl ⟨hS.step _ (by decide) (by decide), Rv.same (by decide) (by decide) (Below.refl _ _)⟩
        refine StepsN.cons1 16 (some 44) (by kernel_rfl) rfl ?_ ?_
        · rintro L hC hL w1 hS _ rfl K hK
          (try simp only [Act.put, List.setIfInBounds_toArray, List.set_cons_zero, List.set_cons_succ])
          go_simp
          exact hK.out _ _ rfl ⟨hS.step _ (by decide) (by decide), Rv.same (by decide) (by decide) (Below.refl _ _)⟩
        refine StepsN.cons2 15 (some 43) 17 (some 45) (by kernel_rfl) rfl rfl ?_ ?_
        · rintro L hC hL w1 hS _ ⟨a15, d15, q15, c15, rfl, o15, z15⟩ _ rfl K hK
          (try simp only [Act.put, List.setIfInBounds_toArray, List.set_cons_zero, List.set_cons_succ])
          have h18 : L 18 = false := hL
          have hc1 := HC1.out L w1 hS h18
          have hf1 := HF1.out L w1 hS h18
          go_simp
          exact hK.out undef _ trivial ⟨HST.out L w1 _ q15 c15 hS h18 o15 z15, Rv.store⟩
        exact StepsN.nil
      · have hDf := hS.d (hLL 18 (by simp))
        have hFf := hF.size
        have hB2 : Below w.heap.size w w' := by
          have h7 := hS.f.toBelow (B := w.heap.size) hFf (by omega)
          exact ⟨h7.os.trans hF.os, h7.tape.trans hF.tape, h7.output.trans hF.output, Nat.le_trans hF.size h7.size, fun k hk => (h7.block k hk).trans (hF.block k hk)⟩
        simp only [putl, List.foldl_cons, List.foldl_nil, Act.put, List.setIfInBounds_toArray, List.set_cons_zero, List.set_cons_succ]
        clear hV hS hLL p20
        subst hge
        go_wp2_with fail
        go_roundg (gk - 1)
        case measure => have := HI.out; omega
        case rel => exact ⟨j + 1, by simp, by have := HI.out; omega, hDf, hB2⟩
    · have d1 : decide (j < n) = false := by simp; omega
      have d2 : decide ((j : Int) < (n : Int)) = false := by simp; omega
      obtain rfl : j = n := by omega
      clear hj
      go_wp2_with fail
      go_ret
      exact ⟨_, rfl, Nat.le_refl _, hDk, hF⟩
end Go.Proofs.Ytklndocfgbbegaa
