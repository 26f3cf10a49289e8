/- A part's head, read. -/
import Derived.Test.YtjabkfccfecmgaaT
namespace Go.Proofs.Ytjabkfccfecmgaa
open Go.ChangeShapes Go.WideShapes Go.ChangeAt Go.RowKit
set_option linter.unusedSimpArgs false
set_option linter.unusedVariables false
theorem take16 (T : List Byte) (a k : Nat) (h : a + k ≤ 16) : ((T.take 16).drop a).take k = (T.drop a).take k := by
  rw [List.drop_take, List.take_take, Nat.min_eq_left (by omega)]
theorem h16_c (c l : Nat) : ((h16 c l).drop 4).take 8 = be 8 c := by
  unfold h16
  rw [List.append_assoc, List.drop_left' (show sg.length = 4 from rfl), List.take_left' (be_len 8 c)]
theorem h16_l (c l : Nat) : ((h16 c l).drop 12).take 4 = be 4 l := by
  unfold h16
  rw [List.drop_left' (show (sg ++ be 8 c).length = 12 by simp [sg, be_len]), List.take_of_length_le (by rw [be_len]; exact Nat.le_refl _)]
theorem bys_rng {w : World} {q o : Nat} {D : List Byte} (h : w.rangeAt q o (D.map c8)) : Bys w (some ⟨q, o, none⟩) D :=
  ⟨(fun e => by cases e), fun a ha j x hx => by
    injection ha with ha
    subst ha
    rw [Addr.add_mid]
    exact h j (c8 x) (by rw [List.getElem?_map, hx]; rfl)⟩
theorem rng_below {w w' : World} {q o : Nat} {vs : List Value} (h : w.rangeAt q o vs) (b : Below w.heap.size w w') : w'.rangeAt q o vs := fun j v hv => cell_below (h j v hv) b
theorem two_of {w : World} {q : Nat} {x y : Value} {t : TypeId} (h : w.heap[q]? = some (.cells #[x, y] t (0, 0))) : w.cell? ⟨q, 0, none⟩ = some x ∧ w.cell? ⟨q, 1, none⟩ = some y ∧ w.frozen? ⟨q, 0, none⟩ = false ∧ w.frozen? ⟨q, 1, none⟩ = false :=
  ⟨by rw [cell_of_row _ _ _ _ _ _ h]; rfl, by rw [cell_of_row _ _ _ _ _ _ h]; rfl, frozen_of_row _ _ _ _ _ h, frozen_of_row _ _ _ _ _ h⟩
structure S19 (w8 : World) (q4 c l : Nat) (L : Nat → Bool) (W : World) : Prop where
  os : W.os = w8.os
  tape : W.tape = w8.tape
  output : W.output = w8.output
  lt : q4 < w8.heap.size
  size : w8.heap.size ≤ W.heap.size
  keep : ∀ k, k < w8.heap.size → k ≠ q4 → W.heap[k]? = w8.heap[k]?
  old : L 27 = false → W.heap[q4]? = w8.heap[q4]?
  new : L 27 = true → W.heap[q4]? = some (.cells #[.int .i64 (c : Int), .int .i64 (l : Int)] 46 (0, 0))
theorem S19.start (w8 : World) (q4 c l : Nat) (hq : q4 < w8.heap.size) : S19 w8 q4 c l (fun _ => false) w8.drew := ⟨rfl, rfl, rfl, hq, Nat.le_refl _, fun _ _ _ => rfl, fun _ => rfl, fun e => by cases e⟩
section
variable {w8 W W' : World} {q4 c l : Nat} {L : Nat → Bool}
theorem S19.full (h : S19 w8 q4 c l L W) (h27 : L 27 = false) : Below w8.heap.size w8 W :=
  ⟨h.os, h.tape, h.output, h.size, fun k hk => by
    by_cases e : k = q4
    · rw [e]; exact h.old h27
    · exact h.keep k hk e⟩
theorem or27 {L : Nat → Bool} {i : Nat} (hi : i ≠ 27) : (27 == i || L 27) = L 27 := by
  have : (27 == i) = false := by simp; exact fun e => hi e.symm
  simp [this]
theorem S19.step (h : S19 w8 q4 c l L W) (i : Nat) (hi : i ≠ 27) : S19 w8 q4 c l (fun j => j == i || L j) W :=
  ⟨h.os, h.tape, h.output, h.lt, h.size, h.keep, fun e => h.old (by rw [or27 hi] at e; exact e), fun e => h.new (by rw [or27 hi] at e; exact e)⟩
theorem S19.below (h : S19 w8 q4 c l L W) (i : Nat) (hi : i ≠ 27) (b : Below W.heap.size W W') : S19 w8 q4 c l (fun j => j == i || L j) W' :=
  ⟨b.os.trans h.os, b.tape.trans h.tape, b.output.trans h.output, h.lt, Nat.le_trans h.size b.size, fun k hk hq => (b.block k (Nat.lt_of_lt_of_le hk h.size)).trans (h.keep k hk hq),
    fun e => by
      rw [or27 hi] at e
      have h1 := h.old e
      exact (b.block q4 (Nat.lt_of_lt_of_le h.lt h.size)).trans h1,
    fun e => by
      rw [or27 hi] at e
      have h1 := h.new e
      exact (b.block q4 (Array.getElem?_eq_some_iff.1 h1).1).trans h1⟩
end
theorem S19.store {w8 W : World} {q4 c l : Nat} {L : Nat → Bool} (h : S19 w8 q4 c l L W) (h4 : W.heap[q4]? = some (.cells #[.int .i64 0, .int .i64 0] 46 (0, 0))) : S19 w8 q4 c l (fun j => j == 27 || L j) ((W.setCell ⟨q4, 0, none⟩ (.int .i64 (c : Int))).setCell ⟨q4, 1, none⟩ (.int .i64 (l : Int))) := by
  have e : (W.setCell ⟨q4, 0, none⟩ (.int .i64 (c : Int))).heap[q4]? = some (.cells #[.int .i64 (c : Int), .int .i64 0] 46 (0, 0)) := by rw [heap_setCell_same W q4 0 _ 46 _ h4]; rfl
  refine ⟨h.os, h.tape, h.output, h.lt, by simpa using h.size, fun k hk hq => ?_, fun e2 => by simp at e2, fun _ => ?_⟩
  · rw [heap_setCell_other _ _ k _ (fun x => hq x), heap_setCell_other _ _ k _ (fun x => hq x)]
    exact h.keep k hk hq
  · rw [heap_setCell_same _ q4 1 _ 46 _ e]; rfl
def R19 (q4 k : Nat) (w w' : World) : Prop := (k ≠ 27 → Below w.heap.size w w') ∧ ∀ j, j < w.heap.size → j ≠ q4 → w'.heap[j]? = w.heap[j]?
theorem R19.below {q4 k : Nat} {w w' : World} (hk : k ≠ 27) (h : Below w.heap.size w w') : R19 q4 k w w' := ⟨fun _ => h, fun j hj _ => h.block j hj⟩
theorem R19.store (W : World) (q4 : Nat) (a b : Value) : R19 q4 27 W ((W.setCell ⟨q4, 0, none⟩ a).setCell ⟨q4, 1, none⟩ b) :=
  ⟨fun e => absurd rfl e, fun k hk hq => by rw [heap_setCell_other _ _ k _ (fun x => hq x), heap_setCell_other _ _ k _ (fun x => hq x)]⟩
theorem R19.own {q4 k B n : Nat} {w w' : World} (r : R19 q4 k w w') (hq : q4 < B) {v : Value} {T : List Byte} (h : Own w B v n T) : Own w' B v n T := by
  refine ⟨h.1, h.2.imp id ?_⟩
  rintro ⟨g, cap, cur, h1, h2, h3, h4⟩
  exact ⟨g, cap, cur, h1, h2, (r.2 g (Array.getElem?_eq_some_iff.1 h3).1 (by omega)).trans h3, h4⟩
theorem results_cell_tmp {P : Program} {fn : Func} {q t2 : Tmp} {ty : TypeId} (h : fn.results = #[.cell q ty, .tmp t2]) (tmps : Array Value) (w : World) (g : Nat) (t : TypeId) (cs : Array Value) (fr : Nat × Nat) (d : TypeDesc)
    (hp : tmps.getD q undef = .pointer (some ⟨g, 0, none⟩)) (hg : w.heap[g]? = some (.cells cs t fr))
    (hu : P.underlying ty = some d) (hd : (match d with | .struct _ | .array _ _ => true | _ => false) = true) (hi : (P.info? ty).map (·.size) = some cs.size) :
    (results fn tmps).run P w = .ok (.tuple #[.agg cs, tmps.getD t2 undef]) w := by
  have hp' : tmps[q]?.getD undef = .pointer (some ⟨g, 0, none⟩) := by simpa using hp
  simp [results, h, hp', asAddr, run_loadVar_row w g t ty cs fr d hg hu hd hi]
theorem info46' : (Try.prog.info? 46).map (·.size) = some 2 := by kernel_rfl
def V19a (B g q q13 p c2 c l rm sc : Nat) (ok : Bool) (L : Nat → Bool) : Nat → Value → World → Prop
  | 0, v, w => v = .agg #[.int .i64 (c : Nat), .int .i64 (l : Nat)]
  | 1, v, w => v = .int .i64 (c : Nat)
  | 2, v, w => v = .bool true
  | 3, v, w => v = .bool true
  | 4, v, w => v = .int .i64 (c : Nat)
  | 5, v, w => v = .bool true
  | 6, v, w => v = .bool true
  | 7, v, w => v = .bool true
  | 8, v, w => v = .int .i64 (c : Nat)
  | 9, v, w => v = .int .i64 (c2 : Nat)
  | 10, v, w => v = .int .i64 (p : Nat)
  | 11, v, w => v = .bool true
  | 12, v, w => v = .bool true
  | 13, v, w => v = .bool true
  | 14, v, w => v = .pointer (some ⟨q13, 1, none⟩)
  | 15, v, w => v = .int .i64 (l : Nat)
  | 16, v, w => v = .pointer (some ⟨g, 0, none⟩)
  | 17, v, w => v = .int .i64 (sc : Nat)
  | 18, v, w => v = .int .i64 (rm : Nat)
  | 19, v, w => v = .bool true
  | 20, v, w => v = .bool true
  | 21, v, w => v = .bool true
  | 22, v, w => v = .slice (some ⟨q, 0, none⟩) 512 512
  | 23, v, w => v = .agg #[.int .i64 (c : Nat), .int .i64 (l : Nat)]
  | 24, v, w => ∃ ao cap, v = .slice ao 512 cap ∧ Own w B (.slice ao 512 cap) 512 (hd c l)
  | 25, v, w => v = .bool ok
  | 26, v, w => v = .bool ok
  | 27, v, w => True
  | 28, v, w => v = .bool ok
  | _, _, _ => True
theorem V19a_in (B g q q13 p c2 c l rm sc : Nat) (ok : Bool) (L : Nat → Bool) (i : Nat) (v : Value) (w : World) (h : V19a B g q q13 p c2 c l rm sc ok L i v w) : V19a B g q q13 p c2 c l rm sc ok (fun j => j == i || L j) i v w := by
  rcases i with _ | _ | _ | _ | _ | _ | _ | _ | _ | _ | _ | _ | _ | _ | _ | _ | _ | _ | _ | _ | _ | _ | _ | _ | _ | _ | _ | _ | _ | _
  · exact h
  · exact h
  · exact h
  · exact h
  · exact h
  · exact h
  · exact h
  · exact h
  · exact h
  · exact h
  · exact h
  · exact h
  · exact h
  · exact h
  · exact h
  · exact h
  · exact h
  · exact h
  · exact h
  · exact h
  · exact h
  · exact h
  · exact h
  · exact h
  · exact h
  · exact h
  · exact h
  · exact h
  · exact h
  · trivial
theorem V19a_keep (B g q q13 p c2 c l rm sc : Nat) (ok : Bool) (L : Nat → Bool) (q4 : Nat) (hq : q4 < B) (k1 i1 : Nat) (v : Value) (w w' : World) (h : V19a B g q q13 p c2 c l rm sc ok L i1 v w) (r : R19 q4 k1 w w') : V19a B g q q13 p c2 c l rm sc ok (fun j => j == k1 || L j) i1 v w' := by
  rcases i1 with _ | _ | _ | _ | _ | _ | _ | _ | _ | _ | _ | _ | _ | _ | _ | _ | _ | _ | _ | _ | _ | _ | _ | _ | _ | _ | _ | _ | _ | _
  · exact h
  · exact h
  · exact h
  · exact h
  · exact h
  · exact h
  · exact h
  · exact h
  · exact h
  · exact h
  · exact h
  · exact h
  · exact h
  · exact h
  · exact h
  · exact h
  · exact h
  · exact h
  · exact h
  · exact h
  · exact h
  · exact h
  · exact h
  · exact h
  · obtain ⟨ao, cap, h1, h2⟩ := h
    exact ⟨ao, cap, h1, r.own hq h2⟩
  · exact h
  · exact h
  · exact h
  · exact h
  · trivial
def V19b (B g q q13 p c2 c l rm sc : Nat) (ok : Bool) (L : Nat → Bool) : Nat → Value → World → Prop
  | 0, v, w => v = .agg #[.int .i64 (c : Nat), .int .i64 (l : Nat)]
  | 1, v, w => v = .int .i64 (c : Nat)
  | 2, v, w => v = .bool true
  | 3, v, w => v = .bool true
  | 4, v, w => v = .int .i64 (c : Nat)
  | 5, v, w => v = .bool true
  | 6, v, w => v = .bool true
  | 7, v, w => v = .bool true
  | 8, v, w => v = .int .i64 (c : Nat)
  | 9, v, w => v = .int .i64 (c2 : Nat)
  | 10, v, w => v = .int .i64 (p : Nat)
  | 11, v, w => v = .bool false
  | 12, v, w => v = .bool false
  | 13, v, w => v = .bool false
  | 14, v, w => True
  | 15, v, w => True
  | 16, v, w => True
  | 17, v, w => True
  | 18, v, w => True
  | 19, v, w => True
  | 20, v, w => v = .bool false
  | 21, v, w => v = .bool false
  | 22, v, w => True
  | 23, v, w => True
  | 24, v, w => True
  | 25, v, w => True
  | 26, v, w => v = .bool false
  | 27, v, w => True
  | 28, v, w => v = .bool false
  | _, _, _ => True
theorem V19b_in (B g q q13 p c2 c l rm sc : Nat) (ok : Bool) (L : Nat → Bool) (i : Nat) (v : Value) (w : World) (h : V19b B g q q13 p c2 c l rm sc ok L i v w) : V19b B g q q13 p c2 c l rm sc ok (fun j => j == i || L j) i v w := by
  rcases i with _ | _ | _ | _ | _ | _ | _ | _ | _ | _ | _ | _ | _ | _ | _ | _ | _ | _ | _ | _ | _ | _ | _ | _ | _ | _ | _ | _ | _ | _
  · exact h
  · exact h
  · exact h
  · exact h
  · exact h
  · exact h
  · exact h
  · exact h
  · exact h
  · exact h
  · exact h
  · exact h
  · exact h
  · exact h
  · exact h
  · exact h
  · exact h
  · exact h
  · exact h
  · exact h
  · exact h
  · exact h
  · exact h
  · exact h
  · exact h
  · exact h
  · exact h
  · exact h
  · exact h
  · trivial
theorem V19b_keep (B g q q13 p c2 c l rm sc : Nat) (ok : Bool) (L : Nat → Bool) (q4 : Nat) (hq : q4 < B) (k1 i1 : Nat) (v : Value) (w w' : World) (h : V19b B g q q13 p c2 c l rm sc ok L i1 v w) (r : R19 q4 k1 w w') : V19b B g q q13 p c2 c l rm sc ok (fun j => j == k1 || L j) i1 v w' := by
  rcases i1 with _ | _ | _ | _ | _ | _ | _ | _ | _ | _ | _ | _ | _ | _ | _ | _ | _ | _ | _ | _ | _ | _ | _ | _ | _ | _ | _ | _ | _ | _
  · exact h
  · exact h
  · exact h
  · exact h
  · exact h
  · exact h
  · exact h
  · exact h
  · exact h
  · exact h
  · exact h
  · exact h
  · exact h
  · exact h
  · exact h
  · exact h
  · exact h
  · exact h
  · exact h
  · exact h
  · exact h
  · exact h
  · exact h
  · exact h
  · exact h
  · exact h
  · exact h
  · exact h
  · exact h
  · trivial
section
variable {A : Nat → Prop} {w w' : World} {g b n : Nat} {d : DS}
set_option maxRecDepth 20000 in
set_option maxHeartbeats 16000000 in
theorem read19a (hD : Dk A w g b n d) (hd0 : d.down = false) (hW : d.W.length ≤ 1000000) (hn : 4 ≤ n) (hn2 : n ≤ 100) (p c l : Nat) (hp : p < 2) (hc0 : 0 < c) (hc : c < 4611686018427387904) (hl : l < 2 ^ 24) (hlr : l ≤ (n - 2) / 2 * 512) (T : List Byte) (hT : T = look (d.S p) d.W p) (hTz : T ≠ zs) (hT16 : T.take 16 = h16 c l) (hpar : c % 2 = p) :
    Calls Try.prog 19 #[.pointer (some ⟨g, 0, none⟩), .int .i64 (p : Int)] w fun e w' => e = .returned (.tuple #[.agg #[.int .i64 (c : Int), .int .i64 (l : Int)], (.bool (decide (T = hd c l)))]) ∧ Below w.heap.size w w' := by
  have hTl : T.length = 512 := by rw [hT]; exact len_look _ _ _ (hD.sec.len p (by omega)) (fun q hq => (hD.wl q hq).2)
  obtain ⟨wa, hwa⟩ : ∃ wa, w.alloc (.cells #[.int .i64 0, .int .i64 0] 46) = wa := ⟨_, rfl⟩
  have ba : Below w.heap.size w wa := by rw [← hwa]; exact (Below.refl _ w).alloc (Nat.le_refl _) _
  have h4a : wa.heap[w.heap.size]? = some (.cells #[.int .i64 0, .int .i64 0] 46 (0, 0)) := by rw [← hwa]; exact heap_alloc_new w _
  have H23 := read15 A wa g b n d (hD.below ba) p (by omega) hd0 hW
  rw [← hT] at H23
  have ht8 : (T.drop 4).take 8 = be 8 c := by rw [← take16 T 4 8 (by omega), hT16]; exact h16_c c l
  have ht4 : (T.drop 12).take 4 = be 4 l := by rw [← take16 T 12 4 (by omega), hT16]; exact h16_l c l
  have HT0 := Lib.hid (And.intro hTl (And.intro hTz (And.intro ht8 (And.intro ht4 hT))))
  have HB := Lib.hid (And.intro ba (And.intro h4a hD))
  have HN0 := Lib.hid (And.intro hn (And.intro hn2 (And.intro hp (And.intro hc0 (And.intro hc (And.intro hl (And.intro hlr hpar)))))))
  have hzl : decide (T = zs) = false := by simp [hTz]
  have HZL := Lib.hid hzl
  clear hTl hT hTz hT16 ht8 ht4 ba h4a hD hd0 hW hn hn2 hc0 hc hl hlr hpar hzl
  go_enter Try.func19, Try.ntmps19
  go_wp2_with (first
    | (go_at_call 23; (with_reducible refine H23.mono ?_); rintro e w1 ⟨q, rfl, hq1, hq2, hq3, b1⟩; have HQ := Lib.hid (And.intro hq1 (And.intro hq2 (And.intro hq3 b1))); clear hq1 hq2 hq3 b1 H23; have hmk : (Instr.makeSlice 23 (.int .i64 512) (.int .i64 512)).run Try.prog w1 = .ok (.slice (some ⟨w1.heap.size, 0, none⟩) 512 512) (w1.alloc (.cells (madeCells (Value.int .u8 0).cells 512) 5)) := make28 w1 512 (by omega); have H31 := equal31 (w1.alloc (.cells (madeCells (Value.int .u8 0).cells 512) 5)) (some ⟨q, 0, none⟩) (some ⟨w1.heap.size, 0, none⟩) 512 512 512 512 T (List.replicate 512 0#8) HT0.out.1.symm (by simp) ((bys_rng HQ.out.2.2.1).below ((Below.refl _ w1).alloc (Nat.le_refl _) _)) (bys_made w1 512); rw [show (List.replicate 512 0#8 : List Byte) = zs from rfl, HZL.out] at H31; obtain ⟨wm, hwm⟩ : ∃ wm, w1.alloc (.cells (madeCells (Value.int .u8 0).cells 512) 5) = wm := ⟨_, rfl⟩; have bwm : Below w1.heap.size w1 wm := (hwm ▸ (Below.refl _ w1).alloc (Nat.le_refl _) _); rw [hwm] at hmk H31; have HWM := Lib.hid bwm; clear hwm bwm)
    | (go_at_call 31; (with_reducible refine H31.mono ?_); rintro e w2 ⟨rfl, hw2⟩; obtain rfl : wm = w2 := hw2.symm; clear H31)
    | (go_at_call 32; (with_reducible refine (get8 c (by have := HN0.out.2.2.2.2.1; omega) wm q T HT0.out.1 (rng_below HQ.out.2.2.1 HWM.out) HT0.out.2.2.1).mono ?_); rintro e w3 ⟨rfl, hw3⟩; obtain rfl : wm = w3 := hw3.symm)
    | (go_at_call 32; (with_reducible refine (get4 l (by have := HN0.out.2.2.2.2.2.1; omega) wm q T HT0.out.1 (rng_below HQ.out.2.2.1 HWM.out) HT0.out.2.2.2.1).mono ?_); rintro e w3 ⟨rfl, hw3⟩; obtain rfl : wm = w3 := hw3.symm))
  obtain ⟨w8, hw8⟩ : ∃ w8, wm.alloc (.cells #[.int .i64 (c : Int), .int .i64 (l : Int)] 46) = w8 := ⟨_, rfl⟩
  have b8 : Below wm.heap.size wm w8 := by rw [← hw8]; exact (Below.refl _ wm).alloc (Nat.le_refl _) _
  have h13 : w8.heap[wm.heap.size]? = some (.cells #[.int .i64 (c : Int), .int .i64 (l : Int)] 46 (0, 0)) := by rw [← hw8]; exact heap_alloc_new wm _
  rw [hw8]
  have bw8 : Below w.heap.size w w8 := below_then HB.out.1 (below_then HQ.out.2.2.2 (below_then HWM.out b8))
  have baw8 : Below wa.heap.size wa w8 := below_then HQ.out.2.2.2 (below_then HWM.out b8)
  obtain ⟨q4, hq4⟩ : ∃ q4, q4 = w.heap.size := ⟨_, rfl⟩
  obtain ⟨q13, hq13⟩ : ∃ q13, q13 = wm.heap.size := ⟨_, rfl⟩
  have h4 : w8.heap[q4]? = some (.cells #[.int .i64 0, .int .i64 0] 46 (0, 0)) := by
    rw [hq4]; exact (baw8.block _ (Array.getElem?_eq_some_iff.1 HB.out.2.1).1).trans HB.out.2.1
  have HQ4 := Lib.hid (Array.getElem?_eq_some_iff.1 h4).1
  have H4 := Lib.hid (And.intro HQ4.out h4)
  rw [← hq13] at h13
  have hne : q13 ≠ q4 := by have := HQ.out; have := HB.out.1.size; have := HWM.out.size; have := (Array.getElem?_eq_some_iff.1 HB.out.2.1).1; omega
  have KEY := Lib.hid (show ∀ L W, S19 w8 q4 c l L W → W.cell? ⟨q13, 0, none⟩ = some (.int .i64 (c : Int)) ∧ W.cell? ⟨q13, 1, none⟩ = some (.int .i64 (l : Int)) from fun L W h => by
    have h2 := (h.keep q13 (Array.getElem?_eq_some_iff.1 h13).1 hne).trans h13
    exact ⟨(two_of h2).1, (two_of h2).2.1⟩)
  have HT := Lib.hid (And.intro HT0.out.1 ((bys_rng HQ.out.2.2.1).below (below_then HWM.out b8)))
  obtain ⟨ok, hok⟩ : ∃ ok, decide (T = hd c l) = ok := ⟨_, rfl⟩
  have HT2 := Lib.hid hok
  obtain ⟨sc, hsc⟩ : ∃ sc, (n - 2) / 2 = sc := ⟨_, rfl⟩
  obtain ⟨rm, hrm⟩ : ∃ rm, sc * 512 = rm := ⟨_, rfl⟩
  obtain ⟨c2, hc2⟩ : ∃ c2, c % 2 = c2 := ⟨_, rfl⟩
  have HSC := Lib.hid hsc
  have hN := HN0.out
  rw [hsc, hrm, hc2] at hN
  have HZ := Lib.hid (show (decide (0 < (c : Int)) = true ∧ decide (0 < c) = true) ∧ (decide ((c : Int) < 4611686018427387904) = true ∧ decide (c < 4611686018427387904) = true) ∧ ((c : Int).tmod 2 = (c2 : Int) ∧ IntKind.i64.wrap (c2 : Int) = (c2 : Int)) ∧ (decide ((c2 : Int) = (p : Int)) = true ∧ decide (c2 = p) = true) from
    ⟨⟨by simp; omega, by simp; omega⟩, ⟨by simp; omega, by simp; omega⟩, ⟨by rw [← hc2]; rfl, IntWalk.i64_in _ (by omega)⟩, ⟨by simp; omega, by simp; omega⟩⟩)
  have HRM := Lib.hid (show IntKind.i64.wrap ((sc : Int) * 512) = (rm : Int) ∧ (decide ((l : Int) ≤ (rm : Int)) = true ∧ decide (l ≤ rm) = true) from ⟨by rw [IntWalk.i64_in ((sc : Int) * 512) (by omega), ← hrm]; push_cast; rfl, by simp; omega, by simp; omega⟩)
  have HL := Lib.hid (show c < 2 ^ 63 ∧ l < 2 ^ 24 by omega)
  have HD := Lib.hid (And.intro (HB.out.2.2.below bw8) (show 2 ≤ n by omega))
  have HE := Lib.hid (And.intro hq4 bw8)
  rw [← hq4, ← hq13]
  clear hw8 b8 h13 bw8 baw8 hq4 hq13 h4 hne hok hsc hrm hc2 hN
  refine region_monoP (S19 w8 q4 c l) (R19 q4) (V19a w8.heap.size g q q13 p c2 c l rm sc ok) [(0, some 45), (1, some 46), (2, some 47), (3, some 48), (4, some 49), (5, some 50), (6, some 51), (7, some 52), (8, some 53), (9, some 54), (10, some 55), (11, some 56), (12, some 57), (13, some 58), (14, some 59), (15, some 60), (16, some 61), (17, some 62), (18, some 63), (19, some 64), (20, some 65), (21, some 66), (22, some 67), (23, some 68), (24, some 69), (25, some 70), (26, some 71), (27, none), (28, some 5)] (by kernel_rfl) (by kernel_rfl) (by kernel_rfl) (fun L k1 i1 v1 w1 w2 hk hC hC2 hLk hLi h1 r1 => V19a_keep _ g q q13 p c2 c l rm sc ok L q4 H4.out.1 k1 i1 v1 w1 w2 h1 r1) (fun L i1 v1 w1 hL h => V19a_in _ g q q13 p c2 c l rm sc ok L i1 v1 w1 h) (S19.start w8 q4 c l HQ4.out) ?_ (fun vs WQ L hS hLL hV => ?_)
  · refine StepsP.cons0  (by kernel_rfl)  ?_ ?_
    · rintro L hC hL w1 hS  K hK
      (try simp only [Act.put, List.setIfInBounds_toArray, List.set_cons_zero, List.set_cons_succ])
      obtain ⟨hx, hy⟩ := KEY.out _ _ hS
      go_simp
      exact hK.out _ _ rfl ⟨hS.step 0 (by decide), R19.below (by decide) (Below.refl _ _)⟩
    refine StepsP.cons0  (by kernel_rfl)  ?_ ?_
    · rintro L hC hL w1 hS  K hK
      (try simp only [Act.put, List.setIfInBounds_toArray, List.set_cons_zero, List.set_cons_succ])
      go_simp
      exact hK.out _ _ rfl ⟨hS.step 1 (by decide), R19.below (by decide) (Below.refl _ _)⟩
    refine StepsP.cons1 1 (some 46) (by kernel_rfl) rfl ?_ ?_
    · rintro L hC hL w1 hS _ rfl K hK
      (try simp only [Act.put, List.setIfInBounds_toArray, List.set_cons_zero, List.set_cons_succ])
      obtain ⟨z, z3⟩ := HZ.out.1
      go_simp
      exact hK.out _ _ rfl ⟨hS.step 2 (by decide), R19.below (by decide) (Below.refl _ _)⟩
    refine StepsP.cons1 2 (some 47) (by kernel_rfl) rfl ?_ ?_
    · rintro L hC hL w1 hS _ rfl K hK
      (try simp only [Act.put, List.setIfInBounds_toArray, List.set_cons_zero, List.set_cons_succ])
      go_simp
      exact hK.out _ _ rfl ⟨hS.step 3 (by decide), R19.below (by decide) (Below.refl _ _)⟩
    refine StepsP.cons1 3 (some 48) (by kernel_rfl) rfl ?_ ?_
    · rintro L hC hL w1 hS _ rfl K hK
      (try simp only [Act.put, List.setIfInBounds_toArray, List.set_cons_zero, List.set_cons_succ])
      go_simp
      exact hK.out _ _ rfl ⟨hS.step 4 (by decide), R19.below (by decide) (Below.refl _ _)⟩
    refine StepsP.cons2 3 (some 48) 4 (some 49) (by kernel_rfl) rfl rfl ?_ ?_
    · rintro L hC hL w1 hS _ rfl _ rfl K hK
      (try simp only [Act.put, List.setIfInBounds_toArray, List.set_cons_zero, List.set_cons_succ])
      obtain ⟨z, z3⟩ := HZ.out.2.1
      go_simp
      exact hK.out _ _ rfl ⟨hS.step 5 (by decide), R19.below (by decide) (Below.refl _ _)⟩
    refine StepsP.cons2 3 (some 48) 5 (some 50) (by kernel_rfl) rfl rfl ?_ ?_
    · rintro L hC hL w1 hS _ rfl _ rfl K hK
      (try simp only [Act.put, List.setIfInBounds_toArray, List.set_cons_zero, List.set_cons_succ])
      go_simp
      exact hK.out _ _ rfl ⟨hS.step 6 (by decide), R19.below (by decide) (Below.refl _ _)⟩
    refine StepsP.cons1 6 (some 51) (by kernel_rfl) rfl ?_ ?_
    · rintro L hC hL w1 hS _ rfl K hK
      (try simp only [Act.put, List.setIfInBounds_toArray, List.set_cons_zero, List.set_cons_succ])
      go_simp
      exact hK.out _ _ rfl ⟨hS.step 7 (by decide), R19.below (by decide) (Below.refl _ _)⟩
    refine StepsP.cons1 7 (some 52) (by kernel_rfl) rfl ?_ ?_
    · rintro L hC hL w1 hS _ rfl K hK
      (try simp only [Act.put, List.setIfInBounds_toArray, List.set_cons_zero, List.set_cons_succ])
      go_simp
      exact hK.out _ _ rfl ⟨hS.step 8 (by decide), R19.below (by decide) (Below.refl _ _)⟩
    refine StepsP.cons2 7 (some 52) 8 (some 53) (by kernel_rfl) rfl rfl ?_ ?_
    · rintro L hC hL w1 hS _ rfl _ rfl K hK
      (try simp only [Act.put, List.setIfInBounds_toArray, List.set_cons_zero, List.set_cons_succ])
      obtain ⟨z1, z2⟩ := HZ.out.2.2.1
      go_simp
      exact hK.out _ _ rfl ⟨hS.step 9 (by decide), R19.below (by decide) (Below.refl _ _)⟩
    refine StepsP.cons1 7 (some 52) (by kernel_rfl) rfl ?_ ?_
    · rintro L hC hL w1 hS _ rfl K hK
      (try simp only [Act.put, List.setIfInBounds_toArray, List.set_cons_zero, List.set_cons_succ])
      go_simp
      exact hK.out _ _ rfl ⟨hS.step 10 (by decide), R19.below (by decide) (Below.refl _ _)⟩
    refine StepsP.cons3 7 (some 52) 9 (some 54) 10 (some 55) (by kernel_rfl) rfl rfl rfl ?_ ?_
    · rintro L hC hL w1 hS _ rfl _ rfl _ rfl K hK
      (try simp only [Act.put, List.setIfInBounds_toArray, List.set_cons_zero, List.set_cons_succ])
      obtain ⟨z, z3⟩ := HZ.out.2.2.2
      have z4 : ((c2 : Int) == (p : Int)) = true := by simpa using z
      clear z z3
      go_simp
      first | exact hK.out _ _ rfl ⟨hS.step 11 (by decide), R19.below (by decide) (Below.refl _ _)⟩ | exact hK.out _ _ (congrArg Value.bool z4) ⟨hS.step 11 (by decide), R19.below (by decide) (Below.refl _ _)⟩
    refine StepsP.cons2 7 (some 52) 11 (some 56) (by kernel_rfl) rfl rfl ?_ ?_
    · rintro L hC hL w1 hS _ rfl _ rfl K hK
      (try simp only [Act.put, List.setIfInBounds_toArray, List.set_cons_zero, List.set_cons_succ])
      go_simp
      exact hK.out _ _ rfl ⟨hS.step 12 (by decide), R19.below (by decide) (Below.refl _ _)⟩
    refine StepsP.cons1 12 (some 57) (by kernel_rfl) rfl ?_ ?_
    · rintro L hC hL w1 hS _ rfl K hK
      (try simp only [Act.put, List.setIfInBounds_toArray, List.set_cons_zero, List.set_cons_succ])
      go_simp
      exact hK.out _ _ rfl ⟨hS.step 13 (by decide), R19.below (by decide) (Below.refl _ _)⟩
    refine StepsP.cons1 13 (some 58) (by kernel_rfl) rfl ?_ ?_
    · rintro L hC hL w1 hS _ rfl K hK
      (try simp only [Act.put, List.setIfInBounds_toArray, List.set_cons_zero, List.set_cons_succ])
      go_simp
      exact hK.out _ _ rfl ⟨hS.step 14 (by decide), R19.below (by decide) (Below.refl _ _)⟩
    refine StepsP.cons2 13 (some 58) 14 (some 59) (by kernel_rfl) rfl rfl ?_ ?_
    · rintro L hC hL w1 hS _ rfl _ rfl K hK
      (try simp only [Act.put, List.setIfInBounds_toArray, List.set_cons_zero, List.set_cons_succ])
      obtain ⟨hx, hy⟩ := KEY.out _ _ hS
      go_simp
      exact hK.out _ _ rfl ⟨hS.step 15 (by decide), R19.below (by decide) (Below.refl _ _)⟩
    refine StepsP.cons1 13 (some 58) (by kernel_rfl) rfl ?_ ?_
    · rintro L hC hL w1 hS _ rfl K hK
      (try simp only [Act.put, List.setIfInBounds_toArray, List.set_cons_zero, List.set_cons_succ])
      go_simp
      exact hK.out _ _ rfl ⟨hS.step 16 (by decide), R19.below (by decide) (Below.refl _ _)⟩
    refine StepsP.cons2 13 (some 58) 16 (some 61) (by kernel_rfl) rfl rfl ?_ ?_
    · rintro L hC hL w1 hS _ rfl _ rfl K hK
      (try simp only [Act.put, List.setIfInBounds_toArray, List.set_cons_zero, List.set_cons_succ])
      have h27 : L 27 = false := (hC.no (hC.no (hC.no (hC.no (hC.no (hC.no hL (j := 18) rfl (by kernel_rfl)) (j := 19) rfl (by kernel_rfl)) (j := 20) rfl (by kernel_rfl)) (j := 21) rfl (by kernel_rfl)) (j := 25) rfl (by kernel_rfl)) (j := 27) rfl (by kernel_rfl))
      have HC := sectors29 (HD.out.1.below (hS.full h27)) HD.out.2
      rw [HSC.out] at HC
      go_simp
      go_at_call 29
      (with_reducible refine HC.mono ?_)
      rintro e w2 ⟨rfl, hw⟩
      obtain rfl : w1 = w2 := hw.symm
      exact hK.out _ _ rfl ⟨hS.step 17 (by decide), R19.below (by decide) (Below.refl _ _)⟩
    refine StepsP.cons2 13 (some 58) 17 (some 62) (by kernel_rfl) rfl rfl ?_ ?_
    · rintro L hC hL w1 hS _ rfl _ rfl K hK
      (try simp only [Act.put, List.setIfInBounds_toArray, List.set_cons_zero, List.set_cons_succ])
      have em := HRM.out.1
      go_simp
      exact hK.out _ _ rfl ⟨hS.step 18 (by decide), R19.below (by decide) (Below.refl _ _)⟩
    refine StepsP.cons3 13 (some 58) 15 (some 60) 18 (some 63) (by kernel_rfl) rfl rfl rfl ?_ ?_
    · rintro L hC hL w1 hS _ rfl _ rfl _ rfl K hK
      (try simp only [Act.put, List.setIfInBounds_toArray, List.set_cons_zero, List.set_cons_succ])
      obtain ⟨z, z3⟩ := HRM.out.2
      go_simp
      exact hK.out _ _ rfl ⟨hS.step 19 (by decide), R19.below (by decide) (Below.refl _ _)⟩
    refine StepsP.cons2 13 (some 58) 19 (some 64) (by kernel_rfl) rfl rfl ?_ ?_
    · rintro L hC hL w1 hS _ rfl _ rfl K hK
      (try simp only [Act.put, List.setIfInBounds_toArray, List.set_cons_zero, List.set_cons_succ])
      go_simp
      exact hK.out _ _ rfl ⟨hS.step 20 (by decide), R19.below (by decide) (Below.refl _ _)⟩
    refine StepsP.cons1 20 (some 65) (by kernel_rfl) rfl ?_ ?_
    · rintro L hC hL w1 hS _ rfl K hK
      (try simp only [Act.put, List.setIfInBounds_toArray, List.set_cons_zero, List.set_cons_succ])
      go_simp
      exact hK.out _ _ rfl ⟨hS.step 21 (by decide), R19.below (by decide) (Below.refl _ _)⟩
    refine StepsP.cons1 21 (some 66) (by kernel_rfl) rfl ?_ ?_
    · rintro L hC hL w1 hS _ rfl K hK
      (try simp only [Act.put, List.setIfInBounds_toArray, List.set_cons_zero, List.set_cons_succ])
      go_simp
      exact hK.out _ _ rfl ⟨hS.step 22 (by decide), R19.below (by decide) (Below.refl _ _)⟩
    refine StepsP.cons1 21 (some 66) (by kernel_rfl) rfl ?_ ?_
    · rintro L hC hL w1 hS _ rfl K hK
      (try simp only [Act.put, List.setIfInBounds_toArray, List.set_cons_zero, List.set_cons_succ])
      obtain ⟨hx, hy⟩ := KEY.out _ _ hS
      go_simp
      exact hK.out _ _ rfl ⟨hS.step 23 (by decide), R19.below (by decide) (Below.refl _ _)⟩
    refine StepsP.cons2 21 (some 66) 23 (some 68) (by kernel_rfl) rfl rfl ?_ ?_
    · rintro L hC hL w1 hS _ rfl _ rfl K hK
      (try simp only [Act.put, List.setIfInBounds_toArray, List.set_cons_zero, List.set_cons_succ])
      have HC := bytes28 c l HL.out.1 HL.out.2 w1
      go_simp
      go_at_call 28
      (with_reducible refine HC.mono ?_)
      rintro e w2 ⟨a2, c2, rfl, o2, b2⟩
      exact hK.out _ _ ⟨a2, c2, rfl, own_mono o2 hS.size⟩ ⟨hS.below 24 (by decide) b2, R19.below (by decide) b2⟩
    refine StepsP.cons3 21 (some 66) 22 (some 67) 24 (some 69) (by kernel_rfl) rfl rfl rfl ?_ ?_
    · rintro L hC hL w1 hS _ rfl _ rfl _ ⟨a24, c24, rfl, o24⟩ K hK
      (try simp only [Act.put, List.setIfInBounds_toArray, List.set_cons_zero, List.set_cons_succ])
      have h27 : L 27 = false := hC.no hL (j := 27) rfl (by kernel_rfl)
      have HC := equal31 w1 (some ⟨q, 0, none⟩) a24 512 512 512 c24 T (hd c l) HT.out.1.symm (hd_len c l).symm (HT.out.2.below (hS.full h27)) (bys_own o24)
      rw [HT2.out] at HC
      go_simp
      go_at_call 31
      (with_reducible refine HC.mono ?_)
      rintro e w2 ⟨rfl, hw⟩
      obtain rfl : w1 = w2 := hw.symm
      exact hK.out _ _ rfl ⟨hS.step 25 (by decide), R19.below (by decide) (Below.refl _ _)⟩
    refine StepsP.cons2 21 (some 66) 25 (some 70) (by kernel_rfl) rfl rfl ?_ ?_
    · rintro L hC hL w1 hS _ rfl _ rfl K hK
      (try simp only [Act.put, List.setIfInBounds_toArray, List.set_cons_zero, List.set_cons_succ])
      go_simp
      exact hK.out _ _ rfl ⟨hS.step 26 (by decide), R19.below (by decide) (Below.refl _ _)⟩
    refine StepsP.cons1 0 (some 45) (by kernel_rfl) rfl ?_ ?_
    · rintro L hC hL w1 hS _ rfl K hK
      (try simp only [Act.put, List.setIfInBounds_toArray, List.set_cons_zero, List.set_cons_succ])
      have hL27 : L 27 = false := hL
      have h4 := (hS.old hL27).trans H4.out.2
      obtain ⟨e0, e1, f0, f1⟩ := two_of h4
      go_simp
      exact hK.out undef _ trivial ⟨hS.store h4, R19.store _ _ _ _⟩
    refine StepsP.cons1 26 (some 71) (by kernel_rfl) rfl ?_ ?_
    · rintro L hC hL w1 hS _ rfl K hK
      (try simp only [Act.put, List.setIfInBounds_toArray, List.set_cons_zero, List.set_cons_succ])
      go_simp
      exact hK.out _ _ rfl ⟨hS.step 28 (by decide), R19.below (by decide) (Below.refl _ _)⟩
    exact StepsP.nil
  have v28 := hV 28 (by decide)
  have hnew := hS.new (hLL 27 (by decide))
  have HF := Lib.hid (show Below w.heap.size w WQ from ⟨hS.os.trans HE.out.2.os, hS.tape.trans HE.out.2.tape, hS.output.trans HE.out.2.output, Nat.le_trans HE.out.2.size hS.size, fun k hk => (hS.keep k (Nat.lt_of_lt_of_le hk HE.out.2.size) (by rw [HE.out.1]; omega)).trans (HE.out.2.block k hk)⟩)
  have hv28 : vs 28 = .bool ok := v28
  simp only [putl, List.foldl_cons, List.foldl_nil, Act.put, List.setIfInBounds_toArray, List.set_cons_zero, List.set_cons_succ]
  rw [hv28]
  clear hV hS hLL v28 hv28
  go_wp2_with fail
  refine bodyPost_ret (results_cell_tmp rfl _ _ q4 46 _ (0, 0) _ rfl hnew Try.underlying46 rfl info46') rfl ?_
  exact ⟨by rw [HT2.out]; rfl, HF.out⟩
set_option maxRecDepth 20000 in
set_option maxHeartbeats 16000000 in
theorem read19b (hD : Dk A w g b n d) (hd0 : d.down = false) (hW : d.W.length ≤ 1000000) (hn : 4 ≤ n) (hn2 : n ≤ 100) (p c l : Nat) (hp : p < 2) (hc0 : 0 < c) (hc : c < 4611686018427387904) (hl : l < 2 ^ 24) (hlr : l ≤ (n - 2) / 2 * 512) (T : List Byte) (hT : T = look (d.S p) d.W p) (hTz : T ≠ zs) (hT16 : T.take 16 = h16 c l) (hpar : c % 2 ≠ p) :
    Calls Try.prog 19 #[.pointer (some ⟨g, 0, none⟩), .int .i64 (p : Int)] w fun e w' => e = .returned (.tuple #[.agg #[.int .i64 (c : Int), .int .i64 (l : Int)], (.bool false)]) ∧ Below w.heap.size w w' := by
  have hTl : T.length = 512 := by rw [hT]; exact len_look _ _ _ (hD.sec.len p (by omega)) (fun q hq => (hD.wl q hq).2)
  obtain ⟨wa, hwa⟩ : ∃ wa, w.alloc (.cells #[.int .i64 0, .int .i64 0] 46) = wa := ⟨_, rfl⟩
  have ba : Below w.heap.size w wa := by rw [← hwa]; exact (Below.refl _ w).alloc (Nat.le_refl _) _
  have h4a : wa.heap[w.heap.size]? = some (.cells #[.int .i64 0, .int .i64 0] 46 (0, 0)) := by rw [← hwa]; exact heap_alloc_new w _
  have H23 := read15 A wa g b n d (hD.below ba) p (by omega) hd0 hW
  rw [← hT] at H23
  have ht8 : (T.drop 4).take 8 = be 8 c := by rw [← take16 T 4 8 (by omega), hT16]; exact h16_c c l
  have ht4 : (T.drop 12).take 4 = be 4 l := by rw [← take16 T 12 4 (by omega), hT16]; exact h16_l c l
  have HT0 := Lib.hid (And.intro hTl (And.intro hTz (And.intro ht8 (And.intro ht4 hT))))
  have HB := Lib.hid (And.intro ba (And.intro h4a hD))
  have HN0 := Lib.hid (And.intro hn (And.intro hn2 (And.intro hp (And.intro hc0 (And.intro hc (And.intro hl (And.intro hlr hpar)))))))
  have hzl : decide (T = zs) = false := by simp [hTz]
  have HZL := Lib.hid hzl
  clear hTl hT hTz hT16 ht8 ht4 ba h4a hD hd0 hW hn hn2 hc0 hc hl hlr hpar hzl
  go_enter Try.func19, Try.ntmps19
  go_wp2_with (first
    | (go_at_call 23; (with_reducible refine H23.mono ?_); rintro e w1 ⟨q, rfl, hq1, hq2, hq3, b1⟩; have HQ := Lib.hid (And.intro hq1 (And.intro hq2 (And.intro hq3 b1))); clear hq1 hq2 hq3 b1 H23; have hmk : (Instr.makeSlice 23 (.int .i64 512) (.int .i64 512)).run Try.prog w1 = .ok (.slice (some ⟨w1.heap.size, 0, none⟩) 512 512) (w1.alloc (.cells (madeCells (Value.int .u8 0).cells 512) 5)) := make28 w1 512 (by omega); have H31 := equal31 (w1.alloc (.cells (madeCells (Value.int .u8 0).cells 512) 5)) (some ⟨q, 0, none⟩) (some ⟨w1.heap.size, 0, none⟩) 512 512 512 512 T (List.replicate 512 0#8) HT0.out.1.symm (by simp) ((bys_rng HQ.out.2.2.1).below ((Below.refl _ w1).alloc (Nat.le_refl _) _)) (bys_made w1 512); rw [show (List.replicate 512 0#8 : List Byte) = zs from rfl, HZL.out] at H31; obtain ⟨wm, hwm⟩ : ∃ wm, w1.alloc (.cells (madeCells (Value.int .u8 0).cells 512) 5) = wm := ⟨_, rfl⟩; have bwm : Below w1.heap.size w1 wm := (hwm ▸ (Below.refl _ w1).alloc (Nat.le_refl _) _); rw [hwm] at hmk H31; have HWM := Lib.hid bwm; clear hwm bwm)
    | (go_at_call 31; (with_reducible refine H31.mono ?_); rintro e w2 ⟨rfl, hw2⟩; obtain rfl : wm = w2 := hw2.symm; clear H31)
    | (go_at_call 32; (with_reducible refine (get8 c (by have := HN0.out.2.2.2.2.1; omega) wm q T HT0.out.1 (rng_below HQ.out.2.2.1 HWM.out) HT0.out.2.2.1).mono ?_); rintro e w3 ⟨rfl, hw3⟩; obtain rfl : wm = w3 := hw3.symm)
    | (go_at_call 32; (with_reducible refine (get4 l (by have := HN0.out.2.2.2.2.2.1; omega) wm q T HT0.out.1 (rng_below HQ.out.2.2.1 HWM.out) HT0.out.2.2.2.1).mono ?_); rintro e w3 ⟨rfl, hw3⟩; obtain rfl : wm = w3 := hw3.symm))
  obtain ⟨w8, hw8⟩ : ∃ w8, wm.alloc (.cells #[.int .i64 (c : Int), .int .i64 (l : Int)] 46) = w8 := ⟨_, rfl⟩
  have b8 : Below wm.heap.size wm w8 := by rw [← hw8]; exact (Below.refl _ wm).alloc (Nat.le_refl _) _
  have h13 : w8.heap[wm.heap.size]? = some (.cells #[.int .i64 (c : Int), .int .i64 (l : Int)] 46 (0, 0)) := by rw [← hw8]; exact heap_alloc_new wm _
  rw [hw8]
  have bw8 : Below w.heap.size w w8 := below_then HB.out.1 (below_then HQ.out.2.2.2 (below_then HWM.out b8))
  have baw8 : Below wa.heap.size wa w8 := below_then HQ.out.2.2.2 (below_then HWM.out b8)
  obtain ⟨q4, hq4⟩ : ∃ q4, q4 = w.heap.size := ⟨_, rfl⟩
  obtain ⟨q13, hq13⟩ : ∃ q13, q13 = wm.heap.size := ⟨_, rfl⟩
  have h4 : w8.heap[q4]? = some (.cells #[.int .i64 0, .int .i64 0] 46 (0, 0)) := by
    rw [hq4]; exact (baw8.block _ (Array.getElem?_eq_some_iff.1 HB.out.2.1).1).trans HB.out.2.1
  have HQ4 := Lib.hid (Array.getElem?_eq_some_iff.1 h4).1
  have H4 := Lib.hid (And.intro HQ4.out h4)
  rw [← hq13] at h13
  have hne : q13 ≠ q4 := by have := HQ.out; have := HB.out.1.size; have := HWM.out.size; have := (Array.getElem?_eq_some_iff.1 HB.out.2.1).1; omega
  have KEY := Lib.hid (show ∀ L W, S19 w8 q4 c l L W → W.cell? ⟨q13, 0, none⟩ = some (.int .i64 (c : Int)) ∧ W.cell? ⟨q13, 1, none⟩ = some (.int .i64 (l : Int)) from fun L W h => by
    have h2 := (h.keep q13 (Array.getElem?_eq_some_iff.1 h13).1 hne).trans h13
    exact ⟨(two_of h2).1, (two_of h2).2.1⟩)
  have HT := Lib.hid (And.intro HT0.out.1 ((bys_rng HQ.out.2.2.1).below (below_then HWM.out b8)))
  obtain ⟨ok, hok⟩ : ∃ ok, decide (T = hd c l) = ok := ⟨_, rfl⟩
  have HT2 := Lib.hid hok
  obtain ⟨sc, hsc⟩ : ∃ sc, (n - 2) / 2 = sc := ⟨_, rfl⟩
  obtain ⟨rm, hrm⟩ : ∃ rm, sc * 512 = rm := ⟨_, rfl⟩
  obtain ⟨c2, hc2⟩ : ∃ c2, c % 2 = c2 := ⟨_, rfl⟩
  have HSC := Lib.hid hsc
  have hN := HN0.out
  rw [hsc, hrm, hc2] at hN
  have HZ := Lib.hid (show (decide (0 < (c : Int)) = true ∧ decide (0 < c) = true) ∧ (decide ((c : Int) < 4611686018427387904) = true ∧ decide (c < 4611686018427387904) = true) ∧ ((c : Int).tmod 2 = (c2 : Int) ∧ IntKind.i64.wrap (c2 : Int) = (c2 : Int)) ∧ (decide ((c2 : Int) = (p : Int)) = false ∧ decide (c2 = p) = false) from
    ⟨⟨by simp; omega, by simp; omega⟩, ⟨by simp; omega, by simp; omega⟩, ⟨by rw [← hc2]; rfl, IntWalk.i64_in _ (by omega)⟩, ⟨by simp; omega, by simp; omega⟩⟩)
  have HRM := Lib.hid (show IntKind.i64.wrap ((sc : Int) * 512) = (rm : Int) ∧ (decide ((l : Int) ≤ (rm : Int)) = true ∧ decide (l ≤ rm) = true) from ⟨by rw [IntWalk.i64_in ((sc : Int) * 512) (by omega), ← hrm]; push_cast; rfl, by simp; omega, by simp; omega⟩)
  have HL := Lib.hid (show c < 2 ^ 63 ∧ l < 2 ^ 24 by omega)
  have HD := Lib.hid (And.intro (HB.out.2.2.below bw8) (show 2 ≤ n by omega))
  have HE := Lib.hid (And.intro hq4 bw8)
  rw [← hq4, ← hq13]
  clear hw8 b8 h13 bw8 baw8 hq4 hq13 h4 hne hok hsc hrm hc2 hN
  refine region_monoP (S19 w8 q4 c l) (R19 q4) (V19b w8.heap.size g q q13 p c2 c l rm sc ok) [(0, some 45), (1, some 46), (2, some 47), (3, some 48), (4, some 49), (5, some 50), (6, some 51), (7, some 52), (8, some 53), (9, some 54), (10, some 55), (11, some 56), (12, some 57), (13, some 58), (14, some 59), (15, some 60), (16, some 61), (17, some 62), (18, some 63), (19, some 64), (20, some 65), (21, some 66), (22, some 67), (23, some 68), (24, some 69), (25, some 70), (26, some 71), (27, none), (28, some 5)] (by kernel_rfl) (by kernel_rfl) (by kernel_rfl) (fun L k1 i1 v1 w1 w2 hk hC hC2 hLk hLi h1 r1 => V19b_keep _ g q q13 p c2 c l rm sc ok L q4 H4.out.1 k1 i1 v1 w1 w2 h1 r1) (fun L i1 v1 w1 hL h => V19b_in _ g q q13 p c2 c l rm sc ok L i1 v1 w1 h) (S19.start w8 q4 c l HQ4.out) ?_ (fun vs WQ L hS hLL hV => ?_)
  · refine StepsP.cons0  (by kernel_rfl)  ?_ ?_
    · rintro L hC hL w1 hS  K hK
      (try simp only [Act.put, List.setIfInBounds_toArray, List.set_cons_zero, List.set_cons_succ])
      obtain ⟨hx, hy⟩ := KEY.out _ _ hS
      go_simp
      exact hK.out _ _ rfl ⟨hS.step 0 (by decide), R19.below (by decide) (Below.refl _ _)⟩
    refine StepsP.cons0  (by kernel_rfl)  ?_ ?_
    · rintro L hC hL w1 hS  K hK
      (try simp only [Act.put, List.setIfInBounds_toArray, List.set_cons_zero, List.set_cons_succ])
      go_simp
      exact hK.out _ _ rfl ⟨hS.step 1 (by decide), R19.below (by decide) (Below.refl _ _)⟩
    refine StepsP.cons1 1 (some 46) (by kernel_rfl) rfl ?_ ?_
    · rintro L hC hL w1 hS _ rfl K hK
      (try simp only [Act.put, List.setIfInBounds_toArray, List.set_cons_zero, List.set_cons_succ])
      obtain ⟨z, z3⟩ := HZ.out.1
      go_simp
      exact hK.out _ _ rfl ⟨hS.step 2 (by decide), R19.below (by decide) (Below.refl _ _)⟩
    refine StepsP.cons1 2 (some 47) (by kernel_rfl) rfl ?_ ?_
    · rintro L hC hL w1 hS _ rfl K hK
      (try simp only [Act.put, List.setIfInBounds_toArray, List.set_cons_zero, List.set_cons_succ])
      go_simp
      exact hK.out _ _ rfl ⟨hS.step 3 (by decide), R19.below (by decide) (Below.refl _ _)⟩
    refine StepsP.cons1 3 (some 48) (by kernel_rfl) rfl ?_ ?_
    · rintro L hC hL w1 hS _ rfl K hK
      (try simp only [Act.put, List.setIfInBounds_toArray, List.set_cons_zero, List.set_cons_succ])
      go_simp
      exact hK.out _ _ rfl ⟨hS.step 4 (by decide), R19.below (by decide) (Below.refl _ _)⟩
    refine StepsP.cons2 3 (some 48) 4 (some 49) (by kernel_rfl) rfl rfl ?_ ?_
    · rintro L hC hL w1 hS _ rfl _ rfl K hK
      (try simp only [Act.put, List.setIfInBounds_toArray, List.set_cons_zero, List.set_cons_succ])
      obtain ⟨z, z3⟩ := HZ.out.2.1
      go_simp
      exact hK.out _ _ rfl ⟨hS.step 5 (by decide), R19.below (by decide) (Below.refl _ _)⟩
    refine StepsP.cons2 3 (some 48) 5 (some 50) (by kernel_rfl) rfl rfl ?_ ?_
    · rintro L hC hL w1 hS _ rfl _ rfl K hK
      (try simp only [Act.put, List.setIfInBounds_toArray, List.set_cons_zero, List.set_cons_succ])
      go_simp
      exact hK.out _ _ rfl ⟨hS.step 6 (by decide), R19.below (by decide) (Below.refl _ _)⟩
    refine StepsP.cons1 6 (some 51) (by kernel_rfl) rfl ?_ ?_
    · rintro L hC hL w1 hS _ rfl K hK
      (try simp only [Act.put, List.setIfInBounds_toArray, List.set_cons_zero, List.set_cons_succ])
      go_simp
      exact hK.out _ _ rfl ⟨hS.step 7 (by decide), R19.below (by decide) (Below.refl _ _)⟩
    refine StepsP.cons1 7 (some 52) (by kernel_rfl) rfl ?_ ?_
    · rintro L hC hL w1 hS _ rfl K hK
      (try simp only [Act.put, List.setIfInBounds_toArray, List.set_cons_zero, List.set_cons_succ])
      go_simp
      exact hK.out _ _ rfl ⟨hS.step 8 (by decide), R19.below (by decide) (Below.refl _ _)⟩
    refine StepsP.cons2 7 (some 52) 8 (some 53) (by kernel_rfl) rfl rfl ?_ ?_
    · rintro L hC hL w1 hS _ rfl _ rfl K hK
      (try simp only [Act.put, List.setIfInBounds_toArray, List.set_cons_zero, List.set_cons_succ])
      obtain ⟨z1, z2⟩ := HZ.out.2.2.1
      go_simp
      exact hK.out _ _ rfl ⟨hS.step 9 (by decide), R19.below (by decide) (Below.refl _ _)⟩
    refine StepsP.cons1 7 (some 52) (by kernel_rfl) rfl ?_ ?_
    · rintro L hC hL w1 hS _ rfl K hK
      (try simp only [Act.put, List.setIfInBounds_toArray, List.set_cons_zero, List.set_cons_succ])
      go_simp
      exact hK.out _ _ rfl ⟨hS.step 10 (by decide), R19.below (by decide) (Below.refl _ _)⟩
    refine StepsP.cons3 7 (some 52) 9 (some 54) 10 (some 55) (by kernel_rfl) rfl rfl rfl ?_ ?_
    · rintro L hC hL w1 hS _ rfl _ rfl _ rfl K hK
      (try simp only [Act.put, List.setIfInBounds_toArray, List.set_cons_zero, List.set_cons_succ])
      obtain ⟨z, z3⟩ := HZ.out.2.2.2
      have z4 : ((c2 : Int) == (p : Int)) = false := by simpa using z
      clear z z3
      go_simp
      first | exact hK.out _ _ rfl ⟨hS.step 11 (by decide), R19.below (by decide) (Below.refl _ _)⟩ | exact hK.out _ _ (congrArg Value.bool z4) ⟨hS.step 11 (by decide), R19.below (by decide) (Below.refl _ _)⟩
    refine StepsP.cons2 7 (some 52) 11 (some 56) (by kernel_rfl) rfl rfl ?_ ?_
    · rintro L hC hL w1 hS _ rfl _ rfl K hK
      (try simp only [Act.put, List.setIfInBounds_toArray, List.set_cons_zero, List.set_cons_succ])
      go_simp
      exact hK.out _ _ rfl ⟨hS.step 12 (by decide), R19.below (by decide) (Below.refl _ _)⟩
    refine StepsP.cons1 12 (some 57) (by kernel_rfl) rfl ?_ ?_
    · rintro L hC hL w1 hS _ rfl K hK
      (try simp only [Act.put, List.setIfInBounds_toArray, List.set_cons_zero, List.set_cons_succ])
      go_simp
      exact hK.out _ _ rfl ⟨hS.step 13 (by decide), R19.below (by decide) (Below.refl _ _)⟩
    refine StepsP.cons1 13 (some 58) (by kernel_rfl) rfl ?_ ?_
    · rintro L hC hL w1 hS _ rfl K hK
      (try simp only [Act.put, List.setIfInBounds_toArray, List.set_cons_zero, List.set_cons_succ])
      go_simp
      exact hK.out _ _ trivial ⟨hS.step 14 (by decide), R19.below (by decide) (Below.refl _ _)⟩
    refine StepsP.cons2 13 (some 58) 14 (some 59) (by kernel_rfl) rfl rfl ?_ ?_
    · rintro L hC hL w1 hS _ rfl _ _ K hK
      (try simp only [Act.put, List.setIfInBounds_toArray, List.set_cons_zero, List.set_cons_succ])
      go_simp
      exact hK.out _ _ trivial ⟨hS.step 15 (by decide), R19.below (by decide) (Below.refl _ _)⟩
    refine StepsP.cons1 13 (some 58) (by kernel_rfl) rfl ?_ ?_
    · rintro L hC hL w1 hS _ rfl K hK
      (try simp only [Act.put, List.setIfInBounds_toArray, List.set_cons_zero, List.set_cons_succ])
      go_simp
      exact hK.out _ _ trivial ⟨hS.step 16 (by decide), R19.below (by decide) (Below.refl _ _)⟩
    refine StepsP.cons2 13 (some 58) 16 (some 61) (by kernel_rfl) rfl rfl ?_ ?_
    · rintro L hC hL w1 hS _ rfl _ _ K hK
      (try simp only [Act.put, List.setIfInBounds_toArray, List.set_cons_zero, List.set_cons_succ])
      go_simp
      exact hK.out _ _ trivial ⟨hS.step 17 (by decide), R19.below (by decide) (Below.refl _ _)⟩
    refine StepsP.cons2 13 (some 58) 17 (some 62) (by kernel_rfl) rfl rfl ?_ ?_
    · rintro L hC hL w1 hS _ rfl _ _ K hK
      (try simp only [Act.put, List.setIfInBounds_toArray, List.set_cons_zero, List.set_cons_succ])
      go_simp
      exact hK.out _ _ trivial ⟨hS.step 18 (by decide), R19.below (by decide) (Below.refl _ _)⟩
    refine StepsP.cons3 13 (some 58) 15 (some 60) 18 (some 63) (by kernel_rfl) rfl rfl rfl ?_ ?_
    · rintro L hC hL w1 hS _ rfl _ _ _ _ K hK
      (try simp only [Act.put, List.setIfInBounds_toArray, List.set_cons_zero, List.set_cons_succ])
      go_simp
      exact hK.out _ _ trivial ⟨hS.step 19 (by decide), R19.below (by decide) (Below.refl _ _)⟩
    refine StepsP.cons2 13 (some 58) 19 (some 64) (by kernel_rfl) rfl rfl ?_ ?_
    · rintro L hC hL w1 hS _ rfl _ _ K hK
      (try simp only [Act.put, List.setIfInBounds_toArray, List.set_cons_zero, List.set_cons_succ])
      go_simp
      exact hK.out _ _ rfl ⟨hS.step 20 (by decide), R19.below (by decide) (Below.refl _ _)⟩
    refine StepsP.cons1 20 (some 65) (by kernel_rfl) rfl ?_ ?_
    · rintro L hC hL w1 hS _ rfl K hK
      (try simp only [Act.put, List.setIfInBounds_toArray, List.set_cons_zero, List.set_cons_succ])
      go_simp
      exact hK.out _ _ rfl ⟨hS.step 21 (by decide), R19.below (by decide) (Below.refl _ _)⟩
    refine StepsP.cons1 21 (some 66) (by kernel_rfl) rfl ?_ ?_
    · rintro L hC hL w1 hS _ rfl K hK
      (try simp only [Act.put, List.setIfInBounds_toArray, List.set_cons_zero, List.set_cons_succ])
      go_simp
      exact hK.out _ _ trivial ⟨hS.step 22 (by decide), R19.below (by decide) (Below.refl _ _)⟩
    refine StepsP.cons1 21 (some 66) (by kernel_rfl) rfl ?_ ?_
    · rintro L hC hL w1 hS _ rfl K hK
      (try simp only [Act.put, List.setIfInBounds_toArray, List.set_cons_zero, List.set_cons_succ])
      go_simp
      exact hK.out _ _ trivial ⟨hS.step 23 (by decide), R19.below (by decide) (Below.refl _ _)⟩
    refine StepsP.cons2 21 (some 66) 23 (some 68) (by kernel_rfl) rfl rfl ?_ ?_
    · rintro L hC hL w1 hS _ rfl _ _ K hK
      (try simp only [Act.put, List.setIfInBounds_toArray, List.set_cons_zero, List.set_cons_succ])
      go_simp
      exact hK.out _ _ trivial ⟨hS.step 24 (by decide), R19.below (by decide) (Below.refl _ _)⟩
    refine StepsP.cons3 21 (some 66) 22 (some 67) 24 (some 69) (by kernel_rfl) rfl rfl rfl ?_ ?_
    · rintro L hC hL w1 hS _ rfl _ _ _ _ K hK
      (try simp only [Act.put, List.setIfInBounds_toArray, List.set_cons_zero, List.set_cons_succ])
      go_simp
      exact hK.out _ _ trivial ⟨hS.step 25 (by decide), R19.below (by decide) (Below.refl _ _)⟩
    refine StepsP.cons2 21 (some 66) 25 (some 70) (by kernel_rfl) rfl rfl ?_ ?_
    · rintro L hC hL w1 hS _ rfl _ _ K hK
      (try simp only [Act.put, List.setIfInBounds_toArray, List.set_cons_zero, List.set_cons_succ])
      go_simp
      exact hK.out _ _ rfl ⟨hS.step 26 (by decide), R19.below (by decide) (Below.refl _ _)⟩
    refine StepsP.cons1 0 (some 45) (by kernel_rfl) rfl ?_ ?_
    · rintro L hC hL w1 hS _ rfl K hK
      (try simp only [Act.put, List.setIfInBounds_toArray, List.set_cons_zero, List.set_cons_succ])
      have hL27 : L 27 = false := hL
      have h4 := (hS.old hL27).trans H4.out.2
      obtain ⟨e0, e1, f0, f1⟩ := two_of h4
      go_simp
      exact hK.out undef _ trivial ⟨hS.store h4, R19.store _ _ _ _⟩
    refine StepsP.cons1 26 (some 71) (by kernel_rfl) rfl ?_ ?_
    · rintro L hC hL w1 hS _ rfl K hK
      (try simp only [Act.put, List.setIfInBounds_toArray, List.set_cons_zero, List.set_cons_succ])
      go_simp
      exact hK.out _ _ rfl ⟨hS.step 28 (by decide), R19.below (by decide) (Below.refl _ _)⟩
    exact StepsP.nil
  have v28 := hV 28 (by decide)
  have hnew := hS.new (hLL 27 (by decide))
  have HF := Lib.hid (show Below w.heap.size w WQ from ⟨hS.os.trans HE.out.2.os, hS.tape.trans HE.out.2.tape, hS.output.trans HE.out.2.output, Nat.le_trans HE.out.2.size hS.size, fun k hk => (hS.keep k (Nat.lt_of_lt_of_le hk HE.out.2.size) (by rw [HE.out.1]; omega)).trans (HE.out.2.block k hk)⟩)
  have hv28 : vs 28 = .bool false := v28
  simp only [putl, List.foldl_cons, List.foldl_nil, Act.put, List.setIfInBounds_toArray, List.set_cons_zero, List.set_cons_succ]
  rw [hv28]
  clear hV hS hLL v28 hv28
  go_wp2_with fail
  refine bodyPost_ret (results_cell_tmp rfl _ _ q4 46 _ (0, 0) _ rfl hnew Try.underlying46 rfl info46') rfl ?_
  exact ⟨rfl, HF.out⟩
set_option maxRecDepth 20000 in
set_option maxHeartbeats 4000000 in
theorem read19z (hD : Dk A w g b n d) (hd0 : d.down = false) (hW : d.W.length ≤ 1000000) (hn : 4 ≤ n) (hn2 : n ≤ 100) (p : Nat) (hp : p < 2) (hT : look (d.S p) d.W p = zs) :
    Calls Try.prog 19 #[.pointer (some ⟨g, 0, none⟩), .int .i64 (p : Int)] w fun e w' => e = .returned (.tuple #[.agg #[.int .i64 0, .int .i64 0], .bool true]) ∧ Below w.heap.size w w' := by
  obtain ⟨wa, hwa⟩ : ∃ wa, w.alloc (.cells #[.int .i64 0, .int .i64 0] 46) = wa := ⟨_, rfl⟩
  have ba : Below w.heap.size w wa := by rw [← hwa]; exact (Below.refl _ w).alloc (Nat.le_refl _) _
  have h4a : wa.heap[w.heap.size]? = some (.cells #[.int .i64 0, .int .i64 0] 46 (0, 0)) := by rw [← hwa]; exact heap_alloc_new w _
  have H23 := read15 A wa g b n d (hD.below ba) p (by omega) hd0 hW
  rw [hT] at H23
  have HB := Lib.hid (And.intro ba h4a)
  clear hT ba h4a hD hd0 hW hn hn2
  go_enter Try.func19, Try.ntmps19
  go_upto_region 5 with (first
    | (go_at_call 23; (with_reducible refine H23.mono ?_); rintro e w1 ⟨q, rfl, hq1, hq2, hq3, b1⟩; have HQ := Lib.hid (And.intro hq1 (And.intro hq2 (And.intro hq3 b1))); clear hq1 hq2 hq3 b1 H23; have hmk : (Instr.makeSlice 23 (.int .i64 512) (.int .i64 512)).run Try.prog w1 = .ok (.slice (some ⟨w1.heap.size, 0, none⟩) 512 512) (w1.alloc (.cells (madeCells (Value.int .u8 0).cells 512) 5)) := make28 w1 512 (by omega); have H31 := equal31 (w1.alloc (.cells (madeCells (Value.int .u8 0).cells 512) 5)) (some ⟨q, 0, none⟩) (some ⟨w1.heap.size, 0, none⟩) 512 512 512 512 zs (List.replicate 512 0#8) zs_len.symm (by simp) ((bys_rng HQ.out.2.2.1).below ((Below.refl _ w1).alloc (Nat.le_refl _) _)) (bys_made w1 512); rw [show decide (zs = (List.replicate 512 0#8 : List Byte)) = true from by unfold zs; exact decide_eq_true rfl] at H31; obtain ⟨wm, hwm⟩ : ∃ wm, w1.alloc (.cells (madeCells (Value.int .u8 0).cells 512) 5) = wm := ⟨_, rfl⟩; have bwm : Below w1.heap.size w1 wm := (hwm ▸ (Below.refl _ w1).alloc (Nat.le_refl _) _); rw [hwm] at hmk H31; have HWM := Lib.hid bwm; clear hwm bwm)
    | (go_at_call 31; (with_reducible refine H31.mono ?_); rintro e w2 ⟨rfl, hw2⟩; obtain rfl : wm = w2 := hw2.symm; clear H31))
  have baw : Below wa.heap.size wa wm := below_then HQ.out.2.2.2 HWM.out
  have h4 : wm.heap[w.heap.size]? = some (.cells #[.int .i64 0, .int .i64 0] 46 (0, 0)) := (baw.block _ (Array.getElem?_eq_some_iff.1 HB.out.2).1).trans HB.out.2
  obtain ⟨e0, e1, f0, f1⟩ := two_of h4
  obtain ⟨q4, hq4⟩ : ∃ q4, q4 = w.heap.size := ⟨_, rfl⟩
  rw [← hq4] at h4 e0 e1 f0 f1 ⊢
  have hst : ((wm.setCell ⟨q4, 0, none⟩ (.int .i64 0)).setCell ⟨q4, 1, none⟩ (.int .i64 0)).heap[q4]? = some (.cells #[.int .i64 0, .int .i64 0] 46 (0, 0)) := by
    have e : (wm.setCell ⟨q4, 0, none⟩ (.int .i64 0)).heap[q4]? = some (.cells #[.int .i64 0, .int .i64 0] 46 (0, 0)) := by rw [heap_setCell_same wm q4 0 _ 46 _ h4]; rfl
    rw [heap_setCell_same _ q4 1 _ 46 _ e]; rfl
  have hbf : Below w.heap.size w ((wm.setCell ⟨q4, 0, none⟩ (.int .i64 0)).setCell ⟨q4, 1, none⟩ (.int .i64 0)) := ((below_then HB.out.1 baw).setCell (p := ⟨q4, 0, none⟩) (by show w.heap.size ≤ q4; omega) _).setCell (p := ⟨q4, 1, none⟩) (by show w.heap.size ≤ q4; omega) _
  have HF := Lib.hid (And.intro hst hbf)
  clear hst hbf h4 baw hq4
  go_wp2_with fail
  refine bodyPost_ret (results_cell_tmp rfl _ _ q4 46 _ (0, 0) _ rfl HF.out.1 Try.underlying46 rfl info46') rfl ?_
  exact ⟨rfl, HF.out.2⟩
end
end Go.Proofs.Ytjabkfccfecmgaa
