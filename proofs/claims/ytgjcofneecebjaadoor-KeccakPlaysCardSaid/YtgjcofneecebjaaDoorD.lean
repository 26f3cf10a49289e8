/- A byte laid into a sponge, its turn, bytes taken in: walked. -/
import Derived.Test.YtgjcofneecebjaaDoorC
import Derived.Test.YtgjcofneecebjaaDoorE
namespace Go.Proofs.YtgjcofneecebjaaDoor
open Go.ChangeShapes Go.WideShapes Go.ChangeAt Go.RowKit
set_option linter.unusedSimpArgs false
set_option linter.unusedVariables false
theorem grown_trans {a b c : World} {g : Nat} (h : a.grownBy b (some g)) (j : b.grownBy c (some g)) : a.grownBy c (some g) :=
  ⟨j.os.trans h.os, j.tape.trans h.tape, j.output.trans h.output, Nat.le_trans h.size j.size, fun k hk hne => (j.block k (Nat.lt_of_lt_of_le hk h.size) hne).trans (h.block k hk hne)⟩
abbrev St := (Nat → Int) × Nat
def layf (W : Nat → Int) (t : Nat) (c : Int) : Nat → Int := upd W (t / 8) (bits .xor .u64 (W (t / 8)) (IntKind.u64.wrap (c * 2 ^ (t % 8 * 8))))
/-- The turn, if the state is at its end. -/
def trn (rt : Nat) (s : St) : St := if s.2 = rt then (prm s.1 24, 0) else s
def put1 (rt : Nat) (s : St) (c : BitVec 8) : St := trn rt (layf s.1 s.2 (bt c), s.2 + 1)
def takes (rt : Nat) (s : St) (D : List (BitVec 8)) : St := D.foldl (put1 rt) s
def pad (rt : Nat) (en : Int) (s : St) : St := (prm (layf (layf s.1 s.2 en) (rt - 1) 128) 24, 0)
def byteAt (s : St) : BitVec 8 := BitVec.ofInt 8 (s.1 (s.2 / 8) / 2 ^ (s.2 % 8 * 8))
def gives (rt : Nat) (s : St) : Nat → List (BitVec 8) × St
  | 0 => ([], s)
  | n + 1 => ((gives rt s n).1 ++ [byteAt (trn rt (gives rt s n).2)], ((trn rt (gives rt s n).2).1, (trn rt (gives rt s n).2).2 + 1))
def Vla (g t q r8 s : Nat) (a c m : Int) : Nat → Value → World → Prop
  | 0, v, w => v = .pointer (some ⟨g, 0, none⟩)
  | 1, v, w => v = .int .i64 t
  | 2, v, w => v = .int .i64 q
  | 3, v, w => v = .pointer (some ⟨g, 0, none⟩)
  | 4, v, w => v = .pointer (some ⟨g, 2, none⟩)
  | 5, v, w => v = .pointer (some ⟨g, 2 + q, none⟩)
  | 6, v, w => v = .int .u64 a
  | 7, v, w => v = .int .u8 c
  | 8, v, w => v = .int .u64 c
  | 9, v, w => v = .int .i64 t
  | 10, v, w => v = .int .i64 r8
  | 11, v, w => v = .int .i64 s
  | 12, v, w => v = .int .u64 m
  | 13, v, w => v = .int .u64 (bits .xor .u64 a m)
  | 14, v, w => v = .pointer (some ⟨g, 0, none⟩)
  | 15, v, w => v = .pointer (some ⟨g, 2, none⟩)
  | 16, v, w => v = .pointer (some ⟨g, 2 + q, none⟩)
  | _, _, _ => True
theorem Vla_keep (g t q r8 s : Nat) (a c m : Int) (i1 : Nat) (v : Value) (w w' : World) (h : Vla g t q r8 s a c m i1 v w) (r : (fun w w' => Below w.heap.size w w') w w') : Vla g t q r8 s a c m i1 v w' := by
  rcases i1 with _ | _ | _ | _ | _ | _ | _ | _ | _ | _ | _ | _ | _ | _ | _ | _ | _ | _
  · exact h
  · exact h
  · exact h
  · exact h
  · exact h
  · exact h
  · exact h
  · exact h
  · exact h
  · exact h
  · exact h
  · exact h
  · exact h
  · exact h
  · exact h
  · exact h
  · exact h
  · trivial
def Vtw (g t1 rt : Nat) (bb : Bool) : Nat → Value → World → Prop
  | 0, v, w => v = .pointer (some ⟨g, 0, none⟩)
  | 1, v, w => v = .pointer (some ⟨g, 0, none⟩)
  | 2, v, w => v = .pointer (some ⟨g, 0, none⟩)
  | 3, v, w => v = .pointer (some ⟨g, 27, none⟩)
  | 4, v, w => v = .int .i64 t1
  | 5, v, w => v = .pointer (some ⟨g, 0, none⟩)
  | 6, v, w => v = .pointer (some ⟨g, 0, none⟩)
  | 7, v, w => v = .pointer (some ⟨g, 0, none⟩)
  | 8, v, w => v = .int .i64 rt
  | 9, v, w => v = .bool bb
  | _, _, _ => True
theorem Vtw_keep (g t1 rt : Nat) (bb : Bool) (i1 : Nat) (v : Value) (w w' : World) (h : Vtw g t1 rt bb i1 v w) (r : (fun w w' => Below w.heap.size w w') w w') : Vtw g t1 rt bb i1 v w' := by
  rcases i1 with _ | _ | _ | _ | _ | _ | _ | _ | _ | _ | _
  · exact h
  · exact h
  · exact h
  · exact h
  · exact h
  · exact h
  · exact h
  · exact h
  · exact h
  · exact h
  · trivial
set_option maxRecDepth 20000 in
set_option maxHeartbeats 4000000 in
theorem lay24 (g t : Nat) (rt en at_ : Int) (gv : Bool) (W : Nat → Int) (c : Int) (w : World) (hS : Spg w g rt en W at_ gv) (ht : t < 200) (hc : 0 ≤ c ∧ c < 256) :
    Calls Tryd.prog 24 #[.pointer (some ⟨g, 0, none⟩), .int .i64 t, .int .u8 c] w fun e w' => e = .returned (.tuple #[]) ∧ Spg w' g rt en (layf W t c) at_ gv ∧ w.grownBy w' (some g) := by
  obtain ⟨q, hq⟩ : ∃ q, t / 8 = q := ⟨_, rfl⟩
  obtain ⟨r8, hr⟩ : ∃ r, t % 8 = r := ⟨_, rfl⟩
  obtain ⟨s, hs⟩ : ∃ s, r8 * 8 = s := ⟨_, rfl⟩
  obtain ⟨m, hm⟩ : ∃ m, IntKind.u64.wrap (c * 2 ^ s) = m := ⟨_, rfl⟩
  obtain ⟨a, ha⟩ : ∃ a, W q = a := ⟨_, rfl⟩
  have HA : Hid (some (Value.int .u64 (W q)) = some (.int .u64 a)) := Lib.hid (by rw [ha])
  have HT := Lib.hid (show layf W t c = upd W q (bits .xor .u64 a m) by unfold layf; rw [hq, hr, hs, hm, ha])
  have hq25 : q < 25 := by omega
  have t1 : (t : Int) / 8 = (q : Int) := by omega
  have t2 : (t : Int).tdiv 8 = (q : Int) := by rw [Int.tdiv_eq_ediv_of_nonneg (by omega)]; omega
  have t3 : (t : Int) % 8 = (r8 : Int) := by omega
  have t4 : (t : Int).tmod 8 = (r8 : Int) := by rw [Int.tmod_eq_emod_of_nonneg (by omega)]; omega
  have t5 : (r8 : Int) * 8 = (s : Int) := by omega
  have z0 : (0 : Int) ≤ (q : Int) := by omega
  have z1 : (q : Int) < 25 := by omega
  have z2 : (0 : Int) ≤ (s : Int) := by omega
  have e1 : IntKind.i64.wrap (q : Int) = (q : Int) := IntWalk.i64_in _ (by omega)
  have e2 : IntKind.i64.wrap (s : Int) = (s : Int) := IntWalk.i64_in _ (by omega)
  have e3 : IntKind.u64.wrap c = c := by rw [IntKind.wrap_u64]; omega
  have hs64 : s < 64 := by omega
  have h2 := hS.drew
  have g2 := grown_below (World.grownBy.refl w (some g)) ((Below.refl w.heap.size w).drew)
  clear hq hr hs ha hS
  go_enter Tryd.func24, Tryd.ntmps24
  go_upto_region 0 with fail
  refine region_monoT 17 (fun x => Spg x g rt en W at_ gv ∧ w.grownBy x (some g)) (fun w w' => Below w.heap.size w w') (Vla g t q r8 s a c m) [(0, some 6), (1, some 7), (2, some 8), (3, some 9), (4, some 10), (5, some 11), (6, some 12), (7, some 13), (8, some 14), (9, some 15), (10, some 16), (11, some 17), (12, some 18), (13, some 19), (14, some 20), (15, some 21), (16, some 22)] (by kernel_rfl) (by kernel_rfl) (by kernel_rfl) (by kernel_rfl) (fun _ _ h r => ⟨h.1.below r h.1.lt, grown_below h.2 r⟩) (fun i1 v1 w1 w2 _ h1 r1 => Vla_keep g t q r8 s a c m i1 v1 w1 w2 h1 r1) (⟨h2, g2⟩) ?_ (fun vs w' hS hV => ?_)
  · refine StepsL.cons0  (by kernel_rfl)  ?_ ?_
    · rintro w1 hS  K hK
      (try simp only [Act.put, List.setIfInBounds_toArray, List.set_cons_zero, List.set_cons_succ])
      go_simp
      exact hK.out _ _ rfl (Below.refl _ _)
    refine StepsL.cons0  (by kernel_rfl)  ?_ ?_
    · rintro w1 hS  K hK
      (try simp only [Act.put, List.setIfInBounds_toArray, List.set_cons_zero, List.set_cons_succ])
      go_simp
      exact hK.out _ _ rfl (Below.refl _ _)
    refine StepsL.cons1 1 (some 7) (by kernel_rfl) rfl ?_ ?_
    · rintro w1 hS _ rfl K hK
      (try simp only [Act.put, List.setIfInBounds_toArray, List.set_cons_zero, List.set_cons_succ])
      go_simp
      exact hK.out _ _ rfl (Below.refl _ _)
    refine StepsL.cons1 0 (some 6) (by kernel_rfl) rfl ?_ ?_
    · rintro w1 hS _ rfl K hK
      (try simp only [Act.put, List.setIfInBounds_toArray, List.set_cons_zero, List.set_cons_succ])
      go_simp
      exact hK.out _ _ rfl (Below.refl _ _)
    refine StepsL.cons1 3 (some 9) (by kernel_rfl) rfl ?_ ?_
    · rintro w1 hS _ rfl K hK
      (try simp only [Act.put, List.setIfInBounds_toArray, List.set_cons_zero, List.set_cons_succ])
      go_simp
      exact hK.out _ _ rfl (Below.refl _ _)
    refine StepsL.cons2 2 (some 8) 4 (some 10) (by kernel_rfl) rfl rfl ?_ ?_
    · rintro w1 hS _ rfl _ rfl K hK
      (try simp only [Act.put, List.setIfInBounds_toArray, List.set_cons_zero, List.set_cons_succ])
      go_simp
      exact hK.out _ _ rfl (Below.refl _ _)
    refine StepsL.cons1 5 (some 11) (by kernel_rfl) rfl ?_ ?_
    · rintro w1 hS _ rfl K hK
      (try simp only [Act.put, List.setIfInBounds_toArray, List.set_cons_zero, List.set_cons_succ])
      have hcl := hS.1.cell q hq25 |>.trans HA.out
      go_simp
      exact hK.out _ _ rfl (Below.refl _ _)
    refine StepsL.cons0  (by kernel_rfl)  ?_ ?_
    · rintro w1 hS  K hK
      (try simp only [Act.put, List.setIfInBounds_toArray, List.set_cons_zero, List.set_cons_succ])
      go_simp
      exact hK.out _ _ rfl (Below.refl _ _)
    refine StepsL.cons1 7 (some 13) (by kernel_rfl) rfl ?_ ?_
    · rintro w1 hS _ rfl K hK
      (try simp only [Act.put, List.setIfInBounds_toArray, List.set_cons_zero, List.set_cons_succ])
      go_simp
      exact hK.out _ _ rfl (Below.refl _ _)
    refine StepsL.cons0  (by kernel_rfl)  ?_ ?_
    · rintro w1 hS  K hK
      (try simp only [Act.put, List.setIfInBounds_toArray, List.set_cons_zero, List.set_cons_succ])
      go_simp
      exact hK.out _ _ rfl (Below.refl _ _)
    refine StepsL.cons1 9 (some 15) (by kernel_rfl) rfl ?_ ?_
    · rintro w1 hS _ rfl K hK
      (try simp only [Act.put, List.setIfInBounds_toArray, List.set_cons_zero, List.set_cons_succ])
      go_simp
      exact hK.out _ _ rfl (Below.refl _ _)
    refine StepsL.cons1 10 (some 16) (by kernel_rfl) rfl ?_ ?_
    · rintro w1 hS _ rfl K hK
      (try simp only [Act.put, List.setIfInBounds_toArray, List.set_cons_zero, List.set_cons_succ])
      go_simp
      exact hK.out _ _ rfl (Below.refl _ _)
    refine StepsL.cons2 8 (some 14) 11 (some 17) (by kernel_rfl) rfl rfl ?_ ?_
    · rintro w1 hS _ rfl _ rfl K hK
      (try simp only [Act.put, List.setIfInBounds_toArray, List.set_cons_zero, List.set_cons_succ])
      go_simp
      exact hK.out _ _ rfl (Below.refl _ _)
    refine StepsL.cons2 6 (some 12) 12 (some 18) (by kernel_rfl) rfl rfl ?_ ?_
    · rintro w1 hS _ rfl _ rfl K hK
      (try simp only [Act.put, List.setIfInBounds_toArray, List.set_cons_zero, List.set_cons_succ])
      go_simp
      exact hK.out _ _ rfl (Below.refl _ _)
    refine StepsL.cons1 0 (some 6) (by kernel_rfl) rfl ?_ ?_
    · rintro w1 hS _ rfl K hK
      (try simp only [Act.put, List.setIfInBounds_toArray, List.set_cons_zero, List.set_cons_succ])
      go_simp
      exact hK.out _ _ rfl (Below.refl _ _)
    refine StepsL.cons1 14 (some 20) (by kernel_rfl) rfl ?_ ?_
    · rintro w1 hS _ rfl K hK
      (try simp only [Act.put, List.setIfInBounds_toArray, List.set_cons_zero, List.set_cons_succ])
      go_simp
      exact hK.out _ _ rfl (Below.refl _ _)
    refine StepsL.cons2 2 (some 8) 15 (some 21) (by kernel_rfl) rfl rfl ?_ ?_
    · rintro w1 hS _ rfl _ rfl K hK
      (try simp only [Act.put, List.setIfInBounds_toArray, List.set_cons_zero, List.set_cons_succ])
      go_simp
      exact hK.out _ _ rfl (Below.refl _ _)
    exact StepsL.nil
  · have e13 : vs 13 = .int .u64 (bits .xor .u64 a m) := hV 13 (by omega)
    have e16 : vs 16 = .pointer (some ⟨g, 2 + q, none⟩) := hV 16 (by omega)
    simp only [putl, List.foldl_cons, List.foldl_nil, Act.put, List.setIfInBounds_toArray, List.set_cons_zero, List.set_cons_succ, e13, e16]
    simp only [List.drop_succ_cons, List.drop_zero]
    obtain ⟨h3, g3⟩ := hS
    have hcl := h3.cell q hq25
    have hff := h3.frozen (2 + q)
    have h4 := h3.set q (bits .xor .u64 a m) hq25
    rw [← HT.out] at h4
    have g4 := grown_set' g3 ⟨g, 2 + q, none⟩ (.int .u64 (bits .xor .u64 a m)) (.inl rfl)
    clear hV e13 e16 h3 g3
    go_wp2_with fail
    go_end0
    exact ⟨rfl, h4, g4⟩
theorem turn25 (g t rt : Nat) (en : Int) (gv is : Bool) (W : Nat → Int) (w : World) (hS : Spg w g rt en W t gv) (hK : TK w) (hg : 3 ≤ g) :
    Calls Tryd.prog 25 #[.pointer (some ⟨g, 0, none⟩), .bool is] w fun e w' => e = .returned (.tuple #[]) ∧ Spg w' g rt en (if is then prm W 24 else W) (if is then 0 else (t : Int)) gv ∧ w.grownBy w' (some g) := by
  go_enter Tryd.func25, Tryd.ntmps25
  cases is with
  | false =>
    go_wp2_with fail
    go_end0
    exact ⟨rfl, hS, World.grownBy.refl _ _⟩
  | true =>
    go_wp2_with (first | (go_at_call 30; (with_reducible refine (change30 g rt en t gv W _ hS hK hg).mono ?_); rintro e w1 ⟨rfl, h1, g1⟩; have hcl := h1.at27; have hff := h1.frozen 27; have h2 := h1.setAt 0; have g2 := grown_set' g1 ⟨g, 27, none⟩ (.int .i64 0) (.inl rfl)))
    go_end0
    exact ⟨rfl, h2, g2⟩
theorem takes_succ (rt : Nat) (s : St) (D : List (BitVec 8)) (n : Nat) (x : BitVec 8) (hx : D[n]? = some x) : takes rt s (D.take (n + 1)) = put1 rt (takes rt s (D.take n)) x := by
  unfold takes
  rw [List.take_add_one, hx, List.foldl_append]
  rfl
theorem takes_append (rt : Nat) (s : St) (A B : List (BitVec 8)) : takes rt s (A ++ B) = takes rt (takes rt s A) B := by
  unfold takes; rw [List.foldl_append]
theorem trn_lt {rt : Nat} {s : St} (h0 : 0 < rt) (h : s.2 ≤ rt) : (trn rt s).2 < rt := by
  unfold trn; split
  · exact h0
  · rename_i hn; show s.2 < rt; omega
theorem takes_lt {rt : Nat} {s : St} (h0 : 0 < rt) (h : s.2 < rt) (D : List (BitVec 8)) : (takes rt s D).2 < rt := by
  unfold takes
  induction D generalizing s with
  | nil => exact h
  | cons x D ih => exact ih (trn_lt h0 (by show s.2 + 1 ≤ rt; omega))
set_option maxRecDepth 20000 in
set_option maxHeartbeats 4000000 in
theorem write12 (g rt : Nat) (en : Int) (s : St) (D : List (BitVec 8)) (bo : Option Addr) (m bc : Nat) (w : World) (hm : m = D.length) (hL : m ≤ 4294967296) (hS : Spg w g rt en s.1 s.2 false) (hs : s.2 < rt) (hrt : rt ≤ 192)
    (hD : Byt w g bo D) (hK : TK w) (hg : 3 ≤ g) :
    Calls Tryd.prog 12 #[.pointer (some ⟨g, 0, none⟩), .slice bo m bc] w fun e w' => e = .returned (.tuple #[]) ∧ Spg w' g rt en (takes rt s D).1 (takes rt s D).2 false ∧ w.grownBy w' (some g) := by
  have HM := Lib.hid hm
  have HK := Lib.hid (fun (x : World) (j : w.grownBy x (some g)) => hK.grown j (fun b e => by injection e with e; omega))
  have HD := Lib.hid (fun (x : World) (j : w.grownBy x (some g)) => hD.grown j)
  have hc28 := hS.gives
  clear hm hK
  go_enter Tryd.func12, Tryd.ntmps12
  go_wp2_with fail
  clear hc28 hD
  go_loopg [12] m (fun k v wr => ∃ n : Nat, v = .int .i64 n ∧ n + k = m ∧ Spg wr g rt en (takes rt s (D.take n)).1 (takes rt s (D.take n)).2 false ∧ w.grownBy wr (some g))
  case atStart => exact ⟨0, rfl, by omega, hS, World.grownBy.refl _ _⟩
  case round =>
    clear hS
    obtain ⟨n, rfl, hn, h1, g1⟩ := hrel
    by_cases hlt : n < m
    · have hnl : n < D.length := by have := HM.out; omega
      have HX := Lib.hid (takes_succ rt s D n D[n] (List.getElem?_eq_getElem hnl))
      have hlt2 := takes_lt (rt := rt) (by omega) hs (D.take n)
      obtain ⟨u, hu⟩ : ∃ u, u = takes rt s (D.take n) := ⟨_, rfl⟩
      rw [← hu] at h1 HX hlt2
      obtain ⟨⟨W, t⟩, hWt⟩ : ∃ p : St, p = u := ⟨_, rfl⟩
      rw [← hWt] at h1 HX hlt2
      have hb := HD.out _ g1
      obtain ⟨ad, rfl⟩ : ∃ ad, bo = some ad := by
        cases bo with
        | none => have h9 := congrArg List.length (hb.nil rfl); rw [List.length_nil] at h9; omega
        | some ad => exact ⟨ad, rfl⟩
      have hcell : wr.cell? (ad.add n) = some (.int .u8 (bt D[n])) := (hb.cells ad rfl).2.2 n _ (List.getElem?_eq_getElem hnl)
      have hbd := bt_bd D[n]
      obtain ⟨c, hc⟩ : ∃ c, c = bt D[n] := ⟨_, rfl⟩
      rw [← hc] at hcell hbd
      obtain ⟨t1, ht1⟩ : ∃ t1, t1 = t + 1 := ⟨_, rfl⟩
      have e1 : IntKind.i64.wrap ((t : Int) + 1) = (t1 : Int) := by rw [IntWalk.i64_in _ (by simp at hlt2; omega)]; omega
      have e2 : IntKind.i64.wrap ((n : Int) + 1) = (n : Int) + 1 := IntWalk.i64_in _ (by omega)
      have q1 : (0 : Int) ≤ (n : Int) := by omega
      have q2 : (n : Int) < (m : Int) := by omega
      have h1' : Spg wr g rt en W t false := h1
      have hc27 := h1'.at27
      have HN := Lib.hid hn
      have ht192 : t < 192 := by simp at hlt2; omega
      have HC := Lib.hid hc
      have HT1 := Lib.hid ht1
      clear hc ht1 hWt hu hlt2 hn h1
      go_upto_region 6 with (first
        | (go_at_call 24; (with_reducible refine (lay24 g t rt en t false W c _ h1' ?l1 ?l2).mono ?_); (case l1 => omega); (case l2 => exact hbd); rintro e w2 ⟨rfl, h2, g2⟩; have hc2 := h2.at27; have hf2 := h2.frozen 27; have h3 := h2.setAt (t1 : Int); have g3 := grown_set' (grown_trans g1 g2) ⟨g, 27, none⟩ (.int .i64 (t1 : Int)) (.inl rfl)))
      obtain ⟨w3, hw3⟩ : ∃ w3, w3 = w2.setCell ⟨g, 27, none⟩ (.int .i64 (t1 : Int)) := ⟨_, rfl⟩
      rw [← hw3] at h3 g3 ⊢
      obtain ⟨W2, hW2⟩ : ∃ W2, W2 = layf W t c := ⟨_, rfl⟩
      rw [← hW2] at h3
      obtain ⟨bb, hbb⟩ : ∃ bb, decide (t1 = rt) = bb := ⟨_, rfl⟩
      have be1 : ((t1 : Int) == (rt : Int)) = bb := by
        rw [← hbb]
        by_cases h : t1 = rt
        · simp [h]
        · have h2 : ¬ (t1 : Int) = (rt : Int) := by omega
          simp [h, h2]
      have be2 : decide ((t1 : Int) = (rt : Int)) = bb := by
        rw [← hbb]
        by_cases h : t1 = rt
        · simp [h]
        · have h2 : ¬ (t1 : Int) = (rt : Int) := by omega
          simp [h, h2]
      have be3 : (t1 == rt) = bb := by
        rw [← hbb]
        by_cases h : t1 = rt
        · simp [h]
        · have h2 : ¬ (t1 : Int) = (rt : Int) := by omega
          simp [h, h2]
      have h2 := h3.drew
      have g2 := grown_below g3 ((Below.refl w3.heap.size w3).drew)
      have kk := HK.out _ g2
      have HB := Lib.hid hbb
      have HW2 := Lib.hid hW2
      clear hw3 h3 g3 hbb hW2 hc27 hcell g1 h1' hb hc2 hf2
      refine region_monoT 10 (fun x => Spg x g rt en W2 t1 false ∧ TK x ∧ w.grownBy x (some g)) (fun w w' => Below w.heap.size w w') (Vtw g t1 rt bb) [(0, some 30), (1, some 31), (2, some 32), (3, some 33), (4, some 34), (5, some 35), (6, some 36), (7, some 37), (8, some 38), (9, some 39)] (by kernel_rfl) (by kernel_rfl) (by kernel_rfl) (by kernel_rfl) (fun _ _ h r => ⟨h.1.below r h.1.lt, h.2.1.below r h.2.1.lt, grown_below h.2.2 r⟩) (fun i1 v1 w1 w2 _ h1 r1 => Vtw_keep g t1 rt bb i1 v1 w1 w2 h1 r1) (⟨h2, kk, g2⟩) ?_ (fun vs w' hS hV => ?_)
      · refine StepsL.cons0  (by kernel_rfl)  ?_ ?_
        · rintro w1 hS  K hK
          (try simp only [Act.put, List.setIfInBounds_toArray, List.set_cons_zero, List.set_cons_succ])
          go_simp
          exact hK.out _ _ rfl (Below.refl _ _)
        refine StepsL.cons0  (by kernel_rfl)  ?_ ?_
        · rintro w1 hS  K hK
          (try simp only [Act.put, List.setIfInBounds_toArray, List.set_cons_zero, List.set_cons_succ])
          go_simp
          exact hK.out _ _ rfl (Below.refl _ _)
        refine StepsL.cons1 1 (some 31) (by kernel_rfl) rfl ?_ ?_
        · rintro w1 hS _ rfl K hK
          (try simp only [Act.put, List.setIfInBounds_toArray, List.set_cons_zero, List.set_cons_succ])
          go_simp
          exact hK.out _ _ rfl (Below.refl _ _)
        refine StepsL.cons1 2 (some 32) (by kernel_rfl) rfl ?_ ?_
        · rintro w1 hS _ rfl K hK
          (try simp only [Act.put, List.setIfInBounds_toArray, List.set_cons_zero, List.set_cons_succ])
          go_simp
          exact hK.out _ _ rfl (Below.refl _ _)
        refine StepsL.cons1 3 (some 33) (by kernel_rfl) rfl ?_ ?_
        · rintro w1 hS _ rfl K hK
          (try simp only [Act.put, List.setIfInBounds_toArray, List.set_cons_zero, List.set_cons_succ])
          have hcl := hS.1.at27
          go_simp
          exact hK.out _ _ rfl (Below.refl _ _)
        refine StepsL.cons0  (by kernel_rfl)  ?_ ?_
        · rintro w1 hS  K hK
          (try simp only [Act.put, List.setIfInBounds_toArray, List.set_cons_zero, List.set_cons_succ])
          go_simp
          exact hK.out _ _ rfl (Below.refl _ _)
        refine StepsL.cons1 5 (some 35) (by kernel_rfl) rfl ?_ ?_
        · rintro w1 hS _ rfl K hK
          (try simp only [Act.put, List.setIfInBounds_toArray, List.set_cons_zero, List.set_cons_succ])
          go_simp
          exact hK.out _ _ rfl (Below.refl _ _)
        refine StepsL.cons1 6 (some 36) (by kernel_rfl) rfl ?_ ?_
        · rintro w1 hS _ rfl K hK
          (try simp only [Act.put, List.setIfInBounds_toArray, List.set_cons_zero, List.set_cons_succ])
          go_simp
          exact hK.out _ _ rfl (Below.refl _ _)
        refine StepsL.cons1 7 (some 37) (by kernel_rfl) rfl ?_ ?_
        · rintro w1 hS _ rfl K hK
          (try simp only [Act.put, List.setIfInBounds_toArray, List.set_cons_zero, List.set_cons_succ])
          have hcl := hS.1.rate
          go_simp
          exact hK.out _ _ rfl (Below.refl _ _)
        refine StepsL.cons2 4 (some 34) 8 (some 38) (by kernel_rfl) rfl rfl ?_ ?_
        · rintro w1 hS _ rfl _ rfl K hK
          (try simp only [Act.put, List.setIfInBounds_toArray, List.set_cons_zero, List.set_cons_succ])
          go_simp
          exact hK.out _ _ rfl (Below.refl _ _)
        exact StepsL.nil
      · have e0 : vs 0 = .pointer (some ⟨g, 0, none⟩) := hV 0 (by omega)
        have e9 : vs 9 = .bool bb := hV 9 (by omega)
        simp only [putl, List.foldl_cons, List.foldl_nil, Act.put, List.setIfInBounds_toArray, List.set_cons_zero, List.set_cons_succ, e0, e9]
        simp only [List.drop_succ_cons, List.drop_zero]
        obtain ⟨h3, k3, g3⟩ := hS
        clear hV e0 e9 h2 g2 kk
        go_wp2_with (first | (go_at_call 25; (with_reducible refine (turn25 g t1 rt en false bb W2 _ h3 k3 hg).mono ?_); rintro e w4 ⟨rfl, h4, g4⟩))
        have g5 := grown_trans g3 g4
        have h5 : Spg w4 g rt en (takes rt s (D.take (n + 1))).1 (takes rt s (D.take (n + 1))).2 false := by
          rw [HX.out]
          unfold put1 trn
          rw [← HC.out, ← HT1.out, ← HW2.out]
          cases bb with
          | true => rw [if_pos (of_decide_eq_true HB.out)]; exact h4
          | false => rw [if_neg (of_decide_eq_false HB.out)]; exact h4
        clear h4 g4 h3 g3 k3
        go_roundg (gk - 1)
        case measure => have := HN.out; omega
        case rel => exact ⟨n + 1, by simp, by have := HN.out; omega, h5, g5⟩
    · have hd : decide (n < m) = false := by simp; omega
      obtain rfl : n = m := by omega
      have hDm : D.take n = D := by rw [HM.out, List.take_length]
      rw [hDm] at h1
      clear hDm hn
      go_wp2_with fail
      go_end0
      exact ⟨rfl, h1, g1⟩
end Go.Proofs.YtgjcofneecebjaaDoor
