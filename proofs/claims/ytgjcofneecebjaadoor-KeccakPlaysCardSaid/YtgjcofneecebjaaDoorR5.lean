/- The document's Write, walked. -/
import Derived.Test.YtgjcofneecebjaaDoorR4
namespace Go.Proofs.YtgjcofneecebjaaDoor
open Go.ChangeShapes Go.WideShapes Go.ChangeAt Go.RowKit
set_option linter.unusedSimpArgs false
set_option linter.unusedVariables false
theorem load47m {ops : Array Oper} {rest : List Oper} {o : Oper} {a : Act} {w : World} {Q : Exit → Act → World → Prop} (hgd : o.guard = none) (x : Operand) (ho : o.op = .load 47 x)
    (b off : Nat) (hx : a.eval x = .pointer (some ⟨b, off, none⟩)) {f : Nat → Int} (r : ∀ i, i < 25 → w.cell? ⟨b, off + i, none⟩ = some (.int .u64 (f i)))
    (h : wpList Tryd.prog ops Q rest (a.put o.dst (.agg (arr .u64 25 f))) w) : wpList Tryd.prog ops Q (o :: rest) a w :=
  wpList_load_mid hgd 47 x ho b off hx (arr .u64 25 f).toList _ (fun j v hv => by
    have hj : j < 25 := by
      have := (List.getElem?_eq_some_iff.1 hv).1
      simpa [arr_size] using this
    have : (arr .u64 25 f)[j]? = some v := by simpa using hv
    rw [arr_get .u64 25 f j hj] at this
    rw [r j hj, ← this]) Tryd.underlying47 rfl (by simp [arr_size, info47]) (by simpa using h)
theorem store47m {ops : Array Oper} {rest : List Oper} {o : Oper} {a : Act} {w : World} {Q : Exit → Act → World → Prop} (hgd : o.guard = none) (x y : Operand) (ho : o.op = .store 47 x y)
    (b off : Nat) (g : Nat → Int) (hx : a.eval x = .pointer (some ⟨b, off, none⟩)) (hy : a.eval y = .agg (arr .u64 25 g))
    (ht : ∀ i, i < 25 → (w.cell? ⟨b, off + i, none⟩).isSome = true ∧ w.frozen? ⟨b, off + i, none⟩ = false)
    (h : wpList Tryd.prog ops Q rest (a.put o.dst undef) (w.setCells b off (arr .u64 25 g).toList)) : wpList Tryd.prog ops Q (o :: rest) a w :=
  wpList_store_mid hgd 47 x y ho b off _ hx hy (by rw [arr_size]; exact ht) (by rw [arr_size]; exact info47) (arr_one _ _ _) h
theorem uptoset (n : Nat) (A B : Nat → Int) : upd (upto n A B) n (A n) = upto (n + 1) A B := upto_set n A B
theorem Spr.rows {g : Nat} {rt en at_ : Int} {gv : Bool} {W Y : Nat → Int} (n : Nat) : ∀ (i : Nat) (w : World), n + i = 25 → Spr w g rt en (upto i Y W) at_ gv → Spr (w.setCells g (2 + i) ((arr .u64 25 Y).toList.drop i)) g rt en Y at_ gv := by
  induction n with
  | zero =>
    intro i w hi h
    rw [List.drop_of_length_le (by simp [arr_size]; omega)]
    exact h.congr (fun j hj => by unfold upto; rw [if_pos (by omega)])
  | succ n ih =>
    intro i w hi h
    have hl : i < (arr .u64 25 Y).toList.length := by simp [arr_size]; omega
    rw [List.drop_eq_getElem_cons hl]
    have e : (arr .u64 25 Y).toList[i] = .int .u64 (Y i) := by
      rw [Array.getElem_toList]; exact arr_at _ _ _ _ _
    rw [e]
    show Spr ((w.setCell ⟨g, 2 + i, none⟩ (.int .u64 (Y i))).setCells g (2 + i + 1) _) g rt en Y at_ gv
    have := ih (i + 1) _ (by omega) (by rw [← uptoset]; exact h.set i (Y i) (by omega))
    exact this
theorem Spr.setRow47 {g : Nat} {rt en at_ : Int} {gv : Bool} {W : Nat → Int} {w : World} (h : Spr w g rt en W at_ gv) (Y : Nat → Int) : Spr (w.setCells g 2 (arr .u64 25 Y).toList) g rt en Y at_ gv := by
  have := Spr.rows (Y := Y) 25 0 w rfl (h.congr (fun j hj => by unfold upto; rw [if_neg (by omega)]))
  exact this
theorem Spr.there {g : Nat} {rt en at_ : Int} {gv : Bool} {W : Nat → Int} {w : World} (h : Spr w g rt en W at_ gv) : ∀ i, i < 25 → (w.cell? ⟨g, 2 + i, none⟩).isSome = true ∧ w.frozen? ⟨g, 2 + i, none⟩ = false :=
  fun i hi => ⟨by rw [h.cell i hi]; rfl, h.frozen _⟩
theorem grown_cells {w : World} {g : Nat} : ∀ (l : List Value) (o : Nat) (x : World), w.grownBy x (some g) → w.grownBy (x.setCells g o l) (some g)
  | [], _, _, h => h
  | v :: l, o, x, h => grown_cells l (o + 1) _ (grown_set' h ⟨g, o, none⟩ v (.inl rfl))
theorem layf_bd {W : Nat → Int} (h : ∀ i, i < 25 → Bd (W i)) (t : Nat) (c : Int) : ∀ i, i < 25 → Bd (layf W t c i) := by
  intro i hi
  unfold layf upd
  split
  · exact xor_bd _ _
  · exact h i hi
theorem trn_bd {rt : Nat} {s : St} (h : ∀ i, i < 25 → Bd (s.1 i)) : ∀ i, i < 25 → Bd ((trn rt s).1 i) := by
  unfold trn; split
  · exact prm_bd h 24
  · exact h
theorem put1_bd {rt : Nat} {s : St} (h : ∀ i, i < 25 → Bd (s.1 i)) (c : BitVec 8) : ∀ i, i < 25 → Bd ((put1 rt s c).1 i) := trn_bd (layf_bd h _ _)
theorem takes_bd {rt : Nat} {s : St} (h : ∀ i, i < 25 → Bd (s.1 i)) (D : List (BitVec 8)) : ∀ i, i < 25 → Bd ((takes rt s D).1 i) := by
  unfold takes
  induction D generalizing s with
  | nil => exact h
  | cons x D ih => exact ih (put1_bd h x)
/-- The document's change, with its result under a name. -/
theorem turnC {W : Nat → Int} (h : ∀ i, i < 25 → Bd (W i)) : ∃ Y, (∀ s, s < 25 → Y s = Zt (prm W 24) s) ∧ Hid (∀ x : World, Calls Tryd.prog 27 #[.agg (arr .u64 25 (Zt W))] x fun e w' => e = .returned (.agg (arr .u64 25 Y)) ∧ Below x.heap.size x w') :=
  ⟨prz (Zt W) 24, prz_eq h 24 (by omega), Lib.hid (fun x => rchange27 _ x)⟩
def Vw3 (g t n m bc : Nat) (ad : Addr) (c : Int) : Nat → Value → World → Prop
  | 0, v, w => v = .pointer (some ⟨g, 0, none⟩)
  | 1, v, w => v = .pointer (some ⟨g, 0, none⟩)
  | 2, v, w => v = .pointer (some ⟨g, 0, none⟩)
  | 3, v, w => v = .pointer (some ⟨g, 27, none⟩)
  | 4, v, w => v = .int .i64 t
  | 5, v, w => v = .slice (some ad) m bc
  | 6, v, w => v = .int .i64 n
  | 7, v, w => v = .pointer (some (ad.add n))
  | 8, v, w => v = .int .u8 c
  | _, _, _ => True
theorem Vw3_keep (g t n m bc : Nat) (ad : Addr) (c : Int) (i1 : Nat) (v : Value) (w w' : World) (h : Vw3 g t n m bc ad c i1 v w) (r : (fun w w' => Below w.heap.size w w') w w') : Vw3 g t n m bc ad c i1 v w' := by
  rcases i1 with _ | _ | _ | _ | _ | _ | _ | _ | _ | _
  · exact h
  · exact h
  · exact h
  · exact h
  · exact h
  · exact h
  · exact h
  · exact h
  · exact h
  · trivial
def Vw5 (g t1 rt : Nat) (bb : Bool) : Nat → Value → World → Prop
  | 0, v, w => v = .pointer (some ⟨g, 0, none⟩)
  | 1, v, w => v = .pointer (some ⟨g, 0, none⟩)
  | 2, v, w => v = .pointer (some ⟨g, 27, none⟩)
  | 3, v, w => v = .int .i64 t1
  | 4, v, w => v = .pointer (some ⟨g, 0, none⟩)
  | 5, v, w => v = .pointer (some ⟨g, 0, none⟩)
  | 6, v, w => v = .pointer (some ⟨g, 0, none⟩)
  | 7, v, w => v = .int .i64 rt
  | 8, v, w => v = .bool bb
  | _, _, _ => True
theorem Vw5_keep (g t1 rt : Nat) (bb : Bool) (i1 : Nat) (v : Value) (w w' : World) (h : Vw5 g t1 rt bb i1 v w) (r : (fun w w' => Below w.heap.size w w') w w') : Vw5 g t1 rt bb i1 v w' := by
  rcases i1 with _ | _ | _ | _ | _ | _ | _ | _ | _ | _
  · exact h
  · exact h
  · exact h
  · exact h
  · exact h
  · exact h
  · exact h
  · exact h
  · exact h
  · trivial
set_option maxRecDepth 20000 in
set_option maxHeartbeats 4000000 in
theorem write13 (g rt : Nat) (en : Int) (s : St) (D : List (BitVec 8)) (bo : Option Addr) (m bc : Nat) (w : World) (hm : m = D.length) (hL : m ≤ 4294967296) (hS : Spr w g rt en (Zt s.1) s.2 false) (hs : s.2 < rt) (hrt : rt ≤ 192)
    (hB : ∀ i, i < 25 → Bd (s.1 i)) (hD : Byt w g bo D) :
    Calls Tryd.prog 13 #[.pointer (some ⟨g, 0, none⟩), .slice bo m bc] w fun e w' => e = .returned (.tuple #[]) ∧ Spr w' g rt en (Zt (takes rt s D).1) (takes rt s D).2 false ∧ w.grownBy w' (some g) := by
  have HM := Lib.hid hm
  have HB := Lib.hid hB
  have HD := Lib.hid (fun (x : World) (j : w.grownBy x (some g)) => hD.grown j)
  have hc28 := hS.gives
  clear hm hB
  go_enter Tryd.func13, Tryd.ntmps13
  go_wp2_with fail
  clear hc28 hD
  go_loopg [4] m (fun k v wr => ∃ n : Nat, v = .int .i64 n ∧ n + k = m ∧ Spr wr g rt en (Zt (takes rt s (D.take n)).1) (takes rt s (D.take n)).2 false ∧ w.grownBy wr (some g))
  case atStart => exact ⟨0, rfl, by omega, hS, World.grownBy.refl _ _⟩
  case round =>
    clear hS
    obtain ⟨n, rfl, hn, h1, g1⟩ := hrel
    by_cases hlt : n < m
    · have hnl : n < D.length := by have := HM.out; omega
      have HL := Lib.hid (List.getElem?_eq_getElem hnl)
      have HX := Lib.hid (takes_succ rt s D n D[n] (List.getElem?_eq_getElem hnl))
      have hlt2 := takes_lt (rt := rt) (by omega) hs (D.take n)
      have hbd1 := takes_bd (rt := rt) HB.out (D.take n)
      obtain ⟨u, hu⟩ : ∃ u, u = takes rt s (D.take n) := ⟨_, rfl⟩
      rw [← hu] at h1 HX hlt2 hbd1
      obtain ⟨⟨W, t⟩, hWt⟩ : ∃ p : St, p = u := ⟨_, rfl⟩
      rw [← hWt] at h1 HX hlt2 hbd1
      have hb := HD.out _ g1
      obtain ⟨ad, rfl⟩ : ∃ ad, bo = some ad := by
        cases bo with
        | none => have h9 := congrArg List.length (hb.nil rfl); rw [List.length_nil] at h9; omega
        | some ad => exact ⟨ad, rfl⟩
      have hbd := bt_bd D[n]
      obtain ⟨c, hc⟩ : ∃ c, c = bt D[n] := ⟨_, rfl⟩
      have HC : Hid (some (c8 D[n]) = some (Value.int .u8 c)) := Lib.hid (by rw [hc]; rfl)
      rw [← hc] at hbd
      obtain ⟨Z, hZ⟩ : ∃ Z, Z = Zt W := ⟨_, rfl⟩
      have h1' : Spr wr g rt en Z t false := by rw [hZ]; exact h1
      obtain ⟨t1, ht1⟩ : ∃ t1, t1 = t + 1 := ⟨_, rfl⟩
      have e1 : IntKind.i64.wrap ((t : Int) + 1) = (t1 : Int) := by rw [IntWalk.i64_in _ (by simp at hlt2; omega)]; omega
      have e2 : IntKind.i64.wrap ((n : Int) + 1) = (n : Int) + 1 := IntWalk.i64_in _ (by omega)
      have q1 : (0 : Int) ≤ (n : Int) := by omega
      have q2 : (n : Int) < (m : Int) := by omega
      have hc27 := h1'.at27
      have hc28 := h1'.gives
      have HN := Lib.hid hn
      have ht192 : t < 192 := by simp at hlt2; omega
      have HB1 := Lib.hid hbd1
      have HCc := Lib.hid hc
      have HT1 := Lib.hid ht1
      have HZ := Lib.hid hZ
      clear hc ht1 hWt hu hlt2 hn h1 hbd1 hZ
      go_upto_region 3 with fail
      have h2 := h1'.drew
      have g2 := grown_below g1 ((Below.refl wr.heap.size wr).drew)
      have hb2 := HD.out _ g2
      clear hc27 hc28 h1' g1 hb
      refine region_monoT 9 (fun x => Spr x g rt en Z t false ∧ Byt x g (some ad) D ∧ w.grownBy x (some g)) (fun w w' => Below w.heap.size w w') (Vw3 g t n m bc ad c) [(0, some 18), (1, some 19), (2, some 20), (3, some 21), (4, some 22), (5, some 23), (6, some 24), (7, some 25), (8, some 26)] (by kernel_rfl) (by kernel_rfl) (by kernel_rfl) (by kernel_rfl) (fun _ _ h r => ⟨h.1.below r h.1.lt, h.2.1.below r, grown_below h.2.2 r⟩) (fun i1 v1 w1 w2 _ h1 r1 => Vw3_keep g t n m bc ad c i1 v1 w1 w2 h1 r1) (⟨h2, hb2, g2⟩) ?_ (fun vs w' hS hV => ?_)
      · refine StepsL.cons0  (by kernel_rfl)  ?_ ?_
        · rintro w1 hS  K hK
          (try simp only [Act.put, List.setIfInBounds_toArray, List.set_cons_zero, List.set_cons_succ])
          go_simp
          exact hK.out _ _ rfl (Below.refl _ _)
        refine StepsL.cons0  (by kernel_rfl)  ?_ ?_
        · rintro w1 hS  K hK
          (try simp only [Act.put, List.setIfInBounds_toArray, List.set_cons_zero, List.set_cons_succ])
          go_simp
          exact hK.out _ _ rfl (Below.refl _ _)
        refine StepsL.cons1 1 (some 19) (by kernel_rfl) rfl ?_ ?_
        · rintro w1 hS _ rfl K hK
          (try simp only [Act.put, List.setIfInBounds_toArray, List.set_cons_zero, List.set_cons_succ])
          go_simp
          exact hK.out _ _ rfl (Below.refl _ _)
        refine StepsL.cons1 2 (some 20) (by kernel_rfl) rfl ?_ ?_
        · rintro w1 hS _ rfl K hK
          (try simp only [Act.put, List.setIfInBounds_toArray, List.set_cons_zero, List.set_cons_succ])
          go_simp
          exact hK.out _ _ rfl (Below.refl _ _)
        refine StepsL.cons1 3 (some 21) (by kernel_rfl) rfl ?_ ?_
        · rintro w1 hS _ rfl K hK
          (try simp only [Act.put, List.setIfInBounds_toArray, List.set_cons_zero, List.set_cons_succ])
          have hcl := hS.1.at27
          go_simp
          exact hK.out _ _ rfl (Below.refl _ _)
        refine StepsL.cons0  (by kernel_rfl)  ?_ ?_
        · rintro w1 hS  K hK
          (try simp only [Act.put, List.setIfInBounds_toArray, List.set_cons_zero, List.set_cons_succ])
          go_simp
          exact hK.out _ _ rfl (Below.refl _ _)
        refine StepsL.cons0  (by kernel_rfl)  ?_ ?_
        · rintro w1 hS  K hK
          (try simp only [Act.put, List.setIfInBounds_toArray, List.set_cons_zero, List.set_cons_succ])
          go_simp
          exact hK.out _ _ rfl (Below.refl _ _)
        refine StepsL.cons2 5 (some 23) 6 (some 24) (by kernel_rfl) rfl rfl ?_ ?_
        · rintro w1 hS _ rfl _ rfl K hK
          (try simp only [Act.put, List.setIfInBounds_toArray, List.set_cons_zero, List.set_cons_succ])
          go_simp
          exact hK.out _ _ rfl (Below.refl _ _)
        refine StepsL.cons1 7 (some 25) (by kernel_rfl) rfl ?_ ?_
        · rintro w1 hS _ rfl K hK
          (try simp only [Act.put, List.setIfInBounds_toArray, List.set_cons_zero, List.set_cons_succ])
          have hcl := (hS.2.1.cells ad rfl).2.2 n _ HL.out |>.trans HC.out
          go_simp
          exact hK.out _ _ rfl (Below.refl _ _)
        exact StepsL.nil
      · have e0 : vs 0 = .pointer (some ⟨g, 0, none⟩) := hV 0 (by omega)
        have e4 : vs 4 = .int .i64 t := hV 4 (by omega)
        have e8 : vs 8 = .int .u8 c := hV 8 (by omega)
        simp only [putl, List.foldl_cons, List.foldl_nil, Act.put, List.setIfInBounds_toArray, List.set_cons_zero, List.set_cons_succ, e0, e4, e8]
        simp only [List.drop_succ_cons, List.drop_zero]
        obtain ⟨h3, hb3, g3⟩ := hS
        rw [HZ.out] at h3
        clear hV e0 e4 e8 h2 g2 hb2 hb3
        go_upto_region 5 with (first
          | (go_at_call 26; (with_reducible refine (lay26 g t rt en t false W c _ h3 ?l1 ?l2).mono ?_); (case l1 => omega); (case l2 => exact hbd); rintro e w2 ⟨rfl, h2, g2⟩; have hc2 := h2.at27; have hf2 := h2.frozen 27; have h5 := h2.setAt (t1 : Int); have g5 := grown_set' (grown_trans g3 g2) ⟨g, 27, none⟩ (.int .i64 (t1 : Int)) (.inl rfl)))
        obtain ⟨w3, hw3⟩ : ∃ w3, w3 = w2.setCell ⟨g, 27, none⟩ (.int .i64 (t1 : Int)) := ⟨_, rfl⟩
        rw [← hw3] at h5 g5 ⊢
        obtain ⟨W2, hW2⟩ : ∃ W2, W2 = layf W t c := ⟨_, rfl⟩
        have HBW2 : Hid (∀ i, i < 25 → Bd (W2 i)) := Lib.hid (by rw [hW2]; exact layf_bd HB1.out t c)
        rw [← hW2] at h5
        obtain ⟨bb, hbb⟩ : ∃ bb, decide (t1 = rt) = bb := ⟨_, rfl⟩
        have be1 : ((t1 : Int) == (rt : Int)) = bb := by
          rw [← hbb]
          by_cases h : t1 = rt
          · simp [h]
          · have h2 : ¬ (t1 : Int) = (rt : Int) := by omega
            simp [h, h2]
        have be2 : decide ((t1 : Int) = (rt : Int)) = bb := by
          rw [← hbb]
          by_cases h : t1 = rt
          · simp [h]
          · have h2 : ¬ (t1 : Int) = (rt : Int) := by omega
            simp [h, h2]
        have be3 : (t1 == rt) = bb := by
          rw [← hbb]
          by_cases h : t1 = rt
          · simp [h]
          · have h2 : ¬ (t1 : Int) = (rt : Int) := by omega
            simp [h, h2]
        obtain ⟨Y, hY, HCY⟩ := turnC HBW2.out
        obtain ⟨Z2, hZ2⟩ : ∃ Z2, Z2 = Zt W2 := ⟨_, rfl⟩
        rw [← hZ2] at h5 HCY
        have HY := Lib.hid hY
        have HZ2 := Lib.hid hZ2
        have h2 := h5.drew
        have g2 := grown_below g5 ((Below.refl w3.heap.size w3).drew)
        have HBB := Lib.hid hbb
        have HW2 := Lib.hid hW2
        clear hw3 h3 g3 hbb hW2 hY hZ2 hc2 hf2 h5 g5
        refine region_monoL (fun x => Spr x g rt en Z2 t1 false ∧ w.grownBy x (some g)) (fun w w' => Below w.heap.size w w') (Vw5 g t1 rt bb) [(0, some 35), (1, some 36), (2, some 37), (3, some 38), (4, some 39), (5, some 40), (6, some 41), (7, some 42), (8, some 43)] (by kernel_rfl) (by kernel_rfl) (by kernel_rfl) (fun _ _ h r => ⟨h.1.below r h.1.lt, grown_below h.2 r⟩) (fun i1 v1 w1 w2 _ h1 r1 => Vw5_keep g t1 rt bb i1 v1 w1 w2 h1 r1) (⟨h2, g2⟩) ?_ (fun vs w' hS hV => ?_)
        · refine StepsL.cons0  (by kernel_rfl)  ?_ ?_
          · rintro w1 hS  K hK
            (try simp only [Act.put, List.setIfInBounds_toArray, List.set_cons_zero, List.set_cons_succ])
            go_simp
            exact hK.out _ _ rfl (Below.refl _ _)
          refine StepsL.cons1 0 (some 35) (by kernel_rfl) rfl ?_ ?_
          · rintro w1 hS _ rfl K hK
            (try simp only [Act.put, List.setIfInBounds_toArray, List.set_cons_zero, List.set_cons_succ])
            go_simp
            exact hK.out _ _ rfl (Below.refl _ _)
          refine StepsL.cons1 1 (some 36) (by kernel_rfl) rfl ?_ ?_
          · rintro w1 hS _ rfl K hK
            (try simp only [Act.put, List.setIfInBounds_toArray, List.set_cons_zero, List.set_cons_succ])
            go_simp
            exact hK.out _ _ rfl (Below.refl _ _)
          refine StepsL.cons1 2 (some 37) (by kernel_rfl) rfl ?_ ?_
          · rintro w1 hS _ rfl K hK
            (try simp only [Act.put, List.setIfInBounds_toArray, List.set_cons_zero, List.set_cons_succ])
            have hcl := hS.1.at27
            go_simp
            exact hK.out _ _ rfl (Below.refl _ _)
          refine StepsL.cons0  (by kernel_rfl)  ?_ ?_
          · rintro w1 hS  K hK
            (try simp only [Act.put, List.setIfInBounds_toArray, List.set_cons_zero, List.set_cons_succ])
            go_simp
            exact hK.out _ _ rfl (Below.refl _ _)
          refine StepsL.cons1 4 (some 39) (by kernel_rfl) rfl ?_ ?_
          · rintro w1 hS _ rfl K hK
            (try simp only [Act.put, List.setIfInBounds_toArray, List.set_cons_zero, List.set_cons_succ])
            go_simp
            exact hK.out _ _ rfl (Below.refl _ _)
          refine StepsL.cons1 5 (some 40) (by kernel_rfl) rfl ?_ ?_
          · rintro w1 hS _ rfl K hK
            (try simp only [Act.put, List.setIfInBounds_toArray, List.set_cons_zero, List.set_cons_succ])
            go_simp
            exact hK.out _ _ rfl (Below.refl _ _)
          refine StepsL.cons1 6 (some 41) (by kernel_rfl) rfl ?_ ?_
          · rintro w1 hS _ rfl K hK
            (try simp only [Act.put, List.setIfInBounds_toArray, List.set_cons_zero, List.set_cons_succ])
            have hcl := hS.1.rate
            go_simp
            exact hK.out _ _ rfl (Below.refl _ _)
          refine StepsL.cons2 3 (some 38) 7 (some 42) (by kernel_rfl) rfl rfl ?_ ?_
          · rintro w1 hS _ rfl _ rfl K hK
            (try simp only [Act.put, List.setIfInBounds_toArray, List.set_cons_zero, List.set_cons_succ])
            go_simp
            exact hK.out _ _ rfl (Below.refl _ _)
          exact StepsL.nil
        · have e8 : vs 8 = .bool bb := hV 8 (by simp)
          simp only [putl, List.foldl_cons, List.foldl_nil, Act.put, List.setIfInBounds_toArray, List.set_cons_zero, List.set_cons_succ, e8]
          obtain ⟨h3, g3⟩ := hS
          clear hV e8 h2 g2
          cases bb with
          | true =>
            go_wp2_with (first
              | (with_reducible refine load47m rfl (.tmp 47) rfl g 2 rfl (fun i hi => h3.cell i hi) ?_)
              | (go_at_call 27; (with_reducible refine (HCY.out _).mono ?_); rintro e w5 ⟨rfl, b5⟩; have h6 := h3.below b5 h3.lt; have g6 := grown_below g3 b5; have h7 := h6.setRow47 Y; have g7 := grown_cells (arr .u64 25 Y).toList 2 _ g6; have hc7 := h7.at27; have hf7 := h7.frozen 27; have h8 := h7.setAt 0; have g8 := grown_set' g7 ⟨g, 27, none⟩ (.int .i64 0) (.inl rfl))
              | (with_reducible refine store47m rfl (.tmp 51) (.tmp 49) rfl g 2 _ rfl rfl h6.there ?_))
            have h9 : Spr ((w5.setCells g 2 (arr .u64 25 Y).toList).setCell ⟨g, 27, none⟩ (.int .i64 0)) g rt en (Zt (takes rt s (D.take (n + 1))).1) (takes rt s (D.take (n + 1))).2 false := by
              rw [HX.out]
              unfold put1 trn
              rw [← HCc.out, ← HT1.out, ← HW2.out, if_pos (of_decide_eq_true HBB.out)]
              exact h8.congr HY.out
            clear h6 g6 h7 g7 h8 hc7 hf7
            go_roundg (gk - 1)
            case measure => have := HN.out; omega
            case rel => exact ⟨n + 1, by simp, by have := HN.out; omega, h9, g8⟩
          | false =>
            have h9 : ∀ x : World, Spr x g rt en Z2 t1 false → Spr x g rt en (Zt (takes rt s (D.take (n + 1))).1) (takes rt s (D.take (n + 1))).2 false := by
              intro x hx
              rw [HX.out]
              unfold put1 trn
              rw [← HCc.out, ← HT1.out, ← HW2.out, if_neg (of_decide_eq_false HBB.out)]
              rw [HZ2.out] at hx
              exact hx
            have H9 := Lib.hid (h9 _ h3)
            clear h9
            go_wp2_with fail
            go_roundg (gk - 1)
            case measure => have := HN.out; omega
            case rel => exact ⟨n + 1, by simp, by have := HN.out; omega, H9.out, g3⟩
    · have hd : decide (n < m) = false := by simp; omega
      obtain rfl : n = m := by omega
      have hDm : D.take n = D := by rw [HM.out, List.take_length]
      rw [hDm] at h1
      clear hDm hn
      go_wp2_with fail
      go_end0
      exact ⟨rfl, h1, g1⟩
end Go.Proofs.YtgjcofneecebjaaDoor
