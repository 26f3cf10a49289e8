/- The document's Read, walked. -/
import Derived.Test.YtgjcofneecebjaaDoorR5
import Derived.Test.YtgjcofneecebjaaDoorS
import Derived.Deep.DeepCutAuto
namespace Go.Proofs.YtgjcofneecebjaaDoor
open Go.ChangeShapes Go.WideShapes Go.ChangeAt Go.RowKit
set_option linter.unusedSimpArgs false
set_option linter.unusedVariables false
theorem read15n (g : Nat) (n : Int) (hn : bad n) (w : World) : Calls Tryd.prog 15 #[.pointer (some ⟨g, 0, none⟩), .int .i64 n] w fun e w' => e = .returned (.slice none 0 0) ∧ w' = w := by
  go_enter Tryd.func15, Tryd.ntmps15
  rcases hn with h | h
  · have d1 : decide (n < 0) = true := by simp; omega
    go_wp2_with fail
    go_ret
    exact ⟨rfl, rfl⟩
  · have d1 : decide (n < 0) = false := by simp; omega
    have d2 : decide (n > 65536) = true := by simp; omega
    go_wp2_with fail
    go_ret
    exact ⟨rfl, rfl⟩
theorem pad_bd {rt : Nat} {en : Int} {s : St} (h : ∀ i, i < 25 → Bd (s.1 i)) : ∀ i, i < 25 → Bd ((pad rt en s).1 i) := prm_bd (layf_bd (layf_bd h _ _) _ _) 24
theorem gives_bd {rt : Nat} {s : St} (h : ∀ i, i < 25 → Bd (s.1 i)) (n : Nat) : ∀ i, i < 25 → Bd ((gives rt s n).2.1 i) := by
  induction n with
  | zero => exact h
  | succ n ih => exact trn_bd ih
theorem own_grown {w w' : World} {base n g : Nat} {v : Value} {T : List (BitVec 8)} (h : Own w base v n T) (k : w.grownBy w' (some g)) (hg : g < base) : Own w' base v n T :=
  h.kept k (.inr (fun e => by have := h.lt _ e; omega))
theorem grown_own {w w1 w2 : World} {g n : Nat} {v : Value} {T : List (BitVec 8)} (h : w.grownBy w1 (some g)) (o : Own w1 w.heap.size v n T) (k : w1.grownBy w2 v.ownBlock) : w.grownBy w2 (some g) :=
  ⟨k.os.trans h.os, k.tape.trans h.tape, k.output.trans h.output, Nat.le_trans h.size k.size, fun i hi hne => (k.block i (Nat.lt_of_lt_of_le hi h.size) (fun e => by have := o.lt _ e.symm; omega)).trans (h.block i hi hne)⟩
theorem spr_own {w1 w2 : World} {base g n : Nat} {v : Value} {T : List (BitVec 8)} {rt en at_ : Int} {W : Nat → Int} {gv : Bool} (h : Spr w1 g rt en W at_ gv) (o : Own w1 base v n T) (k : w1.grownBy w2 v.ownBlock) (hg : g < base) : Spr w2 g rt en W at_ gv :=
  h.grown k (fun e => by have := o.lt _ e.symm; omega)
def Vq4 (g t : Nat) (en : Int) : Nat → Value → World → Prop
  | 0, v, w => v = .pointer (some ⟨g, 0, none⟩)
  | 1, v, w => v = .pointer (some ⟨g, 0, none⟩)
  | 2, v, w => v = .pointer (some ⟨g, 0, none⟩)
  | 3, v, w => v = .pointer (some ⟨g, 27, none⟩)
  | 4, v, w => v = .int .i64 t
  | 5, v, w => v = .pointer (some ⟨g, 0, none⟩)
  | 6, v, w => v = .pointer (some ⟨g, 0, none⟩)
  | 7, v, w => v = .pointer (some ⟨g, 1, none⟩)
  | 8, v, w => v = .int .u8 en
  | _, _, _ => True
theorem Vq4_keep (g t : Nat) (en : Int) (i1 : Nat) (v : Value) (w w' : World) (h : Vq4 g t en i1 v w) (r : (fun w w' => Below w.heap.size w w') w w') : Vq4 g t en i1 v w' := by
  rcases i1 with _ | _ | _ | _ | _ | _ | _ | _ | _ | _
  · exact h
  · exact h
  · exact h
  · exact h
  · exact h
  · exact h
  · exact h
  · exact h
  · exact h
  · trivial
def Vq13 (g t1 rt : Nat) (bb : Bool) : Nat → Value → World → Prop
  | 0, v, w => v = .pointer (some ⟨g, 0, none⟩)
  | 1, v, w => v = .pointer (some ⟨g, 0, none⟩)
  | 2, v, w => v = .pointer (some ⟨g, 27, none⟩)
  | 3, v, w => v = .int .i64 t1
  | 4, v, w => v = .pointer (some ⟨g, 0, none⟩)
  | 5, v, w => v = .pointer (some ⟨g, 0, none⟩)
  | 6, v, w => v = .pointer (some ⟨g, 0, none⟩)
  | 7, v, w => v = .int .i64 rt
  | 8, v, w => v = .bool bb
  | _, _, _ => True
theorem Vq13_keep (g t1 rt : Nat) (bb : Bool) (i1 : Nat) (v : Value) (w w' : World) (h : Vq13 g t1 rt bb i1 v w) (r : (fun w w' => Below w.heap.size w w') w w') : Vq13 g t1 rt bb i1 v w' := by
  rcases i1 with _ | _ | _ | _ | _ | _ | _ | _ | _ | _
  · exact h
  · exact h
  · exact h
  · exact h
  · exact h
  · exact h
  · exact h
  · exact h
  · exact h
  · trivial
def Vq17 (g t k cc q x y r8 s1 : Nat) (ao : Option Addr) (a m c : Int) (e : BitVec 8) : Nat → Value → World → Prop
  | 0, v, w => v = .slice ao k cc
  | 1, v, w => v = .pointer (some ⟨g, 0, none⟩)
  | 2, v, w => v = .int .i64 q
  | 3, v, w => v = .int .i64 x
  | 4, v, w => v = .int .i64 q
  | 5, v, w => v = .int .i64 y
  | 6, v, w => v = .pointer (some ⟨g, 0, none⟩)
  | 7, v, w => v = .pointer (some ⟨g, 2, none⟩)
  | 8, v, w => v = .pointer (some ⟨g, 2 + x * 5, none⟩)
  | 9, v, w => v = .pointer (some ⟨g, 2 + x * 5 + y, none⟩)
  | 10, v, w => v = .int .u64 a
  | 11, v, w => v = .pointer (some ⟨g, 0, none⟩)
  | 12, v, w => v = .pointer (some ⟨g, 0, none⟩)
  | 13, v, w => v = .pointer (some ⟨g, 27, none⟩)
  | 14, v, w => v = .int .i64 t
  | 15, v, w => v = .int .i64 r8
  | 16, v, w => v = .int .i64 s1
  | 17, v, w => v = .int .u64 m
  | 18, v, w => v = .int .u8 c
  | 19, v, w => ∃ ad, v = .slice (some ad) 1 1 ∧ Byt w g (some ad) [e]
  | _, _, _ => True
theorem Vq17_keep (g t k cc q x y r8 s1 : Nat) (ao : Option Addr) (a m c : Int) (e : BitVec 8) (i1 : Nat) (v : Value) (w w' : World) (h : Vq17 g t k cc q x y r8 s1 ao a m c e i1 v w) (r : (fun w w' => Below w.heap.size w w') w w') : Vq17 g t k cc q x y r8 s1 ao a m c e i1 v w' := by
  rcases i1 with _ | _ | _ | _ | _ | _ | _ | _ | _ | _ | _ | _ | _ | _ | _ | _ | _ | _ | _ | _ | _
  · exact h
  · exact h
  · exact h
  · exact h
  · exact h
  · exact h
  · exact h
  · exact h
  · exact h
  · exact h
  · exact h
  · exact h
  · exact h
  · exact h
  · exact h
  · exact h
  · exact h
  · exact h
  · exact h
  · exact (let ⟨a1, e1, y1⟩ := h; ⟨a1, e1, y1.below r⟩)
  · trivial
set_option maxRecDepth 20000 in
set_option maxHeartbeats 4000000 in
theorem read15 (g rt : Nat) (en : Int) (s : St) (gv : Bool) (n : Nat) (w : World) (hS : Spr w g rt en (Zt s.1) s.2 gv) (hs : s.2 ≤ rt) (hs' : gv = false → s.2 < rt) (h8 : 8 ≤ rt) (hrt : rt ≤ 192) (hn : n ≤ 65536) (he : 0 ≤ en ∧ en < 256) (hB : ∀ i, i < 25 → Bd (s.1 i)) :
    Calls Tryd.prog 15 #[.pointer (some ⟨g, 0, none⟩), .int .i64 n] w fun e w' => ∃ v, e = .returned v ∧ Own w' w.heap.size v n (gives rt (if gv then s else pad rt en s) n).1 ∧
      Spr w' g rt en (Zt (gives rt (if gv then s else pad rt en s) n).2.1) (gives rt (if gv then s else pad rt en s) n).2.2 true ∧ w.grownBy w' (some g) := by
  have hgl := hS.lt
  obtain ⟨s0, hs0⟩ : ∃ s0, s0 = if gv then s else pad rt en s := ⟨_, rfl⟩
  rw [← hs0]
  have HS0 := Lib.hid hs0
  have HB := Lib.hid hB
  have d1 : decide ((n : Int) < 0) = false := by simp
  have d2 : decide ((n : Int) > 65536) = false := by simp; omega
  have hc28 := hS.gives
  clear hB
  go_enter Tryd.func15, Tryd.ntmps15
  go_upto_if 18 with fail
  go_cut [] (fun wc => Spr wc g rt en (Zt s0.1) s0.2 true ∧ w.grownBy wc (some g))
  case first =>
    cases gv with
    | true =>
      go_wp2_with fail
      go_meet
      rw [HS0.out]
      exact ⟨hS, World.grownBy.refl _ _⟩
    | false =>
      obtain ⟨W, t⟩ := s
      have ht := hs' rfl
      have HBW : Hid (∀ i, i < 25 → Bd (W i)) := Lib.hid HB.out
      obtain ⟨Z, hZ⟩ : ∃ Z, Z = Zt W := ⟨_, rfl⟩
      have hW1 : Spr w g rt en Z t false := by rw [hZ]; exact hS
      have HZ := Lib.hid hZ
      clear hS hs0 hs hZ
      have h2 := hW1.drew
      have g2 := grown_below (World.grownBy.refl w (some g)) ((Below.refl w.heap.size w).drew)
      go_upto_region 4 with fail
      refine region_monoT 9 (fun x => Spr x g rt en Z t false ∧ w.grownBy x (some g)) (fun w w' => Below w.heap.size w w') (Vq4 g t en) [(0, some 19), (1, some 20), (2, some 21), (3, some 22), (4, some 23), (5, some 24), (6, some 25), (7, some 26), (8, some 27)] (by kernel_rfl) (by kernel_rfl) (by kernel_rfl) (by kernel_rfl) (fun _ _ h r => ⟨h.1.below r h.1.lt, grown_below h.2 r⟩) (fun i1 v1 w1 w2 _ h1 r1 => Vq4_keep g t en i1 v1 w1 w2 h1 r1) (⟨h2, g2⟩) ?_ (fun vs w' hS hV => ?_)
      · refine StepsL.cons0  (by kernel_rfl)  ?_ ?_
        · rintro w1 hS  K hK
          (try simp only [Act.put, List.setIfInBounds_toArray, List.set_cons_zero, List.set_cons_succ])
          go_simp
          exact hK.out _ _ rfl (Below.refl _ _)
        refine StepsL.cons0  (by kernel_rfl)  ?_ ?_
        · rintro w1 hS  K hK
          (try simp only [Act.put, List.setIfInBounds_toArray, List.set_cons_zero, List.set_cons_succ])
          go_simp
          exact hK.out _ _ rfl (Below.refl _ _)
        refine StepsL.cons1 1 (some 20) (by kernel_rfl) rfl ?_ ?_
        · rintro w1 hS _ rfl K hK
          (try simp only [Act.put, List.setIfInBounds_toArray, List.set_cons_zero, List.set_cons_succ])
          go_simp
          exact hK.out _ _ rfl (Below.refl _ _)
        refine StepsL.cons1 2 (some 21) (by kernel_rfl) rfl ?_ ?_
        · rintro w1 hS _ rfl K hK
          (try simp only [Act.put, List.setIfInBounds_toArray, List.set_cons_zero, List.set_cons_succ])
          go_simp
          exact hK.out _ _ rfl (Below.refl _ _)
        refine StepsL.cons1 3 (some 22) (by kernel_rfl) rfl ?_ ?_
        · rintro w1 hS _ rfl K hK
          (try simp only [Act.put, List.setIfInBounds_toArray, List.set_cons_zero, List.set_cons_succ])
          have hcl := hS.1.at27
          go_simp
          exact hK.out _ _ rfl (Below.refl _ _)
        refine StepsL.cons0  (by kernel_rfl)  ?_ ?_
        · rintro w1 hS  K hK
          (try simp only [Act.put, List.setIfInBounds_toArray, List.set_cons_zero, List.set_cons_succ])
          go_simp
          exact hK.out _ _ rfl (Below.refl _ _)
        refine StepsL.cons1 5 (some 24) (by kernel_rfl) rfl ?_ ?_
        · rintro w1 hS _ rfl K hK
          (try simp only [Act.put, List.setIfInBounds_toArray, List.set_cons_zero, List.set_cons_succ])
          go_simp
          exact hK.out _ _ rfl (Below.refl _ _)
        refine StepsL.cons1 6 (some 25) (by kernel_rfl) rfl ?_ ?_
        · rintro w1 hS _ rfl K hK
          (try simp only [Act.put, List.setIfInBounds_toArray, List.set_cons_zero, List.set_cons_succ])
          go_simp
          exact hK.out _ _ rfl (Below.refl _ _)
        refine StepsL.cons1 7 (some 26) (by kernel_rfl) rfl ?_ ?_
        · rintro w1 hS _ rfl K hK
          (try simp only [Act.put, List.setIfInBounds_toArray, List.set_cons_zero, List.set_cons_succ])
          have hcl := hS.1.end_
          go_simp
          exact hK.out _ _ rfl (Below.refl _ _)
        exact StepsL.nil
      · have e0 : vs 0 = .pointer (some ⟨g, 0, none⟩) := hV 0 (by omega)
        have e4 : vs 4 = .int .i64 t := hV 4 (by omega)
        have e8 : vs 8 = .int .u8 en := hV 8 (by omega)
        simp only [putl, List.foldl_cons, List.foldl_nil, Act.put, List.setIfInBounds_toArray, List.set_cons_zero, List.set_cons_succ, e0, e4, e8]
        simp only [List.drop_succ_cons, List.drop_zero]
        obtain ⟨h3, g3⟩ := hS
        rw [HZ.out] at h3
        have hr1 : IntKind.i64.wrap ((rt : Int) - 1) = ((rt - 1 : Nat) : Int) := by rw [IntWalk.i64_in _ (by omega)]; omega
        obtain ⟨rm, hrm⟩ : ∃ rm, rm = rt - 1 := ⟨_, rfl⟩
        rw [← hrm] at hr1
        have hrm200 : rm < 200 := by omega
        have HRM := Lib.hid hrm
        obtain ⟨Y, hY, HCY⟩ := turnC (layf_bd (layf_bd HBW.out t en) rm 128)
        have HY := Lib.hid hY
        obtain ⟨V1, hV1⟩ : ∃ V1, V1 = layf W t en := ⟨_, rfl⟩
        rw [← hV1] at HCY HY
        obtain ⟨V2, hV2⟩ : ∃ V2, V2 = layf V1 rm 128 := ⟨_, rfl⟩
        rw [← hV2] at HCY HY
        obtain ⟨Z2, hZ2⟩ : ∃ Z2, Z2 = Zt V2 := ⟨_, rfl⟩
        rw [← hZ2] at HCY
        have HV1 := Lib.hid hV1
        have HV2 := Lib.hid hV2
        have HZ2 := Lib.hid hZ2
        clear hV e0 e4 e8 h2 g2 hrm hW1 hY hV1 hV2 hZ2
        go_wp2_with (first
          | (go_at_call 26; (with_reducible refine (lay26 g t rt en t false W en _ h3 ?l1 he).mono ?_); (case l1 => omega); rintro e w4 ⟨rfl, h4, g4⟩; rw [← HV1.out] at h4; have hc0 := h4.rate; have g5 := grown_trans g3 g4; clear h3)
          | (go_at_call 26; (with_reducible refine (lay26 g rm rt en t false V1 128 _ h4 hrm200 (by omega)).mono ?_); rintro e w5 ⟨rfl, h5, g6⟩; rw [← HV2.out, ← HZ2.out] at h5; have g7 := grown_trans g5 g6; clear h4)
          | (with_reducible refine load47m rfl (.tmp 39) rfl g 2 rfl (fun i hi => h5.cell i hi) ?_)
          | (go_at_call 27; (with_reducible refine (HCY.out _).mono ?_); rintro e w6 ⟨rfl, b6⟩; have h6 := h5.below b6 h5.lt; have g8 := grown_below g7 b6; have h7 := h6.setRow47 Y; have g9 := grown_cells (arr .u64 25 Y).toList 2 _ g8; have hc7 := h7.at27; have hf7 := h7.frozen 27; have h9 := h7.setAt 0; have g10 := grown_set' g9 ⟨g, 27, none⟩ (.int .i64 0) (.inl rfl); have hc9 := h9.gives; have hf9 := h9.frozen 28; have h10 := h9.setGives true; have g11 := grown_set' g10 ⟨g, 28, none⟩ (.bool true) (.inl rfl))
          | (with_reducible refine store47m rfl (.tmp 43) (.tmp 41) rfl g 2 _ rfl rfl h6.there ?_))
        go_meet
        rw [HS0.out]
        refine ⟨?_, g11⟩
        refine h10.congr (fun i hi => ?_)
        rw [HY.out i hi, HV2.out, HV1.out, HRM.out]
        rfl
  case rest =>
    obtain ⟨hA, gA⟩ := hcut
    have hs0' : s0.2 ≤ rt := by
      rw [HS0.out]
      cases gv with
      | true => exact hs
      | false => show 0 ≤ rt; omega
    have HB0 : Hid (∀ i, i < 25 → Bd (s0.1 i)) := Lib.hid (by
      rw [HS0.out]
      cases gv with
      | true => exact HB.out
      | false => exact pad_bd HB.out)
    clear hS hs hs' hs0 hc28
    go_wp2_with fail
    go_loopg [5, 6, 7] n (fun k v5 v6 v7 wr => ∃ j : Nat, v6 = .int .i64 j ∧ j + k = n ∧ Spr wr g rt en (Zt (gives rt s0 j).2.1) (gives rt s0 j).2.2 true ∧ Own wr w.heap.size v5 j (gives rt s0 j).1 ∧ w.grownBy wr (some g))
    case atStart => exact ⟨0, rfl, by omega, hA, World.ownsRow_nil _ _ _ _, gA⟩
    case round =>
      clear hA gA
      obtain ⟨k, rfl, hk, h1, o1, g1⟩ := hrel
      obtain ⟨ao, cc, rfl, -, -, -⟩ := own_byt (g := 0) o1 (by omega)
      obtain ⟨kg, hkg⟩ : ∃ kg, kg = gk := ⟨_, rfl⟩
      have HKG := Lib.hid hkg
      clear hkg
      by_cases hlt : k < n
      · have hle := gives_le (rt := rt) (by omega) hs0' k
        have hbd := gives_bd (rt := rt) HB0.out k
        have HG := Lib.hid (show gives rt s0 (k + 1) = ((gives rt s0 k).1 ++ [byteAt (trn rt (gives rt s0 k).2)], ((trn rt (gives rt s0 k).2).1, (trn rt (gives rt s0 k).2).2 + 1)) from rfl)
        obtain ⟨l, hl⟩ : ∃ l, l = (gives rt s0 k).1 := ⟨_, rfl⟩
        obtain ⟨u, hu⟩ : ∃ u, u = (gives rt s0 k).2 := ⟨_, rfl⟩
        rw [← hl] at HG o1
        rw [← hu] at hle HG h1 hbd
        obtain ⟨W2, t1⟩ := u
        have htl := trn_lt (rt := rt) (s := (W2, t1)) (by omega) hle
        have HBW2 : Hid (∀ i, i < 25 → Bd (W2 i)) := Lib.hid hbd
        obtain ⟨bb, hbb⟩ : ∃ bb, decide (t1 = rt) = bb := ⟨_, rfl⟩
        have be1 : ((t1 : Int) == (rt : Int)) = bb := by
          rw [← hbb]
          by_cases h : t1 = rt
          · simp [h]
          · have h2 : ¬ (t1 : Int) = (rt : Int) := by omega
            simp [h, h2]
        have be2 : decide ((t1 : Int) = (rt : Int)) = bb := by
          rw [← hbb]
          by_cases h : t1 = rt
          · simp [h]
          · have h2 : ¬ (t1 : Int) = (rt : Int) := by omega
            simp [h, h2]
        have be3 : (t1 == rt) = bb := by
          rw [← hbb]
          by_cases h : t1 = rt
          · simp [h]
          · have h2 : ¬ (t1 : Int) = (rt : Int) := by omega
            simp [h, h2]
        obtain ⟨Y, hY, HCY⟩ := turnC HBW2.out
        have HY := Lib.hid hY
        obtain ⟨Z2, hZ2⟩ : ∃ Z2, Z2 = Zt W2 := ⟨_, rfl⟩
        have h1' : Spr wr g rt en Z2 t1 true := by rw [hZ2]; exact h1
        rw [← hZ2] at HCY
        have HZ2 := Lib.hid hZ2
        have h2 := h1'.drew
        have g2 := grown_below g1 ((Below.refl wr.heap.size wr).drew)
        have o2 : Own wr.drew w.heap.size (.slice ao k cc) k l := own_keep o1 ((Below.refl _ _).drew)
        have HK1 := Lib.hid (And.intro hk (And.intro hle hbb))
        have q1 : decide ((k : Int) < (n : Int)) = true := by simp; omega
        obtain ⟨W3, hW3⟩ : ∃ W3, W3 = (trn rt (W2, t1)).1 := ⟨_, rfl⟩
        obtain ⟨t, ht⟩ : ∃ t, t = (trn rt (W2, t1)).2 := ⟨_, rfl⟩
        obtain ⟨Z3, hZ3⟩ : ∃ Z3, Z3 = Zt W3 := ⟨_, rfl⟩
        have HTR : Hid (trn rt (W2, t1) = (W3, t)) := Lib.hid (by rw [hW3, ht])
        have htl' : t < rt := by rw [ht]; exact htl
        have HZ3 := Lib.hid hZ3
        clear hbb h1 h1' o1 g1 hl hu hk hle hbd hY hZ2 hW3 ht hZ3 htl
        go_upto_region 13 with fail
        refine region_monoL (fun x1 => Spr x1 g rt en Z2 t1 true ∧ Own x1 w.heap.size (.slice ao k cc) k l ∧ w.grownBy x1 (some g)) (fun w w' => Below w.heap.size w w') (Vq13 g t1 rt bb) [(0, some 55), (1, some 56), (2, some 57), (3, some 58), (4, some 59), (5, some 60), (6, some 61), (7, some 62), (8, some 63)] (by kernel_rfl) (by kernel_rfl) (by kernel_rfl) (fun _ _ h r => ⟨h.1.below r h.1.lt, own_keep h.2.1 r, grown_below h.2.2 r⟩) (fun i1 v1 w1 w2 _ h1 r1 => Vq13_keep g t1 rt bb i1 v1 w1 w2 h1 r1) (⟨h2, o2, g2⟩) ?_ (fun vs w' hS hV => ?_)
        · refine StepsL.cons0  (by kernel_rfl)  ?_ ?_
          · rintro w1 hS  K hK
            (try simp only [Act.put, List.setIfInBounds_toArray, List.set_cons_zero, List.set_cons_succ])
            go_simp
            exact hK.out _ _ rfl (Below.refl _ _)
          refine StepsL.cons1 0 (some 55) (by kernel_rfl) rfl ?_ ?_
          · rintro w1 hS _ rfl K hK
            (try simp only [Act.put, List.setIfInBounds_toArray, List.set_cons_zero, List.set_cons_succ])
            go_simp
            exact hK.out _ _ rfl (Below.refl _ _)
          refine StepsL.cons1 1 (some 56) (by kernel_rfl) rfl ?_ ?_
          · rintro w1 hS _ rfl K hK
            (try simp only [Act.put, List.setIfInBounds_toArray, List.set_cons_zero, List.set_cons_succ])
            go_simp
            exact hK.out _ _ rfl (Below.refl _ _)
          refine StepsL.cons1 2 (some 57) (by kernel_rfl) rfl ?_ ?_
          · rintro w1 hS _ rfl K hK
            (try simp only [Act.put, List.setIfInBounds_toArray, List.set_cons_zero, List.set_cons_succ])
            have hcl := hS.1.at27
            go_simp
            exact hK.out _ _ rfl (Below.refl _ _)
          refine StepsL.cons0  (by kernel_rfl)  ?_ ?_
          · rintro w1 hS  K hK
            (try simp only [Act.put, List.setIfInBounds_toArray, List.set_cons_zero, List.set_cons_succ])
            go_simp
            exact hK.out _ _ rfl (Below.refl _ _)
          refine StepsL.cons1 4 (some 59) (by kernel_rfl) rfl ?_ ?_
          · rintro w1 hS _ rfl K hK
            (try simp only [Act.put, List.setIfInBounds_toArray, List.set_cons_zero, List.set_cons_succ])
            go_simp
            exact hK.out _ _ rfl (Below.refl _ _)
          refine StepsL.cons1 5 (some 60) (by kernel_rfl) rfl ?_ ?_
          · rintro w1 hS _ rfl K hK
            (try simp only [Act.put, List.setIfInBounds_toArray, List.set_cons_zero, List.set_cons_succ])
            go_simp
            exact hK.out _ _ rfl (Below.refl _ _)
          refine StepsL.cons1 6 (some 61) (by kernel_rfl) rfl ?_ ?_
          · rintro w1 hS _ rfl K hK
            (try simp only [Act.put, List.setIfInBounds_toArray, List.set_cons_zero, List.set_cons_succ])
            have hcl := hS.1.rate
            go_simp
            exact hK.out _ _ rfl (Below.refl _ _)
          refine StepsL.cons2 3 (some 58) 7 (some 62) (by kernel_rfl) rfl rfl ?_ ?_
          · rintro w1 hS _ rfl _ rfl K hK
            (try simp only [Act.put, List.setIfInBounds_toArray, List.set_cons_zero, List.set_cons_succ])
            go_simp
            exact hK.out _ _ rfl (Below.refl _ _)
          exact StepsL.nil
        · have e8 : vs 8 = .bool bb := hV 8 (by simp)
          simp only [putl, List.foldl_cons, List.foldl_nil, Act.put, List.setIfInBounds_toArray, List.set_cons_zero, List.set_cons_succ, e8]
          obtain ⟨h3, o3, g3⟩ := hS
          clear hV e8 h2 g2 o2
          go_upto_if 63 with fail
          go_cut [] (fun wc => Spr wc g rt en Z3 t true ∧ Own wc w.heap.size (.slice ao k cc) k l ∧ w.grownBy wc (some g))
          case first =>
            cases bb with
            | true =>
              go_wp2_with (first
                | (with_reducible refine load47m rfl (.tmp 67) rfl g 2 rfl (fun i hi => h3.cell i hi) ?_)
                | (go_at_call 27; (with_reducible refine (HCY.out _).mono ?_); rintro e w6 ⟨rfl, b6⟩; have h6 := h3.below b6 h3.lt; have g8 := grown_below g3 b6; have o6 := own_keep o3 b6; have h7 := h6.setRow47 Y; have g9 := grown_cells (arr .u64 25 Y).toList 2 _ g8; have j9 := grown_cells (arr .u64 25 Y).toList 2 _ (World.grownBy.refl w6 (some g)); have hc7 := h7.at27; have hf7 := h7.frozen 27; have h9 := h7.setAt 0; have g10 := grown_set' g9 ⟨g, 27, none⟩ (.int .i64 0) (.inl rfl); have j10 := grown_set' j9 ⟨g, 27, none⟩ (.int .i64 0) (.inl rfl); have o10 := own_grown o6 j10 hgl)
                | (with_reducible refine store47m rfl (.tmp 71) (.tmp 69) rfl g 2 _ rfl rfl h6.there ?_))
              go_meet
              have hT : W3 = prm W2 24 ∧ t = 0 := by
                have := HTR.out
                unfold trn at this
                rw [if_pos (of_decide_eq_true HK1.out.2.2)] at this
                exact ⟨(congrArg Prod.fst this).symm, (congrArg Prod.snd this).symm⟩
              refine ⟨?_, o10, g10⟩
              rw [hT.2]
              exact h9.congr (fun i hi => by rw [HY.out i hi, HZ3.out, hT.1])
            | false =>
              go_wp2_with fail
              go_meet
              have hT : W3 = W2 ∧ t = t1 := by
                have := HTR.out
                unfold trn at this
                rw [if_neg (of_decide_eq_false HK1.out.2.2)] at this
                exact ⟨(congrArg Prod.fst this).symm, (congrArg Prod.snd this).symm⟩
              refine ⟨?_, o3, g3⟩
              rw [hT.2, HZ3.out, hT.1, ← HZ2.out]
              exact h3
          case rest =>
            obtain ⟨h4, o4, g4⟩ := hcut
            clear h3 o3 g3 be1 be2 be3
            rw [HTR.out] at HG
            obtain ⟨q, hq⟩ : ∃ q, t / 8 = q := ⟨_, rfl⟩
            obtain ⟨r8, hr⟩ : ∃ r, t % 8 = r := ⟨_, rfl⟩
            obtain ⟨s1, hs⟩ : ∃ s, r8 * 8 = s := ⟨_, rfl⟩
            obtain ⟨x, hx⟩ : ∃ x, q % 5 = x := ⟨_, rfl⟩
            obtain ⟨y, hy⟩ : ∃ y, q / 5 = y := ⟨_, rfl⟩
            obtain ⟨a, ha⟩ : ∃ a, W3 q = a := ⟨_, rfl⟩
            obtain ⟨m, hm⟩ : ∃ m, a / 2 ^ s1 = m := ⟨_, rfl⟩
            obtain ⟨c, hc⟩ : ∃ c, IntKind.u8.wrap m = c := ⟨_, rfl⟩
            obtain ⟨e, hee⟩ : ∃ e, e = byteAt (W3, t) := ⟨_, rfl⟩
            have HA : Hid (some (Value.int .u64 (Z3 (x * 5 + y))) = some (.int .u64 a)) := Lib.hid (by rw [HZ3.out, ← ha]; show some (Value.int .u64 (W3 (ta (x * 5 + y)))) = _; rw [show ta (x * 5 + y) = q by unfold ta; omega])
            have HX : Hid (bt e = c) := Lib.hid (by rw [hee]; unfold byteAt; show bt (BitVec.ofInt 8 (W3 (t / 8) / 2 ^ (t % 8 * 8))) = c; rw [byteOf, hq, hr, hs, ha, hm, hc])
            have HE := Lib.hid hee
            have hx5 : x < 5 := by omega
            have hy5 : y < 5 := by omega
            have p1 : (t : Int) / 8 = (q : Int) := by omega
            have p2 : (t : Int).tdiv 8 = (q : Int) := by rw [Int.tdiv_eq_ediv_of_nonneg (by omega)]; omega
            have p3 : (t : Int) % 8 = (r8 : Int) := by omega
            have p4 : (t : Int).tmod 8 = (r8 : Int) := by rw [Int.tmod_eq_emod_of_nonneg (by omega)]; omega
            have p5 : 8 * (r8 : Int) = (s1 : Int) := by omega
            have p6 : (q : Int) % 5 = (x : Int) := by omega
            have p7 : (q : Int).tmod 5 = (x : Int) := by rw [Int.tmod_eq_emod_of_nonneg (by omega)]; omega
            have p8 : (q : Int) / 5 = (y : Int) := by omega
            have p9 : (q : Int).tdiv 5 = (y : Int) := by rw [Int.tdiv_eq_ediv_of_nonneg (by omega)]; omega
            have z0 : (0 : Int) ≤ (x : Int) := by omega
            have z1 : (x : Int) < 5 := by omega
            have z3 : (0 : Int) ≤ (y : Int) := by omega
            have z4 : (y : Int) < 5 := by omega
            have z2 : (0 : Int) ≤ (s1 : Int) := by omega
            have e1 : IntKind.i64.wrap (q : Int) = (q : Int) := IntWalk.i64_in _ (by omega)
            have e2 : IntKind.i64.wrap (s1 : Int) = (s1 : Int) := IntWalk.i64_in _ (by omega)
            have e4 : IntKind.i64.wrap (x : Int) = (x : Int) := IntWalk.i64_in _ (by omega)
            have e5 : IntKind.i64.wrap (y : Int) = (y : Int) := IntWalk.i64_in _ (by omega)
            have e6 : IntKind.i64.wrap ((t : Int) + 1) = (t : Int) + 1 := IntWalk.i64_in _ (by omega)
            have e7 : IntKind.i64.wrap ((k : Int) + 1) = (k : Int) + 1 := IntWalk.i64_in _ (by omega)
            have hs64 : s1 < 64 := by omega
            have hc27 := h4.at27
            clear hq hr hs hx hy ha hee
            go_upto_region 17 with fail
            have h2 := h4.drew
            have g2 := grown_below g4 ((Below.refl wc.heap.size wc).drew)
            have o2 : Own wc.drew w.heap.size (.slice ao k cc) k l := own_keep o4 ((Below.refl _ _).drew)
            clear h4 o4 g4 hc27
            refine region_monoT 20 (fun x1 => Spr x1 g rt en Z3 t true ∧ Own x1 w.heap.size (.slice ao k cc) k l ∧ w.grownBy x1 (some g)) (fun w w' => Below w.heap.size w w') (Vq17 g t k cc q x y r8 s1 ao a m c e) [(0, some 80), (1, some 81), (2, some 82), (3, some 83), (4, some 84), (5, some 85), (6, some 86), (7, some 87), (8, some 88), (9, some 89), (10, some 90), (11, some 91), (12, some 92), (13, some 93), (14, some 94), (15, some 95), (16, some 96), (17, some 97), (18, some 98), (19, some 99)] (by kernel_rfl) (by kernel_rfl) (by kernel_rfl) (by kernel_rfl) (fun _ _ h r => ⟨h.1.below r h.1.lt, own_keep h.2.1 r, grown_below h.2.2 r⟩) (fun i1 v1 w1 w2 _ h1 r1 => Vq17_keep g t k cc q x y r8 s1 ao a m c e i1 v1 w1 w2 h1 r1) (⟨h2, o2, g2⟩) ?_ (fun vs w' hS hV => ?_)
            · refine StepsL.cons0  (by kernel_rfl)  ?_ ?_
              · rintro w1 hS  K hK
                (try simp only [Act.put, List.setIfInBounds_toArray, List.set_cons_zero, List.set_cons_succ])
                go_simp
                exact hK.out _ _ rfl (Below.refl _ _)
              refine StepsL.cons0  (by kernel_rfl)  ?_ ?_
              · rintro w1 hS  K hK
                (try simp only [Act.put, List.setIfInBounds_toArray, List.set_cons_zero, List.set_cons_succ])
                go_simp
                exact hK.out _ _ rfl (Below.refl _ _)
              refine StepsL.cons0  (by kernel_rfl)  ?_ ?_
              · rintro w1 hS  K hK
                (try simp only [Act.put, List.setIfInBounds_toArray, List.set_cons_zero, List.set_cons_succ])
                go_simp
                exact hK.out _ _ rfl (Below.refl _ _)
              refine StepsL.cons1 2 (some 82) (by kernel_rfl) rfl ?_ ?_
              · rintro w1 hS _ rfl K hK
                (try simp only [Act.put, List.setIfInBounds_toArray, List.set_cons_zero, List.set_cons_succ])
                go_simp
                exact hK.out _ _ rfl (Below.refl _ _)
              refine StepsL.cons0  (by kernel_rfl)  ?_ ?_
              · rintro w1 hS  K hK
                (try simp only [Act.put, List.setIfInBounds_toArray, List.set_cons_zero, List.set_cons_succ])
                go_simp
                exact hK.out _ _ rfl (Below.refl _ _)
              refine StepsL.cons1 4 (some 84) (by kernel_rfl) rfl ?_ ?_
              · rintro w1 hS _ rfl K hK
                (try simp only [Act.put, List.setIfInBounds_toArray, List.set_cons_zero, List.set_cons_succ])
                go_simp
                exact hK.out _ _ rfl (Below.refl _ _)
              refine StepsL.cons1 1 (some 81) (by kernel_rfl) rfl ?_ ?_
              · rintro w1 hS _ rfl K hK
                (try simp only [Act.put, List.setIfInBounds_toArray, List.set_cons_zero, List.set_cons_succ])
                go_simp
                exact hK.out _ _ rfl (Below.refl _ _)
              refine StepsL.cons1 6 (some 86) (by kernel_rfl) rfl ?_ ?_
              · rintro w1 hS _ rfl K hK
                (try simp only [Act.put, List.setIfInBounds_toArray, List.set_cons_zero, List.set_cons_succ])
                go_simp
                exact hK.out _ _ rfl (Below.refl _ _)
              refine StepsL.cons2 3 (some 83) 7 (some 87) (by kernel_rfl) rfl rfl ?_ ?_
              · rintro w1 hS _ rfl _ rfl K hK
                (try simp only [Act.put, List.setIfInBounds_toArray, List.set_cons_zero, List.set_cons_succ])
                go_simp
                exact hK.out _ _ rfl (Below.refl _ _)
              refine StepsL.cons2 5 (some 85) 8 (some 88) (by kernel_rfl) rfl rfl ?_ ?_
              · rintro w1 hS _ rfl _ rfl K hK
                (try simp only [Act.put, List.setIfInBounds_toArray, List.set_cons_zero, List.set_cons_succ])
                go_simp
                exact hK.out _ _ rfl (Below.refl _ _)
              refine StepsL.cons1 9 (some 89) (by kernel_rfl) rfl ?_ ?_
              · rintro w1 hS _ rfl K hK
                (try simp only [Act.put, List.setIfInBounds_toArray, List.set_cons_zero, List.set_cons_succ])
                have hcl := hS.1.cell (x * 5 + y) (by omega) |>.trans HA.out
                rw [← Nat.add_assoc] at hcl
                go_simp
                exact hK.out _ _ rfl (Below.refl _ _)
              refine StepsL.cons0  (by kernel_rfl)  ?_ ?_
              · rintro w1 hS  K hK
                (try simp only [Act.put, List.setIfInBounds_toArray, List.set_cons_zero, List.set_cons_succ])
                go_simp
                exact hK.out _ _ rfl (Below.refl _ _)
              refine StepsL.cons1 11 (some 91) (by kernel_rfl) rfl ?_ ?_
              · rintro w1 hS _ rfl K hK
                (try simp only [Act.put, List.setIfInBounds_toArray, List.set_cons_zero, List.set_cons_succ])
                go_simp
                exact hK.out _ _ rfl (Below.refl _ _)
              refine StepsL.cons1 12 (some 92) (by kernel_rfl) rfl ?_ ?_
              · rintro w1 hS _ rfl K hK
                (try simp only [Act.put, List.setIfInBounds_toArray, List.set_cons_zero, List.set_cons_succ])
                go_simp
                exact hK.out _ _ rfl (Below.refl _ _)
              refine StepsL.cons1 13 (some 93) (by kernel_rfl) rfl ?_ ?_
              · rintro w1 hS _ rfl K hK
                (try simp only [Act.put, List.setIfInBounds_toArray, List.set_cons_zero, List.set_cons_succ])
                have hcl := hS.1.at27
                go_simp
                exact hK.out _ _ rfl (Below.refl _ _)
              refine StepsL.cons1 14 (some 94) (by kernel_rfl) rfl ?_ ?_
              · rintro w1 hS _ rfl K hK
                (try simp only [Act.put, List.setIfInBounds_toArray, List.set_cons_zero, List.set_cons_succ])
                go_simp
                exact hK.out _ _ rfl (Below.refl _ _)
              refine StepsL.cons1 15 (some 95) (by kernel_rfl) rfl ?_ ?_
              · rintro w1 hS _ rfl K hK
                (try simp only [Act.put, List.setIfInBounds_toArray, List.set_cons_zero, List.set_cons_succ])
                go_simp
                exact hK.out _ _ rfl (Below.refl _ _)
              refine StepsL.cons2 10 (some 90) 16 (some 96) (by kernel_rfl) rfl rfl ?_ ?_
              · rintro w1 hS _ rfl _ rfl K hK
                (try simp only [Act.put, List.setIfInBounds_toArray, List.set_cons_zero, List.set_cons_succ])
                go_simp
                exact hK.out _ _ rfl (Below.refl _ _)
              refine StepsL.cons1 17 (some 97) (by kernel_rfl) rfl ?_ ?_
              · rintro w1 hS _ rfl K hK
                (try simp only [Act.put, List.setIfInBounds_toArray, List.set_cons_zero, List.set_cons_succ])
                go_simp
                exact hK.out _ _ rfl (Below.refl _ _)
              refine StepsL.cons1 18 (some 98) (by kernel_rfl) rfl ?_ ?_
              · rintro w1 hS _ rfl K hK
                (try simp only [Act.put, List.setIfInBounds_toArray, List.set_cons_zero, List.set_cons_succ])
                go_simp
                refine hK.out _ _ ⟨_, rfl, byt_one' w1 g _ e 5 hS.1.lt ?_⟩ ((Below.refl _ _).alloc (Nat.le_refl _) _)
                show Value.int .u8 c = Value.int .u8 (bt e)
                rw [HX.out]
              exact StepsL.nil
            · have e0 : vs 0 = .slice ao k cc := hV 0 (by omega)
              obtain ⟨ad, e19, y19⟩ := hV 19 (by omega)
              simp only [putl, List.foldl_cons, List.foldl_nil, Act.put, List.setIfInBounds_toArray, List.set_cons_zero, List.set_cons_succ, e0, e19]
              simp only [List.drop_succ_cons, List.drop_zero]
              obtain ⟨h5, o5, g5⟩ := hS
              have hw5 := g5.size
              clear hV e0 e19 h2 o2 g2
              go_wp2_with (first
                | (at_builtin; refine app_own rfl (.tmp 80) (.tmp 99) rfl w.heap.size (.slice ao k cc) k l rfl o5 g (some ad) 1 1 [e] rfl ?k1 y19 ?k3 ?k4 ?_; (case k1 => rfl); (case k3 => omega); (case k4 => exact hw5); intro v6 w6 o6 g6; have h6 := spr_own h5 o5 g6 hgl; have g7 := grown_own g5 o5 g6; have hc6 := h6.at27; have hf6 := h6.frozen 27; have h7 := h6.setAt ((t : Int) + 1); have g8 := grown_set' g7 ⟨g, 27, none⟩ (.int .i64 ((t : Int) + 1)) (.inl rfl); have o7 := own_grown o6 (grown_set' (World.grownBy.refl w6 (some g)) ⟨g, 27, none⟩ (.int .i64 ((t : Int) + 1)) (.inl rfl)) hgl))
              go_roundg (gk - 1)
              case measure => have := HK1.out.1; have := HKG.out; omega
              case rel =>
                refine ⟨k + 1, by simp, by have := HK1.out.1; have := HKG.out; omega, ?_, ?_, g8⟩
                · rw [HG.out, ← HZ3.out]
                  exact h7
                · rw [HG.out, ← HE.out]
                  exact o7
      · have hd : decide (k < n) = false := by simp; omega
        obtain rfl : k = n := by omega
        go_wp2_with fail
        go_ret
        exact ⟨_, rfl, o1, h1, g1⟩
end Go.Proofs.YtgjcofneecebjaaDoor
