/- SmallShift, walked. -/
import Derived.Test.YtopkmkkohmkceaaDoorF
import Derived.Test.YtopkmkkohmkceaaDoorP
import Derived.Deep.DeepCutAuto
namespace Go.Proofs.YtopkmkkohmkceaaDoor
open Go.ChangeShapes Go.WideShapes Go.ChangeAt Go.RowKit
set_option linter.unusedSimpArgs false
set_option linter.unusedVariables false

theorem tm_bd (a b : Nat → Int) (i : Nat) : 0 ≤ tm a b i ∧ tm a b i < 3329 := by
  unfold tm tim; split <;> exact emod_bd _
theorem times13' (a b : Nat → Int) (w : World) (ha : I64 a) (hb : I64 b) (hR : TRow w 0 128 rt) : Calls Tryd.prog 13 #[.agg (arr 256 a), .agg (arr 256 b)] w fun e w' => e = .returned (.agg (arr 256 (tm a b))) ∧ Below w.heap.size w w' := times13 a b w ha hb hR
theorem one_bd (m : Nat) (n : Int) (h : -9223372036854775808 ≤ n ∧ n ≤ 9223372036854775807) : I64 (one m n) := fun i => by
  unfold one upd
  split
  · exact h
  · exact ⟨(by omega : (_ : Int) ≤ 0), (by omega : (0 : Int) ≤ _)⟩

set_option maxRecDepth 20000 in
set_option maxHeartbeats 4000000 in
theorem shift5 (a : Nat → Int) (w : World) (ha : I64 a) (hR : TRow w 0 128 rt) : Calls Tryd.prog 5 #[.agg (arr 256 a)] w fun e w' => e = .returned (.bool true) ∧ Below w.heap.size w w' := by
  have hlt := hR.lt
  have r1 := Row.new w 23 256 a
  have hb0 := (Below.refl w.heap.size w).alloc (Nat.le_refl _) (.cells (arr 256 a) 23)
  have R1 := hR.below hb0 hlt
  have hs0 : (w.alloc (.cells (arr 256 a) 23)).heap.size = w.heap.size + 1 := by simp
  have HS0 := Lib.hid hs0; clear hs0
  go_enter Tryd.func5, Tryd.ntmps5
  go_wp2_with fail
  refine (head9 _ R1).mono ?_
  rintro e w1 ⟨rfl, k1⟩
  rw [HS0.out] at k1
  have r1 := r1.below k1 (by omega)
  have R1 := R1.below k1 (by omega)
  have hb0 := hb0.trans (k1.mono (by omega))
  have hs1 := k1.size
  rw [HS0.out] at hs1
  clear k1 HS0
  have hz := zero23
  have ea : (arr 256 fun _ => 0).setIfInBounds 1 (Value.int .i64 1) = arr 256 (one 1 1) := arr_set _ _ _ _
  have r2 := Row.new w1 23 256 (one 1 1)
  have r1 := r1.alloc (.cells (arr 256 (one 1 1)) 23)
  have hb0 := hb0.alloc (by omega) (.cells (arr 256 (one 1 1)) 23)
  have R1 := R1.alloc (.cells (arr 256 (one 1 1)) 23)
  go_upto_region 4 with (fail)
  clear hz ea
  generalize w1.alloc (.cells (arr 256 (one 1 1)) 23) = w3 at *
  go_cut [5] (fun v wc => ∃ nb : Nat, v = .pointer (some ⟨nb, 0, none⟩) ∧ Row wc nb 23 256 (inv (tm (ntt a) (ntt (one 1 1)))) ∧ Row wc w.heap.size 23 256 a ∧ Below w.heap.size w wc ∧ TRow wc 0 128 rt ∧ w.heap.size < nb)
  case first =>
    refine wp_region_held_drew (S := (fun w' => Row w' w.heap.size 23 256 a ∧ Row w' w1.heap.size 23 256 (one 1 1) ∧ Below w.heap.size w w' ∧ TRow w' 0 128 rt)) (by kernel_rfl) ⟨r1.drew, r2.drew, hb0.drew, R1.drew⟩ (fun hH => ?_)
    clear r1 r2 hb0 R1
    generalize w3.drew = v0 at *
    refine wpAnyH_take (i := 0) (oi := { dst := some 10, op := Op.load 23 (Operand.tmp 1), type := 23, pos := "law.go:53", after := #[], guard := none }) rfl (by kernel_rfl) (by kernel_rfl) (by kernel_rfl) (fun _ _ _ h => h) (yields23 (by rfl) _ rfl w.heap.size rfl a (fun _ h => h.1)) hH ?_
    try simp only [Act.put, List.setIfInBounds_toArray, List.set_cons_zero, List.set_cons_succ]
    refine wpAnyH_take (i := 2) (oi := { dst := some 12, op := Op.load 23 (Operand.tmp 4), type := 23, pos := "law.go:53", after := #[], guard := none }) rfl (by kernel_rfl) (by kernel_rfl) (by kernel_rfl) (fun _ _ _ h => h) (yields23 (by rfl) _ rfl w1.heap.size rfl (one 1 1) (fun _ h => h.2.1)) hH ?_
    try simp only [Act.put, List.setIfInBounds_toArray, List.set_cons_zero, List.set_cons_succ]
    refine wpAnyH_ready (rs := [1, 6]) (by kernel_rfl) (by simp) ?_
    refine AllReadyH.cons (o := { dst := some 11, op := Op.call { callee := Callee.value (Operand.func 12), args := #[Operand.tmp 10], argTypes := #[23] }, type := 23, pos := "law.go:53", after := #[{ on := 0, ground := Ground.data }], guard := none }) rfl (fun K hK => ?_) ?_
    · rw [if_pos (by rfl)]
      go_simp
      refine (ntt12' a _ ha hH.2.2.2).mono ?_
      rintro e v1 ⟨rfl, kk⟩
      refine hK.out _ _ ⟨hH.1.below kk hH.1.lt, hH.2.1.below kk hH.2.1.lt, hH.2.2.1.trans (kk.mono hH.2.2.1.size), hH.2.2.2.below kk hH.2.2.2.lt⟩ (fun hH => ?_)
      clear hK K
      clear kk
      refine wpAnyH_ready (rs := [3, 6]) (by kernel_rfl) (by simp) ?_
      refine AllReadyH.cons (o := { dst := some 13, op := Op.call { callee := Callee.value (Operand.func 12), args := #[Operand.tmp 12], argTypes := #[23] }, type := 23, pos := "law.go:53", after := #[{ on := 2, ground := Ground.data }, { on := 1, ground := Ground.chain }], guard := none }) rfl (fun K hK => ?_) ?_
      · rw [if_pos (by rfl)]
        go_simp
        refine (ntt12' (one 1 1) _ (one_bd 1 1 (by omega)) hH.2.2.2).mono ?_
        rintro e v2 ⟨rfl, kk⟩
        refine hK.out _ _ ⟨hH.1.below kk hH.1.lt, hH.2.1.below kk hH.2.1.lt, hH.2.2.1.trans (kk.mono hH.2.2.1.size), hH.2.2.2.below kk hH.2.2.2.lt⟩ (fun hH => ?_)
        clear hK K
        clear kk
        refine wpAnyH_ready (rs := [4, 6]) (by kernel_rfl) (by simp) ?_
        refine AllReadyH.cons (o := { dst := some 14, op := Op.call { callee := Callee.value (Operand.func 13), args := #[Operand.tmp 11, Operand.tmp 13], argTypes := #[23, 23] }, type := 23, pos := "law.go:53", after := #[{ on := 1, ground := Ground.data }, { on := 3, ground := Ground.data }, { on := 3, ground := Ground.chain }], guard := none }) rfl (fun K hK => ?_) ?_
        · rw [if_pos (by rfl)]
          go_simp
          refine (times13' (ntt a) (ntt (one 1 1)) _ (I64.of (ntt_bd _)) (I64.of (ntt_bd _)) hH.2.2.2).mono ?_
          rintro e v3 ⟨rfl, kk⟩
          refine hK.out _ _ ⟨hH.1.below kk hH.1.lt, hH.2.1.below kk hH.2.1.lt, hH.2.2.1.trans (kk.mono hH.2.2.1.size), hH.2.2.2.below kk hH.2.2.2.lt⟩ (fun hH => ?_)
          clear hK K
          clear kk
          refine wpAnyH_ready (rs := [5, 6]) (by kernel_rfl) (by simp) ?_
          refine AllReadyH.cons (o := { dst := some 15, op := Op.call { callee := Callee.value (Operand.func 11), args := #[Operand.tmp 14], argTypes := #[23] }, type := 23, pos := "law.go:53", after := #[{ on := 4, ground := Ground.data }, { on := 4, ground := Ground.chain }], guard := none }) rfl (fun K hK => ?_) ?_
          · rw [if_pos (by rfl)]
            go_simp
            refine (inv11' (tm (ntt a) (ntt (one 1 1))) _ (I64.of (tm_bd _ _)) hH.2.2.2).mono ?_
            rintro e v4 ⟨rfl, kk⟩
            refine hK.out _ _ ⟨hH.1.below kk hH.1.lt, hH.2.1.below kk hH.2.1.lt, hH.2.2.1.trans (kk.mono hH.2.2.1.size), hH.2.2.2.below kk hH.2.2.2.lt⟩ (fun hH => ?_)
            clear hK K
            clear kk
            refine wpAnyH_ready (rs := [6]) (by kernel_rfl) (by simp) ?_
            refine AllReadyH.cons (o := { dst := some 5, op := Op.alloc 23, type := 0, pos := "law.go:53", after := #[], guard := none }) rfl (fun K hK => ?_) AllReadyH.nil
            rw [if_pos (by rfl)]
            have hz := zero23
            go_simp
            clear hz
            have n5 := Row.new v4 23 256 (fun _ => 0)
            have l5_0 := hH.1.lt
            have l5_1 := hH.2.1.lt
            have l5_b := hH.2.2.1.size
            have l5_r := hH.2.2.2.lt
            refine hK.out _ _ ⟨hH.1.alloc _, hH.2.1.alloc _, hH.2.2.1.alloc hH.2.2.1.size _, hH.2.2.2.alloc _⟩ (fun hH => ?_)
            clear hK K
            generalize v4.alloc (.cells (arr 256 fun _ => 0) 23) = v5 at *
            refine wpAnyH_ready (rs := [7]) (by kernel_rfl) (by simp) ?_
            refine AllReadyH.cons (o := { dst := none, op := Op.store 23 (Operand.tmp 5) (Operand.tmp 15), type := 0, pos := "law.go:53", after := #[{ on := 6, ground := Ground.data }, { on := 5, ground := Ground.data }, { on := 5, ground := Ground.chain }, { on := 0, ground := Ground.phase }, { on := 1, ground := Ground.phase }, { on := 2, ground := Ground.phase }, { on := 3, ground := Ground.phase }, { on := 4, ground := Ground.phase }, { on := 5, ground := Ground.phase }, { on := 6, ground := Ground.phase }], guard := none }) rfl (fun K hK => ?_) AllReadyH.nil
            rw [if_pos (by rfl)]
            refine wp_store23 _ _ rfl v4.heap.size _ rfl rfl n5 ?_
            refine hK.out _ _ ⟨hH.1.setRow_other _ (by omega), hH.2.1.setRow_other _ (by omega), below_setRow hH.2.2.1 (g := v4.heap.size) (by omega) _, hH.2.2.2.setRow_other _ (by omega)⟩ (fun hH => ?_)
            clear hK K
            have n5 := n5.setRow (m := 256) (inv (tm (ntt a) (ntt (one 1 1))))
            refine wpAnyH_done (by kernel_rfl) ?_ _
            go_wp2_with fail
            go_meet
            exact ⟨v4.heap.size, rfl, n5, hH.1, hH.2.2.1, hH.2.2.2, by omega⟩
          refine AllReadyH.cons (o := { dst := some 5, op := Op.alloc 23, type := 0, pos := "law.go:53", after := #[], guard := none }) rfl (fun K hK => ?_) AllReadyH.nil
          rw [if_pos (by rfl)]
          have hz := zero23
          go_simp
          clear hz
          have n7 := Row.new v3 23 256 (fun _ => 0)
          have l7_0 := hH.1.lt
          have l7_1 := hH.2.1.lt
          have l7_b := hH.2.2.1.size
          have l7_r := hH.2.2.2.lt
          refine hK.out _ _ ⟨hH.1.alloc _, hH.2.1.alloc _, hH.2.2.1.alloc hH.2.2.1.size _, hH.2.2.2.alloc _⟩ (fun hH => ?_)
          clear hK K
          generalize v3.alloc (.cells (arr 256 fun _ => 0) 23) = v7 at *
          refine wpAnyH_ready (rs := [5]) (by kernel_rfl) (by simp) ?_
          refine AllReadyH.cons (o := { dst := some 15, op := Op.call { callee := Callee.value (Operand.func 11), args := #[Operand.tmp 14], argTypes := #[23] }, type := 23, pos := "law.go:53", after := #[{ on := 4, ground := Ground.data }, { on := 4, ground := Ground.chain }], guard := none }) rfl (fun K hK => ?_) AllReadyH.nil
          rw [if_pos (by rfl)]
          go_simp
          refine (inv11' (tm (ntt a) (ntt (one 1 1))) _ (I64.of (tm_bd _ _)) hH.2.2.2).mono ?_
          rintro e v8 ⟨rfl, kk⟩
          refine hK.out _ _ ⟨hH.1.below kk hH.1.lt, hH.2.1.below kk hH.2.1.lt, hH.2.2.1.trans (kk.mono hH.2.2.1.size), hH.2.2.2.below kk hH.2.2.2.lt⟩ (fun hH => ?_)
          clear hK K
          have n7 := n7.below kk n7.lt
          clear kk
          refine wpAnyH_ready (rs := [7]) (by kernel_rfl) (by simp) ?_
          refine AllReadyH.cons (o := { dst := none, op := Op.store 23 (Operand.tmp 5) (Operand.tmp 15), type := 0, pos := "law.go:53", after := #[{ on := 6, ground := Ground.data }, { on := 5, ground := Ground.data }, { on := 5, ground := Ground.chain }, { on := 0, ground := Ground.phase }, { on := 1, ground := Ground.phase }, { on := 2, ground := Ground.phase }, { on := 3, ground := Ground.phase }, { on := 4, ground := Ground.phase }, { on := 5, ground := Ground.phase }, { on := 6, ground := Ground.phase }], guard := none }) rfl (fun K hK => ?_) AllReadyH.nil
          rw [if_pos (by rfl)]
          refine wp_store23 _ _ rfl v3.heap.size _ rfl rfl n7 ?_
          refine hK.out _ _ ⟨hH.1.setRow_other _ (by omega), hH.2.1.setRow_other _ (by omega), below_setRow hH.2.2.1 (g := v3.heap.size) (by omega) _, hH.2.2.2.setRow_other _ (by omega)⟩ (fun hH => ?_)
          clear hK K
          have n7 := n7.setRow (m := 256) (inv (tm (ntt a) (ntt (one 1 1))))
          refine wpAnyH_done (by kernel_rfl) ?_ _
          go_wp2_with fail
          go_meet
          exact ⟨v3.heap.size, rfl, n7, hH.1, hH.2.2.1, hH.2.2.2, by omega⟩
        refine AllReadyH.cons (o := { dst := some 5, op := Op.alloc 23, type := 0, pos := "law.go:53", after := #[], guard := none }) rfl (fun K hK => ?_) AllReadyH.nil
        rw [if_pos (by rfl)]
        have hz := zero23
        go_simp
        clear hz
        have n10 := Row.new v2 23 256 (fun _ => 0)
        have l10_0 := hH.1.lt
        have l10_1 := hH.2.1.lt
        have l10_b := hH.2.2.1.size
        have l10_r := hH.2.2.2.lt
        refine hK.out _ _ ⟨hH.1.alloc _, hH.2.1.alloc _, hH.2.2.1.alloc hH.2.2.1.size _, hH.2.2.2.alloc _⟩ (fun hH => ?_)
        clear hK K
        generalize v2.alloc (.cells (arr 256 fun _ => 0) 23) = v10 at *
        refine wpAnyH_ready (rs := [4]) (by kernel_rfl) (by simp) ?_
        refine AllReadyH.cons (o := { dst := some 14, op := Op.call { callee := Callee.value (Operand.func 13), args := #[Operand.tmp 11, Operand.tmp 13], argTypes := #[23, 23] }, type := 23, pos := "law.go:53", after := #[{ on := 1, ground := Ground.data }, { on := 3, ground := Ground.data }, { on := 3, ground := Ground.chain }], guard := none }) rfl (fun K hK => ?_) AllReadyH.nil
        rw [if_pos (by rfl)]
        go_simp
        refine (times13' (ntt a) (ntt (one 1 1)) _ (I64.of (ntt_bd _)) (I64.of (ntt_bd _)) hH.2.2.2).mono ?_
        rintro e v11 ⟨rfl, kk⟩
        refine hK.out _ _ ⟨hH.1.below kk hH.1.lt, hH.2.1.below kk hH.2.1.lt, hH.2.2.1.trans (kk.mono hH.2.2.1.size), hH.2.2.2.below kk hH.2.2.2.lt⟩ (fun hH => ?_)
        clear hK K
        have n10 := n10.below kk n10.lt
        clear kk
        refine wpAnyH_ready (rs := [5]) (by kernel_rfl) (by simp) ?_
        refine AllReadyH.cons (o := { dst := some 15, op := Op.call { callee := Callee.value (Operand.func 11), args := #[Operand.tmp 14], argTypes := #[23] }, type := 23, pos := "law.go:53", after := #[{ on := 4, ground := Ground.data }, { on := 4, ground := Ground.chain }], guard := none }) rfl (fun K hK => ?_) AllReadyH.nil
        rw [if_pos (by rfl)]
        go_simp
        refine (inv11' (tm (ntt a) (ntt (one 1 1))) _ (I64.of (tm_bd _ _)) hH.2.2.2).mono ?_
        rintro e v12 ⟨rfl, kk⟩
        refine hK.out _ _ ⟨hH.1.below kk hH.1.lt, hH.2.1.below kk hH.2.1.lt, hH.2.2.1.trans (kk.mono hH.2.2.1.size), hH.2.2.2.below kk hH.2.2.2.lt⟩ (fun hH => ?_)
        clear hK K
        have n10 := n10.below kk n10.lt
        clear kk
        refine wpAnyH_ready (rs := [7]) (by kernel_rfl) (by simp) ?_
        refine AllReadyH.cons (o := { dst := none, op := Op.store 23 (Operand.tmp 5) (Operand.tmp 15), type := 0, pos := "law.go:53", after := #[{ on := 6, ground := Ground.data }, { on := 5, ground := Ground.data }, { on := 5, ground := Ground.chain }, { on := 0, ground := Ground.phase }, { on := 1, ground := Ground.phase }, { on := 2, ground := Ground.phase }, { on := 3, ground := Ground.phase }, { on := 4, ground := Ground.phase }, { on := 5, ground := Ground.phase }, { on := 6, ground := Ground.phase }], guard := none }) rfl (fun K hK => ?_) AllReadyH.nil
        rw [if_pos (by rfl)]
        refine wp_store23 _ _ rfl v2.heap.size _ rfl rfl n10 ?_
        refine hK.out _ _ ⟨hH.1.setRow_other _ (by omega), hH.2.1.setRow_other _ (by omega), below_setRow hH.2.2.1 (g := v2.heap.size) (by omega) _, hH.2.2.2.setRow_other _ (by omega)⟩ (fun hH => ?_)
        clear hK K
        have n10 := n10.setRow (m := 256) (inv (tm (ntt a) (ntt (one 1 1))))
        refine wpAnyH_done (by kernel_rfl) ?_ _
        go_wp2_with fail
        go_meet
        exact ⟨v2.heap.size, rfl, n10, hH.1, hH.2.2.1, hH.2.2.2, by omega⟩
      refine AllReadyH.cons (o := { dst := some 5, op := Op.alloc 23, type := 0, pos := "law.go:53", after := #[], guard := none }) rfl (fun K hK => ?_) AllReadyH.nil
      rw [if_pos (by rfl)]
      have hz := zero23
      go_simp
      clear hz
      have n14 := Row.new v1 23 256 (fun _ => 0)
      have l14_0 := hH.1.lt
      have l14_1 := hH.2.1.lt
      have l14_b := hH.2.2.1.size
      have l14_r := hH.2.2.2.lt
      refine hK.out _ _ ⟨hH.1.alloc _, hH.2.1.alloc _, hH.2.2.1.alloc hH.2.2.1.size _, hH.2.2.2.alloc _⟩ (fun hH => ?_)
      clear hK K
      generalize v1.alloc (.cells (arr 256 fun _ => 0) 23) = v14 at *
      refine wpAnyH_ready (rs := [3]) (by kernel_rfl) (by simp) ?_
      refine AllReadyH.cons (o := { dst := some 13, op := Op.call { callee := Callee.value (Operand.func 12), args := #[Operand.tmp 12], argTypes := #[23] }, type := 23, pos := "law.go:53", after := #[{ on := 2, ground := Ground.data }, { on := 1, ground := Ground.chain }], guard := none }) rfl (fun K hK => ?_) AllReadyH.nil
      rw [if_pos (by rfl)]
      go_simp
      refine (ntt12' (one 1 1) _ (one_bd 1 1 (by omega)) hH.2.2.2).mono ?_
      rintro e v15 ⟨rfl, kk⟩
      refine hK.out _ _ ⟨hH.1.below kk hH.1.lt, hH.2.1.below kk hH.2.1.lt, hH.2.2.1.trans (kk.mono hH.2.2.1.size), hH.2.2.2.below kk hH.2.2.2.lt⟩ (fun hH => ?_)
      clear hK K
      have n14 := n14.below kk n14.lt
      clear kk
      refine wpAnyH_ready (rs := [4]) (by kernel_rfl) (by simp) ?_
      refine AllReadyH.cons (o := { dst := some 14, op := Op.call { callee := Callee.value (Operand.func 13), args := #[Operand.tmp 11, Operand.tmp 13], argTypes := #[23, 23] }, type := 23, pos := "law.go:53", after := #[{ on := 1, ground := Ground.data }, { on := 3, ground := Ground.data }, { on := 3, ground := Ground.chain }], guard := none }) rfl (fun K hK => ?_) AllReadyH.nil
      rw [if_pos (by rfl)]
      go_simp
      refine (times13' (ntt a) (ntt (one 1 1)) _ (I64.of (ntt_bd _)) (I64.of (ntt_bd _)) hH.2.2.2).mono ?_
      rintro e v16 ⟨rfl, kk⟩
      refine hK.out _ _ ⟨hH.1.below kk hH.1.lt, hH.2.1.below kk hH.2.1.lt, hH.2.2.1.trans (kk.mono hH.2.2.1.size), hH.2.2.2.below kk hH.2.2.2.lt⟩ (fun hH => ?_)
      clear hK K
      have n14 := n14.below kk n14.lt
      clear kk
      refine wpAnyH_ready (rs := [5]) (by kernel_rfl) (by simp) ?_
      refine AllReadyH.cons (o := { dst := some 15, op := Op.call { callee := Callee.value (Operand.func 11), args := #[Operand.tmp 14], argTypes := #[23] }, type := 23, pos := "law.go:53", after := #[{ on := 4, ground := Ground.data }, { on := 4, ground := Ground.chain }], guard := none }) rfl (fun K hK => ?_) AllReadyH.nil
      rw [if_pos (by rfl)]
      go_simp
      refine (inv11' (tm (ntt a) (ntt (one 1 1))) _ (I64.of (tm_bd _ _)) hH.2.2.2).mono ?_
      rintro e v17 ⟨rfl, kk⟩
      refine hK.out _ _ ⟨hH.1.below kk hH.1.lt, hH.2.1.below kk hH.2.1.lt, hH.2.2.1.trans (kk.mono hH.2.2.1.size), hH.2.2.2.below kk hH.2.2.2.lt⟩ (fun hH => ?_)
      clear hK K
      have n14 := n14.below kk n14.lt
      clear kk
      refine wpAnyH_ready (rs := [7]) (by kernel_rfl) (by simp) ?_
      refine AllReadyH.cons (o := { dst := none, op := Op.store 23 (Operand.tmp 5) (Operand.tmp 15), type := 0, pos := "law.go:53", after := #[{ on := 6, ground := Ground.data }, { on := 5, ground := Ground.data }, { on := 5, ground := Ground.chain }, { on := 0, ground := Ground.phase }, { on := 1, ground := Ground.phase }, { on := 2, ground := Ground.phase }, { on := 3, ground := Ground.phase }, { on := 4, ground := Ground.phase }, { on := 5, ground := Ground.phase }, { on := 6, ground := Ground.phase }], guard := none }) rfl (fun K hK => ?_) AllReadyH.nil
      rw [if_pos (by rfl)]
      refine wp_store23 _ _ rfl v1.heap.size _ rfl rfl n14 ?_
      refine hK.out _ _ ⟨hH.1.setRow_other _ (by omega), hH.2.1.setRow_other _ (by omega), below_setRow hH.2.2.1 (g := v1.heap.size) (by omega) _, hH.2.2.2.setRow_other _ (by omega)⟩ (fun hH => ?_)
      clear hK K
      have n14 := n14.setRow (m := 256) (inv (tm (ntt a) (ntt (one 1 1))))
      refine wpAnyH_done (by kernel_rfl) ?_ _
      go_wp2_with fail
      go_meet
      exact ⟨v1.heap.size, rfl, n14, hH.1, hH.2.2.1, hH.2.2.2, by omega⟩
    refine AllReadyH.cons (o := { dst := some 5, op := Op.alloc 23, type := 0, pos := "law.go:53", after := #[], guard := none }) rfl (fun K hK => ?_) AllReadyH.nil
    rw [if_pos (by rfl)]
    have hz := zero23
    go_simp
    clear hz
    have n19 := Row.new v0 23 256 (fun _ => 0)
    have l19_0 := hH.1.lt
    have l19_1 := hH.2.1.lt
    have l19_b := hH.2.2.1.size
    have l19_r := hH.2.2.2.lt
    refine hK.out _ _ ⟨hH.1.alloc _, hH.2.1.alloc _, hH.2.2.1.alloc hH.2.2.1.size _, hH.2.2.2.alloc _⟩ (fun hH => ?_)
    clear hK K
    generalize v0.alloc (.cells (arr 256 fun _ => 0) 23) = v19 at *
    refine wpAnyH_ready (rs := [1]) (by kernel_rfl) (by simp) ?_
    refine AllReadyH.cons (o := { dst := some 11, op := Op.call { callee := Callee.value (Operand.func 12), args := #[Operand.tmp 10], argTypes := #[23] }, type := 23, pos := "law.go:53", after := #[{ on := 0, ground := Ground.data }], guard := none }) rfl (fun K hK => ?_) AllReadyH.nil
    rw [if_pos (by rfl)]
    go_simp
    refine (ntt12' a _ ha hH.2.2.2).mono ?_
    rintro e v20 ⟨rfl, kk⟩
    refine hK.out _ _ ⟨hH.1.below kk hH.1.lt, hH.2.1.below kk hH.2.1.lt, hH.2.2.1.trans (kk.mono hH.2.2.1.size), hH.2.2.2.below kk hH.2.2.2.lt⟩ (fun hH => ?_)
    clear hK K
    have n19 := n19.below kk n19.lt
    clear kk
    refine wpAnyH_ready (rs := [3]) (by kernel_rfl) (by simp) ?_
    refine AllReadyH.cons (o := { dst := some 13, op := Op.call { callee := Callee.value (Operand.func 12), args := #[Operand.tmp 12], argTypes := #[23] }, type := 23, pos := "law.go:53", after := #[{ on := 2, ground := Ground.data }, { on := 1, ground := Ground.chain }], guard := none }) rfl (fun K hK => ?_) AllReadyH.nil
    rw [if_pos (by rfl)]
    go_simp
    refine (ntt12' (one 1 1) _ (one_bd 1 1 (by omega)) hH.2.2.2).mono ?_
    rintro e v21 ⟨rfl, kk⟩
    refine hK.out _ _ ⟨hH.1.below kk hH.1.lt, hH.2.1.below kk hH.2.1.lt, hH.2.2.1.trans (kk.mono hH.2.2.1.size), hH.2.2.2.below kk hH.2.2.2.lt⟩ (fun hH => ?_)
    clear hK K
    have n19 := n19.below kk n19.lt
    clear kk
    refine wpAnyH_ready (rs := [4]) (by kernel_rfl) (by simp) ?_
    refine AllReadyH.cons (o := { dst := some 14, op := Op.call { callee := Callee.value (Operand.func 13), args := #[Operand.tmp 11, Operand.tmp 13], argTypes := #[23, 23] }, type := 23, pos := "law.go:53", after := #[{ on := 1, ground := Ground.data }, { on := 3, ground := Ground.data }, { on := 3, ground := Ground.chain }], guard := none }) rfl (fun K hK => ?_) AllReadyH.nil
    rw [if_pos (by rfl)]
    go_simp
    refine (times13' (ntt a) (ntt (one 1 1)) _ (I64.of (ntt_bd _)) (I64.of (ntt_bd _)) hH.2.2.2).mono ?_
    rintro e v22 ⟨rfl, kk⟩
    refine hK.out _ _ ⟨hH.1.below kk hH.1.lt, hH.2.1.below kk hH.2.1.lt, hH.2.2.1.trans (kk.mono hH.2.2.1.size), hH.2.2.2.below kk hH.2.2.2.lt⟩ (fun hH => ?_)
    clear hK K
    have n19 := n19.below kk n19.lt
    clear kk
    refine wpAnyH_ready (rs := [5]) (by kernel_rfl) (by simp) ?_
    refine AllReadyH.cons (o := { dst := some 15, op := Op.call { callee := Callee.value (Operand.func 11), args := #[Operand.tmp 14], argTypes := #[23] }, type := 23, pos := "law.go:53", after := #[{ on := 4, ground := Ground.data }, { on := 4, ground := Ground.chain }], guard := none }) rfl (fun K hK => ?_) AllReadyH.nil
    rw [if_pos (by rfl)]
    go_simp
    refine (inv11' (tm (ntt a) (ntt (one 1 1))) _ (I64.of (tm_bd _ _)) hH.2.2.2).mono ?_
    rintro e v23 ⟨rfl, kk⟩
    refine hK.out _ _ ⟨hH.1.below kk hH.1.lt, hH.2.1.below kk hH.2.1.lt, hH.2.2.1.trans (kk.mono hH.2.2.1.size), hH.2.2.2.below kk hH.2.2.2.lt⟩ (fun hH => ?_)
    clear hK K
    have n19 := n19.below kk n19.lt
    clear kk
    refine wpAnyH_ready (rs := [7]) (by kernel_rfl) (by simp) ?_
    refine AllReadyH.cons (o := { dst := none, op := Op.store 23 (Operand.tmp 5) (Operand.tmp 15), type := 0, pos := "law.go:53", after := #[{ on := 6, ground := Ground.data }, { on := 5, ground := Ground.data }, { on := 5, ground := Ground.chain }, { on := 0, ground := Ground.phase }, { on := 1, ground := Ground.phase }, { on := 2, ground := Ground.phase }, { on := 3, ground := Ground.phase }, { on := 4, ground := Ground.phase }, { on := 5, ground := Ground.phase }, { on := 6, ground := Ground.phase }], guard := none }) rfl (fun K hK => ?_) AllReadyH.nil
    rw [if_pos (by rfl)]
    refine wp_store23 _ _ rfl v0.heap.size _ rfl rfl n19 ?_
    refine hK.out _ _ ⟨hH.1.setRow_other _ (by omega), hH.2.1.setRow_other _ (by omega), below_setRow hH.2.2.1 (g := v0.heap.size) (by omega) _, hH.2.2.2.setRow_other _ (by omega)⟩ (fun hH => ?_)
    clear hK K
    have n19 := n19.setRow (m := 256) (inv (tm (ntt a) (ntt (one 1 1))))
    refine wpAnyH_done (by kernel_rfl) ?_ _
    go_wp2_with fail
    go_meet
    exact ⟨v0.heap.size, rfl, n19, hH.1, hH.2.2.1, hH.2.2.2, by omega⟩
  case rest =>
    obtain ⟨nb, rfl, q1, q2, q3, q4, q5⟩ := hcut
    clear r1 r2 hb0 R1 hs1
    have hz := zero23
    have h2 := q2.lt
    go_wp2_with (first | (with_reducible refine load23 rfl (.tmp 1) rfl w.heap.size rfl q2 ?_))
    refine (mod10 a _ ha).mono ?_
    rintro e w2 ⟨rfl, k1⟩
    have h3 := q1.lt
    have q1 := q1.below k1 (by omega)
    have q3 := q3.trans (k1.mono (by omega))
    have q4 := q4.below k1 q4.lt
    have h4 := k1.size
    have p0 := Row.new w2 23 256 (fun _ => 0)
    have q1 := (q1.alloc (.cells (arr 256 fun _ => 0) 23)).setRow_other (c := w2.heap.size) (arr 256 fun i => emod (a i)) (by omega)
    have q3 := below_setRow (q3.alloc (by omega) (.cells (arr 256 fun _ => 0) 23)) (g := w2.heap.size) (by omega) (arr 256 fun i => emod (a i))
    have p1 := p0.setRow (m := 256) (fun i => emod (a i))
    have g255 := p1.cell 255 (by omega)
    have g0 := q1.cell 0 (by omega)
    have e0 : inv (tm (ntt a) (ntt (one 1 1))) 0 = emod (-a 255) := prod_back _ _ _ (prod_shift a) 0 (by omega)
    rw [e0] at g0
    clear k1 e0
    have bb := emod_bd (a 255)
    have t1 : (emod (-a 255) != -emod (a 255) % 3329) = false := by unfold emod; simp; omega
    have T1 := Lib.hid t1; clear t1
    generalize (emod (-a 255)) = u1 at *
    generalize hu2 : emod (a 255) = u2 at *
    clear hu2
    have t1 := T1.out; clear T1
    go_wp2_with (first | (with_reducible refine store23 rfl (.tmp 6) (.tmp 17) rfl w2.heap.size _ rfl rfl p0 ?_))
    clear hz p0 g255 g0
    generalize ((w2.alloc (.cells (arr 256 fun _ => 0) 23)).setRow w2.heap.size (arr 256 fun i => emod (a i))) = w4 at *
    have q1 := q1.congr (g := fun i => emod (shift a i)) (fun i hi => prod_back _ _ _ (prod_shift a) i hi)
    have h6 : w.heap.size < w2.heap.size := by omega
    clear q2 h2 h3 h4 q5 bb t1
    generalize (3329 - u2) % 3329 = u3
    go_loopw [7] (fun v wr => ∃ k : Nat, 1 ≤ k ∧ k ≤ 256 ∧ v = .int .i64 k ∧ Row wr nb 23 256 (fun i => emod (shift a i)) ∧ Row wr w2.heap.size 23 256 (fun i => emod (a i)) ∧ Below w.heap.size w wr) (fun v wr => 256 - (intOf v).toNat)
    case atStart => exact ⟨1, by omega, by omega, rfl, q1, p1, q3⟩
    case round =>
      obtain ⟨k, hk1, hk, rfl, q1, p1, q3⟩ := hrel
      by_cases hlt2 : k < 256
      · have c1 := q1.cell k (by omega)
        have c2 := p1.cell (k - 1) (by omega)
        rw [show shift a k = a (k - 1) from if_neg (by omega)] at c1
        generalize emod (a (k - 1)) = x at *
        have t0 : 0 ≤ (k : Int) := by omega
        have t1 : (k : Int) < 256 := by omega
        have t3 : IntKind.i64.wrap ((k : Int) - 1) = (k : Int) - 1 := IntWalk.i64_in _ (by omega)
        have t4 : 0 ≤ (k : Int) - 1 := by omega
        have t5 : (k : Int) - 1 < 256 := by omega
        have t6 : ((k : Int) - 1).toNat = k - 1 := by omega
        have t7 : 1 ≤ (k : Int) := by omega
        have t8 : (k : Int) < 257 := by omega
        have t9 : (k : Int) ≤ 256 := by omega
        have t10 : k < 257 := by omega
        go_wp2
        go_still (by kernel_rfl)
        change Exit.then _ _ _ _ wr.drew
        clear t0 t1 t3 t4 t5 t6 t7 t8 t9 t10 c1 c2
        have q1 := q1.drew; have p1 := p1.drew; have q3 := q3.drew
        generalize wr.drew = w5 at *
        go_wp2
        go_roundw
        case rel => exact ⟨k + 1, by omega, by omega, by go_num, q1, p1, q3⟩
        case measure => simp [intOf]; omega
      · have e1 : k = 256 := by omega
        subst e1
        go_wp2
        go_ret
        exact ⟨rfl, q3⟩
end Go.Proofs.YtopkmkkohmkceaaDoor
