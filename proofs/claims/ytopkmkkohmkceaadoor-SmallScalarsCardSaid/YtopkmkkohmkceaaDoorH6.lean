/- SmallScalars, walked. -/
import Derived.Test.YtopkmkkohmkceaaDoorH5
namespace Go.Proofs.YtopkmkkohmkceaaDoor
open Go.ChangeShapes Go.WideShapes Go.ChangeAt Go.RowKit
set_option linter.unusedSimpArgs false
set_option linter.unusedVariables false

theorem scal_at (a : Nat → Int) (n : Int) (i : Nat) : emod (n * a i) = emod (a i) * emod n % 3329 := by
  rw [Int.mul_comm]; unfold emod; rw [← Int.mul_emod]
theorem scal_neg (a : Nat → Int) (i : Nat) : emod (-1 * a i) = emod (emod 0 - emod (a i)) := by
  unfold emod; omega
theorem upd_one (n m : Int) : upd (one 0 n) 0 m = one 0 m := by
  funext i; unfold one upd; split <;> simp_all

set_option maxRecDepth 20000 in
set_option maxHeartbeats 4000000 in
theorem scal6 (a : Nat → Int) (n : Int) (w : World) (ha : I64 a) (hn : -32768 ≤ n ∧ n ≤ 32767) (hR : TRow w 0 128 rt) : Calls Tryd.prog 6 #[.agg (arr 256 a), .int .i16 n] w fun e w' => e = .returned (.bool true) ∧ Below w.heap.size w w' := by
  have hlt := hR.lt
  have hn' : -9223372036854775808 ≤ n ∧ n ≤ 9223372036854775807 := by omega
  have r1 := Row.new w 23 256 a
  have hb0 := (Below.refl w.heap.size w).alloc (Nat.le_refl _) (.cells (arr 256 a) 23)
  have R1 := hR.below hb0 hlt
  have hs0 : (w.alloc (.cells (arr 256 a) 23)).heap.size = w.heap.size + 1 := by simp
  have HS0 := Lib.hid hs0; clear hs0
  go_enter Tryd.func6, Tryd.ntmps6
  go_wp2_with fail
  refine (head9 _ R1).mono ?_
  rintro e w1 ⟨rfl, k1⟩
  rw [HS0.out] at k1
  have r1 := r1.below k1 (by omega)
  have R1 := R1.below k1 (by omega)
  have hb0 := hb0.trans (k1.mono (by omega))
  have hs1 := k1.size
  rw [HS0.out] at hs1
  clear k1 HS0
  have hz := zero23
  have ea : (arr 256 fun _ => 0).setIfInBounds 0 (Value.int .i64 n) = arr 256 (one 0 n) := arr_set _ _ _ _
  have ge : ∃ v, (arr 256 fun _ => 0)[0]? = some v := ⟨_, arr_get _ _ _ (by omega)⟩
  have r2 := Row.new w1 23 256 (one 0 n)
  have r1 := r1.alloc (.cells (arr 256 (one 0 n)) 23)
  have hb0 := hb0.alloc (by omega) (.cells (arr 256 (one 0 n)) 23)
  have R1 := R1.alloc (.cells (arr 256 (one 0 n)) 23)
  go_upto_region 4 with (fail)
  clear hz ea ge
  generalize w1.alloc (.cells (arr 256 (one 0 n)) 23) = w3 at *
  go_cut [7] (fun v wc => ∃ nb : Nat, v = .pointer (some ⟨nb, 0, none⟩) ∧ Row wc nb 23 256 (inv (tm (ntt a) (ntt (one 0 n)))) ∧ Row wc w.heap.size 23 256 a ∧ Row wc w1.heap.size 23 256 (one 0 n) ∧ Below w.heap.size w wc ∧ TRow wc 0 128 rt ∧ w1.heap.size < nb)
  case first =>
    refine wp_region_held_drew (S := (fun w' => Row w' w.heap.size 23 256 a ∧ Row w' w1.heap.size 23 256 (one 0 n) ∧ Below w.heap.size w w' ∧ TRow w' 0 128 rt)) (by kernel_rfl) ⟨r1.drew, r2.drew, hb0.drew, R1.drew⟩ (fun hH => ?_)
    clear r1 r2 hb0 R1
    generalize w3.drew = v0 at *
    refine wpAnyH_take (i := 0) (oi := { dst := some 15, op := Op.load 23 (Operand.tmp 2), type := 23, pos := "law.go:71", after := #[], guard := none }) rfl (by kernel_rfl) (by kernel_rfl) (by kernel_rfl) (fun _ _ _ h => h) (yields23 (by rfl) _ rfl w.heap.size rfl a (fun _ h => h.1)) hH ?_
    try simp only [Act.put, List.setIfInBounds_toArray, List.set_cons_zero, List.set_cons_succ]
    refine wpAnyH_take (i := 2) (oi := { dst := some 17, op := Op.load 23 (Operand.tmp 6), type := 23, pos := "law.go:71", after := #[], guard := none }) rfl (by kernel_rfl) (by kernel_rfl) (by kernel_rfl) (fun _ _ _ h => h) (yields23 (by rfl) _ rfl w1.heap.size rfl (one 0 n) (fun _ h => h.2.1)) hH ?_
    try simp only [Act.put, List.setIfInBounds_toArray, List.set_cons_zero, List.set_cons_succ]
    refine wpAnyH_ready (rs := [1, 6]) (by kernel_rfl) (by simp) ?_
    refine AllReadyH.cons (o := { dst := some 16, op := Op.call { callee := Callee.value (Operand.func 12), args := #[Operand.tmp 15], argTypes := #[23] }, type := 23, pos := "law.go:71", after := #[{ on := 0, ground := Ground.data }], guard := none }) rfl (fun K hK => ?_) ?_
    · rw [if_pos (by rfl)]
      go_simp
      refine (ntt12' a _ ha hH.2.2.2).mono ?_
      rintro e v1 ⟨rfl, kk⟩
      refine hK.out _ _ ⟨hH.1.below kk hH.1.lt, hH.2.1.below kk hH.2.1.lt, hH.2.2.1.trans (kk.mono hH.2.2.1.size), hH.2.2.2.below kk hH.2.2.2.lt⟩ (fun hH => ?_)
      clear hK K
      clear kk
      refine wpAnyH_ready (rs := [3, 6]) (by kernel_rfl) (by simp) ?_
      refine AllReadyH.cons (o := { dst := some 18, op := Op.call { callee := Callee.value (Operand.func 12), args := #[Operand.tmp 17], argTypes := #[23] }, type := 23, pos := "law.go:71", after := #[{ on := 2, ground := Ground.data }, { on := 1, ground := Ground.chain }], guard := none }) rfl (fun K hK => ?_) ?_
      · rw [if_pos (by rfl)]
        go_simp
        refine (ntt12' (one 0 n) _ (one_bd 0 n hn') hH.2.2.2).mono ?_
        rintro e v2 ⟨rfl, kk⟩
        refine hK.out _ _ ⟨hH.1.below kk hH.1.lt, hH.2.1.below kk hH.2.1.lt, hH.2.2.1.trans (kk.mono hH.2.2.1.size), hH.2.2.2.below kk hH.2.2.2.lt⟩ (fun hH => ?_)
        clear hK K
        clear kk
        refine wpAnyH_ready (rs := [4, 6]) (by kernel_rfl) (by simp) ?_
        refine AllReadyH.cons (o := { dst := some 19, op := Op.call { callee := Callee.value (Operand.func 13), args := #[Operand.tmp 16, Operand.tmp 18], argTypes := #[23, 23] }, type := 23, pos := "law.go:71", after := #[{ on := 1, ground := Ground.data }, { on := 3, ground := Ground.data }, { on := 3, ground := Ground.chain }], guard := none }) rfl (fun K hK => ?_) ?_
        · rw [if_pos (by rfl)]
          go_simp
          refine (times13' (ntt a) (ntt (one 0 n)) _ (I64.of (ntt_bd _)) (I64.of (ntt_bd _)) hH.2.2.2).mono ?_
          rintro e v3 ⟨rfl, kk⟩
          refine hK.out _ _ ⟨hH.1.below kk hH.1.lt, hH.2.1.below kk hH.2.1.lt, hH.2.2.1.trans (kk.mono hH.2.2.1.size), hH.2.2.2.below kk hH.2.2.2.lt⟩ (fun hH => ?_)
          clear hK K
          clear kk
          refine wpAnyH_ready (rs := [5, 6]) (by kernel_rfl) (by simp) ?_
          refine AllReadyH.cons (o := { dst := some 20, op := Op.call { callee := Callee.value (Operand.func 11), args := #[Operand.tmp 19], argTypes := #[23] }, type := 23, pos := "law.go:71", after := #[{ on := 4, ground := Ground.data }, { on := 4, ground := Ground.chain }], guard := none }) rfl (fun K hK => ?_) ?_
          · rw [if_pos (by rfl)]
            go_simp
            refine (inv11' (tm (ntt a) (ntt (one 0 n))) _ (I64.of (tm_bd _ _)) hH.2.2.2).mono ?_
            rintro e v4 ⟨rfl, kk⟩
            refine hK.out _ _ ⟨hH.1.below kk hH.1.lt, hH.2.1.below kk hH.2.1.lt, hH.2.2.1.trans (kk.mono hH.2.2.1.size), hH.2.2.2.below kk hH.2.2.2.lt⟩ (fun hH => ?_)
            clear hK K
            clear kk
            refine wpAnyH_ready (rs := [6]) (by kernel_rfl) (by simp) ?_
            refine AllReadyH.cons (o := { dst := some 7, op := Op.alloc 23, type := 0, pos := "law.go:71", after := #[], guard := none }) rfl (fun K hK => ?_) AllReadyH.nil
            rw [if_pos (by rfl)]
            have hz := zero23
            go_simp
            clear hz
            have n5 := Row.new v4 23 256 (fun _ => 0)
            have l5_0 := hH.1.lt
            have l5_1 := hH.2.1.lt
            have l5_b := hH.2.2.1.size
            have l5_r := hH.2.2.2.lt
            refine hK.out _ _ ⟨hH.1.alloc _, hH.2.1.alloc _, hH.2.2.1.alloc hH.2.2.1.size _, hH.2.2.2.alloc _⟩ (fun hH => ?_)
            clear hK K
            generalize v4.alloc (.cells (arr 256 fun _ => 0) 23) = v5 at *
            refine wpAnyH_ready (rs := [7]) (by kernel_rfl) (by simp) ?_
            refine AllReadyH.cons (o := { dst := none, op := Op.store 23 (Operand.tmp 7) (Operand.tmp 20), type := 0, pos := "law.go:71", after := #[{ on := 6, ground := Ground.data }, { on := 5, ground := Ground.data }, { on := 5, ground := Ground.chain }, { on := 0, ground := Ground.phase }, { on := 1, ground := Ground.phase }, { on := 2, ground := Ground.phase }, { on := 3, ground := Ground.phase }, { on := 4, ground := Ground.phase }, { on := 5, ground := Ground.phase }, { on := 6, ground := Ground.phase }], guard := none }) rfl (fun K hK => ?_) AllReadyH.nil
            rw [if_pos (by rfl)]
            refine wp_store23 _ _ rfl v4.heap.size _ rfl rfl n5 ?_
            refine hK.out _ _ ⟨hH.1.setRow_other _ (by omega), hH.2.1.setRow_other _ (by omega), below_setRow hH.2.2.1 (g := v4.heap.size) (by omega) _, hH.2.2.2.setRow_other _ (by omega)⟩ (fun hH => ?_)
            clear hK K
            have n5 := n5.setRow (m := 256) (inv (tm (ntt a) (ntt (one 0 n))))
            refine wpAnyH_done (by kernel_rfl) ?_ _
            go_wp2_with fail
            go_meet
            exact ⟨v4.heap.size, rfl, n5, hH.1, hH.2.1, hH.2.2.1, hH.2.2.2, by omega⟩
          refine AllReadyH.cons (o := { dst := some 7, op := Op.alloc 23, type := 0, pos := "law.go:71", after := #[], guard := none }) rfl (fun K hK => ?_) AllReadyH.nil
          rw [if_pos (by rfl)]
          have hz := zero23
          go_simp
          clear hz
          have n7 := Row.new v3 23 256 (fun _ => 0)
          have l7_0 := hH.1.lt
          have l7_1 := hH.2.1.lt
          have l7_b := hH.2.2.1.size
          have l7_r := hH.2.2.2.lt
          refine hK.out _ _ ⟨hH.1.alloc _, hH.2.1.alloc _, hH.2.2.1.alloc hH.2.2.1.size _, hH.2.2.2.alloc _⟩ (fun hH => ?_)
          clear hK K
          generalize v3.alloc (.cells (arr 256 fun _ => 0) 23) = v7 at *
          refine wpAnyH_ready (rs := [5]) (by kernel_rfl) (by simp) ?_
          refine AllReadyH.cons (o := { dst := some 20, op := Op.call { callee := Callee.value (Operand.func 11), args := #[Operand.tmp 19], argTypes := #[23] }, type := 23, pos := "law.go:71", after := #[{ on := 4, ground := Ground.data }, { on := 4, ground := Ground.chain }], guard := none }) rfl (fun K hK => ?_) AllReadyH.nil
          rw [if_pos (by rfl)]
          go_simp
          refine (inv11' (tm (ntt a) (ntt (one 0 n))) _ (I64.of (tm_bd _ _)) hH.2.2.2).mono ?_
          rintro e v8 ⟨rfl, kk⟩
          refine hK.out _ _ ⟨hH.1.below kk hH.1.lt, hH.2.1.below kk hH.2.1.lt, hH.2.2.1.trans (kk.mono hH.2.2.1.size), hH.2.2.2.below kk hH.2.2.2.lt⟩ (fun hH => ?_)
          clear hK K
          have n7 := n7.below kk n7.lt
          clear kk
          refine wpAnyH_ready (rs := [7]) (by kernel_rfl) (by simp) ?_
          refine AllReadyH.cons (o := { dst := none, op := Op.store 23 (Operand.tmp 7) (Operand.tmp 20), type := 0, pos := "law.go:71", after := #[{ on := 6, ground := Ground.data }, { on := 5, ground := Ground.data }, { on := 5, ground := Ground.chain }, { on := 0, ground := Ground.phase }, { on := 1, ground := Ground.phase }, { on := 2, ground := Ground.phase }, { on := 3, ground := Ground.phase }, { on := 4, ground := Ground.phase }, { on := 5, ground := Ground.phase }, { on := 6, ground := Ground.phase }], guard := none }) rfl (fun K hK => ?_) AllReadyH.nil
          rw [if_pos (by rfl)]
          refine wp_store23 _ _ rfl v3.heap.size _ rfl rfl n7 ?_
          refine hK.out _ _ ⟨hH.1.setRow_other _ (by omega), hH.2.1.setRow_other _ (by omega), below_setRow hH.2.2.1 (g := v3.heap.size) (by omega) _, hH.2.2.2.setRow_other _ (by omega)⟩ (fun hH => ?_)
          clear hK K
          have n7 := n7.setRow (m := 256) (inv (tm (ntt a) (ntt (one 0 n))))
          refine wpAnyH_done (by kernel_rfl) ?_ _
          go_wp2_with fail
          go_meet
          exact ⟨v3.heap.size, rfl, n7, hH.1, hH.2.1, hH.2.2.1, hH.2.2.2, by omega⟩
        refine AllReadyH.cons (o := { dst := some 7, op := Op.alloc 23, type := 0, pos := "law.go:71", after := #[], guard := none }) rfl (fun K hK => ?_) AllReadyH.nil
        rw [if_pos (by rfl)]
        have hz := zero23
        go_simp
        clear hz
        have n10 := Row.new v2 23 256 (fun _ => 0)
        have l10_0 := hH.1.lt
        have l10_1 := hH.2.1.lt
        have l10_b := hH.2.2.1.size
        have l10_r := hH.2.2.2.lt
        refine hK.out _ _ ⟨hH.1.alloc _, hH.2.1.alloc _, hH.2.2.1.alloc hH.2.2.1.size _, hH.2.2.2.alloc _⟩ (fun hH => ?_)
        clear hK K
        generalize v2.alloc (.cells (arr 256 fun _ => 0) 23) = v10 at *
        refine wpAnyH_ready (rs := [4]) (by kernel_rfl) (by simp) ?_
        refine AllReadyH.cons (o := { dst := some 19, op := Op.call { callee := Callee.value (Operand.func 13), args := #[Operand.tmp 16, Operand.tmp 18], argTypes := #[23, 23] }, type := 23, pos := "law.go:71", after := #[{ on := 1, ground := Ground.data }, { on := 3, ground := Ground.data }, { on := 3, ground := Ground.chain }], guard := none }) rfl (fun K hK => ?_) AllReadyH.nil
        rw [if_pos (by rfl)]
        go_simp
        refine (times13' (ntt a) (ntt (one 0 n)) _ (I64.of (ntt_bd _)) (I64.of (ntt_bd _)) hH.2.2.2).mono ?_
        rintro e v11 ⟨rfl, kk⟩
        refine hK.out _ _ ⟨hH.1.below kk hH.1.lt, hH.2.1.below kk hH.2.1.lt, hH.2.2.1.trans (kk.mono hH.2.2.1.size), hH.2.2.2.below kk hH.2.2.2.lt⟩ (fun hH => ?_)
        clear hK K
        have n10 := n10.below kk n10.lt
        clear kk
        refine wpAnyH_ready (rs := [5]) (by kernel_rfl) (by simp) ?_
        refine AllReadyH.cons (o := { dst := some 20, op := Op.call { callee := Callee.value (Operand.func 11), args := #[Operand.tmp 19], argTypes := #[23] }, type := 23, pos := "law.go:71", after := #[{ on := 4, ground := Ground.data }, { on := 4, ground := Ground.chain }], guard := none }) rfl (fun K hK => ?_) AllReadyH.nil
        rw [if_pos (by rfl)]
        go_simp
        refine (inv11' (tm (ntt a) (ntt (one 0 n))) _ (I64.of (tm_bd _ _)) hH.2.2.2).mono ?_
        rintro e v12 ⟨rfl, kk⟩
        refine hK.out _ _ ⟨hH.1.below kk hH.1.lt, hH.2.1.below kk hH.2.1.lt, hH.2.2.1.trans (kk.mono hH.2.2.1.size), hH.2.2.2.below kk hH.2.2.2.lt⟩ (fun hH => ?_)
        clear hK K
        have n10 := n10.below kk n10.lt
        clear kk
        refine wpAnyH_ready (rs := [7]) (by kernel_rfl) (by simp) ?_
        refine AllReadyH.cons (o := { dst := none, op := Op.store 23 (Operand.tmp 7) (Operand.tmp 20), type := 0, pos := "law.go:71", after := #[{ on := 6, ground := Ground.data }, { on := 5, ground := Ground.data }, { on := 5, ground := Ground.chain }, { on := 0, ground := Ground.phase }, { on := 1, ground := Ground.phase }, { on := 2, ground := Ground.phase }, { on := 3, ground := Ground.phase }, { on := 4, ground := Ground.phase }, { on := 5, ground := Ground.phase }, { on := 6, ground := Ground.phase }], guard := none }) rfl (fun K hK => ?_) AllReadyH.nil
        rw [if_pos (by rfl)]
        refine wp_store23 _ _ rfl v2.heap.size _ rfl rfl n10 ?_
        refine hK.out _ _ ⟨hH.1.setRow_other _ (by omega), hH.2.1.setRow_other _ (by omega), below_setRow hH.2.2.1 (g := v2.heap.size) (by omega) _, hH.2.2.2.setRow_other _ (by omega)⟩ (fun hH => ?_)
        clear hK K
        have n10 := n10.setRow (m := 256) (inv (tm (ntt a) (ntt (one 0 n))))
        refine wpAnyH_done (by kernel_rfl) ?_ _
        go_wp2_with fail
        go_meet
        exact ⟨v2.heap.size, rfl, n10, hH.1, hH.2.1, hH.2.2.1, hH.2.2.2, by omega⟩
      refine AllReadyH.cons (o := { dst := some 7, op := Op.alloc 23, type := 0, pos := "law.go:71", after := #[], guard := none }) rfl (fun K hK => ?_) AllReadyH.nil
      rw [if_pos (by rfl)]
      have hz := zero23
      go_simp
      clear hz
      have n14 := Row.new v1 23 256 (fun _ => 0)
      have l14_0 := hH.1.lt
      have l14_1 := hH.2.1.lt
      have l14_b := hH.2.2.1.size
      have l14_r := hH.2.2.2.lt
      refine hK.out _ _ ⟨hH.1.alloc _, hH.2.1.alloc _, hH.2.2.1.alloc hH.2.2.1.size _, hH.2.2.2.alloc _⟩ (fun hH => ?_)
      clear hK K
      generalize v1.alloc (.cells (arr 256 fun _ => 0) 23) = v14 at *
      refine wpAnyH_ready (rs := [3]) (by kernel_rfl) (by simp) ?_
      refine AllReadyH.cons (o := { dst := some 18, op := Op.call { callee := Callee.value (Operand.func 12), args := #[Operand.tmp 17], argTypes := #[23] }, type := 23, pos := "law.go:71", after := #[{ on := 2, ground := Ground.data }, { on := 1, ground := Ground.chain }], guard := none }) rfl (fun K hK => ?_) AllReadyH.nil
      rw [if_pos (by rfl)]
      go_simp
      refine (ntt12' (one 0 n) _ (one_bd 0 n hn') hH.2.2.2).mono ?_
      rintro e v15 ⟨rfl, kk⟩
      refine hK.out _ _ ⟨hH.1.below kk hH.1.lt, hH.2.1.below kk hH.2.1.lt, hH.2.2.1.trans (kk.mono hH.2.2.1.size), hH.2.2.2.below kk hH.2.2.2.lt⟩ (fun hH => ?_)
      clear hK K
      have n14 := n14.below kk n14.lt
      clear kk
      refine wpAnyH_ready (rs := [4]) (by kernel_rfl) (by simp) ?_
      refine AllReadyH.cons (o := { dst := some 19, op := Op.call { callee := Callee.value (Operand.func 13), args := #[Operand.tmp 16, Operand.tmp 18], argTypes := #[23, 23] }, type := 23, pos := "law.go:71", after := #[{ on := 1, ground := Ground.data }, { on := 3, ground := Ground.data }, { on := 3, ground := Ground.chain }], guard := none }) rfl (fun K hK => ?_) AllReadyH.nil
      rw [if_pos (by rfl)]
      go_simp
      refine (times13' (ntt a) (ntt (one 0 n)) _ (I64.of (ntt_bd _)) (I64.of (ntt_bd _)) hH.2.2.2).mono ?_
      rintro e v16 ⟨rfl, kk⟩
      refine hK.out _ _ ⟨hH.1.below kk hH.1.lt, hH.2.1.below kk hH.2.1.lt, hH.2.2.1.trans (kk.mono hH.2.2.1.size), hH.2.2.2.below kk hH.2.2.2.lt⟩ (fun hH => ?_)
      clear hK K
      have n14 := n14.below kk n14.lt
      clear kk
      refine wpAnyH_ready (rs := [5]) (by kernel_rfl) (by simp) ?_
      refine AllReadyH.cons (o := { dst := some 20, op := Op.call { callee := Callee.value (Operand.func 11), args := #[Operand.tmp 19], argTypes := #[23] }, type := 23, pos := "law.go:71", after := #[{ on := 4, ground := Ground.data }, { on := 4, ground := Ground.chain }], guard := none }) rfl (fun K hK => ?_) AllReadyH.nil
      rw [if_pos (by rfl)]
      go_simp
      refine (inv11' (tm (ntt a) (ntt (one 0 n))) _ (I64.of (tm_bd _ _)) hH.2.2.2).mono ?_
      rintro e v17 ⟨rfl, kk⟩
      refine hK.out _ _ ⟨hH.1.below kk hH.1.lt, hH.2.1.below kk hH.2.1.lt, hH.2.2.1.trans (kk.mono hH.2.2.1.size), hH.2.2.2.below kk hH.2.2.2.lt⟩ (fun hH => ?_)
      clear hK K
      have n14 := n14.below kk n14.lt
      clear kk
      refine wpAnyH_ready (rs := [7]) (by kernel_rfl) (by simp) ?_
      refine AllReadyH.cons (o := { dst := none, op := Op.store 23 (Operand.tmp 7) (Operand.tmp 20), type := 0, pos := "law.go:71", after := #[{ on := 6, ground := Ground.data }, { on := 5, ground := Ground.data }, { on := 5, ground := Ground.chain }, { on := 0, ground := Ground.phase }, { on := 1, ground := Ground.phase }, { on := 2, ground := Ground.phase }, { on := 3, ground := Ground.phase }, { on := 4, ground := Ground.phase }, { on := 5, ground := Ground.phase }, { on := 6, ground := Ground.phase }], guard := none }) rfl (fun K hK => ?_) AllReadyH.nil
      rw [if_pos (by rfl)]
      refine wp_store23 _ _ rfl v1.heap.size _ rfl rfl n14 ?_
      refine hK.out _ _ ⟨hH.1.setRow_other _ (by omega), hH.2.1.setRow_other _ (by omega), below_setRow hH.2.2.1 (g := v1.heap.size) (by omega) _, hH.2.2.2.setRow_other _ (by omega)⟩ (fun hH => ?_)
      clear hK K
      have n14 := n14.setRow (m := 256) (inv (tm (ntt a) (ntt (one 0 n))))
      refine wpAnyH_done (by kernel_rfl) ?_ _
      go_wp2_with fail
      go_meet
      exact ⟨v1.heap.size, rfl, n14, hH.1, hH.2.1, hH.2.2.1, hH.2.2.2, by omega⟩
    refine AllReadyH.cons (o := { dst := some 7, op := Op.alloc 23, type := 0, pos := "law.go:71", after := #[], guard := none }) rfl (fun K hK => ?_) AllReadyH.nil
    rw [if_pos (by rfl)]
    have hz := zero23
    go_simp
    clear hz
    have n19 := Row.new v0 23 256 (fun _ => 0)
    have l19_0 := hH.1.lt
    have l19_1 := hH.2.1.lt
    have l19_b := hH.2.2.1.size
    have l19_r := hH.2.2.2.lt
    refine hK.out _ _ ⟨hH.1.alloc _, hH.2.1.alloc _, hH.2.2.1.alloc hH.2.2.1.size _, hH.2.2.2.alloc _⟩ (fun hH => ?_)
    clear hK K
    generalize v0.alloc (.cells (arr 256 fun _ => 0) 23) = v19 at *
    refine wpAnyH_ready (rs := [1]) (by kernel_rfl) (by simp) ?_
    refine AllReadyH.cons (o := { dst := some 16, op := Op.call { callee := Callee.value (Operand.func 12), args := #[Operand.tmp 15], argTypes := #[23] }, type := 23, pos := "law.go:71", after := #[{ on := 0, ground := Ground.data }], guard := none }) rfl (fun K hK => ?_) AllReadyH.nil
    rw [if_pos (by rfl)]
    go_simp
    refine (ntt12' a _ ha hH.2.2.2).mono ?_
    rintro e v20 ⟨rfl, kk⟩
    refine hK.out _ _ ⟨hH.1.below kk hH.1.lt, hH.2.1.below kk hH.2.1.lt, hH.2.2.1.trans (kk.mono hH.2.2.1.size), hH.2.2.2.below kk hH.2.2.2.lt⟩ (fun hH => ?_)
    clear hK K
    have n19 := n19.below kk n19.lt
    clear kk
    refine wpAnyH_ready (rs := [3]) (by kernel_rfl) (by simp) ?_
    refine AllReadyH.cons (o := { dst := some 18, op := Op.call { callee := Callee.value (Operand.func 12), args := #[Operand.tmp 17], argTypes := #[23] }, type := 23, pos := "law.go:71", after := #[{ on := 2, ground := Ground.data }, { on := 1, ground := Ground.chain }], guard := none }) rfl (fun K hK => ?_) AllReadyH.nil
    rw [if_pos (by rfl)]
    go_simp
    refine (ntt12' (one 0 n) _ (one_bd 0 n hn') hH.2.2.2).mono ?_
    rintro e v21 ⟨rfl, kk⟩
    refine hK.out _ _ ⟨hH.1.below kk hH.1.lt, hH.2.1.below kk hH.2.1.lt, hH.2.2.1.trans (kk.mono hH.2.2.1.size), hH.2.2.2.below kk hH.2.2.2.lt⟩ (fun hH => ?_)
    clear hK K
    have n19 := n19.below kk n19.lt
    clear kk
    refine wpAnyH_ready (rs := [4]) (by kernel_rfl) (by simp) ?_
    refine AllReadyH.cons (o := { dst := some 19, op := Op.call { callee := Callee.value (Operand.func 13), args := #[Operand.tmp 16, Operand.tmp 18], argTypes := #[23, 23] }, type := 23, pos := "law.go:71", after := #[{ on := 1, ground := Ground.data }, { on := 3, ground := Ground.data }, { on := 3, ground := Ground.chain }], guard := none }) rfl (fun K hK => ?_) AllReadyH.nil
    rw [if_pos (by rfl)]
    go_simp
    refine (times13' (ntt a) (ntt (one 0 n)) _ (I64.of (ntt_bd _)) (I64.of (ntt_bd _)) hH.2.2.2).mono ?_
    rintro e v22 ⟨rfl, kk⟩
    refine hK.out _ _ ⟨hH.1.below kk hH.1.lt, hH.2.1.below kk hH.2.1.lt, hH.2.2.1.trans (kk.mono hH.2.2.1.size), hH.2.2.2.below kk hH.2.2.2.lt⟩ (fun hH => ?_)
    clear hK K
    have n19 := n19.below kk n19.lt
    clear kk
    refine wpAnyH_ready (rs := [5]) (by kernel_rfl) (by simp) ?_
    refine AllReadyH.cons (o := { dst := some 20, op := Op.call { callee := Callee.value (Operand.func 11), args := #[Operand.tmp 19], argTypes := #[23] }, type := 23, pos := "law.go:71", after := #[{ on := 4, ground := Ground.data }, { on := 4, ground := Ground.chain }], guard := none }) rfl (fun K hK => ?_) AllReadyH.nil
    rw [if_pos (by rfl)]
    go_simp
    refine (inv11' (tm (ntt a) (ntt (one 0 n))) _ (I64.of (tm_bd _ _)) hH.2.2.2).mono ?_
    rintro e v23 ⟨rfl, kk⟩
    refine hK.out _ _ ⟨hH.1.below kk hH.1.lt, hH.2.1.below kk hH.2.1.lt, hH.2.2.1.trans (kk.mono hH.2.2.1.size), hH.2.2.2.below kk hH.2.2.2.lt⟩ (fun hH => ?_)
    clear hK K
    have n19 := n19.below kk n19.lt
    clear kk
    refine wpAnyH_ready (rs := [7]) (by kernel_rfl) (by simp) ?_
    refine AllReadyH.cons (o := { dst := none, op := Op.store 23 (Operand.tmp 7) (Operand.tmp 20), type := 0, pos := "law.go:71", after := #[{ on := 6, ground := Ground.data }, { on := 5, ground := Ground.data }, { on := 5, ground := Ground.chain }, { on := 0, ground := Ground.phase }, { on := 1, ground := Ground.phase }, { on := 2, ground := Ground.phase }, { on := 3, ground := Ground.phase }, { on := 4, ground := Ground.phase }, { on := 5, ground := Ground.phase }, { on := 6, ground := Ground.phase }], guard := none }) rfl (fun K hK => ?_) AllReadyH.nil
    rw [if_pos (by rfl)]
    refine wp_store23 _ _ rfl v0.heap.size _ rfl rfl n19 ?_
    refine hK.out _ _ ⟨hH.1.setRow_other _ (by omega), hH.2.1.setRow_other _ (by omega), below_setRow hH.2.2.1 (g := v0.heap.size) (by omega) _, hH.2.2.2.setRow_other _ (by omega)⟩ (fun hH => ?_)
    clear hK K
    have n19 := n19.setRow (m := 256) (inv (tm (ntt a) (ntt (one 0 n))))
    refine wpAnyH_done (by kernel_rfl) ?_ _
    go_wp2_with fail
    go_meet
    exact ⟨v0.heap.size, rfl, n19, hH.1, hH.2.1, hH.2.2.1, hH.2.2.2, by omega⟩
  case rest =>
    obtain ⟨nb, rfl, q1, q2, q6, q3, q4, q5⟩ := hcut
    clear r1 r2 hb0 R1
    have hz := zero23
    have h2 := q2.lt
    have h7 := q6.lt
    go_wp2_with (first | (with_reducible refine load23 rfl (.tmp 2) rfl w.heap.size rfl q2 ?_))
    refine (mod10 a _ ha).mono ?_
    rintro e w2 ⟨rfl, k1⟩
    have h3 := q1.lt
    have q1 := q1.below k1 (by omega)
    have q2 := q2.below k1 (by omega)
    have q6 := q6.below k1 (by omega)
    have q3 := q3.trans (k1.mono (by omega))
    have q4 := q4.below k1 q4.lt
    have h4 := k1.size
    have p0 := Row.new w2 23 256 (fun _ => 0)
    have q1 := (q1.alloc (.cells (arr 256 fun _ => 0) 23)).setRow_other (c := w2.heap.size) (arr 256 fun i => emod (a i)) (by omega)
    have q2 := (q2.alloc (.cells (arr 256 fun _ => 0) 23)).setRow_other (c := w2.heap.size) (arr 256 fun i => emod (a i)) (by omega)
    have q6 := (q6.alloc (.cells (arr 256 fun _ => 0) 23)).setRow_other (c := w2.heap.size) (arr 256 fun i => emod (a i)) (by omega)
    have q3 := below_setRow (q3.alloc (by omega) (.cells (arr 256 fun _ => 0) 23)) (g := w2.heap.size) (by omega) (arr 256 fun i => emod (a i))
    have q4 := (q4.alloc (.cells (arr 256 fun _ => 0) 23)).setRow_other (c := w2.heap.size) (arr 256 fun i => emod (a i)) (by omega)
    have p1 := p0.setRow (m := 256) (fun i => emod (a i))
    clear k1
    go_wp2_with (first | (with_reducible refine store23 rfl (.tmp 8) (.tmp 22) rfl w2.heap.size _ rfl rfl p0 ?_) | (with_reducible refine load23 rfl (.tmp 6) rfl w1.heap.size rfl q6 ?_))
    generalize ((w2.alloc (.cells (arr 256 fun _ => 0) 23)).setRow w2.heap.size (arr 256 fun i => emod (a i))) = w4 at *
    clear hz p0
    refine (mod10 (one 0 n) _ (one_bd 0 n hn')).mono ?_
    rintro e w5 ⟨rfl, k1⟩
    have q1 := q1.below k1 q1.lt
    have q2 := q2.below k1 q2.lt
    have q6 := q6.below k1 q6.lt
    have p1 := p1.below k1 p1.lt
    have q3 := q3.trans (k1.mono q3.size)
    have q4 := q4.below k1 q4.lt
    clear k1
    have hi0 : ∀ w, (Instr.index 23 (.agg (arr 256 fun i => emod (one 0 n i))) (.int .i64 0)).run Tryd.prog w = .ok (.int .i64 (emod n)) w := fun w => by
      have := index23 (fun i => emod (one 0 n i)) 0 (by omega) w
      simpa [one, upd] using this
    go_wp2
    have q1 := q1.congr (g := fun i => emod (n * a i)) (fun i hi => prod_back _ _ _ (prod_scalar a n) i hi)
    clear hi0 h2 h3 h4 h7
    go_loopw [10] (fun v wr => ∃ k : Nat, k ≤ 256 ∧ v = .int .i64 k ∧ Row wr nb 23 256 (fun i => emod (n * a i)) ∧ Row wr w2.heap.size 23 256 (fun i => emod (a i)) ∧ Row wr w.heap.size 23 256 a ∧ Row wr w1.heap.size 23 256 (one 0 n) ∧ Below w.heap.size w wr ∧ TRow wr 0 128 rt) (fun v wr => 256 - (intOf v).toNat)
    case atStart => exact ⟨0, by omega, rfl, q1, p1, q2, q6, q3, q4⟩
    case round =>
      obtain ⟨k, hk, rfl, q1, p1, q2, q6, q3, q4⟩ := hrel
      by_cases hlt2 : k < 256
      · have c1 := q1.cell k (by omega)
        have c2 := p1.cell k (by omega)
        have eq := scal_at a n k
        have bx := emod_bd (a k)
        have bn := emod_bd n
        have mm := mul_bd (emod (a k)) (emod n) bx bn
        have u1 : IntKind.i64.wrap (emod (a k) * emod n) = emod (a k) * emod n := IntWalk.i64_in _ (by omega)
        rw [eq] at c1
        clear eq
        generalize hx : emod (a k) = x at *
        generalize hy : emod n = y at *
        clear hx hy
        have t0 : 0 ≤ (k : Int) := by omega
        have t1 : (k : Int) < 256 := by omega
        have t2 : 0 ≤ x * y := mm.1
        have u2 : (x * y).tmod 3329 = x * y % 3329 := Int.tmod_eq_emod_of_nonneg mm.1
        go_wp2
        go_still (by kernel_rfl)
        change Exit.then _ _ _ _ wr.drew
        clear t0 t1 t2 u1 u2 mm bx bn c1 c2
        have q1 := q1.drew; have p1 := p1.drew; have q3 := q3.drew; have q2 := q2.drew; have q6 := q6.drew; have q4 := q4.drew
        generalize wr.drew = w6 at *
        go_wp2
        go_roundw
        case rel => exact ⟨k + 1, by omega, by go_num, q1, p1, q2, q6, q3, q4⟩
        case measure => simp [intOf]; omega
      · have e1 : k = 256 := by omega
        subst e1
        have cc := q6.cell 0 (by omega)
        have ff := q6.frozen 0
        have s1 : Row (wr.setCell ⟨w1.heap.size, 0, none⟩ (.int .i64 (-1))) w1.heap.size 23 256 (one 0 (-1)) := by
          have := q6.set 0 (-1)
          rw [upd_one] at this
          exact this
        have q2 := q2.other ⟨w1.heap.size, 0, none⟩ (.int .i64 (-1)) (by simp; omega)
        have q3 := q3.setCell (p := ⟨w1.heap.size, 0, none⟩) (by simp; omega) (.int .i64 (-1))
        have q4 := q4.other ⟨w1.heap.size, 0, none⟩ (.int .i64 (-1)) (by simp; omega)
        go_upto_region 13 with (fail)
        clear q1 p1 q6 cc ff
        generalize wr.setCell ⟨w1.heap.size, 0, none⟩ (.int .i64 (-1)) = w7 at *
        have hq := eql23
        have q7 : eqA 256 (inv (tm (ntt a) (ntt (one 0 (-1))))) (fun i => emod (emod 0 - emod (a i))) = true := eqA_of (fun i hi => (prod_back _ _ _ (prod_scalar a (-1)) i hi).trans (scal_neg a i))
        have hbd : Tryd.prog.built 23 [] = some (arr 256 fun _ => 0) := by kernel_rfl
        refine wp_region_held_drew (S := (fun w' => Row w' w.heap.size 23 256 a ∧ Row w' w1.heap.size 23 256 (one 0 (-1)) ∧ Below w.heap.size w w' ∧ TRow w' 0 128 rt)) (by kernel_rfl) ⟨q2.drew, s1.drew, q3.drew, q4.drew⟩ (fun hH => ?_)
        clear q2 s1 q3 q4
        refine wpAnyH_take (i := 0) (oi := { dst := some 41, op := Op.move (Operand.tmp 5), type := 4, pos := "law.go:80", after := #[], guard := none }) (v := ?_) rfl (by kernel_rfl) (by kernel_rfl) (by kernel_rfl) (fun _ _ _ h => h) (Or.inl ⟨by rfl, ?_⟩) hH ?_; rotate_left
        · (intro w hSw; go_simp; try with_reducible rfl)
        try simp only [Act.put, List.setIfInBounds_toArray, List.set_cons_zero, List.set_cons_succ]
        refine wpAnyH_take (i := 1) (oi := { dst := some 42, op := Op.move (Operand.tmp 41), type := 4, pos := "law.go:80", after := #[{ on := 0, ground := Ground.data }], guard := none }) (v := ?_) rfl (by kernel_rfl) (by kernel_rfl) (by kernel_rfl) (fun _ _ _ h => h) (Or.inl ⟨by rfl, ?_⟩) hH ?_; rotate_left
        · (intro w hSw; go_simp; try with_reducible rfl)
        try simp only [Act.put, List.setIfInBounds_toArray, List.set_cons_zero, List.set_cons_succ]
        refine wpAnyH_take (i := 2) (oi := { dst := some 43, op := Op.load 23 (Operand.tmp 2), type := 23, pos := "law.go:80", after := #[{ on := 1, ground := Ground.guard }], guard := some (1, true) }) rfl (by kernel_rfl) (by kernel_rfl) (by kernel_rfl) (fun _ _ _ h => h) (yields23 (by rfl) _ rfl w.heap.size rfl a (fun _ h => h.1)) hH ?_
        try simp only [Act.put, List.setIfInBounds_toArray, List.set_cons_zero, List.set_cons_succ]
        refine wpAnyH_take (i := 4) (oi := { dst := some 45, op := Op.load 23 (Operand.tmp 6), type := 23, pos := "law.go:80", after := #[{ on := 1, ground := Ground.guard }], guard := some (1, true) }) rfl (by kernel_rfl) (by kernel_rfl) (by kernel_rfl) (fun _ _ _ h => h) (yields23 (by rfl) _ rfl w1.heap.size rfl (one 0 (-1)) (fun _ h => h.2.1)) hH ?_
        try simp only [Act.put, List.setIfInBounds_toArray, List.set_cons_zero, List.set_cons_succ]
        refine wpAnyH_take (i := 8) (oi := { dst := some 49, op := Op.build 23 #[], type := 23, pos := "law.go:80", after := #[{ on := 1, ground := Ground.guard }], guard := some (1, true) }) (v := ?_) rfl (by kernel_rfl) (by kernel_rfl) (by kernel_rfl) (fun _ _ _ h => h) (Or.inl ⟨by rfl, ?_⟩) hH ?_; rotate_left
        · (intro w hSw; have hz := zero23; go_simp; try with_reducible rfl)
        try simp only [Act.put, List.setIfInBounds_toArray, List.set_cons_zero, List.set_cons_succ]
        refine wpAnyH_take (i := 9) (oi := { dst := some 50, op := Op.load 23 (Operand.tmp 2), type := 23, pos := "law.go:80", after := #[{ on := 1, ground := Ground.guard }], guard := some (1, true) }) rfl (by kernel_rfl) (by kernel_rfl) (by kernel_rfl) (fun _ _ _ h => h) (yields23 (by rfl) _ rfl w.heap.size rfl a (fun _ h => h.1)) hH ?_
        try simp only [Act.put, List.setIfInBounds_toArray, List.set_cons_zero, List.set_cons_succ]
        refine wpAnyH_ready (rs := [3]) (by kernel_rfl) (by simp) ?_
        refine AllReadyH.cons (o := { dst := some 44, op := Op.call { callee := Callee.value (Operand.func 12), args := #[Operand.tmp 43], argTypes := #[23] }, type := 23, pos := "law.go:80", after := #[{ on := 2, ground := Ground.data }, { on := 1, ground := Ground.chain }, { on := 1, ground := Ground.guard }], guard := some (1, true) }) rfl (fun K hK => ?_) AllReadyH.nil
        rw [if_pos (by rfl)]
        go_simp
        refine (ntt12' a _ ha hH.2.2.2).mono ?_
        rintro e v1 ⟨rfl, kk⟩
        refine hK.out _ _ ⟨hH.1.below kk hH.1.lt, hH.2.1.below kk hH.2.1.lt, hH.2.2.1.trans (kk.mono hH.2.2.1.size), hH.2.2.2.below kk hH.2.2.2.lt⟩ (fun hH => ?_)
        clear hK K
        clear kk
        refine wpAnyH_ready (rs := [5]) (by kernel_rfl) (by simp) ?_
        refine AllReadyH.cons (o := { dst := some 46, op := Op.call { callee := Callee.value (Operand.func 12), args := #[Operand.tmp 45], argTypes := #[23] }, type := 23, pos := "law.go:80", after := #[{ on := 4, ground := Ground.data }, { on := 3, ground := Ground.chain }, { on := 1, ground := Ground.guard }], guard := some (1, true) }) rfl (fun K hK => ?_) AllReadyH.nil
        rw [if_pos (by rfl)]
        go_simp
        refine (ntt12' (one 0 (-1)) _ (one_bd 0 (-1) (by omega)) hH.2.2.2).mono ?_
        rintro e v2 ⟨rfl, kk⟩
        refine hK.out _ _ ⟨hH.1.below kk hH.1.lt, hH.2.1.below kk hH.2.1.lt, hH.2.2.1.trans (kk.mono hH.2.2.1.size), hH.2.2.2.below kk hH.2.2.2.lt⟩ (fun hH => ?_)
        clear hK K
        clear kk
        refine wpAnyH_ready (rs := [6]) (by kernel_rfl) (by simp) ?_
        refine AllReadyH.cons (o := { dst := some 47, op := Op.call { callee := Callee.value (Operand.func 13), args := #[Operand.tmp 44, Operand.tmp 46], argTypes := #[23, 23] }, type := 23, pos := "law.go:80", after := #[{ on := 3, ground := Ground.data }, { on := 5, ground := Ground.data }, { on := 5, ground := Ground.chain }, { on := 1, ground := Ground.guard }], guard := some (1, true) }) rfl (fun K hK => ?_) AllReadyH.nil
        rw [if_pos (by rfl)]
        go_simp
        refine (times13' (ntt a) (ntt (one 0 (-1))) _ (I64.of (ntt_bd _)) (I64.of (ntt_bd _)) hH.2.2.2).mono ?_
        rintro e v3 ⟨rfl, kk⟩
        refine hK.out _ _ ⟨hH.1.below kk hH.1.lt, hH.2.1.below kk hH.2.1.lt, hH.2.2.1.trans (kk.mono hH.2.2.1.size), hH.2.2.2.below kk hH.2.2.2.lt⟩ (fun hH => ?_)
        clear hK K
        clear kk
        refine wpAnyH_ready (rs := [7]) (by kernel_rfl) (by simp) ?_
        refine AllReadyH.cons (o := { dst := some 48, op := Op.call { callee := Callee.value (Operand.func 11), args := #[Operand.tmp 47], argTypes := #[23] }, type := 23, pos := "law.go:80", after := #[{ on := 6, ground := Ground.data }, { on := 6, ground := Ground.chain }, { on := 1, ground := Ground.guard }], guard := some (1, true) }) rfl (fun K hK => ?_) AllReadyH.nil
        rw [if_pos (by rfl)]
        go_simp
        refine (inv11' (tm (ntt a) (ntt (one 0 (-1)))) _ (I64.of (tm_bd _ _)) hH.2.2.2).mono ?_
        rintro e v4 ⟨rfl, kk⟩
        refine hK.out _ _ ⟨hH.1.below kk hH.1.lt, hH.2.1.below kk hH.2.1.lt, hH.2.2.1.trans (kk.mono hH.2.2.1.size), hH.2.2.2.below kk hH.2.2.2.lt⟩ (fun hH => ?_)
        clear hK K
        clear kk
        refine wpAnyH_ready (rs := [10]) (by kernel_rfl) (by simp) ?_
        refine AllReadyH.cons (o := { dst := some 51, op := Op.call { callee := Callee.value (Operand.func 15), args := #[Operand.tmp 49, Operand.tmp 50], argTypes := #[23, 23] }, type := 23, pos := "law.go:80", after := #[{ on := 8, ground := Ground.data }, { on := 9, ground := Ground.data }, { on := 7, ground := Ground.chain }, { on := 1, ground := Ground.guard }], guard := some (1, true) }) rfl (fun K hK => ?_) AllReadyH.nil
        rw [if_pos (by rfl)]
        go_simp
        refine (sub15 (fun _ => 0) a _ (I64.of (fun _ => by omega)) ha).mono ?_
        rintro e v5 ⟨rfl, kk⟩
        refine hK.out _ _ ⟨hH.1.below kk hH.1.lt, hH.2.1.below kk hH.2.1.lt, hH.2.2.1.trans (kk.mono hH.2.2.1.size), hH.2.2.2.below kk hH.2.2.2.lt⟩ (fun hH => ?_)
        clear hK K
        clear kk
        refine wpAnyH_take (i := 11) (oi := { dst := some 52, op := Op.binOp BinOp.eql 23 (Operand.tmp 48) (Operand.tmp 51) 23, type := 4, pos := "law.go:80", after := #[{ on := 7, ground := Ground.data }, { on := 10, ground := Ground.data }, { on := 1, ground := Ground.guard }], guard := some (1, true) }) (v := ?_) rfl (by kernel_rfl) (by kernel_rfl) (by kernel_rfl) (fun _ _ _ h => h) (Or.inl ⟨by rfl, ?_⟩) hH ?_; rotate_left
        · (intro w hSw; go_simp; try with_reducible rfl)
        try simp only [Act.put, List.setIfInBounds_toArray, List.set_cons_zero, List.set_cons_succ]
        refine wpAnyH_take (i := 12) (oi := { dst := some 53, op := Op.pick (Operand.tmp 42) (Operand.tmp 52) (Operand.const (Value.bool false)), type := 4, pos := "law.go:80", after := #[{ on := 1, ground := Ground.data }, { on := 11, ground := Ground.data }], guard := none }) (v := ?_) rfl (by kernel_rfl) (by kernel_rfl) (by kernel_rfl) (fun _ _ _ h => h) (Or.inl ⟨by rfl, ?_⟩) hH ?_; rotate_left
        · (intro w hSw; go_simp; try with_reducible rfl)
        try simp only [Act.put, List.setIfInBounds_toArray, List.set_cons_zero, List.set_cons_succ]
        refine wpAnyH_take (i := 13) (oi := { dst := some 4, op := Op.assign (Operand.tmp 53), type := 4, pos := "law.go:80", after := #[{ on := 12, ground := Ground.data }, { on := 10, ground := Ground.chain }, { on := 0, ground := Ground.phase }, { on := 1, ground := Ground.phase }, { on := 2, ground := Ground.phase }, { on := 3, ground := Ground.phase }, { on := 4, ground := Ground.phase }, { on := 5, ground := Ground.phase }, { on := 6, ground := Ground.phase }, { on := 7, ground := Ground.phase }, { on := 8, ground := Ground.phase }, { on := 9, ground := Ground.phase }, { on := 10, ground := Ground.phase }, { on := 11, ground := Ground.phase }, { on := 12, ground := Ground.phase }], guard := none }) (v := ?_) rfl (by kernel_rfl) (by kernel_rfl) (by kernel_rfl) (fun _ _ _ h => h) (Or.inl ⟨by rfl, ?_⟩) hH ?_; rotate_left
        · (intro w hSw; go_simp; try with_reducible rfl)
        try simp only [Act.put, List.setIfInBounds_toArray, List.set_cons_zero, List.set_cons_succ]
        refine wpAnyH_done (by kernel_rfl) ?_ _
        go_wp2_with fail
        go_ret
        exact ⟨rfl, hH.2.2.1⟩
end Go.Proofs.YtopkmkkohmkceaaDoor
