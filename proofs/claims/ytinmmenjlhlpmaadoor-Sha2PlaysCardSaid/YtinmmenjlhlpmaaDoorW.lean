/- Bytes written to a hash, walked: what the hash keeps lies in memory of its own. -/
import Derived.Test.YtinmmenjlhlpmaaDoorF
import Derived.Test.YtinmmenjlhlpmaaDoorL
namespace Go.Proofs.YtinmmenjlhlpmaaDoor
open Go.ChangeShapes Go.WideShapes Go.ChangeAt Go.RowKit
set_option linter.unusedSimpArgs false
set_option linter.unusedVariables false
/-- Where the bytes lie that a hash keeps. -/
def Rst (w : World) (g : Nat) (P : Nat → Prop) : Prop := ∀ a n c, w.cell? ⟨g, 8, none⟩ = some (.slice (some a) n c) → P a.block
theorem Rst.of {w : World} {g : Nat} {P : Nat → Prop} {ao : Option Addr} {n c : Nat} (h : w.cell? ⟨g, 8, none⟩ = some (.slice ao n c)) (hp : ∀ a, ao = some a → P a.block) : Rst w g P := fun a n' c' h' => by
  rw [h] at h'
  injection h' with h'
  injection h' with h1
  exact hp a h1
theorem Rst.mono {w : World} {g : Nat} {P P' : Nat → Prop} (h : Rst w g P) (hp : ∀ b, P b → P' b) : Rst w g P' := fun a n c hc => hp _ (h a n c hc)
theorem run_app_full' (w : World) (ty : TypeId) (g : Nat) (bo : Option Addr) (n : Nat) (T : List (BitVec 8)) (hn : n = T.length) (hT : Byt w g bo T) (ao : Option Addr) (m c : Nat) (D : List (BitVec 8)) (hm : m = D.length) (hD : Byt w g ao D)
    (hg : g < w.heap.size) (h47 : n + m ≤ 140737488355328) :
    ∃ bo' c' w', (Builtin.append_ #[22, 22] ty #[.slice bo n n, .slice ao m c]).run Tryd.prog w = .ok (.slice bo' (n + m) c') w' ∧ n + m ≤ c' ∧ Byt w' g bo' (T ++ D) ∧ w.grownBy w' none ∧ ∀ a, bo' = some a → bo = some a ∨ w.heap.size ≤ a.block := by
  obtain ⟨i0, hi, hz0, hz1, hz2⟩ := info_parts info5
  by_cases h0 : m = 0
  · subst h0
    obtain rfl : D = [] := List.eq_nil_of_length_eq_zero hm.symm
    refine ⟨bo, n, w, ?_, Nat.le_refl _, by simpa using hT, World.grownBy.refl _ _, fun a h => .inl h⟩
    cases bo with
    | none =>
      obtain rfl := hT.nil rfl
      obtain rfl : n = 0 := hn
      cases ao <;> simp [Builtin.append_, run_underlying Tryd.underlying22, sizeOf, typeInfo, hi, Builtin.lenOf, Builtin.firstCells, loadCells, loadCellsFrom]
    | some b =>
      cases ao <;> simp [Builtin.append_, run_underlying Tryd.underlying22, sizeOf, typeInfo, hi, Builtin.lenOf, Builtin.firstCells, storeCells, loadCells, loadCellsFrom]
  · cases ao with
    | none => rw [hD.nil rfl] at hm; exact absurd hm h0
    | some a =>
      obtain ⟨h1, h2, h3⟩ := hD.cells a rfl
      have hc : ∀ j u, (D.map c8)[j]? = some u → w.cell? (a.add j) = some u := fun j u hu => by obtain ⟨x, hx, rfl⟩ := c8_at hu; exact h3 j x hx
      have fin : ∀ v' w', w'.ownsRow w.heap.size 5 1 v' (n + m) (T.map c8 ++ D.map c8) → ∃ bo' c', v' = .slice bo' (n + m) c' ∧ n + m ≤ c' ∧ Byt w' g bo' (T ++ D) ∧ ∀ a, bo' = some a → w.heap.size ≤ a.block := fun v' w' ho => by
        rw [← List.map_append] at ho
        obtain ⟨ao, c, e, _, hc, hb⟩ := own_byt (T := T ++ D) ho hg
        refine ⟨ao, c, e, hc, hb, fun a ha => ?_⟩
        rcases ho.2 with ⟨h, _⟩ | ⟨b, cap, cur, h, hbb, _⟩
        · rw [e, ha] at h; cases h
        · rw [e, ha] at h
          injection h with h1
          injection h1 with h1
          rw [h1]; exact hbb
      cases bo with
      | none =>
        obtain rfl := hT.nil rfl
        obtain rfl : n = 0 := hn
        obtain ⟨v', w', hr, k1, k2, _⟩ := run_append_own (P := Tryd.prog) w w.heap.size 22 ty 5 i0 (.int .u8 0) 1 1 Tryd.underlying22 hi hz0 hz1 hz2 rfl (by decide) (.slice none 0 0) 0 [] (World.ownsRow_nil _ _ _ _) a m c (D.map c8) (by simp [hm]) hc (c8_one D)
          (by unfold maxLen; omega) (by omega) (Nat.le_refl _)
        obtain ⟨bo', c', rfl, e2, e3, e4⟩ := fin v' w' (by simpa using k1)
        exact ⟨bo', c', w', hr, e2, e3, k2, fun a ha => .inr (e4 a ha)⟩
      | some b =>
        obtain ⟨t1, t2, t3⟩ := hT.cells b rfl
        obtain ⟨v', w', hr, k1, k2⟩ := run_append_arg_grows (P := Tryd.prog) w 22 ty 5 i0 (.int .u8 0) 1 1 Tryd.underlying22 hi hz0 hz1 hz2 rfl (by decide) b n n (T.map c8) (by simp [hn])
          (fun j u hu => by obtain ⟨x, hx, rfl⟩ := c8_at hu; exact t3 j x hx) a m c (D.map c8) (by simp [hm]) hc (by omega) (by unfold maxLen; omega) (by omega)
        obtain ⟨bo', c', rfl, e2, e3, e4⟩ := fin v' w' k1
        exact ⟨bo', c', w', hr, e2, e3, k2, fun a ha => .inr (e4 a ha)⟩
theorem step_app_full' {ops : Array Oper} {o : Oper} {a : Act} {w : World} {K : Act → World → Prop} {Q : Exit → Act → World → Prop} {E : Prop} (hgd : o.guard = none) (s x : Operand)
    (ho : o.op = .call { callee := .builtin .append, args := #[s, x], argTypes := #[22, 22] })
    (g : Nat) (bo : Option Addr) (n : Nat) (T : List (BitVec 8)) (hs : a.eval s = .slice bo n n) (hn : n = T.length) (hT : Byt w g bo T) (ao : Option Addr) (m c : Nat) (D : List (BitVec 8)) (hx : a.eval x = .slice ao m c) (hm : m = D.length) (hD : Byt w g ao D)
    (hg : g < w.heap.size) (h47 : n + m ≤ 140737488355328)
    (h : ∀ bo' c' w', n + m ≤ c' → Byt w' g bo' (T ++ D) → w.grownBy w' none → (∀ a, bo' = some a → bo = some a ∨ w.heap.size ≤ a.block) → K (a.put o.dst (.slice bo' (n + m) c')) w') :
    if Region.wanted o (yielded ops a.tmps) = true then Oper.wp Tryd.prog o a w K Q else E := by
  have hw : Region.wanted o (yielded ops a.tmps) = true := by simp [Region.wanted, hgd]
  rw [if_pos hw]
  obtain ⟨bo', c', w', hr, h2, h3, h4, h5⟩ := run_app_full' w o.type g bo n T hn hT ao m c D hm hD hg h47
  unfold Oper.wp execOp
  simp only [ho, resolve, invoke, builtin, Sem.run_bind, Sem.run_pure, Result.andThen_ok, List.map_toArray, List.map_cons, List.map_nil, hs, hx, hr]
  exact h bo' c' w' h2 h3 h4 h5
set_option maxHeartbeats 4000000 in
theorem write12' (P : Nat → Prop) (g : Nat) (T D : List (BitVec 8)) (bo : Option Addr) (m bc : Nat) (w : World) (hm : m = D.length) (hL : T.length + m ≤ 4294967296) (hH : Hash w g T) (hD : Byt w g bo D) (hK : TRow w 0 .u32 64 (fun i => wd (kk i))) (hg0 : 0 ≠ g) (hR : Rst w g P) (hPn : ∀ b, w.heap.size ≤ b → P b) :
    Calls Tryd.prog 12 #[.pointer (some ⟨g, 0, none⟩), .slice bo m bc] w fun e w' => e = .returned (.tuple #[]) ∧ Hash w' g (T ++ D) ∧ w.grownBy w' (some g) ∧ Rst w' g P := by
  obtain ⟨h0, ao, c, hc, hr, hb⟩ := hH
  obtain ⟨q, hq⟩ : ∃ q, q = T.length / 64 := ⟨_, rfl⟩
  rw [← hq] at h0 hc hr hb
  obtain ⟨n, hn⟩ : ∃ n, n = T.length - 64 * q := ⟨_, rfl⟩
  rw [← hn] at hr hc
  obtain ⟨L2, hL2⟩ : ∃ L2, L2 = (T ++ D).length := ⟨_, rfl⟩
  have hn2 : n = (T.drop (64 * q)).length := by simp [hn]
  have HT2 := Lib.hid (show T.drop (64 * q) ++ D = (T ++ D).drop (64 * q) from (List.drop_append_of_le_length h0).symm)
  have hrl := hr.lt
  have c9 : w.cell? ⟨g, 9, none⟩ = some (.int .u64 T.length) := hr.cellTl 1
  have f9 := hr.frozen 9
  have e1 : IntKind.u64.wrap ((T.length : Int) + (m : Int)) = (L2 : Int) := by rw [IntKind.wrap_u64, hL2]; simp; omega
  have e2 : IntKind.u64.wrap (m : Int) = (m : Int) := by rw [IntKind.wrap_u64]; omega
  obtain ⟨w1, hw1⟩ : ∃ w1, w1 = w.setCell ⟨g, 9, none⟩ (.int .u64 L2) := ⟨_, rfl⟩
  have r1 : Row w1 g 42 .u32 8 (fun i => wd (fold T q i)) #[.slice ao n c, .int .u64 L2] := by rw [hw1]; exact hr.setTl 1 (.int .u64 L2)
  have b1 : Byt w1 g ao (T.drop (64 * q)) := by rw [hw1]; exact hb.set 9 _
  have d1 : Byt w1 g bo D := by rw [hw1]; exact hD.set 9 _
  have k1 : TRow w1 0 .u32 64 (fun i => wd (kk i)) := by rw [hw1]; exact hK.other ⟨g, 9, none⟩ _ hg0
  have g1 : w.grownBy w1 (some g) := by rw [hw1]; exact grown_set (World.grownBy.refl _ _) 9 _
  have HW := Lib.hid hw1
  obtain ⟨L, hLe⟩ : ∃ L, L = T.length := ⟨_, rfl⟩
  rw [← hLe] at c9 e1
  have HQ : Hid (q = T.length / 64 ∧ n = T.length - 64 * q ∧ L2 = T.length + D.length ∧ m = D.length ∧ T.length + m ≤ 4294967296 ∧ 64 * q ≤ T.length) := Lib.hid ⟨hq, hn, by rw [hL2]; simp, hm, hL, h0⟩
  have HN2 := Lib.hid hn2
  have HPA : Hid (∀ a, ao = some a → P a.block) := Lib.hid (fun a ha => hR a n c (by have := hr.cellTl 0; rw [ha] at this; exact this))
  have HPN := Lib.hid hPn
  clear hr hb hD hK hL hm hLe hL2 hn hn2 hq hw1 h0 hR hPn
  go_enter Tryd.func12, Tryd.ntmps12
  go_wp2_with fail
  rw [← HW.out]
  clear c9 f9 e1 e2 HW
  have hl1 := r1.lt
  have c8 : w1.cell? ⟨g, 8, none⟩ = some (.slice ao n c) := r1.cellTl 0
  have f8 := r1.frozen 8
  go_cut [] (fun wc => HashK wc g (T ++ D) q ∧ TRow wc 0 .u32 64 (fun i => wd (kk i)) ∧ w.grownBy wc (some g) ∧ Rst wc g P)
  case first =>
    go_region_law ((refine step_app_full' rfl (.tmp 29) (.tmp 30) rfl g ao n (T.drop (64 * q)) rfl ?h1 ?h2 bo m bc D rfl ?h3 ?h4 ?h5 ?h6 ?_); (case h1 => exact HN2.out); (case h2 => exact b1.drew); (case h3 => exact HQ.out.2.2.2.1); (case h4 => exact d1.drew); (case h5 => exact hl1); (case h6 => have := HQ.out; omega); (intro ao2 c2 w2 hc2 hb2 hg2 hp2); (have r2 := r1.drew.grown hg2 (by simp)); (have cc : w2.cell? ⟨g, 8, none⟩ = some (.slice ao n c) := r2.cellTl 0); (have ff := r2.frozen 8))
    all_goals
      go_wp2_with fail
      go_meet
      refine ⟨⟨by have := HQ.out; simp; omega, ao2, c2, by have := HQ.out; simp; omega, ?_, ?_⟩, ?_, ?_, ?_⟩
      · have r3 := r2.setTl 0 (.slice ao2 (n + m) c2)
        have en : n + m = (T ++ D).length - 64 * q := by have := HQ.out; simp; omega
        have eL : L2 = (T ++ D).length := by have := HQ.out; simp; omega
        rw [← en, ← eL, show (fun i => wd (fold (T ++ D) q i)) = (fun i => wd (fold T q i)) by rw [fold_append T D q HQ.out.2.2.2.2.2]]
        exact r3
      · rw [← HT2.out]; exact hb2.set 8 _
      · exact (k1.drew.grown hg2 (by simp)).other _ _ hg0
      · exact grown_set (⟨hg2.os.trans g1.os, hg2.tape.trans g1.tape, hg2.output.trans g1.output, Nat.le_trans g1.size hg2.size, fun k hk hne => (hg2.block k (Nat.lt_of_lt_of_le hk g1.size) (by simp)).trans (g1.block k hk hne)⟩) 8 _
      · refine Rst.of ((r2.setTl 0 (.slice ao2 (n + m) c2)).cellTl 0) (fun a ha => ?_)
        rcases hp2 a ha with h | h
        · exact HPA.out a h
        · exact HPN.out _ (Nat.le_trans g1.size h)
  case rest =>
    obtain ⟨k1', k2', k3', k4'⟩ := hcut
    have HQ2 : Hid (q ≤ (T ++ D).length / 64 ∧ (T ++ D).length ≤ 4294967296) := Lib.hid ⟨by have := HQ.out; simp; omega, by have := HQ.out; simp; omega⟩
    clear r1 b1 d1 k1 g1 hl1 c8 f8 HQ HN2 HT2 hc
    go_wp2_with fail
    go_loopg [] ((T ++ D).length / 64 - q) (fun k wr => ∃ j, j + k = (T ++ D).length / 64 ∧ HashK wr g (T ++ D) j ∧ TRow wr 0 .u32 64 (fun i => wd (kk i)) ∧ w.grownBy wr (some g) ∧ Rst wr g P)
    case atStart => exact ⟨q, by have := HQ2.out; omega, k1', k2', k3', k4'⟩
    case round =>
      clear k1' k2' k3' k4'
      obtain ⟨j, hj, ⟨h0, ao, c, hc, r1, b1⟩, k2, k3, k4⟩ := hrel
      obtain ⟨L, hL⟩ : ∃ L, L = (T ++ D).length := ⟨_, rfl⟩
      have HL := Lib.hid hL
      obtain ⟨n, hn⟩ : ∃ n, n = (T ++ D).length - 64 * j := ⟨_, rfl⟩
      rw [← hn] at hc r1
      rw [← hL] at r1
      have HN := Lib.hid hn
      have hn32 : n ≤ 4294967296 := by have := HQ2.out; omega
      have c8 : wr.cell? ⟨g, 8, none⟩ = some (.slice ao n c) := r1.cellTl 0
      by_cases hlt : 64 ≤ n
      · obtain ⟨ad, rfl⟩ : ∃ ad, ao = some ad := by
          cases ao with
          | none => have := congrArg List.length (b1.nil rfl); simp at this; simp at hn; omega
          | some ad => exact ⟨ad, rfl⟩
        obtain ⟨q1, q2, q3⟩ := b1.cells ad rfl
        have HPD : Hid (P ad.block) := Lib.hid (k4 ad n c c8)
        clear k4
        have HB : Blk64 wr.drew ad (blk (T ++ D) j) := ⟨q1, fun i hi => by
          have hlt2 : 64 * j + i < (T ++ D).length := by omega
          have := q3 i ((T ++ D)[64 * j + i]) (by rw [List.getElem?_drop]; exact List.getElem?_eq_getElem hlt2)
          rw [show blk (T ++ D) j i = (T ++ D)[64 * j + i] by unfold blk; rw [List.getD_eq_getElem?_getD, List.getElem?_eq_getElem hlt2]; rfl]
          exact this⟩
        have M := Lib.hid (block16 g 42 _ ad n c (blk (T ++ D) j) (fold (T ++ D) j) wr.drew hlt (by omega) HB r1.drew k2.drew q2 hg0)
        have HJ := Lib.hid hj
        have H0 := Lib.hid h0
        clear hj h0 hn hL q3 HB
        have hif : (if c = 64 then some ad else (some ad).map (·.add 64)) = some (if c = 64 then ad else ⟨ad.block, ad.off + 64, none⟩) := by
          split
          · rfl
          · rfl
        go_wp2_with fail
        go_still_tail 7, (by kernel_rfl)
        change wpList _ _ _ _ _ wr.drew
        have b2 := b1.drew
        have k2 := k2.drew
        have k3 : w.grownBy wr.drew (some g) := ⟨k3.os, k3.tape, k3.output, k3.size, k3.block⟩
        clear c8 r1 b1
        generalize wr.drew = w5 at *
        go_wp2_with (first | (go_at_call 16; (with_reducible refine (M.out).mono ?_); rintro e w6 ⟨rfl, r6, g6⟩; have cc : w6.cell? ⟨g, 8, none⟩ = some (.slice (some ad) n c) := r6.cellTl 0; have ff := r6.frozen 8))
        all_goals
          have b6 := (b2.grown g6).drop 64 c (by rw [List.length_drop, ← HN.out]; exact hc) (by rw [List.length_drop, ← HN.out]; exact hlt)
          rw [List.drop_drop, show 64 * j + 64 = 64 * (j + 1) by omega] at b6
          have t6 := (k2.grown g6 (by simp; exact hg0)).other ⟨g, 8, none⟩
          have z6 := fun v => grown_set (⟨g6.os.trans k3.os, g6.tape.trans k3.tape, g6.output.trans k3.output, Nat.le_trans k3.size g6.size, fun k hk hne => (g6.block k (Nat.lt_of_lt_of_le hk k3.size) hne).trans (k3.block k hk hne)⟩ : w.grownBy w6 (some g)) 8 v
          go_roundg (gk - 1)
          case measure => have := HJ.out; have := HN.out; omega
          case rel =>
            refine ⟨j + 1, by have := HJ.out; have := HN.out; omega, hash_next (by have := HN.out; omega) HN.out (by omega) HL.out r6 _ ?_, t6 _ hg0, z6 _, Rst.of ((r6.setTl 0 _).cellTl 0) (fun a ha => by injection ha with ha; subst ha; exact HPD.out)⟩
            first | (rw [if_pos ‹_›] at b6; exact b6) | (rw [if_neg ‹_›] at b6; exact b6)
      · have e1 : decide (64 ≤ n) = false := by simp; omega
        have e2 : j = (T ++ D).length / 64 := by omega
        have hL2 := HL.out
        have r1' : HashK wr g (T ++ D) ((T ++ D).length / 64) := ⟨by omega, ao, c, by rw [← e2, ← hn]; exact hc, by rw [← e2, ← hn, ← hL]; exact r1, by rw [← e2]; exact b1⟩
        have e3 : decide ((64 : Int) ≤ (n : Int)) = false := by simp; omega
        clear hn hL hL2 e2 hj h0
        go_wp2_with fail
        go_end0
        exact ⟨rfl, r1', k3, k4⟩
end Go.Proofs.YtinmmenjlhlpmaaDoor
