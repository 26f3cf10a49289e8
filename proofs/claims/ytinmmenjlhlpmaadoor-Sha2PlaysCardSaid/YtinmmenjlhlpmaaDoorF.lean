/- A new hash; bytes written to a hash, walked. -/
import Derived.Test.YtinmmenjlhlpmaaDoorE
import Derived.Outline
import Derived.StillTailTactics
import Derived.Deep.DeepCutAuto
import Derived.BigRegion
import Derived.Deep.LoopGhost
import Derived.Deep.RegionLaw
import Derived.Deep.RegionLawGrows
namespace Go.Proofs.YtinmmenjlhlpmaaDoor
open Go.ChangeShapes Go.WideShapes Go.ChangeAt Go.RowKit
set_option linter.unusedSimpArgs false
set_option linter.unusedVariables false

theorem zero42 (w : World) : (zeroValue 42).run Tryd.prog w = .ok (.agg #[.int .u32 0, .int .u32 0, .int .u32 0, .int .u32 0, .int .u32 0, .int .u32 0, .int .u32 0, .int .u32 0, .slice none 0 0, .int .u64 0]) w := by kernel_rfl
theorem zero39' (w : World) : (zeroValue 39).run Tryd.prog w = .ok (.agg #[.int .u32 0, .int .u32 0, .int .u32 0, .int .u32 0, .int .u32 0, .int .u32 0, .int .u32 0, .int .u32 0]) w := by kernel_rfl
def s0a : Array Value := #[.int .u32 1779033703, .int .u32 3144134277, .int .u32 1013904242, .int .u32 2773480762, .int .u32 1359893119, .int .u32 2600822924, .int .u32 528734635, .int .u32 1541459225]
theorem begin15 (w : World) : Calls Tryd.prog 15 #[] w fun e w' => e = .returned (.agg #[.int .u32 1779033703, .int .u32 3144134277, .int .u32 1013904242, .int .u32 2773480762, .int .u32 1359893119, .int .u32 2600822924, .int .u32 528734635, .int .u32 1541459225]) ∧ Below w.heap.size w w' := by
  have hz := zero39'
  go_enter Tryd.func15, Tryd.ntmps15
  go_wp2_with fail
  exact bodyPost_ret (v := .agg #[.int .u32 1779033703, .int .u32 3144134277, .int .u32 1013904242, .int .u32 2773480762, .int .u32 1359893119, .int .u32 2600822924, .int .u32 528734635, .int .u32 1541459225]) (by simp [results, Tryd.results15, go_sem]) rfl ⟨rfl, (Below.refl _ _).alloc (Nat.le_refl _) _⟩
theorem new11 (w : World) : Calls Tryd.prog 11 #[] w fun e w' => ∃ g, e = .returned (.pointer (some ⟨g, 0, none⟩)) ∧ w.heap.size ≤ g ∧ Hash w' g [] ∧ Below w.heap.size w w' := by
  have hz := zero42
  go_enter Tryd.func11, Tryd.ntmps11
  go_wp2_with (first | (go_at_call 15; (with_reducible refine (begin15 _).mono ?_); rintro e w1 ⟨rfl, b1⟩))
  go_ret
  refine ⟨w1.heap.size, rfl, b1.size, ⟨by simp, none, 0, by simp, ⟨?_⟩, Byt.none_ _ _⟩, b1.alloc b1.size _⟩
  rw [heap_alloc_new]
  congr 2

theorem hash_next {w : World} {g j n c' L : Nat} {x : Value} {T : List (BitVec 8)} (h0 : 64 * (j + 1) ≤ T.length) (hn : n = T.length - 64 * j) (hc : n - 64 ≤ c') (hL : L = T.length) (r : Row w g 42 .u32 8 (fun i => wd (comp (fold T j) (blk T j) i)) #[x, .int .u64 L])
    (ao : Option Addr) (hb : Byt w g ao (T.drop (64 * (j + 1)))) : HashK (w.setCell ⟨g, 8, none⟩ (.slice ao (n - 64) c')) g T (j + 1) := by
  refine ⟨h0, ao, c', by omega, ?_, hb.set 8 _⟩
  have := r.setTl 0 (.slice ao (n - 64) c')
  rw [show T.length - 64 * (j + 1) = n - 64 by omega, ← hL]
  exact this
set_option maxHeartbeats 4000000 in
theorem write12 (g : Nat) (T D : List (BitVec 8)) (bo : Option Addr) (m bc : Nat) (w : World) (hm : m = D.length) (hL : T.length + m ≤ 4294967296) (hH : Hash w g T) (hD : Byt w g bo D) (hK : TRow w 0 .u32 64 (fun i => wd (kk i))) (hg0 : 0 ≠ g) :
    Calls Tryd.prog 12 #[.pointer (some ⟨g, 0, none⟩), .slice bo m bc] w fun e w' => e = .returned (.tuple #[]) ∧ Hash w' g (T ++ D) ∧ w.grownBy w' (some g) := by
  obtain ⟨h0, ao, c, hc, hr, hb⟩ := hH
  obtain ⟨q, hq⟩ : ∃ q, q = T.length / 64 := ⟨_, rfl⟩
  rw [← hq] at h0 hc hr hb
  obtain ⟨n, hn⟩ : ∃ n, n = T.length - 64 * q := ⟨_, rfl⟩
  rw [← hn] at hr hc
  obtain ⟨L2, hL2⟩ : ∃ L2, L2 = (T ++ D).length := ⟨_, rfl⟩
  have hn2 : n = (T.drop (64 * q)).length := by simp [hn]
  have HT2 := Lib.hid (show T.drop (64 * q) ++ D = (T ++ D).drop (64 * q) from (List.drop_append_of_le_length h0).symm)
  have hrl := hr.lt
  have c9 : w.cell? ⟨g, 9, none⟩ = some (.int .u64 T.length) := hr.cellTl 1
  have f9 := hr.frozen 9
  have e1 : IntKind.u64.wrap ((T.length : Int) + (m : Int)) = (L2 : Int) := by rw [IntKind.wrap_u64, hL2]; simp; omega
  have e2 : IntKind.u64.wrap (m : Int) = (m : Int) := by rw [IntKind.wrap_u64]; omega
  obtain ⟨w1, hw1⟩ : ∃ w1, w1 = w.setCell ⟨g, 9, none⟩ (.int .u64 L2) := ⟨_, rfl⟩
  have r1 : Row w1 g 42 .u32 8 (fun i => wd (fold T q i)) #[.slice ao n c, .int .u64 L2] := by rw [hw1]; exact hr.setTl 1 (.int .u64 L2)
  have b1 : Byt w1 g ao (T.drop (64 * q)) := by rw [hw1]; exact hb.set 9 _
  have d1 : Byt w1 g bo D := by rw [hw1]; exact hD.set 9 _
  have k1 : TRow w1 0 .u32 64 (fun i => wd (kk i)) := by rw [hw1]; exact hK.other ⟨g, 9, none⟩ _ hg0
  have g1 : w.grownBy w1 (some g) := by rw [hw1]; exact grown_set (World.grownBy.refl _ _) 9 _
  have HW := Lib.hid hw1
  obtain ⟨L, hLe⟩ : ∃ L, L = T.length := ⟨_, rfl⟩
  rw [← hLe] at c9 e1
  have HQ : Hid (q = T.length / 64 ∧ n = T.length - 64 * q ∧ L2 = T.length + D.length ∧ m = D.length ∧ T.length + m ≤ 4294967296 ∧ 64 * q ≤ T.length) := Lib.hid ⟨hq, hn, by rw [hL2]; simp, hm, hL, h0⟩
  have HN2 := Lib.hid hn2
  clear hr hb hD hK hL hm hLe hL2 hn hn2 hq hw1 h0
  go_enter Tryd.func12, Tryd.ntmps12
  go_wp2_with fail
  rw [← HW.out]
  clear c9 f9 e1 e2 HW
  have hl1 := r1.lt
  have c8 : w1.cell? ⟨g, 8, none⟩ = some (.slice ao n c) := r1.cellTl 0
  have f8 := r1.frozen 8
  go_cut [] (fun wc => HashK wc g (T ++ D) q ∧ TRow wc 0 .u32 64 (fun i => wd (kk i)) ∧ w.grownBy wc (some g))
  case first =>
    go_region_law ((refine step_app_full rfl (.tmp 29) (.tmp 30) rfl g ao n (T.drop (64 * q)) rfl ?h1 ?h2 bo m bc D rfl ?h3 ?h4 ?h5 ?h6 ?_); (case h1 => exact HN2.out); (case h2 => exact b1.drew); (case h3 => exact HQ.out.2.2.2.1); (case h4 => exact d1.drew); (case h5 => exact hl1); (case h6 => have := HQ.out; omega); (intro ao2 c2 w2 hc2 hb2 hg2); (have r2 := r1.drew.grown hg2 (by simp)); (have cc : w2.cell? ⟨g, 8, none⟩ = some (.slice ao n c) := r2.cellTl 0); (have ff := r2.frozen 8))
    all_goals
      go_wp2_with fail
      go_meet
      refine ⟨⟨by have := HQ.out; simp; omega, ao2, c2, by have := HQ.out; simp; omega, ?_, ?_⟩, ?_, ?_⟩
      · have r3 := r2.setTl 0 (.slice ao2 (n + m) c2)
        have en : n + m = (T ++ D).length - 64 * q := by have := HQ.out; simp; omega
        have eL : L2 = (T ++ D).length := by have := HQ.out; simp; omega
        rw [← en, ← eL, show (fun i => wd (fold (T ++ D) q i)) = (fun i => wd (fold T q i)) by rw [fold_append T D q HQ.out.2.2.2.2.2]]
        exact r3
      · rw [← HT2.out]; exact hb2.set 8 _
      · exact (k1.drew.grown hg2 (by simp)).other _ _ hg0
      · exact grown_set (⟨hg2.os.trans g1.os, hg2.tape.trans g1.tape, hg2.output.trans g1.output, Nat.le_trans g1.size hg2.size, fun k hk hne => (hg2.block k (Nat.lt_of_lt_of_le hk g1.size) (by simp)).trans (g1.block k hk hne)⟩) 8 _
  case rest =>
    obtain ⟨k1', k2', k3'⟩ := hcut
    have HQ2 : Hid (q ≤ (T ++ D).length / 64 ∧ (T ++ D).length ≤ 4294967296) := Lib.hid ⟨by have := HQ.out; simp; omega, by have := HQ.out; simp; omega⟩
    clear r1 b1 d1 k1 g1 hl1 c8 f8 HQ HN2 HT2 hc
    go_wp2_with fail
    go_loopg [] ((T ++ D).length / 64 - q) (fun k wr => ∃ j, j + k = (T ++ D).length / 64 ∧ HashK wr g (T ++ D) j ∧ TRow wr 0 .u32 64 (fun i => wd (kk i)) ∧ w.grownBy wr (some g))
    case atStart => exact ⟨q, by have := HQ2.out; omega, k1', k2', k3'⟩
    case round =>
      clear k1' k2' k3'
      obtain ⟨j, hj, ⟨h0, ao, c, hc, r1, b1⟩, k2, k3⟩ := hrel
      obtain ⟨L, hL⟩ : ∃ L, L = (T ++ D).length := ⟨_, rfl⟩
      have HL := Lib.hid hL
      obtain ⟨n, hn⟩ : ∃ n, n = (T ++ D).length - 64 * j := ⟨_, rfl⟩
      rw [← hn] at hc r1
      rw [← hL] at r1
      have HN := Lib.hid hn
      have hn32 : n ≤ 4294967296 := by have := HQ2.out; omega
      have c8 : wr.cell? ⟨g, 8, none⟩ = some (.slice ao n c) := r1.cellTl 0
      by_cases hlt : 64 ≤ n
      · obtain ⟨ad, rfl⟩ : ∃ ad, ao = some ad := by
          cases ao with
          | none => have := congrArg List.length (b1.nil rfl); simp at this; simp at hn; omega
          | some ad => exact ⟨ad, rfl⟩
        obtain ⟨q1, q2, q3⟩ := b1.cells ad rfl
        have HB : Blk64 wr.drew ad (blk (T ++ D) j) := ⟨q1, fun i hi => by
          have hlt2 : 64 * j + i < (T ++ D).length := by omega
          have := q3 i ((T ++ D)[64 * j + i]) (by rw [List.getElem?_drop]; exact List.getElem?_eq_getElem hlt2)
          rw [show blk (T ++ D) j i = (T ++ D)[64 * j + i] by unfold blk; rw [List.getD_eq_getElem?_getD, List.getElem?_eq_getElem hlt2]; rfl]
          exact this⟩
        have M := Lib.hid (block16 g 42 _ ad n c (blk (T ++ D) j) (fold (T ++ D) j) wr.drew hlt (by omega) HB r1.drew k2.drew q2 hg0)
        have HJ := Lib.hid hj
        have H0 := Lib.hid h0
        clear hj h0 hn hL q3 HB
        have hif : (if c = 64 then some ad else (some ad).map (·.add 64)) = some (if c = 64 then ad else ⟨ad.block, ad.off + 64, none⟩) := by
          split
          · rfl
          · rfl
        go_wp2_with fail
        go_still_tail 7, (by kernel_rfl)
        change wpList _ _ _ _ _ wr.drew
        have b2 := b1.drew
        have k2 := k2.drew
        have k3 : w.grownBy wr.drew (some g) := ⟨k3.os, k3.tape, k3.output, k3.size, k3.block⟩
        clear c8 r1 b1
        generalize wr.drew = w5 at *
        go_wp2_with (first | (go_at_call 16; (with_reducible refine (M.out).mono ?_); rintro e w6 ⟨rfl, r6, g6⟩; have cc : w6.cell? ⟨g, 8, none⟩ = some (.slice (some ad) n c) := r6.cellTl 0; have ff := r6.frozen 8))
        all_goals
          have b6 := (b2.grown g6).drop 64 c (by rw [List.length_drop, ← HN.out]; exact hc) (by rw [List.length_drop, ← HN.out]; exact hlt)
          rw [List.drop_drop, show 64 * j + 64 = 64 * (j + 1) by omega] at b6
          have t6 := (k2.grown g6 (by simp; exact hg0)).other ⟨g, 8, none⟩
          have z6 := fun v => grown_set (⟨g6.os.trans k3.os, g6.tape.trans k3.tape, g6.output.trans k3.output, Nat.le_trans k3.size g6.size, fun k hk hne => (g6.block k (Nat.lt_of_lt_of_le hk k3.size) hne).trans (k3.block k hk hne)⟩ : w.grownBy w6 (some g)) 8 v
          go_roundg (gk - 1)
          case measure => have := HJ.out; have := HN.out; omega
          case rel =>
            refine ⟨j + 1, by have := HJ.out; have := HN.out; omega, hash_next (by have := HN.out; omega) HN.out (by omega) HL.out r6 _ ?_, t6 _ hg0, z6 _⟩
            first | (rw [if_pos ‹_›] at b6; exact b6) | (rw [if_neg ‹_›] at b6; exact b6)
      · have e1 : decide (64 ≤ n) = false := by simp; omega
        have e2 : j = (T ++ D).length / 64 := by omega
        have hL2 := HL.out
        have r1' : HashK wr g (T ++ D) ((T ++ D).length / 64) := ⟨by omega, ao, c, by rw [← e2, ← hn]; exact hc, by rw [← e2, ← hn, ← hL]; exact r1, by rw [← e2]; exact b1⟩
        have e3 : decide ((64 : Int) ≤ (n : Int)) = false := by simp; omega
        clear hn hL hL2 e2 hj h0
        go_wp2_with fail
        go_end0
        exact ⟨rfl, r1', k3⟩
end Go.Proofs.YtinmmenjlhlpmaaDoor
