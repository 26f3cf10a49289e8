/- The document's own transform back, walked. -/
import Derived.Test.YtopkmkkohmkceaaDoorR0
import Derived.Test.YtopkmkkohmkceaaDoorC
namespace Go.Proofs.YtopkmkkohmkceaaDoor
open Go.ChangeShapes Go.WideShapes Go.ChangeAt Go.RowKit
set_option linter.unusedSimpArgs false
set_option linter.unusedVariables false

set_option maxRecDepth 20000 in
set_option maxHeartbeats 8000000 in
theorem inv21 (a : Nat → Int) (w : World) (ha : I64 a) : Calls Tryd.prog 21 #[.agg (arr 256 a)] w fun e w' => e = .returned (.agg (arr 256 (inv a))) ∧ Below w.heap.size w w' := by
  have hz := zero23
  have r1 := (Row.new w 23 256 a).alloc (.cells (arr 256 fun _ => 0) 23)
  have r2 : Row ((w.alloc (.cells (arr 256 a) 23)).alloc (.cells (arr 256 fun _ => 0) 23)) (w.heap.size + 1) 23 256 (fun _ => 0) := by
    have := Row.new (w.alloc (.cells (arr 256 a) 23)) 23 256 (fun _ => 0)
    simpa using this
  have hb0 : Below w.heap.size w ((w.alloc (.cells (arr 256 a) 23)).alloc (.cells (arr 256 fun _ => 0) 23)) := ((Below.refl _ _).alloc (Nat.le_refl _) _).alloc (by simp) _
  have hsz : ((w.alloc (.cells (arr 256 a) 23)).alloc (.cells (arr 256 fun _ => 0) 23)).heap.size = w.heap.size + 2 := by simp
  have HS := Lib.hid hsz; clear hsz
  go_enter Tryd.func21, Tryd.ntmps21
  go_wp2_with (first | (with_reducible refine load23 rfl (.tmp 1) rfl w.heap.size rfl r1 ?_))
  refine (rmod16 a _ ha).mono ?_
  rintro e w1 ⟨rfl, hb⟩
  rw [HS.out] at hb
  have r3 := r2.below hb (by omega)
  have hb1 := hb0.trans (hb.mono (by omega))
  have hs1 := hb.size
  rw [HS.out] at hs1
  clear r1 r2 hb hb0
  have r4 := Row.new w1 23 256 (fun _ => 0)
  have r5 := r4.setRow (m := 256) (fun i => emod (a i))
  have r6 := (r3.alloc (.cells (arr 256 fun _ => 0) 23)).setRow_other (c := w1.heap.size) (arr 256 fun i => emod (a i)) (by omega)
  have hb2 := below_setRow (hb1.alloc (by omega) (.cells (arr 256 fun _ => 0) 23)) (g := w1.heap.size) (by omega) (arr 256 fun i => emod (a i))
  go_wp2_with (first | (with_reducible refine store23 rfl (.tmp 3) (.tmp 12) rfl w1.heap.size _ rfl rfl r4 ?_))
  clear r3 r4 hb1
  generalize (w1.alloc (.cells (arr 256 fun _ => 0) 23)).setRow w1.heap.size (arr 256 fun i => emod (a i)) = w2 at *
  clear hz
  go_loopw [4, 5] (fun v4 v5 wr => ∃ (m N U : Nat) (V : Int), Li m N U V ∧ v5 = .int .i64 V ∧ v4 = .int .i64 (127 - (U : Int)) ∧ Row wr w1.heap.size 23 256 (Is m fun i => emod (a i)) ∧ Row wr (w.heap.size + 1) 23 256 (fun _ => 0) ∧ Below w.heap.size w wr) (fun v4 v5 wr => 256 - (intOf v5).toNat)
  case atStart => exact ⟨0, 2, 0, 2, .inl ⟨rfl, rfl, rfl, rfl⟩, rfl, rfl, r5, r6, hb2⟩
  case round =>
    obtain ⟨m, N, U, V, hL, rfl, rfl, q1, q2, q3⟩ := hrel
    rcases hL with ⟨rfl, rfl, rfl, rfl⟩ | ⟨rfl, rfl, rfl, rfl⟩ | ⟨rfl, rfl, rfl, rfl⟩ | ⟨rfl, rfl, rfl, rfl⟩ | ⟨rfl, rfl, rfl, rfl⟩ | ⟨rfl, rfl, rfl, rfl⟩ | ⟨rfl, rfl, rfl, rfl⟩ | ⟨rfl, rfl, rfl, rfl⟩
    · generalize hF : (Is 0 fun i => emod (a i)) = F at q1
      have hFb : ∀ i, 0 ≤ F i ∧ F i < 3329 := fun i => by rw [← hF]; exact Is_bd _ _ (fun i => emod_bd _) i
      have HF := Lib.hid hF; clear hF
      have HFb := Lib.hid hFb; clear hFb
      go_wp2
      obtain ⟨wo, hwo⟩ : ∃ wo : World, wo = wr := ⟨_, rfl⟩
      go_loopw [4, 6] (fun v4 v6 wr => ∃ c : Nat, c ≤ 64 ∧ v6 = .int .i64 (4 * (c : Int)) ∧ v4 = .int .i64 (127 - (c : Int)) ∧ Row wr w1.heap.size 23 256 (part (Done (4 * c) 2 0) (ilay 2 F) F) ∧ Row wr (w.heap.size + 1) 23 256 (fun _ => 0) ∧ Below w.heap.size w wr) (fun v4 v6 wr => 256 - (intOf v6).toNat)
      case atStart => exact ⟨0, by omega, rfl, by go_num, q1.congr (fun i _ => (part_zero _ _ _ _).symm), q2, q3⟩
      case round =>
        clear q1 q2 q3 hwo wo r5 r6 hb2
        obtain ⟨c, hc, rfl, rfl, q1, q2, q3⟩ := hrel
        by_cases hlt2 : c < 64
        · have hd : decide (4 * (c : Int) < 256) = true := by simp; omega
          have b3 := rt_bd (127 - c)
          generalize hz : rt (127 - c) = z at b3
          have HZ := Lib.hid hz; clear hz
          go_wp2_with (first | (go_at_call 31; refine (turnedi _ (127 - c) (by omega) (by omega) _).mono ?_; rintro e w' ⟨rfl, rfl⟩) | (go_at_call 30; refine (root30 (127 - c) (by omega) _).mono ?_; rintro e w' ⟨rfl, rfl⟩; rw [HZ.out]))
          obtain ⟨wo, hwo⟩ : ∃ wo : World, wo = w' := ⟨_, rfl⟩
          go_loopw [8] (fun v7 wr => ∃ q : Nat, q ≤ 2 ∧ v7 = .int .i64 (4 * (c : Int) + q) ∧ Row wr w1.heap.size 23 256 (part (Done (4 * c) 2 q) (ilay 2 F) F) ∧ Row wr (w.heap.size + 1) 23 256 (fun _ => 0) ∧ Below w.heap.size w wr) (fun v7 wr => 256 - (intOf v7).toNat)
          case atStart => exact ⟨0, by omega, by go_num, q1, q2, q3⟩
          case round =>
            clear q1 q2 q3 hwo wo
            obtain ⟨q, hq, rfl, q1, q2, q3⟩ := hrel
            by_cases hlt3 : q < 2
            · have c1 := q1.cell (4 * c + q) (by omega)
              have c2 := q1.cell (4 * c + q + 2) (by omega)
              have f1 := q1.frozen (4 * c + q)
              rw [show part (Done (4 * c) 2 q) (ilay 2 F) F (4 * c + q) = F (4 * c + q) from if_neg (by unfold Done; omega)] at c1
              rw [show part (Done (4 * c) 2 q) (ilay 2 F) F (4 * c + q + 2) = F (4 * c + q + 2) from if_neg (by unfold Done; omega)] at c2
              have b1 := HFb.out (4 * c + q)
              have b2 := HFb.out (4 * c + q + 2)
              have e1 := ilay_lo 2 c q hlt3 F
              have e2 := ilay_hi 2 c q hlt3 F
              rw [show 256 / 2 - 1 - c = 127 - c by omega, HZ.out] at e2
              simp only [Nat.reduceMul] at e1 e2
              have hst := part_step (4 * c) 2 q hlt3 (ilay 2 F) F _ _ e1.symm e2.symm
              try simp only [Nat.reduceMul] at hst
              have s1 := q1.set (4 * c + q) (emod (F (4 * c + q) + F (4 * c + q + 2)))
              have g1 := s1.cell (4 * c + q + 2) (by omega)
              rw [show upd (part (Done (4 * c) 2 q) (ilay 2 F) F) (4 * c + q) (emod (F (4 * c + q) + F (4 * c + q + 2))) (4 * c + q + 2) = F (4 * c + q + 2) from (if_neg (by omega)).trans (if_neg (by unfold Done; omega))] at g1
              have f2 := s1.frozen (4 * c + q + 2)
              have s2 := (s1.set (4 * c + q + 2) (emod (z * (F (4 * c + q + 2) - F (4 * c + q))))).congr (fun i _ => hst i)
              have o1 := (q2.other ⟨w1.heap.size, 4 * c + q, none⟩ (.int .i64 (emod (F (4 * c + q) + F (4 * c + q + 2)))) (by simp; omega)).other ⟨w1.heap.size, 4 * c + q + 2, none⟩ (.int .i64 (emod (z * (F (4 * c + q + 2) - F (4 * c + q))))) (by simp; omega)
              have o3 := (q3.setCell (p := ⟨w1.heap.size, 4 * c + q, none⟩) (by simp; omega) (.int .i64 (emod (F (4 * c + q) + F (4 * c + q + 2))))).setCell (p := ⟨w1.heap.size, 4 * c + q + 2, none⟩) (by simp; omega) (.int .i64 (emod (z * (F (4 * c + q + 2) - F (4 * c + q)))))
              clear s1 q1 q2 q3 hst e1 e2
              generalize F (4 * c + q) = x at *
              generalize F (4 * c + q + 2) = y at *
              have hzy := abs_mul z (y - x) b3 (by omega)
              have t0 : 0 ≤ 4 * (c : Int) + q := by omega
              have t1 : 4 * (c : Int) + q < 256 := by omega
              have t2 : (4 * (c : Int) + q).toNat = 4 * c + q := by omega
              have t3 : IntKind.i64.wrap (4 * (c : Int) + q + 2) = 4 * (c : Int) + q + 2 := IntWalk.i64_in _ (by omega)
              have t4 : 0 ≤ 4 * (c : Int) + q + 2 := by omega
              have t5 : 4 * (c : Int) + q + 2 < 256 := by omega
              have t6 : (4 * (c : Int) + q + 2).toNat = 4 * c + q + 2 := by omega
              have t7 : IntKind.i64.wrap (y - x) = y - x := IntWalk.i64_in _ (by omega)
              have t8 : IntKind.i64.wrap (x + y) = x + y := IntWalk.i64_in _ (by omega)
              have t9 : IntKind.i64.wrap (z * (y - x)) = z * (y - x) := IntWalk.i64_in _ (by omega)
              go_wp2_with (first | (go_at_call 27; refine (mod27 _ _ (by omega) (by omega)).mono ?_; rintro e w' ⟨rfl, rfl⟩))
              go_roundw
              case rel => exact ⟨q + 1, by omega, by go_num, s2, o1, o3⟩
              case measure => simp [intOf]; omega
            · have e1 : q = 2 := by omega
              subst e1
              have q1 := q1.congr (fun i _ => part_next (4 * c) 2 (ilay 2 F) F i)
              go_wp2
              go_roundw
              case rel => exact ⟨c + 1, by omega, by go_num, by go_num, q1, q2, q3⟩
              case measure => simp [intOf]; omega
        · have e1 : c = 64 := by omega
          subst e1
          have q1 := q1.congr (g := Is (0 + 1) fun i => emod (a i)) (fun i hi => (part_all 2 (ilay 2 F) F i hi).trans (by rw [← HF.out]; rfl))
          go_wp2
          go_roundw
          case rel => exact ⟨0 + 1, 4, 64, _, by unfold Li; simp, rfl, rfl, q1, q2, q3⟩
          case measure => simp [intOf]
    · generalize hF : (Is 1 fun i => emod (a i)) = F at q1
      have hFb : ∀ i, 0 ≤ F i ∧ F i < 3329 := fun i => by rw [← hF]; exact Is_bd _ _ (fun i => emod_bd _) i
      have HF := Lib.hid hF; clear hF
      have HFb := Lib.hid hFb; clear hFb
      go_wp2
      obtain ⟨wo, hwo⟩ : ∃ wo : World, wo = wr := ⟨_, rfl⟩
      go_loopw [4, 6] (fun v4 v6 wr => ∃ c : Nat, c ≤ 32 ∧ v6 = .int .i64 (8 * (c : Int)) ∧ v4 = .int .i64 (63 - (c : Int)) ∧ Row wr w1.heap.size 23 256 (part (Done (8 * c) 4 0) (ilay 4 F) F) ∧ Row wr (w.heap.size + 1) 23 256 (fun _ => 0) ∧ Below w.heap.size w wr) (fun v4 v6 wr => 256 - (intOf v6).toNat)
      case atStart => exact ⟨0, by omega, rfl, by go_num, q1.congr (fun i _ => (part_zero _ _ _ _).symm), q2, q3⟩
      case round =>
        clear q1 q2 q3 hwo wo r5 r6 hb2
        obtain ⟨c, hc, rfl, rfl, q1, q2, q3⟩ := hrel
        by_cases hlt2 : c < 32
        · have hd : decide (8 * (c : Int) < 256) = true := by simp; omega
          have b3 := rt_bd (63 - c)
          generalize hz : rt (63 - c) = z at b3
          have HZ := Lib.hid hz; clear hz
          go_wp2_with (first | (go_at_call 31; refine (turnedi _ (63 - c) (by omega) (by omega) _).mono ?_; rintro e w' ⟨rfl, rfl⟩) | (go_at_call 30; refine (root30 (63 - c) (by omega) _).mono ?_; rintro e w' ⟨rfl, rfl⟩; rw [HZ.out]))
          obtain ⟨wo, hwo⟩ : ∃ wo : World, wo = w' := ⟨_, rfl⟩
          go_loopw [8] (fun v7 wr => ∃ q : Nat, q ≤ 4 ∧ v7 = .int .i64 (8 * (c : Int) + q) ∧ Row wr w1.heap.size 23 256 (part (Done (8 * c) 4 q) (ilay 4 F) F) ∧ Row wr (w.heap.size + 1) 23 256 (fun _ => 0) ∧ Below w.heap.size w wr) (fun v7 wr => 256 - (intOf v7).toNat)
          case atStart => exact ⟨0, by omega, by go_num, q1, q2, q3⟩
          case round =>
            clear q1 q2 q3 hwo wo
            obtain ⟨q, hq, rfl, q1, q2, q3⟩ := hrel
            by_cases hlt3 : q < 4
            · have c1 := q1.cell (8 * c + q) (by omega)
              have c2 := q1.cell (8 * c + q + 4) (by omega)
              have f1 := q1.frozen (8 * c + q)
              rw [show part (Done (8 * c) 4 q) (ilay 4 F) F (8 * c + q) = F (8 * c + q) from if_neg (by unfold Done; omega)] at c1
              rw [show part (Done (8 * c) 4 q) (ilay 4 F) F (8 * c + q + 4) = F (8 * c + q + 4) from if_neg (by unfold Done; omega)] at c2
              have b1 := HFb.out (8 * c + q)
              have b2 := HFb.out (8 * c + q + 4)
              have e1 := ilay_lo 4 c q hlt3 F
              have e2 := ilay_hi 4 c q hlt3 F
              rw [show 256 / 4 - 1 - c = 63 - c by omega, HZ.out] at e2
              simp only [Nat.reduceMul] at e1 e2
              have hst := part_step (8 * c) 4 q hlt3 (ilay 4 F) F _ _ e1.symm e2.symm
              try simp only [Nat.reduceMul] at hst
              have s1 := q1.set (8 * c + q) (emod (F (8 * c + q) + F (8 * c + q + 4)))
              have g1 := s1.cell (8 * c + q + 4) (by omega)
              rw [show upd (part (Done (8 * c) 4 q) (ilay 4 F) F) (8 * c + q) (emod (F (8 * c + q) + F (8 * c + q + 4))) (8 * c + q + 4) = F (8 * c + q + 4) from (if_neg (by omega)).trans (if_neg (by unfold Done; omega))] at g1
              have f2 := s1.frozen (8 * c + q + 4)
              have s2 := (s1.set (8 * c + q + 4) (emod (z * (F (8 * c + q + 4) - F (8 * c + q))))).congr (fun i _ => hst i)
              have o1 := (q2.other ⟨w1.heap.size, 8 * c + q, none⟩ (.int .i64 (emod (F (8 * c + q) + F (8 * c + q + 4)))) (by simp; omega)).other ⟨w1.heap.size, 8 * c + q + 4, none⟩ (.int .i64 (emod (z * (F (8 * c + q + 4) - F (8 * c + q))))) (by simp; omega)
              have o3 := (q3.setCell (p := ⟨w1.heap.size, 8 * c + q, none⟩) (by simp; omega) (.int .i64 (emod (F (8 * c + q) + F (8 * c + q + 4))))).setCell (p := ⟨w1.heap.size, 8 * c + q + 4, none⟩) (by simp; omega) (.int .i64 (emod (z * (F (8 * c + q + 4) - F (8 * c + q)))))
              clear s1 q1 q2 q3 hst e1 e2
              generalize F (8 * c + q) = x at *
              generalize F (8 * c + q + 4) = y at *
              have hzy := abs_mul z (y - x) b3 (by omega)
              have t0 : 0 ≤ 8 * (c : Int) + q := by omega
              have t1 : 8 * (c : Int) + q < 256 := by omega
              have t2 : (8 * (c : Int) + q).toNat = 8 * c + q := by omega
              have t3 : IntKind.i64.wrap (8 * (c : Int) + q + 4) = 8 * (c : Int) + q + 4 := IntWalk.i64_in _ (by omega)
              have t4 : 0 ≤ 8 * (c : Int) + q + 4 := by omega
              have t5 : 8 * (c : Int) + q + 4 < 256 := by omega
              have t6 : (8 * (c : Int) + q + 4).toNat = 8 * c + q + 4 := by omega
              have t7 : IntKind.i64.wrap (y - x) = y - x := IntWalk.i64_in _ (by omega)
              have t8 : IntKind.i64.wrap (x + y) = x + y := IntWalk.i64_in _ (by omega)
              have t9 : IntKind.i64.wrap (z * (y - x)) = z * (y - x) := IntWalk.i64_in _ (by omega)
              go_wp2_with (first | (go_at_call 27; refine (mod27 _ _ (by omega) (by omega)).mono ?_; rintro e w' ⟨rfl, rfl⟩))
              go_roundw
              case rel => exact ⟨q + 1, by omega, by go_num, s2, o1, o3⟩
              case measure => simp [intOf]; omega
            · have e1 : q = 4 := by omega
              subst e1
              have q1 := q1.congr (fun i _ => part_next (8 * c) 4 (ilay 4 F) F i)
              go_wp2
              go_roundw
              case rel => exact ⟨c + 1, by omega, by go_num, by go_num, q1, q2, q3⟩
              case measure => simp [intOf]; omega
        · have e1 : c = 32 := by omega
          subst e1
          have q1 := q1.congr (g := Is (1 + 1) fun i => emod (a i)) (fun i hi => (part_all 4 (ilay 4 F) F i hi).trans (by rw [← HF.out]; rfl))
          go_wp2
          go_roundw
          case rel => exact ⟨1 + 1, 8, 96, _, by unfold Li; simp, rfl, rfl, q1, q2, q3⟩
          case measure => simp [intOf]
    · generalize hF : (Is 2 fun i => emod (a i)) = F at q1
      have hFb : ∀ i, 0 ≤ F i ∧ F i < 3329 := fun i => by rw [← hF]; exact Is_bd _ _ (fun i => emod_bd _) i
      have HF := Lib.hid hF; clear hF
      have HFb := Lib.hid hFb; clear hFb
      go_wp2
      obtain ⟨wo, hwo⟩ : ∃ wo : World, wo = wr := ⟨_, rfl⟩
      go_loopw [4, 6] (fun v4 v6 wr => ∃ c : Nat, c ≤ 16 ∧ v6 = .int .i64 (16 * (c : Int)) ∧ v4 = .int .i64 (31 - (c : Int)) ∧ Row wr w1.heap.size 23 256 (part (Done (16 * c) 8 0) (ilay 8 F) F) ∧ Row wr (w.heap.size + 1) 23 256 (fun _ => 0) ∧ Below w.heap.size w wr) (fun v4 v6 wr => 256 - (intOf v6).toNat)
      case atStart => exact ⟨0, by omega, rfl, by go_num, q1.congr (fun i _ => (part_zero _ _ _ _).symm), q2, q3⟩
      case round =>
        clear q1 q2 q3 hwo wo r5 r6 hb2
        obtain ⟨c, hc, rfl, rfl, q1, q2, q3⟩ := hrel
        by_cases hlt2 : c < 16
        · have hd : decide (16 * (c : Int) < 256) = true := by simp; omega
          have b3 := rt_bd (31 - c)
          generalize hz : rt (31 - c) = z at b3
          have HZ := Lib.hid hz; clear hz
          go_wp2_with (first | (go_at_call 31; refine (turnedi _ (31 - c) (by omega) (by omega) _).mono ?_; rintro e w' ⟨rfl, rfl⟩) | (go_at_call 30; refine (root30 (31 - c) (by omega) _).mono ?_; rintro e w' ⟨rfl, rfl⟩; rw [HZ.out]))
          obtain ⟨wo, hwo⟩ : ∃ wo : World, wo = w' := ⟨_, rfl⟩
          go_loopw [8] (fun v7 wr => ∃ q : Nat, q ≤ 8 ∧ v7 = .int .i64 (16 * (c : Int) + q) ∧ Row wr w1.heap.size 23 256 (part (Done (16 * c) 8 q) (ilay 8 F) F) ∧ Row wr (w.heap.size + 1) 23 256 (fun _ => 0) ∧ Below w.heap.size w wr) (fun v7 wr => 256 - (intOf v7).toNat)
          case atStart => exact ⟨0, by omega, by go_num, q1, q2, q3⟩
          case round =>
            clear q1 q2 q3 hwo wo
            obtain ⟨q, hq, rfl, q1, q2, q3⟩ := hrel
            by_cases hlt3 : q < 8
            · have c1 := q1.cell (16 * c + q) (by omega)
              have c2 := q1.cell (16 * c + q + 8) (by omega)
              have f1 := q1.frozen (16 * c + q)
              rw [show part (Done (16 * c) 8 q) (ilay 8 F) F (16 * c + q) = F (16 * c + q) from if_neg (by unfold Done; omega)] at c1
              rw [show part (Done (16 * c) 8 q) (ilay 8 F) F (16 * c + q + 8) = F (16 * c + q + 8) from if_neg (by unfold Done; omega)] at c2
              have b1 := HFb.out (16 * c + q)
              have b2 := HFb.out (16 * c + q + 8)
              have e1 := ilay_lo 8 c q hlt3 F
              have e2 := ilay_hi 8 c q hlt3 F
              rw [show 256 / 8 - 1 - c = 31 - c by omega, HZ.out] at e2
              simp only [Nat.reduceMul] at e1 e2
              have hst := part_step (16 * c) 8 q hlt3 (ilay 8 F) F _ _ e1.symm e2.symm
              try simp only [Nat.reduceMul] at hst
              have s1 := q1.set (16 * c + q) (emod (F (16 * c + q) + F (16 * c + q + 8)))
              have g1 := s1.cell (16 * c + q + 8) (by omega)
              rw [show upd (part (Done (16 * c) 8 q) (ilay 8 F) F) (16 * c + q) (emod (F (16 * c + q) + F (16 * c + q + 8))) (16 * c + q + 8) = F (16 * c + q + 8) from (if_neg (by omega)).trans (if_neg (by unfold Done; omega))] at g1
              have f2 := s1.frozen (16 * c + q + 8)
              have s2 := (s1.set (16 * c + q + 8) (emod (z * (F (16 * c + q + 8) - F (16 * c + q))))).congr (fun i _ => hst i)
              have o1 := (q2.other ⟨w1.heap.size, 16 * c + q, none⟩ (.int .i64 (emod (F (16 * c + q) + F (16 * c + q + 8)))) (by simp; omega)).other ⟨w1.heap.size, 16 * c + q + 8, none⟩ (.int .i64 (emod (z * (F (16 * c + q + 8) - F (16 * c + q))))) (by simp; omega)
              have o3 := (q3.setCell (p := ⟨w1.heap.size, 16 * c + q, none⟩) (by simp; omega) (.int .i64 (emod (F (16 * c + q) + F (16 * c + q + 8))))).setCell (p := ⟨w1.heap.size, 16 * c + q + 8, none⟩) (by simp; omega) (.int .i64 (emod (z * (F (16 * c + q + 8) - F (16 * c + q)))))
              clear s1 q1 q2 q3 hst e1 e2
              generalize F (16 * c + q) = x at *
              generalize F (16 * c + q + 8) = y at *
              have hzy := abs_mul z (y - x) b3 (by omega)
              have t0 : 0 ≤ 16 * (c : Int) + q := by omega
              have t1 : 16 * (c : Int) + q < 256 := by omega
              have t2 : (16 * (c : Int) + q).toNat = 16 * c + q := by omega
              have t3 : IntKind.i64.wrap (16 * (c : Int) + q + 8) = 16 * (c : Int) + q + 8 := IntWalk.i64_in _ (by omega)
              have t4 : 0 ≤ 16 * (c : Int) + q + 8 := by omega
              have t5 : 16 * (c : Int) + q + 8 < 256 := by omega
              have t6 : (16 * (c : Int) + q + 8).toNat = 16 * c + q + 8 := by omega
              have t7 : IntKind.i64.wrap (y - x) = y - x := IntWalk.i64_in _ (by omega)
              have t8 : IntKind.i64.wrap (x + y) = x + y := IntWalk.i64_in _ (by omega)
              have t9 : IntKind.i64.wrap (z * (y - x)) = z * (y - x) := IntWalk.i64_in _ (by omega)
              go_wp2_with (first | (go_at_call 27; refine (mod27 _ _ (by omega) (by omega)).mono ?_; rintro e w' ⟨rfl, rfl⟩))
              go_roundw
              case rel => exact ⟨q + 1, by omega, by go_num, s2, o1, o3⟩
              case measure => simp [intOf]; omega
            · have e1 : q = 8 := by omega
              subst e1
              have q1 := q1.congr (fun i _ => part_next (16 * c) 8 (ilay 8 F) F i)
              go_wp2
              go_roundw
              case rel => exact ⟨c + 1, by omega, by go_num, by go_num, q1, q2, q3⟩
              case measure => simp [intOf]; omega
        · have e1 : c = 16 := by omega
          subst e1
          have q1 := q1.congr (g := Is (2 + 1) fun i => emod (a i)) (fun i hi => (part_all 8 (ilay 8 F) F i hi).trans (by rw [← HF.out]; rfl))
          go_wp2
          go_roundw
          case rel => exact ⟨2 + 1, 16, 112, _, by unfold Li; simp, rfl, rfl, q1, q2, q3⟩
          case measure => simp [intOf]
    · generalize hF : (Is 3 fun i => emod (a i)) = F at q1
      have hFb : ∀ i, 0 ≤ F i ∧ F i < 3329 := fun i => by rw [← hF]; exact Is_bd _ _ (fun i => emod_bd _) i
      have HF := Lib.hid hF; clear hF
      have HFb := Lib.hid hFb; clear hFb
      go_wp2
      obtain ⟨wo, hwo⟩ : ∃ wo : World, wo = wr := ⟨_, rfl⟩
      go_loopw [4, 6] (fun v4 v6 wr => ∃ c : Nat, c ≤ 8 ∧ v6 = .int .i64 (32 * (c : Int)) ∧ v4 = .int .i64 (15 - (c : Int)) ∧ Row wr w1.heap.size 23 256 (part (Done (32 * c) 16 0) (ilay 16 F) F) ∧ Row wr (w.heap.size + 1) 23 256 (fun _ => 0) ∧ Below w.heap.size w wr) (fun v4 v6 wr => 256 - (intOf v6).toNat)
      case atStart => exact ⟨0, by omega, rfl, by go_num, q1.congr (fun i _ => (part_zero _ _ _ _).symm), q2, q3⟩
      case round =>
        clear q1 q2 q3 hwo wo r5 r6 hb2
        obtain ⟨c, hc, rfl, rfl, q1, q2, q3⟩ := hrel
        by_cases hlt2 : c < 8
        · have hd : decide (32 * (c : Int) < 256) = true := by simp; omega
          have b3 := rt_bd (15 - c)
          generalize hz : rt (15 - c) = z at b3
          have HZ := Lib.hid hz; clear hz
          go_wp2_with (first | (go_at_call 31; refine (turnedi _ (15 - c) (by omega) (by omega) _).mono ?_; rintro e w' ⟨rfl, rfl⟩) | (go_at_call 30; refine (root30 (15 - c) (by omega) _).mono ?_; rintro e w' ⟨rfl, rfl⟩; rw [HZ.out]))
          obtain ⟨wo, hwo⟩ : ∃ wo : World, wo = w' := ⟨_, rfl⟩
          go_loopw [8] (fun v7 wr => ∃ q : Nat, q ≤ 16 ∧ v7 = .int .i64 (32 * (c : Int) + q) ∧ Row wr w1.heap.size 23 256 (part (Done (32 * c) 16 q) (ilay 16 F) F) ∧ Row wr (w.heap.size + 1) 23 256 (fun _ => 0) ∧ Below w.heap.size w wr) (fun v7 wr => 256 - (intOf v7).toNat)
          case atStart => exact ⟨0, by omega, by go_num, q1, q2, q3⟩
          case round =>
            clear q1 q2 q3 hwo wo
            obtain ⟨q, hq, rfl, q1, q2, q3⟩ := hrel
            by_cases hlt3 : q < 16
            · have c1 := q1.cell (32 * c + q) (by omega)
              have c2 := q1.cell (32 * c + q + 16) (by omega)
              have f1 := q1.frozen (32 * c + q)
              rw [show part (Done (32 * c) 16 q) (ilay 16 F) F (32 * c + q) = F (32 * c + q) from if_neg (by unfold Done; omega)] at c1
              rw [show part (Done (32 * c) 16 q) (ilay 16 F) F (32 * c + q + 16) = F (32 * c + q + 16) from if_neg (by unfold Done; omega)] at c2
              have b1 := HFb.out (32 * c + q)
              have b2 := HFb.out (32 * c + q + 16)
              have e1 := ilay_lo 16 c q hlt3 F
              have e2 := ilay_hi 16 c q hlt3 F
              rw [show 256 / 16 - 1 - c = 15 - c by omega, HZ.out] at e2
              simp only [Nat.reduceMul] at e1 e2
              have hst := part_step (32 * c) 16 q hlt3 (ilay 16 F) F _ _ e1.symm e2.symm
              try simp only [Nat.reduceMul] at hst
              have s1 := q1.set (32 * c + q) (emod (F (32 * c + q) + F (32 * c + q + 16)))
              have g1 := s1.cell (32 * c + q + 16) (by omega)
              rw [show upd (part (Done (32 * c) 16 q) (ilay 16 F) F) (32 * c + q) (emod (F (32 * c + q) + F (32 * c + q + 16))) (32 * c + q + 16) = F (32 * c + q + 16) from (if_neg (by omega)).trans (if_neg (by unfold Done; omega))] at g1
              have f2 := s1.frozen (32 * c + q + 16)
              have s2 := (s1.set (32 * c + q + 16) (emod (z * (F (32 * c + q + 16) - F (32 * c + q))))).congr (fun i _ => hst i)
              have o1 := (q2.other ⟨w1.heap.size, 32 * c + q, none⟩ (.int .i64 (emod (F (32 * c + q) + F (32 * c + q + 16)))) (by simp; omega)).other ⟨w1.heap.size, 32 * c + q + 16, none⟩ (.int .i64 (emod (z * (F (32 * c + q + 16) - F (32 * c + q))))) (by simp; omega)
              have o3 := (q3.setCell (p := ⟨w1.heap.size, 32 * c + q, none⟩) (by simp; omega) (.int .i64 (emod (F (32 * c + q) + F (32 * c + q + 16))))).setCell (p := ⟨w1.heap.size, 32 * c + q + 16, none⟩) (by simp; omega) (.int .i64 (emod (z * (F (32 * c + q + 16) - F (32 * c + q)))))
              clear s1 q1 q2 q3 hst e1 e2
              generalize F (32 * c + q) = x at *
              generalize F (32 * c + q + 16) = y at *
              have hzy := abs_mul z (y - x) b3 (by omega)
              have t0 : 0 ≤ 32 * (c : Int) + q := by omega
              have t1 : 32 * (c : Int) + q < 256 := by omega
              have t2 : (32 * (c : Int) + q).toNat = 32 * c + q := by omega
              have t3 : IntKind.i64.wrap (32 * (c : Int) + q + 16) = 32 * (c : Int) + q + 16 := IntWalk.i64_in _ (by omega)
              have t4 : 0 ≤ 32 * (c : Int) + q + 16 := by omega
              have t5 : 32 * (c : Int) + q + 16 < 256 := by omega
              have t6 : (32 * (c : Int) + q + 16).toNat = 32 * c + q + 16 := by omega
              have t7 : IntKind.i64.wrap (y - x) = y - x := IntWalk.i64_in _ (by omega)
              have t8 : IntKind.i64.wrap (x + y) = x + y := IntWalk.i64_in _ (by omega)
              have t9 : IntKind.i64.wrap (z * (y - x)) = z * (y - x) := IntWalk.i64_in _ (by omega)
              go_wp2_with (first | (go_at_call 27; refine (mod27 _ _ (by omega) (by omega)).mono ?_; rintro e w' ⟨rfl, rfl⟩))
              go_roundw
              case rel => exact ⟨q + 1, by omega, by go_num, s2, o1, o3⟩
              case measure => simp [intOf]; omega
            · have e1 : q = 16 := by omega
              subst e1
              have q1 := q1.congr (fun i _ => part_next (32 * c) 16 (ilay 16 F) F i)
              go_wp2
              go_roundw
              case rel => exact ⟨c + 1, by omega, by go_num, by go_num, q1, q2, q3⟩
              case measure => simp [intOf]; omega
        · have e1 : c = 8 := by omega
          subst e1
          have q1 := q1.congr (g := Is (3 + 1) fun i => emod (a i)) (fun i hi => (part_all 16 (ilay 16 F) F i hi).trans (by rw [← HF.out]; rfl))
          go_wp2
          go_roundw
          case rel => exact ⟨3 + 1, 32, 120, _, by unfold Li; simp, rfl, rfl, q1, q2, q3⟩
          case measure => simp [intOf]
    · generalize hF : (Is 4 fun i => emod (a i)) = F at q1
      have hFb : ∀ i, 0 ≤ F i ∧ F i < 3329 := fun i => by rw [← hF]; exact Is_bd _ _ (fun i => emod_bd _) i
      have HF := Lib.hid hF; clear hF
      have HFb := Lib.hid hFb; clear hFb
      go_wp2
      obtain ⟨wo, hwo⟩ : ∃ wo : World, wo = wr := ⟨_, rfl⟩
      go_loopw [4, 6] (fun v4 v6 wr => ∃ c : Nat, c ≤ 4 ∧ v6 = .int .i64 (64 * (c : Int)) ∧ v4 = .int .i64 (7 - (c : Int)) ∧ Row wr w1.heap.size 23 256 (part (Done (64 * c) 32 0) (ilay 32 F) F) ∧ Row wr (w.heap.size + 1) 23 256 (fun _ => 0) ∧ Below w.heap.size w wr) (fun v4 v6 wr => 256 - (intOf v6).toNat)
      case atStart => exact ⟨0, by omega, rfl, by go_num, q1.congr (fun i _ => (part_zero _ _ _ _).symm), q2, q3⟩
      case round =>
        clear q1 q2 q3 hwo wo r5 r6 hb2
        obtain ⟨c, hc, rfl, rfl, q1, q2, q3⟩ := hrel
        by_cases hlt2 : c < 4
        · have hd : decide (64 * (c : Int) < 256) = true := by simp; omega
          have b3 := rt_bd (7 - c)
          generalize hz : rt (7 - c) = z at b3
          have HZ := Lib.hid hz; clear hz
          go_wp2_with (first | (go_at_call 31; refine (turnedi _ (7 - c) (by omega) (by omega) _).mono ?_; rintro e w' ⟨rfl, rfl⟩) | (go_at_call 30; refine (root30 (7 - c) (by omega) _).mono ?_; rintro e w' ⟨rfl, rfl⟩; rw [HZ.out]))
          obtain ⟨wo, hwo⟩ : ∃ wo : World, wo = w' := ⟨_, rfl⟩
          go_loopw [8] (fun v7 wr => ∃ q : Nat, q ≤ 32 ∧ v7 = .int .i64 (64 * (c : Int) + q) ∧ Row wr w1.heap.size 23 256 (part (Done (64 * c) 32 q) (ilay 32 F) F) ∧ Row wr (w.heap.size + 1) 23 256 (fun _ => 0) ∧ Below w.heap.size w wr) (fun v7 wr => 256 - (intOf v7).toNat)
          case atStart => exact ⟨0, by omega, by go_num, q1, q2, q3⟩
          case round =>
            clear q1 q2 q3 hwo wo
            obtain ⟨q, hq, rfl, q1, q2, q3⟩ := hrel
            by_cases hlt3 : q < 32
            · have c1 := q1.cell (64 * c + q) (by omega)
              have c2 := q1.cell (64 * c + q + 32) (by omega)
              have f1 := q1.frozen (64 * c + q)
              rw [show part (Done (64 * c) 32 q) (ilay 32 F) F (64 * c + q) = F (64 * c + q) from if_neg (by unfold Done; omega)] at c1
              rw [show part (Done (64 * c) 32 q) (ilay 32 F) F (64 * c + q + 32) = F (64 * c + q + 32) from if_neg (by unfold Done; omega)] at c2
              have b1 := HFb.out (64 * c + q)
              have b2 := HFb.out (64 * c + q + 32)
              have e1 := ilay_lo 32 c q hlt3 F
              have e2 := ilay_hi 32 c q hlt3 F
              rw [show 256 / 32 - 1 - c = 7 - c by omega, HZ.out] at e2
              simp only [Nat.reduceMul] at e1 e2
              have hst := part_step (64 * c) 32 q hlt3 (ilay 32 F) F _ _ e1.symm e2.symm
              try simp only [Nat.reduceMul] at hst
              have s1 := q1.set (64 * c + q) (emod (F (64 * c + q) + F (64 * c + q + 32)))
              have g1 := s1.cell (64 * c + q + 32) (by omega)
              rw [show upd (part (Done (64 * c) 32 q) (ilay 32 F) F) (64 * c + q) (emod (F (64 * c + q) + F (64 * c + q + 32))) (64 * c + q + 32) = F (64 * c + q + 32) from (if_neg (by omega)).trans (if_neg (by unfold Done; omega))] at g1
              have f2 := s1.frozen (64 * c + q + 32)
              have s2 := (s1.set (64 * c + q + 32) (emod (z * (F (64 * c + q + 32) - F (64 * c + q))))).congr (fun i _ => hst i)
              have o1 := (q2.other ⟨w1.heap.size, 64 * c + q, none⟩ (.int .i64 (emod (F (64 * c + q) + F (64 * c + q + 32)))) (by simp; omega)).other ⟨w1.heap.size, 64 * c + q + 32, none⟩ (.int .i64 (emod (z * (F (64 * c + q + 32) - F (64 * c + q))))) (by simp; omega)
              have o3 := (q3.setCell (p := ⟨w1.heap.size, 64 * c + q, none⟩) (by simp; omega) (.int .i64 (emod (F (64 * c + q) + F (64 * c + q + 32))))).setCell (p := ⟨w1.heap.size, 64 * c + q + 32, none⟩) (by simp; omega) (.int .i64 (emod (z * (F (64 * c + q + 32) - F (64 * c + q)))))
              clear s1 q1 q2 q3 hst e1 e2
              generalize F (64 * c + q) = x at *
              generalize F (64 * c + q + 32) = y at *
              have hzy := abs_mul z (y - x) b3 (by omega)
              have t0 : 0 ≤ 64 * (c : Int) + q := by omega
              have t1 : 64 * (c : Int) + q < 256 := by omega
              have t2 : (64 * (c : Int) + q).toNat = 64 * c + q := by omega
              have t3 : IntKind.i64.wrap (64 * (c : Int) + q + 32) = 64 * (c : Int) + q + 32 := IntWalk.i64_in _ (by omega)
              have t4 : 0 ≤ 64 * (c : Int) + q + 32 := by omega
              have t5 : 64 * (c : Int) + q + 32 < 256 := by omega
              have t6 : (64 * (c : Int) + q + 32).toNat = 64 * c + q + 32 := by omega
              have t7 : IntKind.i64.wrap (y - x) = y - x := IntWalk.i64_in _ (by omega)
              have t8 : IntKind.i64.wrap (x + y) = x + y := IntWalk.i64_in _ (by omega)
              have t9 : IntKind.i64.wrap (z * (y - x)) = z * (y - x) := IntWalk.i64_in _ (by omega)
              go_wp2_with (first | (go_at_call 27; refine (mod27 _ _ (by omega) (by omega)).mono ?_; rintro e w' ⟨rfl, rfl⟩))
              go_roundw
              case rel => exact ⟨q + 1, by omega, by go_num, s2, o1, o3⟩
              case measure => simp [intOf]; omega
            · have e1 : q = 32 := by omega
              subst e1
              have q1 := q1.congr (fun i _ => part_next (64 * c) 32 (ilay 32 F) F i)
              go_wp2
              go_roundw
              case rel => exact ⟨c + 1, by omega, by go_num, by go_num, q1, q2, q3⟩
              case measure => simp [intOf]; omega
        · have e1 : c = 4 := by omega
          subst e1
          have q1 := q1.congr (g := Is (4 + 1) fun i => emod (a i)) (fun i hi => (part_all 32 (ilay 32 F) F i hi).trans (by rw [← HF.out]; rfl))
          go_wp2
          go_roundw
          case rel => exact ⟨4 + 1, 64, 124, _, by unfold Li; simp, rfl, rfl, q1, q2, q3⟩
          case measure => simp [intOf]
    · generalize hF : (Is 5 fun i => emod (a i)) = F at q1
      have hFb : ∀ i, 0 ≤ F i ∧ F i < 3329 := fun i => by rw [← hF]; exact Is_bd _ _ (fun i => emod_bd _) i
      have HF := Lib.hid hF; clear hF
      have HFb := Lib.hid hFb; clear hFb
      go_wp2
      obtain ⟨wo, hwo⟩ : ∃ wo : World, wo = wr := ⟨_, rfl⟩
      go_loopw [4, 6] (fun v4 v6 wr => ∃ c : Nat, c ≤ 2 ∧ v6 = .int .i64 (128 * (c : Int)) ∧ v4 = .int .i64 (3 - (c : Int)) ∧ Row wr w1.heap.size 23 256 (part (Done (128 * c) 64 0) (ilay 64 F) F) ∧ Row wr (w.heap.size + 1) 23 256 (fun _ => 0) ∧ Below w.heap.size w wr) (fun v4 v6 wr => 256 - (intOf v6).toNat)
      case atStart => exact ⟨0, by omega, rfl, by go_num, q1.congr (fun i _ => (part_zero _ _ _ _).symm), q2, q3⟩
      case round =>
        clear q1 q2 q3 hwo wo r5 r6 hb2
        obtain ⟨c, hc, rfl, rfl, q1, q2, q3⟩ := hrel
        by_cases hlt2 : c < 2
        · have hd : decide (128 * (c : Int) < 256) = true := by simp; omega
          have b3 := rt_bd (3 - c)
          generalize hz : rt (3 - c) = z at b3
          have HZ := Lib.hid hz; clear hz
          go_wp2_with (first | (go_at_call 31; refine (turnedi _ (3 - c) (by omega) (by omega) _).mono ?_; rintro e w' ⟨rfl, rfl⟩) | (go_at_call 30; refine (root30 (3 - c) (by omega) _).mono ?_; rintro e w' ⟨rfl, rfl⟩; rw [HZ.out]))
          obtain ⟨wo, hwo⟩ : ∃ wo : World, wo = w' := ⟨_, rfl⟩
          go_loopw [8] (fun v7 wr => ∃ q : Nat, q ≤ 64 ∧ v7 = .int .i64 (128 * (c : Int) + q) ∧ Row wr w1.heap.size 23 256 (part (Done (128 * c) 64 q) (ilay 64 F) F) ∧ Row wr (w.heap.size + 1) 23 256 (fun _ => 0) ∧ Below w.heap.size w wr) (fun v7 wr => 256 - (intOf v7).toNat)
          case atStart => exact ⟨0, by omega, by go_num, q1, q2, q3⟩
          case round =>
            clear q1 q2 q3 hwo wo
            obtain ⟨q, hq, rfl, q1, q2, q3⟩ := hrel
            by_cases hlt3 : q < 64
            · have c1 := q1.cell (128 * c + q) (by omega)
              have c2 := q1.cell (128 * c + q + 64) (by omega)
              have f1 := q1.frozen (128 * c + q)
              rw [show part (Done (128 * c) 64 q) (ilay 64 F) F (128 * c + q) = F (128 * c + q) from if_neg (by unfold Done; omega)] at c1
              rw [show part (Done (128 * c) 64 q) (ilay 64 F) F (128 * c + q + 64) = F (128 * c + q + 64) from if_neg (by unfold Done; omega)] at c2
              have b1 := HFb.out (128 * c + q)
              have b2 := HFb.out (128 * c + q + 64)
              have e1 := ilay_lo 64 c q hlt3 F
              have e2 := ilay_hi 64 c q hlt3 F
              rw [show 256 / 64 - 1 - c = 3 - c by omega, HZ.out] at e2
              simp only [Nat.reduceMul] at e1 e2
              have hst := part_step (128 * c) 64 q hlt3 (ilay 64 F) F _ _ e1.symm e2.symm
              try simp only [Nat.reduceMul] at hst
              have s1 := q1.set (128 * c + q) (emod (F (128 * c + q) + F (128 * c + q + 64)))
              have g1 := s1.cell (128 * c + q + 64) (by omega)
              rw [show upd (part (Done (128 * c) 64 q) (ilay 64 F) F) (128 * c + q) (emod (F (128 * c + q) + F (128 * c + q + 64))) (128 * c + q + 64) = F (128 * c + q + 64) from (if_neg (by omega)).trans (if_neg (by unfold Done; omega))] at g1
              have f2 := s1.frozen (128 * c + q + 64)
              have s2 := (s1.set (128 * c + q + 64) (emod (z * (F (128 * c + q + 64) - F (128 * c + q))))).congr (fun i _ => hst i)
              have o1 := (q2.other ⟨w1.heap.size, 128 * c + q, none⟩ (.int .i64 (emod (F (128 * c + q) + F (128 * c + q + 64)))) (by simp; omega)).other ⟨w1.heap.size, 128 * c + q + 64, none⟩ (.int .i64 (emod (z * (F (128 * c + q + 64) - F (128 * c + q))))) (by simp; omega)
              have o3 := (q3.setCell (p := ⟨w1.heap.size, 128 * c + q, none⟩) (by simp; omega) (.int .i64 (emod (F (128 * c + q) + F (128 * c + q + 64))))).setCell (p := ⟨w1.heap.size, 128 * c + q + 64, none⟩) (by simp; omega) (.int .i64 (emod (z * (F (128 * c + q + 64) - F (128 * c + q)))))
              clear s1 q1 q2 q3 hst e1 e2
              generalize F (128 * c + q) = x at *
              generalize F (128 * c + q + 64) = y at *
              have hzy := abs_mul z (y - x) b3 (by omega)
              have t0 : 0 ≤ 128 * (c : Int) + q := by omega
              have t1 : 128 * (c : Int) + q < 256 := by omega
              have t2 : (128 * (c : Int) + q).toNat = 128 * c + q := by omega
              have t3 : IntKind.i64.wrap (128 * (c : Int) + q + 64) = 128 * (c : Int) + q + 64 := IntWalk.i64_in _ (by omega)
              have t4 : 0 ≤ 128 * (c : Int) + q + 64 := by omega
              have t5 : 128 * (c : Int) + q + 64 < 256 := by omega
              have t6 : (128 * (c : Int) + q + 64).toNat = 128 * c + q + 64 := by omega
              have t7 : IntKind.i64.wrap (y - x) = y - x := IntWalk.i64_in _ (by omega)
              have t8 : IntKind.i64.wrap (x + y) = x + y := IntWalk.i64_in _ (by omega)
              have t9 : IntKind.i64.wrap (z * (y - x)) = z * (y - x) := IntWalk.i64_in _ (by omega)
              go_wp2_with (first | (go_at_call 27; refine (mod27 _ _ (by omega) (by omega)).mono ?_; rintro e w' ⟨rfl, rfl⟩))
              go_roundw
              case rel => exact ⟨q + 1, by omega, by go_num, s2, o1, o3⟩
              case measure => simp [intOf]; omega
            · have e1 : q = 64 := by omega
              subst e1
              have q1 := q1.congr (fun i _ => part_next (128 * c) 64 (ilay 64 F) F i)
              go_wp2
              go_roundw
              case rel => exact ⟨c + 1, by omega, by go_num, by go_num, q1, q2, q3⟩
              case measure => simp [intOf]; omega
        · have e1 : c = 2 := by omega
          subst e1
          have q1 := q1.congr (g := Is (5 + 1) fun i => emod (a i)) (fun i hi => (part_all 64 (ilay 64 F) F i hi).trans (by rw [← HF.out]; rfl))
          go_wp2
          go_roundw
          case rel => exact ⟨5 + 1, 128, 126, _, by unfold Li; simp, rfl, rfl, q1, q2, q3⟩
          case measure => simp [intOf]
    · generalize hF : (Is 6 fun i => emod (a i)) = F at q1
      have hFb : ∀ i, 0 ≤ F i ∧ F i < 3329 := fun i => by rw [← hF]; exact Is_bd _ _ (fun i => emod_bd _) i
      have HF := Lib.hid hF; clear hF
      have HFb := Lib.hid hFb; clear hFb
      go_wp2
      obtain ⟨wo, hwo⟩ : ∃ wo : World, wo = wr := ⟨_, rfl⟩
      go_loopw [4, 6] (fun v4 v6 wr => ∃ c : Nat, c ≤ 1 ∧ v6 = .int .i64 (256 * (c : Int)) ∧ v4 = .int .i64 (1 - (c : Int)) ∧ Row wr w1.heap.size 23 256 (part (Done (256 * c) 128 0) (ilay 128 F) F) ∧ Row wr (w.heap.size + 1) 23 256 (fun _ => 0) ∧ Below w.heap.size w wr) (fun v4 v6 wr => 256 - (intOf v6).toNat)
      case atStart => exact ⟨0, by omega, rfl, by go_num, q1.congr (fun i _ => (part_zero _ _ _ _).symm), q2, q3⟩
      case round =>
        clear q1 q2 q3 hwo wo r5 r6 hb2
        obtain ⟨c, hc, rfl, rfl, q1, q2, q3⟩ := hrel
        by_cases hlt2 : c < 1
        · have hd : decide (256 * (c : Int) < 256) = true := by simp; omega
          have b3 := rt_bd (1 - c)
          generalize hz : rt (1 - c) = z at b3
          have HZ := Lib.hid hz; clear hz
          go_wp2_with (first | (go_at_call 31; refine (turnedi _ (1 - c) (by omega) (by omega) _).mono ?_; rintro e w' ⟨rfl, rfl⟩) | (go_at_call 30; refine (root30 (1 - c) (by omega) _).mono ?_; rintro e w' ⟨rfl, rfl⟩; rw [HZ.out]))
          obtain ⟨wo, hwo⟩ : ∃ wo : World, wo = w' := ⟨_, rfl⟩
          go_loopw [8] (fun v7 wr => ∃ q : Nat, q ≤ 128 ∧ v7 = .int .i64 (256 * (c : Int) + q) ∧ Row wr w1.heap.size 23 256 (part (Done (256 * c) 128 q) (ilay 128 F) F) ∧ Row wr (w.heap.size + 1) 23 256 (fun _ => 0) ∧ Below w.heap.size w wr) (fun v7 wr => 256 - (intOf v7).toNat)
          case atStart => exact ⟨0, by omega, by go_num, q1, q2, q3⟩
          case round =>
            clear q1 q2 q3 hwo wo
            obtain ⟨q, hq, rfl, q1, q2, q3⟩ := hrel
            by_cases hlt3 : q < 128
            · have c1 := q1.cell (256 * c + q) (by omega)
              have c2 := q1.cell (256 * c + q + 128) (by omega)
              have f1 := q1.frozen (256 * c + q)
              rw [show part (Done (256 * c) 128 q) (ilay 128 F) F (256 * c + q) = F (256 * c + q) from if_neg (by unfold Done; omega)] at c1
              rw [show part (Done (256 * c) 128 q) (ilay 128 F) F (256 * c + q + 128) = F (256 * c + q + 128) from if_neg (by unfold Done; omega)] at c2
              have b1 := HFb.out (256 * c + q)
              have b2 := HFb.out (256 * c + q + 128)
              have e1 := ilay_lo 128 c q hlt3 F
              have e2 := ilay_hi 128 c q hlt3 F
              rw [show 256 / 128 - 1 - c = 1 - c by omega, HZ.out] at e2
              simp only [Nat.reduceMul] at e1 e2
              have hst := part_step (256 * c) 128 q hlt3 (ilay 128 F) F _ _ e1.symm e2.symm
              try simp only [Nat.reduceMul] at hst
              have s1 := q1.set (256 * c + q) (emod (F (256 * c + q) + F (256 * c + q + 128)))
              have g1 := s1.cell (256 * c + q + 128) (by omega)
              rw [show upd (part (Done (256 * c) 128 q) (ilay 128 F) F) (256 * c + q) (emod (F (256 * c + q) + F (256 * c + q + 128))) (256 * c + q + 128) = F (256 * c + q + 128) from (if_neg (by omega)).trans (if_neg (by unfold Done; omega))] at g1
              have f2 := s1.frozen (256 * c + q + 128)
              have s2 := (s1.set (256 * c + q + 128) (emod (z * (F (256 * c + q + 128) - F (256 * c + q))))).congr (fun i _ => hst i)
              have o1 := (q2.other ⟨w1.heap.size, 256 * c + q, none⟩ (.int .i64 (emod (F (256 * c + q) + F (256 * c + q + 128)))) (by simp; omega)).other ⟨w1.heap.size, 256 * c + q + 128, none⟩ (.int .i64 (emod (z * (F (256 * c + q + 128) - F (256 * c + q))))) (by simp; omega)
              have o3 := (q3.setCell (p := ⟨w1.heap.size, 256 * c + q, none⟩) (by simp; omega) (.int .i64 (emod (F (256 * c + q) + F (256 * c + q + 128))))).setCell (p := ⟨w1.heap.size, 256 * c + q + 128, none⟩) (by simp; omega) (.int .i64 (emod (z * (F (256 * c + q + 128) - F (256 * c + q)))))
              clear s1 q1 q2 q3 hst e1 e2
              generalize F (256 * c + q) = x at *
              generalize F (256 * c + q + 128) = y at *
              have hzy := abs_mul z (y - x) b3 (by omega)
              have t0 : 0 ≤ 256 * (c : Int) + q := by omega
              have t1 : 256 * (c : Int) + q < 256 := by omega
              have t2 : (256 * (c : Int) + q).toNat = 256 * c + q := by omega
              have t3 : IntKind.i64.wrap (256 * (c : Int) + q + 128) = 256 * (c : Int) + q + 128 := IntWalk.i64_in _ (by omega)
              have t4 : 0 ≤ 256 * (c : Int) + q + 128 := by omega
              have t5 : 256 * (c : Int) + q + 128 < 256 := by omega
              have t6 : (256 * (c : Int) + q + 128).toNat = 256 * c + q + 128 := by omega
              have t7 : IntKind.i64.wrap (y - x) = y - x := IntWalk.i64_in _ (by omega)
              have t8 : IntKind.i64.wrap (x + y) = x + y := IntWalk.i64_in _ (by omega)
              have t9 : IntKind.i64.wrap (z * (y - x)) = z * (y - x) := IntWalk.i64_in _ (by omega)
              go_wp2_with (first | (go_at_call 27; refine (mod27 _ _ (by omega) (by omega)).mono ?_; rintro e w' ⟨rfl, rfl⟩))
              go_roundw
              case rel => exact ⟨q + 1, by omega, by go_num, s2, o1, o3⟩
              case measure => simp [intOf]; omega
            · have e1 : q = 128 := by omega
              subst e1
              have q1 := q1.congr (fun i _ => part_next (256 * c) 128 (ilay 128 F) F i)
              go_wp2
              go_roundw
              case rel => exact ⟨c + 1, by omega, by go_num, by go_num, q1, q2, q3⟩
              case measure => simp [intOf]; omega
        · have e1 : c = 1 := by omega
          subst e1
          have q1 := q1.congr (g := Is (6 + 1) fun i => emod (a i)) (fun i hi => (part_all 128 (ilay 128 F) F i hi).trans (by rw [← HF.out]; rfl))
          go_wp2
          go_roundw
          case rel => exact ⟨6 + 1, 256, 127, _, by unfold Li; simp, rfl, rfl, q1, q2, q3⟩
          case measure => simp [intOf]
    · generalize hF : (Is 7 fun i => emod (a i)) = F at q1
      have hFb : ∀ i, 0 ≤ F i ∧ F i < 3329 := fun i => by rw [← hF]; exact Is_bd _ _ (fun i => emod_bd _) i
      have HF := Lib.hid hF; clear hF
      have HFb := Lib.hid hFb; clear hFb
      go_wp2
      obtain ⟨wo, hwo⟩ : ∃ wo : World, wo = wr := ⟨_, rfl⟩
      go_loopw [10] (fun v wr => ∃ k : Nat, k ≤ 256 ∧ v = .int .i64 (k : Int) ∧ Row wr w1.heap.size 23 256 (mix k (fun i => emod (3303 * F i)) F) ∧ Row wr (w.heap.size + 1) 23 256 (fun _ => 0) ∧ Below w.heap.size w wr) (fun v wr => 256 - (intOf v).toNat)
      case atStart => exact ⟨0, by omega, rfl, q1.congr (fun i _ => rfl), q2, q3⟩
      case round =>
        clear q1 q2 q3 hwo wo r5 r6 hb2
        obtain ⟨k, hk, rfl, q1, q2, q3⟩ := hrel
        by_cases hlt : k < 256
        · have c1 := q1.cell k (by omega)
          have f1 := q1.frozen k
          rw [show mix k (fun i => emod (3303 * F i)) F k = F k by simp [mix]] at c1
          have b1 := HFb.out k
          have s1 := (q1.set k (emod (3303 * F k))).congr (fun i _ => mix_succ k (fun i => emod (3303 * F i)) F i)
          have o1 := q2.other ⟨w1.heap.size, k, none⟩ (.int .i64 (emod (3303 * F k))) (by simp; omega)
          have o3 := q3.setCell (p := ⟨w1.heap.size, k, none⟩) (by simp; omega) (.int .i64 (emod (3303 * F k)))
          have t1 : IntKind.i64.wrap (F k * 3303) = F k * 3303 := IntWalk.i64_in _ (by omega)
          have t2 : (F k * 3303).tmod 3329 = emod (3303 * F k) := by rw [Int.tmod_eq_emod_of_nonneg (by omega), Int.mul_comm]; rfl
          have t3 : F k * 3303 % 3329 = emod (3303 * F k) := by rw [Int.mul_comm]; rfl
          clear q1 q2 q3
          generalize emod (3303 * F k) = n at *
          generalize F k = x at *
          go_wp2
          go_roundw
          case rel => exact ⟨k + 1, by omega, by go_num, s1, o1, o3⟩
          case measure => simp [intOf]; omega
        · have e1 : k = 256 := by omega
          subst e1
          have q1 := q1.congr (g := inv a) (fun i hi => by simp [mix, hi, inv, HF.out])
          have rb := below_setRow q3 (g := w.heap.size + 1) (by omega) (arr 256 (inv a))
          have r4 := q2.setRow (m := 256) (inv a)
          go_wp2_with (first | (with_reducible refine load23 rfl (.tmp 3) rfl w1.heap.size rfl q1 ?_) | (with_reducible refine store23 rfl (.tmp 2) (.tmp 74) rfl (w.heap.size + 1) _ rfl rfl q2 ?_))
          exact ret23 rfl (w.heap.size + 1) rfl r4 rfl ⟨rfl, rb⟩
end Go.Proofs.YtopkmkkohmkceaaDoor
