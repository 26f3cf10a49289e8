/- The document's own transform, walked. -/
import Derived.Test.YtopkmkkohmkceaaDoorR
namespace Go.Proofs.YtopkmkkohmkceaaDoor
open Go.ChangeShapes Go.WideShapes Go.ChangeAt Go.RowKit
set_option linter.unusedSimpArgs false
set_option linter.unusedVariables false

theorem turnedi (x : Int) (n : Nat) (hx : x = n) (hn : n < 128) (w : World) : Calls Tryd.prog 31 #[.int .i64 x] w fun e w' => e = .returned (.int .i64 (tn n 7 : Nat)) ∧ w' = w := by
  subst hx; exact turned31 n hn w
theorem root30 (n : Nat) (hn : n < 128) (w : World) : Calls Tryd.prog 30 #[.int .i64 17, .int .i64 (tn n 7 : Nat)] w fun e w' => e = .returned (.int .i64 (rt n)) ∧ w' = w := by
  rw [← (root_all n hn).1]; exact power30 _ (by have := (root_all n hn).2.2; omega) w
theorem part_step2 (s n q : Nat) (hq : q < n) (F f : Nat → Int) (v1 v2 : Int) (h1 : v1 = F (s + q)) (h2 : v2 = F (s + q + n)) (i : Nat) :
    upd (upd (part (Done s n q) F f) (s + q + n) v2) (s + q) v1 i = part (Done s n (q + 1)) F f i := by
  rw [← part_step s n q hq F f v1 v2 h1 h2 i]; unfold upd; split <;> split <;> first | rfl | omega

set_option maxRecDepth 20000 in
set_option maxHeartbeats 8000000 in
theorem ntt20 (a : Nat → Int) (w : World) (ha : I64 a) : Calls Tryd.prog 20 #[.agg (arr 256 a)] w fun e w' => e = .returned (.agg (arr 256 (ntt a))) ∧ Below w.heap.size w w' := by
  have hz := zero23
  have r1 := (Row.new w 23 256 a).alloc (.cells (arr 256 fun _ => 0) 23)
  have r2 : Row ((w.alloc (.cells (arr 256 a) 23)).alloc (.cells (arr 256 fun _ => 0) 23)) (w.heap.size + 1) 23 256 (fun _ => 0) := by
    have := Row.new (w.alloc (.cells (arr 256 a) 23)) 23 256 (fun _ => 0)
    simpa using this
  have hb0 : Below w.heap.size w ((w.alloc (.cells (arr 256 a) 23)).alloc (.cells (arr 256 fun _ => 0) 23)) := ((Below.refl _ _).alloc (Nat.le_refl _) _).alloc (by simp) _
  have hsz : ((w.alloc (.cells (arr 256 a) 23)).alloc (.cells (arr 256 fun _ => 0) 23)).heap.size = w.heap.size + 2 := by simp
  have HS := Lib.hid hsz; clear hsz
  go_enter Tryd.func20, Tryd.ntmps20
  go_wp2_with (first | (with_reducible refine load23 rfl (.tmp 1) rfl w.heap.size rfl r1 ?_))
  refine (rmod16 a _ ha).mono ?_
  rintro e w1 ⟨rfl, hb⟩
  rw [HS.out] at hb
  have r3 := r2.below hb (by omega)
  have hb1 := hb0.trans (hb.mono (by omega))
  have hs1 := hb.size
  rw [HS.out] at hs1
  clear r1 r2 hb hb0
  have r4 := Row.new w1 23 256 (fun _ => 0)
  have r5 := r4.setRow (m := 256) (fun i => emod (a i))
  have r6 := (r3.alloc (.cells (arr 256 fun _ => 0) 23)).setRow_other (c := w1.heap.size) (arr 256 fun i => emod (a i)) (by omega)
  have hb2 := below_setRow (hb1.alloc (by omega) (.cells (arr 256 fun _ => 0) 23)) (g := w1.heap.size) (by omega) (arr 256 fun i => emod (a i))
  go_wp2_with (first | (with_reducible refine store23 rfl (.tmp 3) (.tmp 11) rfl w1.heap.size _ rfl rfl r4 ?_))
  clear r3 r4 hb1
  generalize (w1.alloc (.cells (arr 256 fun _ => 0) 23)).setRow w1.heap.size (arr 256 fun i => emod (a i)) = w2 at *
  clear hz
  go_loopw [4, 5] (fun v4 v5 wr => ∃ (m N D : Nat) (V : Int), Lv m N D V ∧ v5 = .int .i64 V ∧ v4 = .int .i64 (1 + (D : Int)) ∧ Row wr w1.heap.size 23 256 (Ls m fun i => emod (a i)) ∧ Row wr (w.heap.size + 1) 23 256 (fun _ => 0) ∧ Below w.heap.size w wr) (fun v4 v5 wr => (intOf v5).toNat)
  case atStart => exact ⟨0, 128, 0, 128, .inl ⟨rfl, rfl, rfl, rfl⟩, rfl, rfl, r5, r6, hb2⟩
  case round =>
    obtain ⟨m, N, D, V, hL, rfl, rfl, q1, q2, q3⟩ := hrel
    rcases hL with ⟨rfl, rfl, rfl, rfl⟩ | ⟨rfl, rfl, rfl, rfl⟩ | ⟨rfl, rfl, rfl, rfl⟩ | ⟨rfl, rfl, rfl, rfl⟩ | ⟨rfl, rfl, rfl, rfl⟩ | ⟨rfl, rfl, rfl, rfl⟩ | ⟨rfl, rfl, rfl, rfl⟩ | ⟨rfl, rfl, rfl, rfl⟩
    · generalize hF : (Ls 0 fun i => emod (a i)) = F at q1
      have hFb : ∀ i, 0 ≤ F i ∧ F i < 3329 := fun i => by rw [← hF]; exact Ls_bd _ _ (fun i => emod_bd _) i
      have HF := Lib.hid hF; clear hF
      have HFb := Lib.hid hFb; clear hFb
      go_wp2
      obtain ⟨wo, hwo⟩ : ∃ wo : World, wo = wr := ⟨_, rfl⟩
      go_loopw [4, 6] (fun v4 v6 wr => ∃ c : Nat, c ≤ 1 ∧ v6 = .int .i64 (256 * (c : Int)) ∧ v4 = .int .i64 (1 + (c : Int)) ∧ Row wr w1.heap.size 23 256 (part (Done (256 * c) 128 0) (lay 128 F) F) ∧ Row wr (w.heap.size + 1) 23 256 (fun _ => 0) ∧ Below w.heap.size w wr) (fun v4 v6 wr => 256 - (intOf v6).toNat)
      case atStart => exact ⟨0, by omega, rfl, by go_num, q1.congr (fun i _ => (part_zero _ _ _ _).symm), q2, q3⟩
      case round =>
        clear q1 q2 q3 hwo wo r5 r6 hb2
        obtain ⟨c, hc, rfl, rfl, q1, q2, q3⟩ := hrel
        by_cases hlt2 : c < 1
        · have hd : decide (256 * (c : Int) < 256) = true := by simp; omega
          have b3 := rt_bd (1 + c)
          have hz : rt (1 + c) = rt (1 + c) := rfl
          generalize hz : rt (1 + c) = z at b3
          have HZ := Lib.hid hz; clear hz
          go_wp2_with (first | (go_at_call 31; refine (turnedi _ (1 + c) (by omega) (by omega) _).mono ?_; rintro e w' ⟨rfl, rfl⟩) | (go_at_call 30; refine (root30 (1 + c) (by omega) _).mono ?_; rintro e w' ⟨rfl, rfl⟩; rw [HZ.out]))
          obtain ⟨wo, hwo⟩ : ∃ wo : World, wo = w' := ⟨_, rfl⟩
          go_loopw [8] (fun v7 wr => ∃ q : Nat, q ≤ 128 ∧ v7 = .int .i64 (256 * (c : Int) + q) ∧ Row wr w1.heap.size 23 256 (part (Done (256 * c) 128 q) (lay 128 F) F) ∧ Row wr (w.heap.size + 1) 23 256 (fun _ => 0) ∧ Below w.heap.size w wr) (fun v7 wr => 256 - (intOf v7).toNat)
          case atStart => exact ⟨0, by omega, by go_num, q1, q2, q3⟩
          case round =>
            clear q1 q2 q3 hwo wo
            obtain ⟨q, hq, rfl, q1, q2, q3⟩ := hrel
            by_cases hlt3 : q < 128
            · have c1 := q1.cell (256 * c + q) (by omega)
              have c2 := q1.cell (256 * c + q + 128) (by omega)
              have f2 := q1.frozen (256 * c + q + 128)
              rw [show part (Done (256 * c) 128 q) (lay 128 F) F (256 * c + q) = F (256 * c + q) from if_neg (by unfold Done; omega)] at c1
              rw [show part (Done (256 * c) 128 q) (lay 128 F) F (256 * c + q + 128) = F (256 * c + q + 128) from if_neg (by unfold Done; omega)] at c2
              have b1 := HFb.out (256 * c + q)
              have b2 := HFb.out (256 * c + q + 128)
              have e1 := lay_lo 128 c q hlt3 F
              have e2 := lay_hi 128 c q hlt3 F
              rw [show 128 / 128 + c = 1 + c by omega, HZ.out] at e1 e2
              simp only [Nat.reduceMul] at e1 e2
              have hst := part_step2 (256 * c) 128 q hlt3 (lay 128 F) F (emod (F (256 * c + q) + emod (z * F (256 * c + q + 128)))) (emod (F (256 * c + q) - emod (z * F (256 * c + q + 128)))) (by rw [e1]; unfold emod; omega) (by rw [e2]; unfold emod; omega)
              have s1 := q1.set (256 * c + q + 128) (emod (F (256 * c + q) - emod (z * F (256 * c + q + 128))))
              have g1 := s1.cell (256 * c + q) (by omega)
              rw [show upd (part (Done (256 * c) 128 q) (lay 128 F) F) (256 * c + q + 128) (emod (F (256 * c + q) - emod (z * F (256 * c + q + 128)))) (256 * c + q) = F (256 * c + q) from (if_neg (by omega)).trans (if_neg (by unfold Done; omega))] at g1
              have f1 := s1.frozen (256 * c + q)
              have s2 := (s1.set (256 * c + q) (emod (F (256 * c + q) + emod (z * F (256 * c + q + 128))))).congr (fun i _ => hst i)
              have o1 := (q2.other ⟨w1.heap.size, 256 * c + q + 128, none⟩ (.int .i64 (emod (F (256 * c + q) - emod (z * F (256 * c + q + 128))))) (by simp; omega)).other ⟨w1.heap.size, 256 * c + q, none⟩ (.int .i64 (emod (F (256 * c + q) + emod (z * F (256 * c + q + 128))))) (by simp; omega)
              have o3 := (q3.setCell (p := ⟨w1.heap.size, 256 * c + q + 128, none⟩) (by simp; omega) (.int .i64 (emod (F (256 * c + q) - emod (z * F (256 * c + q + 128)))))).setCell (p := ⟨w1.heap.size, 256 * c + q, none⟩) (by simp; omega) (.int .i64 (emod (F (256 * c + q) + emod (z * F (256 * c + q + 128)))))
              clear s1 q1 q2 q3 hst e1 e2
              generalize F (256 * c + q) = x at *
              generalize F (256 * c + q + 128) = y at *
              have hzy := mul_bd z y b3 b2
              have hzy' : IntKind.i64.wrap (z * y) = z * y := IntWalk.i64_in _ (by omega)
              have hzt : (z * y).tmod 3329 = emod (z * y) := Int.tmod_eq_emod_of_nonneg hzy.1
              have hzu : z * y % 3329 = emod (z * y) := rfl
              have b4 := emod_bd (z * y)
              generalize emod (z * y) = t at *
              have t0 : 0 ≤ 256 * (c : Int) + q := by omega
              have t1 : 256 * (c : Int) + q < 256 := by omega
              have t2 : (256 * (c : Int) + q).toNat = 256 * c + q := by omega
              have t3 : IntKind.i64.wrap (256 * (c : Int) + q + 128) = 256 * (c : Int) + q + 128 := IntWalk.i64_in _ (by omega)
              have t4 : 0 ≤ 256 * (c : Int) + q + 128 := by omega
              have t5 : 256 * (c : Int) + q + 128 < 256 := by omega
              have t6 : (256 * (c : Int) + q + 128).toNat = 256 * c + q + 128 := by omega
              have t8 : IntKind.i64.wrap (x + t) = x + t := IntWalk.i64_in _ (by omega)
              have t9 : IntKind.i64.wrap (x - t) = x - t := IntWalk.i64_in _ (by omega)
              go_wp2_with (first | (go_at_call 27; refine (mod27 _ _ (by omega) (by omega)).mono ?_; rintro e w' ⟨rfl, rfl⟩))
              go_roundw
              case rel => exact ⟨q + 1, by omega, by go_num, s2, o1, o3⟩
              case measure => simp [intOf]; omega
            · have e1 : q = 128 := by omega
              subst e1
              have q1 := q1.congr (fun i _ => part_next (256 * c) 128 (lay 128 F) F i)
              go_wp2
              go_roundw
              case rel => exact ⟨c + 1, by omega, by go_num, by go_num, q1, q2, q3⟩
              case measure => simp [intOf]; omega
        · have e1 : c = 1 := by omega
          subst e1
          have q1 := q1.congr (g := Ls (0 + 1) fun i => emod (a i)) (fun i hi => (part_all 128 (lay 128 F) F i hi).trans (by rw [← HF.out]; rfl))
          go_wp2
          go_roundw
          case rel => exact ⟨0 + 1, 64, 1, _, by unfold Lv; simp, rfl, rfl, q1, q2, q3⟩
          case measure => simp [intOf]
    · generalize hF : (Ls 1 fun i => emod (a i)) = F at q1
      have hFb : ∀ i, 0 ≤ F i ∧ F i < 3329 := fun i => by rw [← hF]; exact Ls_bd _ _ (fun i => emod_bd _) i
      have HF := Lib.hid hF; clear hF
      have HFb := Lib.hid hFb; clear hFb
      go_wp2
      obtain ⟨wo, hwo⟩ : ∃ wo : World, wo = wr := ⟨_, rfl⟩
      go_loopw [4, 6] (fun v4 v6 wr => ∃ c : Nat, c ≤ 2 ∧ v6 = .int .i64 (128 * (c : Int)) ∧ v4 = .int .i64 (2 + (c : Int)) ∧ Row wr w1.heap.size 23 256 (part (Done (128 * c) 64 0) (lay 64 F) F) ∧ Row wr (w.heap.size + 1) 23 256 (fun _ => 0) ∧ Below w.heap.size w wr) (fun v4 v6 wr => 256 - (intOf v6).toNat)
      case atStart => exact ⟨0, by omega, rfl, by go_num, q1.congr (fun i _ => (part_zero _ _ _ _).symm), q2, q3⟩
      case round =>
        clear q1 q2 q3 hwo wo r5 r6 hb2
        obtain ⟨c, hc, rfl, rfl, q1, q2, q3⟩ := hrel
        by_cases hlt2 : c < 2
        · have hd : decide (128 * (c : Int) < 256) = true := by simp; omega
          have b3 := rt_bd (1 + (1 + c))
          have hz : rt (1 + (1 + c)) = rt (1 + (1 + c)) := rfl
          generalize hz : rt (1 + (1 + c)) = z at b3
          have HZ := Lib.hid hz; clear hz
          go_wp2_with (first | (go_at_call 31; refine (turnedi _ (1 + (1 + c)) (by omega) (by omega) _).mono ?_; rintro e w' ⟨rfl, rfl⟩) | (go_at_call 30; refine (root30 (1 + (1 + c)) (by omega) _).mono ?_; rintro e w' ⟨rfl, rfl⟩; rw [HZ.out]))
          obtain ⟨wo, hwo⟩ : ∃ wo : World, wo = w' := ⟨_, rfl⟩
          go_loopw [8] (fun v7 wr => ∃ q : Nat, q ≤ 64 ∧ v7 = .int .i64 (128 * (c : Int) + q) ∧ Row wr w1.heap.size 23 256 (part (Done (128 * c) 64 q) (lay 64 F) F) ∧ Row wr (w.heap.size + 1) 23 256 (fun _ => 0) ∧ Below w.heap.size w wr) (fun v7 wr => 256 - (intOf v7).toNat)
          case atStart => exact ⟨0, by omega, by go_num, q1, q2, q3⟩
          case round =>
            clear q1 q2 q3 hwo wo
            obtain ⟨q, hq, rfl, q1, q2, q3⟩ := hrel
            by_cases hlt3 : q < 64
            · have c1 := q1.cell (128 * c + q) (by omega)
              have c2 := q1.cell (128 * c + q + 64) (by omega)
              have f2 := q1.frozen (128 * c + q + 64)
              rw [show part (Done (128 * c) 64 q) (lay 64 F) F (128 * c + q) = F (128 * c + q) from if_neg (by unfold Done; omega)] at c1
              rw [show part (Done (128 * c) 64 q) (lay 64 F) F (128 * c + q + 64) = F (128 * c + q + 64) from if_neg (by unfold Done; omega)] at c2
              have b1 := HFb.out (128 * c + q)
              have b2 := HFb.out (128 * c + q + 64)
              have e1 := lay_lo 64 c q hlt3 F
              have e2 := lay_hi 64 c q hlt3 F
              rw [show 128 / 64 + c = 1 + (1 + c) by omega, HZ.out] at e1 e2
              simp only [Nat.reduceMul] at e1 e2
              have hst := part_step2 (128 * c) 64 q hlt3 (lay 64 F) F (emod (F (128 * c + q) + emod (z * F (128 * c + q + 64)))) (emod (F (128 * c + q) - emod (z * F (128 * c + q + 64)))) (by rw [e1]; unfold emod; omega) (by rw [e2]; unfold emod; omega)
              have s1 := q1.set (128 * c + q + 64) (emod (F (128 * c + q) - emod (z * F (128 * c + q + 64))))
              have g1 := s1.cell (128 * c + q) (by omega)
              rw [show upd (part (Done (128 * c) 64 q) (lay 64 F) F) (128 * c + q + 64) (emod (F (128 * c + q) - emod (z * F (128 * c + q + 64)))) (128 * c + q) = F (128 * c + q) from (if_neg (by omega)).trans (if_neg (by unfold Done; omega))] at g1
              have f1 := s1.frozen (128 * c + q)
              have s2 := (s1.set (128 * c + q) (emod (F (128 * c + q) + emod (z * F (128 * c + q + 64))))).congr (fun i _ => hst i)
              have o1 := (q2.other ⟨w1.heap.size, 128 * c + q + 64, none⟩ (.int .i64 (emod (F (128 * c + q) - emod (z * F (128 * c + q + 64))))) (by simp; omega)).other ⟨w1.heap.size, 128 * c + q, none⟩ (.int .i64 (emod (F (128 * c + q) + emod (z * F (128 * c + q + 64))))) (by simp; omega)
              have o3 := (q3.setCell (p := ⟨w1.heap.size, 128 * c + q + 64, none⟩) (by simp; omega) (.int .i64 (emod (F (128 * c + q) - emod (z * F (128 * c + q + 64)))))).setCell (p := ⟨w1.heap.size, 128 * c + q, none⟩) (by simp; omega) (.int .i64 (emod (F (128 * c + q) + emod (z * F (128 * c + q + 64)))))
              clear s1 q1 q2 q3 hst e1 e2
              generalize F (128 * c + q) = x at *
              generalize F (128 * c + q + 64) = y at *
              have hzy := mul_bd z y b3 b2
              have hzy' : IntKind.i64.wrap (z * y) = z * y := IntWalk.i64_in _ (by omega)
              have hzt : (z * y).tmod 3329 = emod (z * y) := Int.tmod_eq_emod_of_nonneg hzy.1
              have hzu : z * y % 3329 = emod (z * y) := rfl
              have b4 := emod_bd (z * y)
              generalize emod (z * y) = t at *
              have t0 : 0 ≤ 128 * (c : Int) + q := by omega
              have t1 : 128 * (c : Int) + q < 256 := by omega
              have t2 : (128 * (c : Int) + q).toNat = 128 * c + q := by omega
              have t3 : IntKind.i64.wrap (128 * (c : Int) + q + 64) = 128 * (c : Int) + q + 64 := IntWalk.i64_in _ (by omega)
              have t4 : 0 ≤ 128 * (c : Int) + q + 64 := by omega
              have t5 : 128 * (c : Int) + q + 64 < 256 := by omega
              have t6 : (128 * (c : Int) + q + 64).toNat = 128 * c + q + 64 := by omega
              have t8 : IntKind.i64.wrap (x + t) = x + t := IntWalk.i64_in _ (by omega)
              have t9 : IntKind.i64.wrap (x - t) = x - t := IntWalk.i64_in _ (by omega)
              go_wp2_with (first | (go_at_call 27; refine (mod27 _ _ (by omega) (by omega)).mono ?_; rintro e w' ⟨rfl, rfl⟩))
              go_roundw
              case rel => exact ⟨q + 1, by omega, by go_num, s2, o1, o3⟩
              case measure => simp [intOf]; omega
            · have e1 : q = 64 := by omega
              subst e1
              have q1 := q1.congr (fun i _ => part_next (128 * c) 64 (lay 64 F) F i)
              go_wp2
              go_roundw
              case rel => exact ⟨c + 1, by omega, by go_num, by go_num, q1, q2, q3⟩
              case measure => simp [intOf]; omega
        · have e1 : c = 2 := by omega
          subst e1
          have q1 := q1.congr (g := Ls (1 + 1) fun i => emod (a i)) (fun i hi => (part_all 64 (lay 64 F) F i hi).trans (by rw [← HF.out]; rfl))
          go_wp2
          go_roundw
          case rel => exact ⟨1 + 1, 32, 3, _, by unfold Lv; simp, rfl, rfl, q1, q2, q3⟩
          case measure => simp [intOf]
    · generalize hF : (Ls 2 fun i => emod (a i)) = F at q1
      have hFb : ∀ i, 0 ≤ F i ∧ F i < 3329 := fun i => by rw [← hF]; exact Ls_bd _ _ (fun i => emod_bd _) i
      have HF := Lib.hid hF; clear hF
      have HFb := Lib.hid hFb; clear hFb
      go_wp2
      obtain ⟨wo, hwo⟩ : ∃ wo : World, wo = wr := ⟨_, rfl⟩
      go_loopw [4, 6] (fun v4 v6 wr => ∃ c : Nat, c ≤ 4 ∧ v6 = .int .i64 (64 * (c : Int)) ∧ v4 = .int .i64 (4 + (c : Int)) ∧ Row wr w1.heap.size 23 256 (part (Done (64 * c) 32 0) (lay 32 F) F) ∧ Row wr (w.heap.size + 1) 23 256 (fun _ => 0) ∧ Below w.heap.size w wr) (fun v4 v6 wr => 256 - (intOf v6).toNat)
      case atStart => exact ⟨0, by omega, rfl, by go_num, q1.congr (fun i _ => (part_zero _ _ _ _).symm), q2, q3⟩
      case round =>
        clear q1 q2 q3 hwo wo r5 r6 hb2
        obtain ⟨c, hc, rfl, rfl, q1, q2, q3⟩ := hrel
        by_cases hlt2 : c < 4
        · have hd : decide (64 * (c : Int) < 256) = true := by simp; omega
          have b3 := rt_bd (1 + (3 + c))
          have hz : rt (1 + (3 + c)) = rt (1 + (3 + c)) := rfl
          generalize hz : rt (1 + (3 + c)) = z at b3
          have HZ := Lib.hid hz; clear hz
          go_wp2_with (first | (go_at_call 31; refine (turnedi _ (1 + (3 + c)) (by omega) (by omega) _).mono ?_; rintro e w' ⟨rfl, rfl⟩) | (go_at_call 30; refine (root30 (1 + (3 + c)) (by omega) _).mono ?_; rintro e w' ⟨rfl, rfl⟩; rw [HZ.out]))
          obtain ⟨wo, hwo⟩ : ∃ wo : World, wo = w' := ⟨_, rfl⟩
          go_loopw [8] (fun v7 wr => ∃ q : Nat, q ≤ 32 ∧ v7 = .int .i64 (64 * (c : Int) + q) ∧ Row wr w1.heap.size 23 256 (part (Done (64 * c) 32 q) (lay 32 F) F) ∧ Row wr (w.heap.size + 1) 23 256 (fun _ => 0) ∧ Below w.heap.size w wr) (fun v7 wr => 256 - (intOf v7).toNat)
          case atStart => exact ⟨0, by omega, by go_num, q1, q2, q3⟩
          case round =>
            clear q1 q2 q3 hwo wo
            obtain ⟨q, hq, rfl, q1, q2, q3⟩ := hrel
            by_cases hlt3 : q < 32
            · have c1 := q1.cell (64 * c + q) (by omega)
              have c2 := q1.cell (64 * c + q + 32) (by omega)
              have f2 := q1.frozen (64 * c + q + 32)
              rw [show part (Done (64 * c) 32 q) (lay 32 F) F (64 * c + q) = F (64 * c + q) from if_neg (by unfold Done; omega)] at c1
              rw [show part (Done (64 * c) 32 q) (lay 32 F) F (64 * c + q + 32) = F (64 * c + q + 32) from if_neg (by unfold Done; omega)] at c2
              have b1 := HFb.out (64 * c + q)
              have b2 := HFb.out (64 * c + q + 32)
              have e1 := lay_lo 32 c q hlt3 F
              have e2 := lay_hi 32 c q hlt3 F
              rw [show 128 / 32 + c = 1 + (3 + c) by omega, HZ.out] at e1 e2
              simp only [Nat.reduceMul] at e1 e2
              have hst := part_step2 (64 * c) 32 q hlt3 (lay 32 F) F (emod (F (64 * c + q) + emod (z * F (64 * c + q + 32)))) (emod (F (64 * c + q) - emod (z * F (64 * c + q + 32)))) (by rw [e1]; unfold emod; omega) (by rw [e2]; unfold emod; omega)
              have s1 := q1.set (64 * c + q + 32) (emod (F (64 * c + q) - emod (z * F (64 * c + q + 32))))
              have g1 := s1.cell (64 * c + q) (by omega)
              rw [show upd (part (Done (64 * c) 32 q) (lay 32 F) F) (64 * c + q + 32) (emod (F (64 * c + q) - emod (z * F (64 * c + q + 32)))) (64 * c + q) = F (64 * c + q) from (if_neg (by omega)).trans (if_neg (by unfold Done; omega))] at g1
              have f1 := s1.frozen (64 * c + q)
              have s2 := (s1.set (64 * c + q) (emod (F (64 * c + q) + emod (z * F (64 * c + q + 32))))).congr (fun i _ => hst i)
              have o1 := (q2.other ⟨w1.heap.size, 64 * c + q + 32, none⟩ (.int .i64 (emod (F (64 * c + q) - emod (z * F (64 * c + q + 32))))) (by simp; omega)).other ⟨w1.heap.size, 64 * c + q, none⟩ (.int .i64 (emod (F (64 * c + q) + emod (z * F (64 * c + q + 32))))) (by simp; omega)
              have o3 := (q3.setCell (p := ⟨w1.heap.size, 64 * c + q + 32, none⟩) (by simp; omega) (.int .i64 (emod (F (64 * c + q) - emod (z * F (64 * c + q + 32)))))).setCell (p := ⟨w1.heap.size, 64 * c + q, none⟩) (by simp; omega) (.int .i64 (emod (F (64 * c + q) + emod (z * F (64 * c + q + 32)))))
              clear s1 q1 q2 q3 hst e1 e2
              generalize F (64 * c + q) = x at *
              generalize F (64 * c + q + 32) = y at *
              have hzy := mul_bd z y b3 b2
              have hzy' : IntKind.i64.wrap (z * y) = z * y := IntWalk.i64_in _ (by omega)
              have hzt : (z * y).tmod 3329 = emod (z * y) := Int.tmod_eq_emod_of_nonneg hzy.1
              have hzu : z * y % 3329 = emod (z * y) := rfl
              have b4 := emod_bd (z * y)
              generalize emod (z * y) = t at *
              have t0 : 0 ≤ 64 * (c : Int) + q := by omega
              have t1 : 64 * (c : Int) + q < 256 := by omega
              have t2 : (64 * (c : Int) + q).toNat = 64 * c + q := by omega
              have t3 : IntKind.i64.wrap (64 * (c : Int) + q + 32) = 64 * (c : Int) + q + 32 := IntWalk.i64_in _ (by omega)
              have t4 : 0 ≤ 64 * (c : Int) + q + 32 := by omega
              have t5 : 64 * (c : Int) + q + 32 < 256 := by omega
              have t6 : (64 * (c : Int) + q + 32).toNat = 64 * c + q + 32 := by omega
              have t8 : IntKind.i64.wrap (x + t) = x + t := IntWalk.i64_in _ (by omega)
              have t9 : IntKind.i64.wrap (x - t) = x - t := IntWalk.i64_in _ (by omega)
              go_wp2_with (first | (go_at_call 27; refine (mod27 _ _ (by omega) (by omega)).mono ?_; rintro e w' ⟨rfl, rfl⟩))
              go_roundw
              case rel => exact ⟨q + 1, by omega, by go_num, s2, o1, o3⟩
              case measure => simp [intOf]; omega
            · have e1 : q = 32 := by omega
              subst e1
              have q1 := q1.congr (fun i _ => part_next (64 * c) 32 (lay 32 F) F i)
              go_wp2
              go_roundw
              case rel => exact ⟨c + 1, by omega, by go_num, by go_num, q1, q2, q3⟩
              case measure => simp [intOf]; omega
        · have e1 : c = 4 := by omega
          subst e1
          have q1 := q1.congr (g := Ls (2 + 1) fun i => emod (a i)) (fun i hi => (part_all 32 (lay 32 F) F i hi).trans (by rw [← HF.out]; rfl))
          go_wp2
          go_roundw
          case rel => exact ⟨2 + 1, 16, 7, _, by unfold Lv; simp, rfl, rfl, q1, q2, q3⟩
          case measure => simp [intOf]
    · generalize hF : (Ls 3 fun i => emod (a i)) = F at q1
      have hFb : ∀ i, 0 ≤ F i ∧ F i < 3329 := fun i => by rw [← hF]; exact Ls_bd _ _ (fun i => emod_bd _) i
      have HF := Lib.hid hF; clear hF
      have HFb := Lib.hid hFb; clear hFb
      go_wp2
      obtain ⟨wo, hwo⟩ : ∃ wo : World, wo = wr := ⟨_, rfl⟩
      go_loopw [4, 6] (fun v4 v6 wr => ∃ c : Nat, c ≤ 8 ∧ v6 = .int .i64 (32 * (c : Int)) ∧ v4 = .int .i64 (8 + (c : Int)) ∧ Row wr w1.heap.size 23 256 (part (Done (32 * c) 16 0) (lay 16 F) F) ∧ Row wr (w.heap.size + 1) 23 256 (fun _ => 0) ∧ Below w.heap.size w wr) (fun v4 v6 wr => 256 - (intOf v6).toNat)
      case atStart => exact ⟨0, by omega, rfl, by go_num, q1.congr (fun i _ => (part_zero _ _ _ _).symm), q2, q3⟩
      case round =>
        clear q1 q2 q3 hwo wo r5 r6 hb2
        obtain ⟨c, hc, rfl, rfl, q1, q2, q3⟩ := hrel
        by_cases hlt2 : c < 8
        · have hd : decide (32 * (c : Int) < 256) = true := by simp; omega
          have b3 := rt_bd (1 + (7 + c))
          have hz : rt (1 + (7 + c)) = rt (1 + (7 + c)) := rfl
          generalize hz : rt (1 + (7 + c)) = z at b3
          have HZ := Lib.hid hz; clear hz
          go_wp2_with (first | (go_at_call 31; refine (turnedi _ (1 + (7 + c)) (by omega) (by omega) _).mono ?_; rintro e w' ⟨rfl, rfl⟩) | (go_at_call 30; refine (root30 (1 + (7 + c)) (by omega) _).mono ?_; rintro e w' ⟨rfl, rfl⟩; rw [HZ.out]))
          obtain ⟨wo, hwo⟩ : ∃ wo : World, wo = w' := ⟨_, rfl⟩
          go_loopw [8] (fun v7 wr => ∃ q : Nat, q ≤ 16 ∧ v7 = .int .i64 (32 * (c : Int) + q) ∧ Row wr w1.heap.size 23 256 (part (Done (32 * c) 16 q) (lay 16 F) F) ∧ Row wr (w.heap.size + 1) 23 256 (fun _ => 0) ∧ Below w.heap.size w wr) (fun v7 wr => 256 - (intOf v7).toNat)
          case atStart => exact ⟨0, by omega, by go_num, q1, q2, q3⟩
          case round =>
            clear q1 q2 q3 hwo wo
            obtain ⟨q, hq, rfl, q1, q2, q3⟩ := hrel
            by_cases hlt3 : q < 16
            · have c1 := q1.cell (32 * c + q) (by omega)
              have c2 := q1.cell (32 * c + q + 16) (by omega)
              have f2 := q1.frozen (32 * c + q + 16)
              rw [show part (Done (32 * c) 16 q) (lay 16 F) F (32 * c + q) = F (32 * c + q) from if_neg (by unfold Done; omega)] at c1
              rw [show part (Done (32 * c) 16 q) (lay 16 F) F (32 * c + q + 16) = F (32 * c + q + 16) from if_neg (by unfold Done; omega)] at c2
              have b1 := HFb.out (32 * c + q)
              have b2 := HFb.out (32 * c + q + 16)
              have e1 := lay_lo 16 c q hlt3 F
              have e2 := lay_hi 16 c q hlt3 F
              rw [show 128 / 16 + c = 1 + (7 + c) by omega, HZ.out] at e1 e2
              simp only [Nat.reduceMul] at e1 e2
              have hst := part_step2 (32 * c) 16 q hlt3 (lay 16 F) F (emod (F (32 * c + q) + emod (z * F (32 * c + q + 16)))) (emod (F (32 * c + q) - emod (z * F (32 * c + q + 16)))) (by rw [e1]; unfold emod; omega) (by rw [e2]; unfold emod; omega)
              have s1 := q1.set (32 * c + q + 16) (emod (F (32 * c + q) - emod (z * F (32 * c + q + 16))))
              have g1 := s1.cell (32 * c + q) (by omega)
              rw [show upd (part (Done (32 * c) 16 q) (lay 16 F) F) (32 * c + q + 16) (emod (F (32 * c + q) - emod (z * F (32 * c + q + 16)))) (32 * c + q) = F (32 * c + q) from (if_neg (by omega)).trans (if_neg (by unfold Done; omega))] at g1
              have f1 := s1.frozen (32 * c + q)
              have s2 := (s1.set (32 * c + q) (emod (F (32 * c + q) + emod (z * F (32 * c + q + 16))))).congr (fun i _ => hst i)
              have o1 := (q2.other ⟨w1.heap.size, 32 * c + q + 16, none⟩ (.int .i64 (emod (F (32 * c + q) - emod (z * F (32 * c + q + 16))))) (by simp; omega)).other ⟨w1.heap.size, 32 * c + q, none⟩ (.int .i64 (emod (F (32 * c + q) + emod (z * F (32 * c + q + 16))))) (by simp; omega)
              have o3 := (q3.setCell (p := ⟨w1.heap.size, 32 * c + q + 16, none⟩) (by simp; omega) (.int .i64 (emod (F (32 * c + q) - emod (z * F (32 * c + q + 16)))))).setCell (p := ⟨w1.heap.size, 32 * c + q, none⟩) (by simp; omega) (.int .i64 (emod (F (32 * c + q) + emod (z * F (32 * c + q + 16)))))
              clear s1 q1 q2 q3 hst e1 e2
              generalize F (32 * c + q) = x at *
              generalize F (32 * c + q + 16) = y at *
              have hzy := mul_bd z y b3 b2
              have hzy' : IntKind.i64.wrap (z * y) = z * y := IntWalk.i64_in _ (by omega)
              have hzt : (z * y).tmod 3329 = emod (z * y) := Int.tmod_eq_emod_of_nonneg hzy.1
              have hzu : z * y % 3329 = emod (z * y) := rfl
              have b4 := emod_bd (z * y)
              generalize emod (z * y) = t at *
              have t0 : 0 ≤ 32 * (c : Int) + q := by omega
              have t1 : 32 * (c : Int) + q < 256 := by omega
              have t2 : (32 * (c : Int) + q).toNat = 32 * c + q := by omega
              have t3 : IntKind.i64.wrap (32 * (c : Int) + q + 16) = 32 * (c : Int) + q + 16 := IntWalk.i64_in _ (by omega)
              have t4 : 0 ≤ 32 * (c : Int) + q + 16 := by omega
              have t5 : 32 * (c : Int) + q + 16 < 256 := by omega
              have t6 : (32 * (c : Int) + q + 16).toNat = 32 * c + q + 16 := by omega
              have t8 : IntKind.i64.wrap (x + t) = x + t := IntWalk.i64_in _ (by omega)
              have t9 : IntKind.i64.wrap (x - t) = x - t := IntWalk.i64_in _ (by omega)
              go_wp2_with (first | (go_at_call 27; refine (mod27 _ _ (by omega) (by omega)).mono ?_; rintro e w' ⟨rfl, rfl⟩))
              go_roundw
              case rel => exact ⟨q + 1, by omega, by go_num, s2, o1, o3⟩
              case measure => simp [intOf]; omega
            · have e1 : q = 16 := by omega
              subst e1
              have q1 := q1.congr (fun i _ => part_next (32 * c) 16 (lay 16 F) F i)
              go_wp2
              go_roundw
              case rel => exact ⟨c + 1, by omega, by go_num, by go_num, q1, q2, q3⟩
              case measure => simp [intOf]; omega
        · have e1 : c = 8 := by omega
          subst e1
          have q1 := q1.congr (g := Ls (3 + 1) fun i => emod (a i)) (fun i hi => (part_all 16 (lay 16 F) F i hi).trans (by rw [← HF.out]; rfl))
          go_wp2
          go_roundw
          case rel => exact ⟨3 + 1, 8, 15, _, by unfold Lv; simp, rfl, rfl, q1, q2, q3⟩
          case measure => simp [intOf]
    · generalize hF : (Ls 4 fun i => emod (a i)) = F at q1
      have hFb : ∀ i, 0 ≤ F i ∧ F i < 3329 := fun i => by rw [← hF]; exact Ls_bd _ _ (fun i => emod_bd _) i
      have HF := Lib.hid hF; clear hF
      have HFb := Lib.hid hFb; clear hFb
      go_wp2
      obtain ⟨wo, hwo⟩ : ∃ wo : World, wo = wr := ⟨_, rfl⟩
      go_loopw [4, 6] (fun v4 v6 wr => ∃ c : Nat, c ≤ 16 ∧ v6 = .int .i64 (16 * (c : Int)) ∧ v4 = .int .i64 (16 + (c : Int)) ∧ Row wr w1.heap.size 23 256 (part (Done (16 * c) 8 0) (lay 8 F) F) ∧ Row wr (w.heap.size + 1) 23 256 (fun _ => 0) ∧ Below w.heap.size w wr) (fun v4 v6 wr => 256 - (intOf v6).toNat)
      case atStart => exact ⟨0, by omega, rfl, by go_num, q1.congr (fun i _ => (part_zero _ _ _ _).symm), q2, q3⟩
      case round =>
        clear q1 q2 q3 hwo wo r5 r6 hb2
        obtain ⟨c, hc, rfl, rfl, q1, q2, q3⟩ := hrel
        by_cases hlt2 : c < 16
        · have hd : decide (16 * (c : Int) < 256) = true := by simp; omega
          have b3 := rt_bd (1 + (15 + c))
          have hz : rt (1 + (15 + c)) = rt (1 + (15 + c)) := rfl
          generalize hz : rt (1 + (15 + c)) = z at b3
          have HZ := Lib.hid hz; clear hz
          go_wp2_with (first | (go_at_call 31; refine (turnedi _ (1 + (15 + c)) (by omega) (by omega) _).mono ?_; rintro e w' ⟨rfl, rfl⟩) | (go_at_call 30; refine (root30 (1 + (15 + c)) (by omega) _).mono ?_; rintro e w' ⟨rfl, rfl⟩; rw [HZ.out]))
          obtain ⟨wo, hwo⟩ : ∃ wo : World, wo = w' := ⟨_, rfl⟩
          go_loopw [8] (fun v7 wr => ∃ q : Nat, q ≤ 8 ∧ v7 = .int .i64 (16 * (c : Int) + q) ∧ Row wr w1.heap.size 23 256 (part (Done (16 * c) 8 q) (lay 8 F) F) ∧ Row wr (w.heap.size + 1) 23 256 (fun _ => 0) ∧ Below w.heap.size w wr) (fun v7 wr => 256 - (intOf v7).toNat)
          case atStart => exact ⟨0, by omega, by go_num, q1, q2, q3⟩
          case round =>
            clear q1 q2 q3 hwo wo
            obtain ⟨q, hq, rfl, q1, q2, q3⟩ := hrel
            by_cases hlt3 : q < 8
            · have c1 := q1.cell (16 * c + q) (by omega)
              have c2 := q1.cell (16 * c + q + 8) (by omega)
              have f2 := q1.frozen (16 * c + q + 8)
              rw [show part (Done (16 * c) 8 q) (lay 8 F) F (16 * c + q) = F (16 * c + q) from if_neg (by unfold Done; omega)] at c1
              rw [show part (Done (16 * c) 8 q) (lay 8 F) F (16 * c + q + 8) = F (16 * c + q + 8) from if_neg (by unfold Done; omega)] at c2
              have b1 := HFb.out (16 * c + q)
              have b2 := HFb.out (16 * c + q + 8)
              have e1 := lay_lo 8 c q hlt3 F
              have e2 := lay_hi 8 c q hlt3 F
              rw [show 128 / 8 + c = 1 + (15 + c) by omega, HZ.out] at e1 e2
              simp only [Nat.reduceMul] at e1 e2
              have hst := part_step2 (16 * c) 8 q hlt3 (lay 8 F) F (emod (F (16 * c + q) + emod (z * F (16 * c + q + 8)))) (emod (F (16 * c + q) - emod (z * F (16 * c + q + 8)))) (by rw [e1]; unfold emod; omega) (by rw [e2]; unfold emod; omega)
              have s1 := q1.set (16 * c + q + 8) (emod (F (16 * c + q) - emod (z * F (16 * c + q + 8))))
              have g1 := s1.cell (16 * c + q) (by omega)
              rw [show upd (part (Done (16 * c) 8 q) (lay 8 F) F) (16 * c + q + 8) (emod (F (16 * c + q) - emod (z * F (16 * c + q + 8)))) (16 * c + q) = F (16 * c + q) from (if_neg (by omega)).trans (if_neg (by unfold Done; omega))] at g1
              have f1 := s1.frozen (16 * c + q)
              have s2 := (s1.set (16 * c + q) (emod (F (16 * c + q) + emod (z * F (16 * c + q + 8))))).congr (fun i _ => hst i)
              have o1 := (q2.other ⟨w1.heap.size, 16 * c + q + 8, none⟩ (.int .i64 (emod (F (16 * c + q) - emod (z * F (16 * c + q + 8))))) (by simp; omega)).other ⟨w1.heap.size, 16 * c + q, none⟩ (.int .i64 (emod (F (16 * c + q) + emod (z * F (16 * c + q + 8))))) (by simp; omega)
              have o3 := (q3.setCell (p := ⟨w1.heap.size, 16 * c + q + 8, none⟩) (by simp; omega) (.int .i64 (emod (F (16 * c + q) - emod (z * F (16 * c + q + 8)))))).setCell (p := ⟨w1.heap.size, 16 * c + q, none⟩) (by simp; omega) (.int .i64 (emod (F (16 * c + q) + emod (z * F (16 * c + q + 8)))))
              clear s1 q1 q2 q3 hst e1 e2
              generalize F (16 * c + q) = x at *
              generalize F (16 * c + q + 8) = y at *
              have hzy := mul_bd z y b3 b2
              have hzy' : IntKind.i64.wrap (z * y) = z * y := IntWalk.i64_in _ (by omega)
              have hzt : (z * y).tmod 3329 = emod (z * y) := Int.tmod_eq_emod_of_nonneg hzy.1
              have hzu : z * y % 3329 = emod (z * y) := rfl
              have b4 := emod_bd (z * y)
              generalize emod (z * y) = t at *
              have t0 : 0 ≤ 16 * (c : Int) + q := by omega
              have t1 : 16 * (c : Int) + q < 256 := by omega
              have t2 : (16 * (c : Int) + q).toNat = 16 * c + q := by omega
              have t3 : IntKind.i64.wrap (16 * (c : Int) + q + 8) = 16 * (c : Int) + q + 8 := IntWalk.i64_in _ (by omega)
              have t4 : 0 ≤ 16 * (c : Int) + q + 8 := by omega
              have t5 : 16 * (c : Int) + q + 8 < 256 := by omega
              have t6 : (16 * (c : Int) + q + 8).toNat = 16 * c + q + 8 := by omega
              have t8 : IntKind.i64.wrap (x + t) = x + t := IntWalk.i64_in _ (by omega)
              have t9 : IntKind.i64.wrap (x - t) = x - t := IntWalk.i64_in _ (by omega)
              go_wp2_with (first | (go_at_call 27; refine (mod27 _ _ (by omega) (by omega)).mono ?_; rintro e w' ⟨rfl, rfl⟩))
              go_roundw
              case rel => exact ⟨q + 1, by omega, by go_num, s2, o1, o3⟩
              case measure => simp [intOf]; omega
            · have e1 : q = 8 := by omega
              subst e1
              have q1 := q1.congr (fun i _ => part_next (16 * c) 8 (lay 8 F) F i)
              go_wp2
              go_roundw
              case rel => exact ⟨c + 1, by omega, by go_num, by go_num, q1, q2, q3⟩
              case measure => simp [intOf]; omega
        · have e1 : c = 16 := by omega
          subst e1
          have q1 := q1.congr (g := Ls (4 + 1) fun i => emod (a i)) (fun i hi => (part_all 8 (lay 8 F) F i hi).trans (by rw [← HF.out]; rfl))
          go_wp2
          go_roundw
          case rel => exact ⟨4 + 1, 4, 31, _, by unfold Lv; simp, rfl, rfl, q1, q2, q3⟩
          case measure => simp [intOf]
    · generalize hF : (Ls 5 fun i => emod (a i)) = F at q1
      have hFb : ∀ i, 0 ≤ F i ∧ F i < 3329 := fun i => by rw [← hF]; exact Ls_bd _ _ (fun i => emod_bd _) i
      have HF := Lib.hid hF; clear hF
      have HFb := Lib.hid hFb; clear hFb
      go_wp2
      obtain ⟨wo, hwo⟩ : ∃ wo : World, wo = wr := ⟨_, rfl⟩
      go_loopw [4, 6] (fun v4 v6 wr => ∃ c : Nat, c ≤ 32 ∧ v6 = .int .i64 (8 * (c : Int)) ∧ v4 = .int .i64 (32 + (c : Int)) ∧ Row wr w1.heap.size 23 256 (part (Done (8 * c) 4 0) (lay 4 F) F) ∧ Row wr (w.heap.size + 1) 23 256 (fun _ => 0) ∧ Below w.heap.size w wr) (fun v4 v6 wr => 256 - (intOf v6).toNat)
      case atStart => exact ⟨0, by omega, rfl, by go_num, q1.congr (fun i _ => (part_zero _ _ _ _).symm), q2, q3⟩
      case round =>
        clear q1 q2 q3 hwo wo r5 r6 hb2
        obtain ⟨c, hc, rfl, rfl, q1, q2, q3⟩ := hrel
        by_cases hlt2 : c < 32
        · have hd : decide (8 * (c : Int) < 256) = true := by simp; omega
          have b3 := rt_bd (1 + (31 + c))
          have hz : rt (1 + (31 + c)) = rt (1 + (31 + c)) := rfl
          generalize hz : rt (1 + (31 + c)) = z at b3
          have HZ := Lib.hid hz; clear hz
          go_wp2_with (first | (go_at_call 31; refine (turnedi _ (1 + (31 + c)) (by omega) (by omega) _).mono ?_; rintro e w' ⟨rfl, rfl⟩) | (go_at_call 30; refine (root30 (1 + (31 + c)) (by omega) _).mono ?_; rintro e w' ⟨rfl, rfl⟩; rw [HZ.out]))
          obtain ⟨wo, hwo⟩ : ∃ wo : World, wo = w' := ⟨_, rfl⟩
          go_loopw [8] (fun v7 wr => ∃ q : Nat, q ≤ 4 ∧ v7 = .int .i64 (8 * (c : Int) + q) ∧ Row wr w1.heap.size 23 256 (part (Done (8 * c) 4 q) (lay 4 F) F) ∧ Row wr (w.heap.size + 1) 23 256 (fun _ => 0) ∧ Below w.heap.size w wr) (fun v7 wr => 256 - (intOf v7).toNat)
          case atStart => exact ⟨0, by omega, by go_num, q1, q2, q3⟩
          case round =>
            clear q1 q2 q3 hwo wo
            obtain ⟨q, hq, rfl, q1, q2, q3⟩ := hrel
            by_cases hlt3 : q < 4
            · have c1 := q1.cell (8 * c + q) (by omega)
              have c2 := q1.cell (8 * c + q + 4) (by omega)
              have f2 := q1.frozen (8 * c + q + 4)
              rw [show part (Done (8 * c) 4 q) (lay 4 F) F (8 * c + q) = F (8 * c + q) from if_neg (by unfold Done; omega)] at c1
              rw [show part (Done (8 * c) 4 q) (lay 4 F) F (8 * c + q + 4) = F (8 * c + q + 4) from if_neg (by unfold Done; omega)] at c2
              have b1 := HFb.out (8 * c + q)
              have b2 := HFb.out (8 * c + q + 4)
              have e1 := lay_lo 4 c q hlt3 F
              have e2 := lay_hi 4 c q hlt3 F
              rw [show 128 / 4 + c = 1 + (31 + c) by omega, HZ.out] at e1 e2
              simp only [Nat.reduceMul] at e1 e2
              have hst := part_step2 (8 * c) 4 q hlt3 (lay 4 F) F (emod (F (8 * c + q) + emod (z * F (8 * c + q + 4)))) (emod (F (8 * c + q) - emod (z * F (8 * c + q + 4)))) (by rw [e1]; unfold emod; omega) (by rw [e2]; unfold emod; omega)
              have s1 := q1.set (8 * c + q + 4) (emod (F (8 * c + q) - emod (z * F (8 * c + q + 4))))
              have g1 := s1.cell (8 * c + q) (by omega)
              rw [show upd (part (Done (8 * c) 4 q) (lay 4 F) F) (8 * c + q + 4) (emod (F (8 * c + q) - emod (z * F (8 * c + q + 4)))) (8 * c + q) = F (8 * c + q) from (if_neg (by omega)).trans (if_neg (by unfold Done; omega))] at g1
              have f1 := s1.frozen (8 * c + q)
              have s2 := (s1.set (8 * c + q) (emod (F (8 * c + q) + emod (z * F (8 * c + q + 4))))).congr (fun i _ => hst i)
              have o1 := (q2.other ⟨w1.heap.size, 8 * c + q + 4, none⟩ (.int .i64 (emod (F (8 * c + q) - emod (z * F (8 * c + q + 4))))) (by simp; omega)).other ⟨w1.heap.size, 8 * c + q, none⟩ (.int .i64 (emod (F (8 * c + q) + emod (z * F (8 * c + q + 4))))) (by simp; omega)
              have o3 := (q3.setCell (p := ⟨w1.heap.size, 8 * c + q + 4, none⟩) (by simp; omega) (.int .i64 (emod (F (8 * c + q) - emod (z * F (8 * c + q + 4)))))).setCell (p := ⟨w1.heap.size, 8 * c + q, none⟩) (by simp; omega) (.int .i64 (emod (F (8 * c + q) + emod (z * F (8 * c + q + 4)))))
              clear s1 q1 q2 q3 hst e1 e2
              generalize F (8 * c + q) = x at *
              generalize F (8 * c + q + 4) = y at *
              have hzy := mul_bd z y b3 b2
              have hzy' : IntKind.i64.wrap (z * y) = z * y := IntWalk.i64_in _ (by omega)
              have hzt : (z * y).tmod 3329 = emod (z * y) := Int.tmod_eq_emod_of_nonneg hzy.1
              have hzu : z * y % 3329 = emod (z * y) := rfl
              have b4 := emod_bd (z * y)
              generalize emod (z * y) = t at *
              have t0 : 0 ≤ 8 * (c : Int) + q := by omega
              have t1 : 8 * (c : Int) + q < 256 := by omega
              have t2 : (8 * (c : Int) + q).toNat = 8 * c + q := by omega
              have t3 : IntKind.i64.wrap (8 * (c : Int) + q + 4) = 8 * (c : Int) + q + 4 := IntWalk.i64_in _ (by omega)
              have t4 : 0 ≤ 8 * (c : Int) + q + 4 := by omega
              have t5 : 8 * (c : Int) + q + 4 < 256 := by omega
              have t6 : (8 * (c : Int) + q + 4).toNat = 8 * c + q + 4 := by omega
              have t8 : IntKind.i64.wrap (x + t) = x + t := IntWalk.i64_in _ (by omega)
              have t9 : IntKind.i64.wrap (x - t) = x - t := IntWalk.i64_in _ (by omega)
              go_wp2_with (first | (go_at_call 27; refine (mod27 _ _ (by omega) (by omega)).mono ?_; rintro e w' ⟨rfl, rfl⟩))
              go_roundw
              case rel => exact ⟨q + 1, by omega, by go_num, s2, o1, o3⟩
              case measure => simp [intOf]; omega
            · have e1 : q = 4 := by omega
              subst e1
              have q1 := q1.congr (fun i _ => part_next (8 * c) 4 (lay 4 F) F i)
              go_wp2
              go_roundw
              case rel => exact ⟨c + 1, by omega, by go_num, by go_num, q1, q2, q3⟩
              case measure => simp [intOf]; omega
        · have e1 : c = 32 := by omega
          subst e1
          have q1 := q1.congr (g := Ls (5 + 1) fun i => emod (a i)) (fun i hi => (part_all 4 (lay 4 F) F i hi).trans (by rw [← HF.out]; rfl))
          go_wp2
          go_roundw
          case rel => exact ⟨5 + 1, 2, 63, _, by unfold Lv; simp, rfl, rfl, q1, q2, q3⟩
          case measure => simp [intOf]
    · generalize hF : (Ls 6 fun i => emod (a i)) = F at q1
      have hFb : ∀ i, 0 ≤ F i ∧ F i < 3329 := fun i => by rw [← hF]; exact Ls_bd _ _ (fun i => emod_bd _) i
      have HF := Lib.hid hF; clear hF
      have HFb := Lib.hid hFb; clear hFb
      go_wp2
      obtain ⟨wo, hwo⟩ : ∃ wo : World, wo = wr := ⟨_, rfl⟩
      go_loopw [4, 6] (fun v4 v6 wr => ∃ c : Nat, c ≤ 64 ∧ v6 = .int .i64 (4 * (c : Int)) ∧ v4 = .int .i64 (64 + (c : Int)) ∧ Row wr w1.heap.size 23 256 (part (Done (4 * c) 2 0) (lay 2 F) F) ∧ Row wr (w.heap.size + 1) 23 256 (fun _ => 0) ∧ Below w.heap.size w wr) (fun v4 v6 wr => 256 - (intOf v6).toNat)
      case atStart => exact ⟨0, by omega, rfl, by go_num, q1.congr (fun i _ => (part_zero _ _ _ _).symm), q2, q3⟩
      case round =>
        clear q1 q2 q3 hwo wo r5 r6 hb2
        obtain ⟨c, hc, rfl, rfl, q1, q2, q3⟩ := hrel
        by_cases hlt2 : c < 64
        · have hd : decide (4 * (c : Int) < 256) = true := by simp; omega
          have b3 := rt_bd (1 + (63 + c))
          have hz : rt (1 + (63 + c)) = rt (1 + (63 + c)) := rfl
          generalize hz : rt (1 + (63 + c)) = z at b3
          have HZ := Lib.hid hz; clear hz
          go_wp2_with (first | (go_at_call 31; refine (turnedi _ (1 + (63 + c)) (by omega) (by omega) _).mono ?_; rintro e w' ⟨rfl, rfl⟩) | (go_at_call 30; refine (root30 (1 + (63 + c)) (by omega) _).mono ?_; rintro e w' ⟨rfl, rfl⟩; rw [HZ.out]))
          obtain ⟨wo, hwo⟩ : ∃ wo : World, wo = w' := ⟨_, rfl⟩
          go_loopw [8] (fun v7 wr => ∃ q : Nat, q ≤ 2 ∧ v7 = .int .i64 (4 * (c : Int) + q) ∧ Row wr w1.heap.size 23 256 (part (Done (4 * c) 2 q) (lay 2 F) F) ∧ Row wr (w.heap.size + 1) 23 256 (fun _ => 0) ∧ Below w.heap.size w wr) (fun v7 wr => 256 - (intOf v7).toNat)
          case atStart => exact ⟨0, by omega, by go_num, q1, q2, q3⟩
          case round =>
            clear q1 q2 q3 hwo wo
            obtain ⟨q, hq, rfl, q1, q2, q3⟩ := hrel
            by_cases hlt3 : q < 2
            · have c1 := q1.cell (4 * c + q) (by omega)
              have c2 := q1.cell (4 * c + q + 2) (by omega)
              have f2 := q1.frozen (4 * c + q + 2)
              rw [show part (Done (4 * c) 2 q) (lay 2 F) F (4 * c + q) = F (4 * c + q) from if_neg (by unfold Done; omega)] at c1
              rw [show part (Done (4 * c) 2 q) (lay 2 F) F (4 * c + q + 2) = F (4 * c + q + 2) from if_neg (by unfold Done; omega)] at c2
              have b1 := HFb.out (4 * c + q)
              have b2 := HFb.out (4 * c + q + 2)
              have e1 := lay_lo 2 c q hlt3 F
              have e2 := lay_hi 2 c q hlt3 F
              rw [show 128 / 2 + c = 1 + (63 + c) by omega, HZ.out] at e1 e2
              simp only [Nat.reduceMul] at e1 e2
              have hst := part_step2 (4 * c) 2 q hlt3 (lay 2 F) F (emod (F (4 * c + q) + emod (z * F (4 * c + q + 2)))) (emod (F (4 * c + q) - emod (z * F (4 * c + q + 2)))) (by rw [e1]; unfold emod; omega) (by rw [e2]; unfold emod; omega)
              have s1 := q1.set (4 * c + q + 2) (emod (F (4 * c + q) - emod (z * F (4 * c + q + 2))))
              have g1 := s1.cell (4 * c + q) (by omega)
              rw [show upd (part (Done (4 * c) 2 q) (lay 2 F) F) (4 * c + q + 2) (emod (F (4 * c + q) - emod (z * F (4 * c + q + 2)))) (4 * c + q) = F (4 * c + q) from (if_neg (by omega)).trans (if_neg (by unfold Done; omega))] at g1
              have f1 := s1.frozen (4 * c + q)
              have s2 := (s1.set (4 * c + q) (emod (F (4 * c + q) + emod (z * F (4 * c + q + 2))))).congr (fun i _ => hst i)
              have o1 := (q2.other ⟨w1.heap.size, 4 * c + q + 2, none⟩ (.int .i64 (emod (F (4 * c + q) - emod (z * F (4 * c + q + 2))))) (by simp; omega)).other ⟨w1.heap.size, 4 * c + q, none⟩ (.int .i64 (emod (F (4 * c + q) + emod (z * F (4 * c + q + 2))))) (by simp; omega)
              have o3 := (q3.setCell (p := ⟨w1.heap.size, 4 * c + q + 2, none⟩) (by simp; omega) (.int .i64 (emod (F (4 * c + q) - emod (z * F (4 * c + q + 2)))))).setCell (p := ⟨w1.heap.size, 4 * c + q, none⟩) (by simp; omega) (.int .i64 (emod (F (4 * c + q) + emod (z * F (4 * c + q + 2)))))
              clear s1 q1 q2 q3 hst e1 e2
              generalize F (4 * c + q) = x at *
              generalize F (4 * c + q + 2) = y at *
              have hzy := mul_bd z y b3 b2
              have hzy' : IntKind.i64.wrap (z * y) = z * y := IntWalk.i64_in _ (by omega)
              have hzt : (z * y).tmod 3329 = emod (z * y) := Int.tmod_eq_emod_of_nonneg hzy.1
              have hzu : z * y % 3329 = emod (z * y) := rfl
              have b4 := emod_bd (z * y)
              generalize emod (z * y) = t at *
              have t0 : 0 ≤ 4 * (c : Int) + q := by omega
              have t1 : 4 * (c : Int) + q < 256 := by omega
              have t2 : (4 * (c : Int) + q).toNat = 4 * c + q := by omega
              have t3 : IntKind.i64.wrap (4 * (c : Int) + q + 2) = 4 * (c : Int) + q + 2 := IntWalk.i64_in _ (by omega)
              have t4 : 0 ≤ 4 * (c : Int) + q + 2 := by omega
              have t5 : 4 * (c : Int) + q + 2 < 256 := by omega
              have t6 : (4 * (c : Int) + q + 2).toNat = 4 * c + q + 2 := by omega
              have t8 : IntKind.i64.wrap (x + t) = x + t := IntWalk.i64_in _ (by omega)
              have t9 : IntKind.i64.wrap (x - t) = x - t := IntWalk.i64_in _ (by omega)
              go_wp2_with (first | (go_at_call 27; refine (mod27 _ _ (by omega) (by omega)).mono ?_; rintro e w' ⟨rfl, rfl⟩))
              go_roundw
              case rel => exact ⟨q + 1, by omega, by go_num, s2, o1, o3⟩
              case measure => simp [intOf]; omega
            · have e1 : q = 2 := by omega
              subst e1
              have q1 := q1.congr (fun i _ => part_next (4 * c) 2 (lay 2 F) F i)
              go_wp2
              go_roundw
              case rel => exact ⟨c + 1, by omega, by go_num, by go_num, q1, q2, q3⟩
              case measure => simp [intOf]; omega
        · have e1 : c = 64 := by omega
          subst e1
          have q1 := q1.congr (g := Ls (6 + 1) fun i => emod (a i)) (fun i hi => (part_all 2 (lay 2 F) F i hi).trans (by rw [← HF.out]; rfl))
          go_wp2
          go_roundw
          case rel => exact ⟨6 + 1, 1, 127, _, by unfold Lv; simp, rfl, rfl, q1, q2, q3⟩
          case measure => simp [intOf]
    · have rb := below_setRow q3 (g := w.heap.size + 1) (by omega) (arr 256 (Ls 7 fun i => emod (a i)))
      have r4 := q2.setRow (m := 256) (Ls 7 fun i => emod (a i))
      go_wp2_with (first | (with_reducible refine load23 rfl (.tmp 3) rfl w1.heap.size rfl q1 ?_) | (with_reducible refine store23 rfl (.tmp 2) (.tmp 61) rfl (w.heap.size + 1) _ rfl rfl q2 ?_))
      exact ret23 rfl (w.heap.size + 1) rfl r4 rfl ⟨rfl, rb⟩
end Go.Proofs.YtopkmkkohmkceaaDoor
