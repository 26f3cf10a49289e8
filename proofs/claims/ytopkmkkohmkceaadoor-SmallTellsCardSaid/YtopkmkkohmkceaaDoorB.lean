/- NTT, walked: seven layers of butterflies. -/
import Derived.Test.YtopkmkkohmkceaaDoorA
namespace Go.Proofs.YtopkmkkohmkceaaDoor
open Go.ChangeShapes Go.WideShapes Go.ChangeAt Go.RowKit
def rt : Nat → Int := fun i => ([1, 1729, 2580, 3289, 2642, 630, 1897, 848, 1062, 1919, 193, 797, 2786, 3260, 569, 1746,
  296, 2447, 1339, 1476, 3046, 56, 2240, 1333, 1426, 2094, 535, 2882, 2393, 2879, 1974, 821,
  289, 331, 3253, 1756, 1197, 2304, 2277, 2055, 650, 1977, 2513, 632, 2865, 33, 1320, 1915,
  2319, 1435, 807, 452, 1438, 2868, 1534, 2402, 2647, 2617, 1481, 648, 2474, 3110, 1227, 910,
  17, 2761, 583, 2649, 1637, 723, 2288, 1100, 1409, 2662, 3281, 233, 756, 2156, 3015, 3050,
  1703, 1651, 2789, 1789, 1847, 952, 1461, 2687, 939, 2308, 2437, 2388, 733, 2337, 268, 641,
  1584, 2298, 2037, 3220, 375, 2549, 2090, 1645, 1063, 319, 2773, 757, 2099, 561, 2466, 2594,
  2804, 1092, 403, 1026, 1143, 2150, 2775, 886, 1722, 1212, 1874, 1029, 2110, 2935, 885, 2154] : List Int).getD i 0
theorem rt_all : ∀ i < 128, 0 ≤ rt i ∧ rt i < 3329 := by decide
theorem rt_bd (i : Nat) : 0 ≤ rt i ∧ rt i < 3329 := by
  rcases Nat.lt_or_ge i 128 with h | h
  · exact rt_all i h
  · have : rt i = 0 := by unfold rt; rw [List.getD_eq_getElem?_getD, List.getElem?_eq_none (by simpa using h)]; rfl
    omega
/-- One layer: butterflies of width n, the root by the block. -/
def lay (n : Nat) (f : Nat → Int) : Nat → Int := fun i =>
  if i % (2 * n) < n then emod (f i + rt (128 / n + i / (2 * n)) * f (i + n)) else emod (f (i - n) - rt (128 / n + i / (2 * n)) * f i)
def part (P : Nat → Prop) [DecidablePred P] (F f : Nat → Int) : Nat → Int := fun i => if P i then F i else f i
def Done (s n q i : Nat) : Prop := i < s ∨ (s ≤ i ∧ i < s + q) ∨ (s + n ≤ i ∧ i < s + n + q)
instance (s n q : Nat) : DecidablePred (Done s n q) := fun i => by unfold Done; infer_instance
theorem lay_bd (n : Nat) (f : Nat → Int) (i : Nat) : 0 ≤ lay n f i ∧ lay n f i < 3329 := by
  unfold lay; split <;> exact emod_bd _
theorem part_bd (P : Nat → Prop) [DecidablePred P] (F f : Nat → Int) (hF : ∀ i, 0 ≤ F i ∧ F i < 3329) (hf : ∀ i, 0 ≤ f i ∧ f i < 3329) (i : Nat) : 0 ≤ part P F f i ∧ part P F f i < 3329 := by
  unfold part; split
  · exact hF i
  · exact hf i
/-- Two cells of a butterfly written: one step on. -/
theorem part_step (s n q : Nat) (hq : q < n) (F f : Nat → Int) (v1 v2 : Int) (h1 : v1 = F (s + q)) (h2 : v2 = F (s + q + n)) (i : Nat) :
    upd (upd (part (Done s n q) F f) (s + q) v1) (s + q + n) v2 i = part (Done s n (q + 1)) F f i := by
  unfold upd part
  by_cases e2 : i = s + q + n
  · rw [if_pos e2, if_pos (by unfold Done; omega), e2, h2]
  · rw [if_neg e2]
    by_cases e1 : i = s + q
    · rw [if_pos e1, if_pos (by unfold Done; omega), e1, h1]
    · rw [if_neg e1]
      by_cases d : Done s n q i
      · rw [if_pos d, if_pos (by unfold Done at d ⊢; omega)]
      · rw [if_neg d, if_neg (by unfold Done at d ⊢; omega)]
theorem part_zero (n : Nat) (F f : Nat → Int) (i : Nat) : part (Done 0 n 0) F f i = f i := by
  unfold part; rw [if_neg (by unfold Done; omega)]
/-- A block done: the next one begins. -/
theorem part_next (s n : Nat) (F f : Nat → Int) (i : Nat) : part (Done s n n) F f i = part (Done (s + 2 * n) n 0) F f i := by
  unfold part
  by_cases d : Done s n n i
  · rw [if_pos d, if_pos (by unfold Done at d ⊢; omega)]
  · rw [if_neg d, if_neg (by unfold Done at d ⊢; omega)]
theorem part_all (n : Nat) (F f : Nat → Int) (i : Nat) (h : i < 256) : part (Done 256 n 0) F f i = F i := by
  unfold part; rw [if_pos (by unfold Done; omega)]
theorem lay_lo (n c q : Nat) (hq : q < n) (f : Nat → Int) : lay n f (2 * n * c + q) = emod (f (2 * n * c + q) + rt (128 / n + c) * f (2 * n * c + q + n)) := by
  unfold lay
  rw [Nat.mul_add_mod, Nat.mod_eq_of_lt (show q < 2 * n by omega), if_pos hq, Nat.mul_add_div (by omega), Nat.div_eq_of_lt (show q < 2 * n by omega)]; simp
theorem lay_hi (n c q : Nat) (hq : q < n) (f : Nat → Int) : lay n f (2 * n * c + q + n) = emod (f (2 * n * c + q) - rt (128 / n + c) * f (2 * n * c + q + n)) := by
  unfold lay
  rw [show 2 * n * c + q + n = 2 * n * c + (q + n) by omega, Nat.mul_add_mod, Nat.mod_eq_of_lt (show q + n < 2 * n by omega), if_neg (by omega), Nat.mul_add_div (by omega), Nat.div_eq_of_lt (show q + n < 2 * n by omega)]
  simp [← Nat.add_assoc]
def wd (m : Nat) : Nat := 128 / 2 ^ m
def Ls : Nat → (Nat → Int) → (Nat → Int)
  | 0, f => f
  | m + 1, f => lay (wd m) (Ls m f)
def Lv (m N D : Nat) (V : Int) : Prop := (m = 0 ∧ N = 128 ∧ D = 0 ∧ V = 128) ∨ (m = 1 ∧ N = 64 ∧ D = 1 ∧ V = 64) ∨ (m = 2 ∧ N = 32 ∧ D = 3 ∧ V = 32) ∨ (m = 3 ∧ N = 16 ∧ D = 7 ∧ V = 16) ∨ (m = 4 ∧ N = 8 ∧ D = 15 ∧ V = 8) ∨ (m = 5 ∧ N = 4 ∧ D = 31 ∧ V = 4) ∨ (m = 6 ∧ N = 2 ∧ D = 63 ∧ V = 2) ∨ (m = 7 ∧ N = 1 ∧ D = 127 ∧ V = 1)
theorem Ls_bd (m : Nat) (f : Nat → Int) (hf : ∀ i, 0 ≤ f i ∧ f i < 3329) (i : Nat) : 0 ≤ Ls m f i ∧ Ls m f i < 3329 := by
  cases m with
  | zero => exact hf i
  | succ m => exact lay_bd _ _ _
/-- The slice of roots that are left: where it begins matters while one is left. -/
def Left (v : Value) (D : Nat) : Prop := ∃ o : Nat, v = .slice (some ⟨0, o, none⟩) (127 - D) (127 - D) ∧ (D < 127 → o = 1 + D)

set_option maxRecDepth 20000 in
set_option maxHeartbeats 8000000 in
theorem ntt12 (a : Nat → Int) (w : World) (ha : I64 a) (hR : TRow w 0 128 rt) : Calls Tryd.prog 12 #[.agg (arr 256 a)] w fun e w' => e = .returned (.agg (arr 256 (Ls 7 fun i => emod (a i)))) ∧ Below w.heap.size w w' := by
  have hz := zero23
  have hlt := hR.lt
  have r1 := (Row.new w 23 256 a).alloc (.cells (arr 256 fun _ => 0) 23)
  have r2 : Row ((w.alloc (.cells (arr 256 a) 23)).alloc (.cells (arr 256 fun _ => 0) 23)) (w.heap.size + 1) 23 256 (fun _ => 0) := by
    have := Row.new (w.alloc (.cells (arr 256 a) 23)) 23 256 (fun _ => 0)
    simpa using this
  have hb0 : Below w.heap.size w ((w.alloc (.cells (arr 256 a) 23)).alloc (.cells (arr 256 fun _ => 0) 23)) := ((Below.refl _ _).alloc (Nat.le_refl _) _).alloc (by simp) _
  have hsz : ((w.alloc (.cells (arr 256 a) 23)).alloc (.cells (arr 256 fun _ => 0) 23)).heap.size = w.heap.size + 2 := by simp
  have HS := Lib.hid hsz; clear hsz
  go_enter Tryd.func12, Tryd.ntmps12
  go_wp2_with (first | (with_reducible refine load23 rfl (.tmp 1) rfl w.heap.size rfl r1 ?_))
  refine (mod10 a _ ha).mono ?_
  rintro e w1 ⟨rfl, hb⟩
  rw [HS.out] at hb
  have r3 := r2.below hb (by omega)
  have hb1 := hb0.trans (hb.mono (by omega))
  have hs1 := hb.size
  rw [HS.out] at hs1
  clear r1 r2 hb hb0
  have r4 := Row.new w1 23 256 (fun _ => 0)
  have r5 := r4.setRow (m := 256) (fun i => emod (a i))
  have r6 := (r3.alloc (.cells (arr 256 fun _ => 0) 23)).setRow_other (c := w1.heap.size) (arr 256 fun i => emod (a i)) (by omega)
  have hb2 := below_setRow (hb1.alloc (by omega) (.cells (arr 256 fun _ => 0) 23)) (g := w1.heap.size) (by omega) (arr 256 fun i => emod (a i))
  go_wp2_with (first | (with_reducible refine store23 rfl (.tmp 3) (.tmp 11) rfl w1.heap.size _ rfl rfl r4 ?_))
  clear r3 r4 hb1
  generalize (w1.alloc (.cells (arr 256 fun _ => 0) 23)).setRow w1.heap.size (arr 256 fun i => emod (a i)) = w2 at *
  have r7 : TRow w2 0 128 rt := hR.below hb2 hlt
  have hlt1 : 0 < w1.heap.size := by omega
  clear hz
  go_loopw [4, 5] (fun v4 v5 wr => ∃ (m N D : Nat) (V : Int), Lv m N D V ∧ v5 = .int .i64 V ∧ Left v4 D ∧ Row wr w1.heap.size 23 256 (Ls m fun i => emod (a i)) ∧ Row wr (w.heap.size + 1) 23 256 (fun _ => 0) ∧ Below w.heap.size w wr ∧ TRow wr 0 128 rt) (fun v4 v5 wr => (intOf v5).toNat)
  case atStart => exact ⟨0, 128, 0, 128, .inl ⟨rfl, rfl, rfl, rfl⟩, rfl, ⟨1, rfl, fun _ => rfl⟩, r5, r6, hb2, r7⟩
  case round =>
    obtain ⟨m, N, D, V, hL, rfl, hv4, q1, q2, q3, q4⟩ := hrel
    rcases hL with ⟨rfl, rfl, rfl, rfl⟩ | ⟨rfl, rfl, rfl, rfl⟩ | ⟨rfl, rfl, rfl, rfl⟩ | ⟨rfl, rfl, rfl, rfl⟩ | ⟨rfl, rfl, rfl, rfl⟩ | ⟨rfl, rfl, rfl, rfl⟩ | ⟨rfl, rfl, rfl, rfl⟩ | ⟨rfl, rfl, rfl, rfl⟩
    · generalize hF : (Ls 0 fun i => emod (a i)) = F at q1
      have hFb : ∀ i, 0 ≤ F i ∧ F i < 3329 := fun i => by rw [← hF]; exact Ls_bd _ _ (fun i => emod_bd _) i
      have HF := Lib.hid hF; clear hF
      have HFb := Lib.hid hFb; clear hFb
      go_wp2
      obtain ⟨wo, hwo⟩ : ∃ wo : World, wo = wr := ⟨_, rfl⟩
      go_loopw [4, 6] (fun v4 v6 wr => ∃ c : Nat, c ≤ 1 ∧ v6 = .int .i64 (256 * (c : Int)) ∧ Left v4 c ∧ Row wr w1.heap.size 23 256 (part (Done (256 * c) 128 0) (lay 128 F) F) ∧ Row wr (w.heap.size + 1) 23 256 (fun _ => 0) ∧ Below w.heap.size w wr ∧ TRow wr 0 128 rt) (fun v4 v6 wr => 256 - (intOf v6).toNat)
      case atStart => exact ⟨0, by omega, rfl, hv4, q1.congr (fun i _ => (part_zero _ _ _ _).symm), q2, q3, q4⟩
      case round =>
        clear q1 q2 q3 q4 hv4 hwo wo r5 r6 hb2 r7
        obtain ⟨c, hc, rfl, ⟨o, rfl, ho⟩, q1, q2, q3, q4⟩ := hrel
        by_cases hlt2 : c < 1
        · have hd : decide (256 * (c : Int) < 256) = true := by simp; omega
          go_wp2
          obtain ⟨wo, hwo⟩ : ∃ wo : World, wo = wr := ⟨_, rfl⟩
          go_loopw [7] (fun v7 wr => ∃ q : Nat, q ≤ 128 ∧ v7 = .int .i64 (256 * (c : Int) + q) ∧ Row wr w1.heap.size 23 256 (part (Done (256 * c) 128 q) (lay 128 F) F) ∧ Row wr (w.heap.size + 1) 23 256 (fun _ => 0) ∧ Below w.heap.size w wr ∧ TRow wr 0 128 rt) (fun v7 wr => 256 - (intOf v7).toNat)
          case atStart => exact ⟨0, by omega, by go_num, q1, q2, q3, q4⟩
          case round =>
            clear q1 q2 q3 q4 hwo wo
            obtain ⟨q, hq, rfl, q1, q2, q3, q4⟩ := hrel
            by_cases hlt3 : q < 128
            · have ho1 := ho (by omega)
              subst ho1
              have c1 := q1.cell (256 * c + q) (by omega)
              have c2 := q1.cell (256 * c + q + 128) (by omega)
              have c3 := q4.cell (1 + c) (by omega)
              rw [show part (Done (256 * c) 128 q) (lay 128 F) F (256 * c + q) = F (256 * c + q) from if_neg (by unfold Done; omega)] at c1
              rw [show part (Done (256 * c) 128 q) (lay 128 F) F (256 * c + q + 128) = F (256 * c + q + 128) from if_neg (by unfold Done; omega)] at c2
              have b1 := HFb.out (256 * c + q)
              have b2 := HFb.out (256 * c + q + 128)
              have b3 := rt_bd (1 + c)
              have e1 := lay_lo 128 c q hlt3 F
              have e2 := lay_hi 128 c q hlt3 F
              rw [show 128 / 128 + c = 1 + c by omega] at e1 e2
              have hst := part_step (256 * c) 128 q hlt3 (lay 128 F) F _ _ e1.symm e2.symm
              simp only [Nat.reduceMul] at e1 e2 hst
              generalize F (256 * c + q) = x at *
              generalize F (256 * c + q + 128) = y at *
              generalize rt (1 + c) = z at *
              have hzy : 0 ≤ z * y ∧ z * y ≤ 3328 * 3328 := ⟨Int.mul_nonneg b3.1 b2.1, Int.mul_le_mul (by omega) (by omega) (by omega) (by omega)⟩
              have hzy' : IntKind.i64.wrap (z * y) = z * y := IntWalk.i64_in _ (by omega)
              go_wp2
              have t0 : 0 ≤ 256 * (c : Int) + q := by omega
              have t1 : 256 * (c : Int) + q < 256 := by omega
              have t2 : (256 * (c : Int) + q).toNat = 256 * c + q := by omega
              have t3 : IntKind.i64.wrap (256 * (c : Int) + q + 128) = 256 * (c : Int) + q + 128 := IntWalk.i64_in _ (by omega)
              have t4 : 0 ≤ 256 * (c : Int) + q + 128 := by omega
              have t5 : 256 * (c : Int) + q + 128 < 256 := by omega
              have t6 : (256 * (c : Int) + q + 128).toNat = 256 * c + q + 128 := by omega
              have t7 : 0 < 127 - c := by omega
              go_still (by kernel_rfl)
              change Exit.then _ _ _ _ wr.drew
              have t8 : IntKind.i64.wrap (x + z * y) = x + z * y := IntWalk.i64_in _ (by omega)
              have t9 : IntKind.i64.wrap (x - z * y) = x - z * y := IntWalk.i64_in _ (by omega)
              have q1 := q1.drew
              have q2 := q2.drew
              have q3 := q3.drew
              have q4 := q4.drew
              clear c1 c2 c3
              generalize wr.drew = w4 at *
              have c1 := q1.cell (256 * c + q) (by omega)
              have f1 := q1.frozen (256 * c + q)
              have s1 := q1.set (256 * c + q) (emod (x + z * y))
              have c2 := s1.cell (256 * c + q + 128) (by omega)
              have f2 := s1.frozen (256 * c + q + 128)
              have s2 := ((s1.set (256 * c + q + 128) (emod (x - z * y))).congr (fun i _ => hst i)).drew
              have o1 := ((q2.other ⟨w1.heap.size, 256 * c + q, none⟩ (.int .i64 (emod (x + z * y))) (by simp; omega)).other ⟨w1.heap.size, 256 * c + q + 128, none⟩ (.int .i64 (emod (x - z * y))) (by simp; omega)).drew
              have o2 := ((q4.other ⟨w1.heap.size, 256 * c + q, none⟩ (.int .i64 (emod (x + z * y))) (by simp; omega)).other ⟨w1.heap.size, 256 * c + q + 128, none⟩ (.int .i64 (emod (x - z * y))) (by simp; omega)).drew
              have o3 := ((q3.setCell (p := ⟨w1.heap.size, 256 * c + q, none⟩) (by simp; omega) (.int .i64 (emod (x + z * y)))).setCell (p := ⟨w1.heap.size, 256 * c + q + 128, none⟩) (by simp; omega) (.int .i64 (emod (x - z * y)))).drew
              clear s1 q1 q2 q3 q4 hst e1 e2
              go_wp2
              go_region_with (first | (go_at_call 25; refine (mod25 _ _ (by omega) (by omega)).mono ?_; rintro e w' ⟨rfl, rfl⟩))
              go_wp2
              go_roundw
              case rel => exact ⟨q + 1, by omega, by go_num, s2, o1, o3, o2⟩
              case measure => simp [intOf]; omega
            · have e1 : q = 128 := by omega
              subst e1
              have q1 := q1.congr (fun i _ => part_next (256 * c) 128 (lay 128 F) F i)
              have d2 : ¬ (127 - c = 1) := by omega
              go_wp2
              go_roundw
              case rel => exact ⟨c + 1, by omega, by go_num, ⟨o + 1, by rw [show 127 - c - 1 = 127 - (c + 1) by omega], by omega⟩, q1, q2, q3, q4⟩
              case measure => simp [intOf]; omega
        · have e1 : c = 1 := by omega
          subst e1
          have q1 := q1.congr (g := Ls (0 + 1) fun i => emod (a i)) (fun i hi => (part_all 128 (lay 128 F) F i hi).trans (by rw [← HF.out]; rfl))
          go_wp2
          go_roundw
          case rel => exact ⟨0 + 1, 64, 1, _, by unfold Lv; simp, rfl, ⟨o, rfl, ho⟩, q1, q2, q3, q4⟩
          case measure => simp [intOf]
    · generalize hF : (Ls 1 fun i => emod (a i)) = F at q1
      have hFb : ∀ i, 0 ≤ F i ∧ F i < 3329 := fun i => by rw [← hF]; exact Ls_bd _ _ (fun i => emod_bd _) i
      have HF := Lib.hid hF; clear hF
      have HFb := Lib.hid hFb; clear hFb
      go_wp2
      obtain ⟨wo, hwo⟩ : ∃ wo : World, wo = wr := ⟨_, rfl⟩
      go_loopw [4, 6] (fun v4 v6 wr => ∃ c : Nat, c ≤ 2 ∧ v6 = .int .i64 (128 * (c : Int)) ∧ Left v4 (1 + c) ∧ Row wr w1.heap.size 23 256 (part (Done (128 * c) 64 0) (lay 64 F) F) ∧ Row wr (w.heap.size + 1) 23 256 (fun _ => 0) ∧ Below w.heap.size w wr ∧ TRow wr 0 128 rt) (fun v4 v6 wr => 256 - (intOf v6).toNat)
      case atStart => exact ⟨0, by omega, rfl, hv4, q1.congr (fun i _ => (part_zero _ _ _ _).symm), q2, q3, q4⟩
      case round =>
        clear q1 q2 q3 q4 hv4 hwo wo r5 r6 hb2 r7
        obtain ⟨c, hc, rfl, ⟨o, rfl, ho⟩, q1, q2, q3, q4⟩ := hrel
        by_cases hlt2 : c < 2
        · have hd : decide (128 * (c : Int) < 256) = true := by simp; omega
          go_wp2
          obtain ⟨wo, hwo⟩ : ∃ wo : World, wo = wr := ⟨_, rfl⟩
          go_loopw [7] (fun v7 wr => ∃ q : Nat, q ≤ 64 ∧ v7 = .int .i64 (128 * (c : Int) + q) ∧ Row wr w1.heap.size 23 256 (part (Done (128 * c) 64 q) (lay 64 F) F) ∧ Row wr (w.heap.size + 1) 23 256 (fun _ => 0) ∧ Below w.heap.size w wr ∧ TRow wr 0 128 rt) (fun v7 wr => 256 - (intOf v7).toNat)
          case atStart => exact ⟨0, by omega, by go_num, q1, q2, q3, q4⟩
          case round =>
            clear q1 q2 q3 q4 hwo wo
            obtain ⟨q, hq, rfl, q1, q2, q3, q4⟩ := hrel
            by_cases hlt3 : q < 64
            · have ho1 := ho (by omega)
              subst ho1
              have c1 := q1.cell (128 * c + q) (by omega)
              have c2 := q1.cell (128 * c + q + 64) (by omega)
              have c3 := q4.cell (1 + (1 + c)) (by omega)
              rw [show part (Done (128 * c) 64 q) (lay 64 F) F (128 * c + q) = F (128 * c + q) from if_neg (by unfold Done; omega)] at c1
              rw [show part (Done (128 * c) 64 q) (lay 64 F) F (128 * c + q + 64) = F (128 * c + q + 64) from if_neg (by unfold Done; omega)] at c2
              have b1 := HFb.out (128 * c + q)
              have b2 := HFb.out (128 * c + q + 64)
              have b3 := rt_bd (1 + (1 + c))
              have e1 := lay_lo 64 c q hlt3 F
              have e2 := lay_hi 64 c q hlt3 F
              rw [show 128 / 64 + c = 1 + (1 + c) by omega] at e1 e2
              have hst := part_step (128 * c) 64 q hlt3 (lay 64 F) F _ _ e1.symm e2.symm
              simp only [Nat.reduceMul] at e1 e2 hst
              generalize F (128 * c + q) = x at *
              generalize F (128 * c + q + 64) = y at *
              generalize rt (1 + (1 + c)) = z at *
              have hzy : 0 ≤ z * y ∧ z * y ≤ 3328 * 3328 := ⟨Int.mul_nonneg b3.1 b2.1, Int.mul_le_mul (by omega) (by omega) (by omega) (by omega)⟩
              have hzy' : IntKind.i64.wrap (z * y) = z * y := IntWalk.i64_in _ (by omega)
              go_wp2
              have t0 : 0 ≤ 128 * (c : Int) + q := by omega
              have t1 : 128 * (c : Int) + q < 256 := by omega
              have t2 : (128 * (c : Int) + q).toNat = 128 * c + q := by omega
              have t3 : IntKind.i64.wrap (128 * (c : Int) + q + 64) = 128 * (c : Int) + q + 64 := IntWalk.i64_in _ (by omega)
              have t4 : 0 ≤ 128 * (c : Int) + q + 64 := by omega
              have t5 : 128 * (c : Int) + q + 64 < 256 := by omega
              have t6 : (128 * (c : Int) + q + 64).toNat = 128 * c + q + 64 := by omega
              have t7 : 0 < 127 - (1 + c) := by omega
              go_still (by kernel_rfl)
              change Exit.then _ _ _ _ wr.drew
              have t8 : IntKind.i64.wrap (x + z * y) = x + z * y := IntWalk.i64_in _ (by omega)
              have t9 : IntKind.i64.wrap (x - z * y) = x - z * y := IntWalk.i64_in _ (by omega)
              have q1 := q1.drew
              have q2 := q2.drew
              have q3 := q3.drew
              have q4 := q4.drew
              clear c1 c2 c3
              generalize wr.drew = w4 at *
              have c1 := q1.cell (128 * c + q) (by omega)
              have f1 := q1.frozen (128 * c + q)
              have s1 := q1.set (128 * c + q) (emod (x + z * y))
              have c2 := s1.cell (128 * c + q + 64) (by omega)
              have f2 := s1.frozen (128 * c + q + 64)
              have s2 := ((s1.set (128 * c + q + 64) (emod (x - z * y))).congr (fun i _ => hst i)).drew
              have o1 := ((q2.other ⟨w1.heap.size, 128 * c + q, none⟩ (.int .i64 (emod (x + z * y))) (by simp; omega)).other ⟨w1.heap.size, 128 * c + q + 64, none⟩ (.int .i64 (emod (x - z * y))) (by simp; omega)).drew
              have o2 := ((q4.other ⟨w1.heap.size, 128 * c + q, none⟩ (.int .i64 (emod (x + z * y))) (by simp; omega)).other ⟨w1.heap.size, 128 * c + q + 64, none⟩ (.int .i64 (emod (x - z * y))) (by simp; omega)).drew
              have o3 := ((q3.setCell (p := ⟨w1.heap.size, 128 * c + q, none⟩) (by simp; omega) (.int .i64 (emod (x + z * y)))).setCell (p := ⟨w1.heap.size, 128 * c + q + 64, none⟩) (by simp; omega) (.int .i64 (emod (x - z * y)))).drew
              clear s1 q1 q2 q3 q4 hst e1 e2
              go_wp2
              go_region_with (first | (go_at_call 25; refine (mod25 _ _ (by omega) (by omega)).mono ?_; rintro e w' ⟨rfl, rfl⟩))
              go_wp2
              go_roundw
              case rel => exact ⟨q + 1, by omega, by go_num, s2, o1, o3, o2⟩
              case measure => simp [intOf]; omega
            · have e1 : q = 64 := by omega
              subst e1
              have q1 := q1.congr (fun i _ => part_next (128 * c) 64 (lay 64 F) F i)
              have d2 : ¬ (127 - (1 + c) = 1) := by omega
              go_wp2
              go_roundw
              case rel => exact ⟨c + 1, by omega, by go_num, ⟨o + 1, by rw [show 127 - (1 + c) - 1 = 127 - (1 + (c + 1)) by omega], by omega⟩, q1, q2, q3, q4⟩
              case measure => simp [intOf]; omega
        · have e1 : c = 2 := by omega
          subst e1
          have q1 := q1.congr (g := Ls (1 + 1) fun i => emod (a i)) (fun i hi => (part_all 64 (lay 64 F) F i hi).trans (by rw [← HF.out]; rfl))
          go_wp2
          go_roundw
          case rel => exact ⟨1 + 1, 32, 3, _, by unfold Lv; simp, rfl, ⟨o, rfl, ho⟩, q1, q2, q3, q4⟩
          case measure => simp [intOf]
    · generalize hF : (Ls 2 fun i => emod (a i)) = F at q1
      have hFb : ∀ i, 0 ≤ F i ∧ F i < 3329 := fun i => by rw [← hF]; exact Ls_bd _ _ (fun i => emod_bd _) i
      have HF := Lib.hid hF; clear hF
      have HFb := Lib.hid hFb; clear hFb
      go_wp2
      obtain ⟨wo, hwo⟩ : ∃ wo : World, wo = wr := ⟨_, rfl⟩
      go_loopw [4, 6] (fun v4 v6 wr => ∃ c : Nat, c ≤ 4 ∧ v6 = .int .i64 (64 * (c : Int)) ∧ Left v4 (3 + c) ∧ Row wr w1.heap.size 23 256 (part (Done (64 * c) 32 0) (lay 32 F) F) ∧ Row wr (w.heap.size + 1) 23 256 (fun _ => 0) ∧ Below w.heap.size w wr ∧ TRow wr 0 128 rt) (fun v4 v6 wr => 256 - (intOf v6).toNat)
      case atStart => exact ⟨0, by omega, rfl, hv4, q1.congr (fun i _ => (part_zero _ _ _ _).symm), q2, q3, q4⟩
      case round =>
        clear q1 q2 q3 q4 hv4 hwo wo r5 r6 hb2 r7
        obtain ⟨c, hc, rfl, ⟨o, rfl, ho⟩, q1, q2, q3, q4⟩ := hrel
        by_cases hlt2 : c < 4
        · have hd : decide (64 * (c : Int) < 256) = true := by simp; omega
          go_wp2
          obtain ⟨wo, hwo⟩ : ∃ wo : World, wo = wr := ⟨_, rfl⟩
          go_loopw [7] (fun v7 wr => ∃ q : Nat, q ≤ 32 ∧ v7 = .int .i64 (64 * (c : Int) + q) ∧ Row wr w1.heap.size 23 256 (part (Done (64 * c) 32 q) (lay 32 F) F) ∧ Row wr (w.heap.size + 1) 23 256 (fun _ => 0) ∧ Below w.heap.size w wr ∧ TRow wr 0 128 rt) (fun v7 wr => 256 - (intOf v7).toNat)
          case atStart => exact ⟨0, by omega, by go_num, q1, q2, q3, q4⟩
          case round =>
            clear q1 q2 q3 q4 hwo wo
            obtain ⟨q, hq, rfl, q1, q2, q3, q4⟩ := hrel
            by_cases hlt3 : q < 32
            · have ho1 := ho (by omega)
              subst ho1
              have c1 := q1.cell (64 * c + q) (by omega)
              have c2 := q1.cell (64 * c + q + 32) (by omega)
              have c3 := q4.cell (1 + (3 + c)) (by omega)
              rw [show part (Done (64 * c) 32 q) (lay 32 F) F (64 * c + q) = F (64 * c + q) from if_neg (by unfold Done; omega)] at c1
              rw [show part (Done (64 * c) 32 q) (lay 32 F) F (64 * c + q + 32) = F (64 * c + q + 32) from if_neg (by unfold Done; omega)] at c2
              have b1 := HFb.out (64 * c + q)
              have b2 := HFb.out (64 * c + q + 32)
              have b3 := rt_bd (1 + (3 + c))
              have e1 := lay_lo 32 c q hlt3 F
              have e2 := lay_hi 32 c q hlt3 F
              rw [show 128 / 32 + c = 1 + (3 + c) by omega] at e1 e2
              have hst := part_step (64 * c) 32 q hlt3 (lay 32 F) F _ _ e1.symm e2.symm
              simp only [Nat.reduceMul] at e1 e2 hst
              generalize F (64 * c + q) = x at *
              generalize F (64 * c + q + 32) = y at *
              generalize rt (1 + (3 + c)) = z at *
              have hzy : 0 ≤ z * y ∧ z * y ≤ 3328 * 3328 := ⟨Int.mul_nonneg b3.1 b2.1, Int.mul_le_mul (by omega) (by omega) (by omega) (by omega)⟩
              have hzy' : IntKind.i64.wrap (z * y) = z * y := IntWalk.i64_in _ (by omega)
              go_wp2
              have t0 : 0 ≤ 64 * (c : Int) + q := by omega
              have t1 : 64 * (c : Int) + q < 256 := by omega
              have t2 : (64 * (c : Int) + q).toNat = 64 * c + q := by omega
              have t3 : IntKind.i64.wrap (64 * (c : Int) + q + 32) = 64 * (c : Int) + q + 32 := IntWalk.i64_in _ (by omega)
              have t4 : 0 ≤ 64 * (c : Int) + q + 32 := by omega
              have t5 : 64 * (c : Int) + q + 32 < 256 := by omega
              have t6 : (64 * (c : Int) + q + 32).toNat = 64 * c + q + 32 := by omega
              have t7 : 0 < 127 - (3 + c) := by omega
              go_still (by kernel_rfl)
              change Exit.then _ _ _ _ wr.drew
              have t8 : IntKind.i64.wrap (x + z * y) = x + z * y := IntWalk.i64_in _ (by omega)
              have t9 : IntKind.i64.wrap (x - z * y) = x - z * y := IntWalk.i64_in _ (by omega)
              have q1 := q1.drew
              have q2 := q2.drew
              have q3 := q3.drew
              have q4 := q4.drew
              clear c1 c2 c3
              generalize wr.drew = w4 at *
              have c1 := q1.cell (64 * c + q) (by omega)
              have f1 := q1.frozen (64 * c + q)
              have s1 := q1.set (64 * c + q) (emod (x + z * y))
              have c2 := s1.cell (64 * c + q + 32) (by omega)
              have f2 := s1.frozen (64 * c + q + 32)
              have s2 := ((s1.set (64 * c + q + 32) (emod (x - z * y))).congr (fun i _ => hst i)).drew
              have o1 := ((q2.other ⟨w1.heap.size, 64 * c + q, none⟩ (.int .i64 (emod (x + z * y))) (by simp; omega)).other ⟨w1.heap.size, 64 * c + q + 32, none⟩ (.int .i64 (emod (x - z * y))) (by simp; omega)).drew
              have o2 := ((q4.other ⟨w1.heap.size, 64 * c + q, none⟩ (.int .i64 (emod (x + z * y))) (by simp; omega)).other ⟨w1.heap.size, 64 * c + q + 32, none⟩ (.int .i64 (emod (x - z * y))) (by simp; omega)).drew
              have o3 := ((q3.setCell (p := ⟨w1.heap.size, 64 * c + q, none⟩) (by simp; omega) (.int .i64 (emod (x + z * y)))).setCell (p := ⟨w1.heap.size, 64 * c + q + 32, none⟩) (by simp; omega) (.int .i64 (emod (x - z * y)))).drew
              clear s1 q1 q2 q3 q4 hst e1 e2
              go_wp2
              go_region_with (first | (go_at_call 25; refine (mod25 _ _ (by omega) (by omega)).mono ?_; rintro e w' ⟨rfl, rfl⟩))
              go_wp2
              go_roundw
              case rel => exact ⟨q + 1, by omega, by go_num, s2, o1, o3, o2⟩
              case measure => simp [intOf]; omega
            · have e1 : q = 32 := by omega
              subst e1
              have q1 := q1.congr (fun i _ => part_next (64 * c) 32 (lay 32 F) F i)
              have d2 : ¬ (127 - (3 + c) = 1) := by omega
              go_wp2
              go_roundw
              case rel => exact ⟨c + 1, by omega, by go_num, ⟨o + 1, by rw [show 127 - (3 + c) - 1 = 127 - (3 + (c + 1)) by omega], by omega⟩, q1, q2, q3, q4⟩
              case measure => simp [intOf]; omega
        · have e1 : c = 4 := by omega
          subst e1
          have q1 := q1.congr (g := Ls (2 + 1) fun i => emod (a i)) (fun i hi => (part_all 32 (lay 32 F) F i hi).trans (by rw [← HF.out]; rfl))
          go_wp2
          go_roundw
          case rel => exact ⟨2 + 1, 16, 7, _, by unfold Lv; simp, rfl, ⟨o, rfl, ho⟩, q1, q2, q3, q4⟩
          case measure => simp [intOf]
    · generalize hF : (Ls 3 fun i => emod (a i)) = F at q1
      have hFb : ∀ i, 0 ≤ F i ∧ F i < 3329 := fun i => by rw [← hF]; exact Ls_bd _ _ (fun i => emod_bd _) i
      have HF := Lib.hid hF; clear hF
      have HFb := Lib.hid hFb; clear hFb
      go_wp2
      obtain ⟨wo, hwo⟩ : ∃ wo : World, wo = wr := ⟨_, rfl⟩
      go_loopw [4, 6] (fun v4 v6 wr => ∃ c : Nat, c ≤ 8 ∧ v6 = .int .i64 (32 * (c : Int)) ∧ Left v4 (7 + c) ∧ Row wr w1.heap.size 23 256 (part (Done (32 * c) 16 0) (lay 16 F) F) ∧ Row wr (w.heap.size + 1) 23 256 (fun _ => 0) ∧ Below w.heap.size w wr ∧ TRow wr 0 128 rt) (fun v4 v6 wr => 256 - (intOf v6).toNat)
      case atStart => exact ⟨0, by omega, rfl, hv4, q1.congr (fun i _ => (part_zero _ _ _ _).symm), q2, q3, q4⟩
      case round =>
        clear q1 q2 q3 q4 hv4 hwo wo r5 r6 hb2 r7
        obtain ⟨c, hc, rfl, ⟨o, rfl, ho⟩, q1, q2, q3, q4⟩ := hrel
        by_cases hlt2 : c < 8
        · have hd : decide (32 * (c : Int) < 256) = true := by simp; omega
          go_wp2
          obtain ⟨wo, hwo⟩ : ∃ wo : World, wo = wr := ⟨_, rfl⟩
          go_loopw [7] (fun v7 wr => ∃ q : Nat, q ≤ 16 ∧ v7 = .int .i64 (32 * (c : Int) + q) ∧ Row wr w1.heap.size 23 256 (part (Done (32 * c) 16 q) (lay 16 F) F) ∧ Row wr (w.heap.size + 1) 23 256 (fun _ => 0) ∧ Below w.heap.size w wr ∧ TRow wr 0 128 rt) (fun v7 wr => 256 - (intOf v7).toNat)
          case atStart => exact ⟨0, by omega, by go_num, q1, q2, q3, q4⟩
          case round =>
            clear q1 q2 q3 q4 hwo wo
            obtain ⟨q, hq, rfl, q1, q2, q3, q4⟩ := hrel
            by_cases hlt3 : q < 16
            · have ho1 := ho (by omega)
              subst ho1
              have c1 := q1.cell (32 * c + q) (by omega)
              have c2 := q1.cell (32 * c + q + 16) (by omega)
              have c3 := q4.cell (1 + (7 + c)) (by omega)
              rw [show part (Done (32 * c) 16 q) (lay 16 F) F (32 * c + q) = F (32 * c + q) from if_neg (by unfold Done; omega)] at c1
              rw [show part (Done (32 * c) 16 q) (lay 16 F) F (32 * c + q + 16) = F (32 * c + q + 16) from if_neg (by unfold Done; omega)] at c2
              have b1 := HFb.out (32 * c + q)
              have b2 := HFb.out (32 * c + q + 16)
              have b3 := rt_bd (1 + (7 + c))
              have e1 := lay_lo 16 c q hlt3 F
              have e2 := lay_hi 16 c q hlt3 F
              rw [show 128 / 16 + c = 1 + (7 + c) by omega] at e1 e2
              have hst := part_step (32 * c) 16 q hlt3 (lay 16 F) F _ _ e1.symm e2.symm
              simp only [Nat.reduceMul] at e1 e2 hst
              generalize F (32 * c + q) = x at *
              generalize F (32 * c + q + 16) = y at *
              generalize rt (1 + (7 + c)) = z at *
              have hzy : 0 ≤ z * y ∧ z * y ≤ 3328 * 3328 := ⟨Int.mul_nonneg b3.1 b2.1, Int.mul_le_mul (by omega) (by omega) (by omega) (by omega)⟩
              have hzy' : IntKind.i64.wrap (z * y) = z * y := IntWalk.i64_in _ (by omega)
              go_wp2
              have t0 : 0 ≤ 32 * (c : Int) + q := by omega
              have t1 : 32 * (c : Int) + q < 256 := by omega
              have t2 : (32 * (c : Int) + q).toNat = 32 * c + q := by omega
              have t3 : IntKind.i64.wrap (32 * (c : Int) + q + 16) = 32 * (c : Int) + q + 16 := IntWalk.i64_in _ (by omega)
              have t4 : 0 ≤ 32 * (c : Int) + q + 16 := by omega
              have t5 : 32 * (c : Int) + q + 16 < 256 := by omega
              have t6 : (32 * (c : Int) + q + 16).toNat = 32 * c + q + 16 := by omega
              have t7 : 0 < 127 - (7 + c) := by omega
              go_still (by kernel_rfl)
              change Exit.then _ _ _ _ wr.drew
              have t8 : IntKind.i64.wrap (x + z * y) = x + z * y := IntWalk.i64_in _ (by omega)
              have t9 : IntKind.i64.wrap (x - z * y) = x - z * y := IntWalk.i64_in _ (by omega)
              have q1 := q1.drew
              have q2 := q2.drew
              have q3 := q3.drew
              have q4 := q4.drew
              clear c1 c2 c3
              generalize wr.drew = w4 at *
              have c1 := q1.cell (32 * c + q) (by omega)
              have f1 := q1.frozen (32 * c + q)
              have s1 := q1.set (32 * c + q) (emod (x + z * y))
              have c2 := s1.cell (32 * c + q + 16) (by omega)
              have f2 := s1.frozen (32 * c + q + 16)
              have s2 := ((s1.set (32 * c + q + 16) (emod (x - z * y))).congr (fun i _ => hst i)).drew
              have o1 := ((q2.other ⟨w1.heap.size, 32 * c + q, none⟩ (.int .i64 (emod (x + z * y))) (by simp; omega)).other ⟨w1.heap.size, 32 * c + q + 16, none⟩ (.int .i64 (emod (x - z * y))) (by simp; omega)).drew
              have o2 := ((q4.other ⟨w1.heap.size, 32 * c + q, none⟩ (.int .i64 (emod (x + z * y))) (by simp; omega)).other ⟨w1.heap.size, 32 * c + q + 16, none⟩ (.int .i64 (emod (x - z * y))) (by simp; omega)).drew
              have o3 := ((q3.setCell (p := ⟨w1.heap.size, 32 * c + q, none⟩) (by simp; omega) (.int .i64 (emod (x + z * y)))).setCell (p := ⟨w1.heap.size, 32 * c + q + 16, none⟩) (by simp; omega) (.int .i64 (emod (x - z * y)))).drew
              clear s1 q1 q2 q3 q4 hst e1 e2
              go_wp2
              go_region_with (first | (go_at_call 25; refine (mod25 _ _ (by omega) (by omega)).mono ?_; rintro e w' ⟨rfl, rfl⟩))
              go_wp2
              go_roundw
              case rel => exact ⟨q + 1, by omega, by go_num, s2, o1, o3, o2⟩
              case measure => simp [intOf]; omega
            · have e1 : q = 16 := by omega
              subst e1
              have q1 := q1.congr (fun i _ => part_next (32 * c) 16 (lay 16 F) F i)
              have d2 : ¬ (127 - (7 + c) = 1) := by omega
              go_wp2
              go_roundw
              case rel => exact ⟨c + 1, by omega, by go_num, ⟨o + 1, by rw [show 127 - (7 + c) - 1 = 127 - (7 + (c + 1)) by omega], by omega⟩, q1, q2, q3, q4⟩
              case measure => simp [intOf]; omega
        · have e1 : c = 8 := by omega
          subst e1
          have q1 := q1.congr (g := Ls (3 + 1) fun i => emod (a i)) (fun i hi => (part_all 16 (lay 16 F) F i hi).trans (by rw [← HF.out]; rfl))
          go_wp2
          go_roundw
          case rel => exact ⟨3 + 1, 8, 15, _, by unfold Lv; simp, rfl, ⟨o, rfl, ho⟩, q1, q2, q3, q4⟩
          case measure => simp [intOf]
    · generalize hF : (Ls 4 fun i => emod (a i)) = F at q1
      have hFb : ∀ i, 0 ≤ F i ∧ F i < 3329 := fun i => by rw [← hF]; exact Ls_bd _ _ (fun i => emod_bd _) i
      have HF := Lib.hid hF; clear hF
      have HFb := Lib.hid hFb; clear hFb
      go_wp2
      obtain ⟨wo, hwo⟩ : ∃ wo : World, wo = wr := ⟨_, rfl⟩
      go_loopw [4, 6] (fun v4 v6 wr => ∃ c : Nat, c ≤ 16 ∧ v6 = .int .i64 (16 * (c : Int)) ∧ Left v4 (15 + c) ∧ Row wr w1.heap.size 23 256 (part (Done (16 * c) 8 0) (lay 8 F) F) ∧ Row wr (w.heap.size + 1) 23 256 (fun _ => 0) ∧ Below w.heap.size w wr ∧ TRow wr 0 128 rt) (fun v4 v6 wr => 256 - (intOf v6).toNat)
      case atStart => exact ⟨0, by omega, rfl, hv4, q1.congr (fun i _ => (part_zero _ _ _ _).symm), q2, q3, q4⟩
      case round =>
        clear q1 q2 q3 q4 hv4 hwo wo r5 r6 hb2 r7
        obtain ⟨c, hc, rfl, ⟨o, rfl, ho⟩, q1, q2, q3, q4⟩ := hrel
        by_cases hlt2 : c < 16
        · have hd : decide (16 * (c : Int) < 256) = true := by simp; omega
          go_wp2
          obtain ⟨wo, hwo⟩ : ∃ wo : World, wo = wr := ⟨_, rfl⟩
          go_loopw [7] (fun v7 wr => ∃ q : Nat, q ≤ 8 ∧ v7 = .int .i64 (16 * (c : Int) + q) ∧ Row wr w1.heap.size 23 256 (part (Done (16 * c) 8 q) (lay 8 F) F) ∧ Row wr (w.heap.size + 1) 23 256 (fun _ => 0) ∧ Below w.heap.size w wr ∧ TRow wr 0 128 rt) (fun v7 wr => 256 - (intOf v7).toNat)
          case atStart => exact ⟨0, by omega, by go_num, q1, q2, q3, q4⟩
          case round =>
            clear q1 q2 q3 q4 hwo wo
            obtain ⟨q, hq, rfl, q1, q2, q3, q4⟩ := hrel
            by_cases hlt3 : q < 8
            · have ho1 := ho (by omega)
              subst ho1
              have c1 := q1.cell (16 * c + q) (by omega)
              have c2 := q1.cell (16 * c + q + 8) (by omega)
              have c3 := q4.cell (1 + (15 + c)) (by omega)
              rw [show part (Done (16 * c) 8 q) (lay 8 F) F (16 * c + q) = F (16 * c + q) from if_neg (by unfold Done; omega)] at c1
              rw [show part (Done (16 * c) 8 q) (lay 8 F) F (16 * c + q + 8) = F (16 * c + q + 8) from if_neg (by unfold Done; omega)] at c2
              have b1 := HFb.out (16 * c + q)
              have b2 := HFb.out (16 * c + q + 8)
              have b3 := rt_bd (1 + (15 + c))
              have e1 := lay_lo 8 c q hlt3 F
              have e2 := lay_hi 8 c q hlt3 F
              rw [show 128 / 8 + c = 1 + (15 + c) by omega] at e1 e2
              have hst := part_step (16 * c) 8 q hlt3 (lay 8 F) F _ _ e1.symm e2.symm
              simp only [Nat.reduceMul] at e1 e2 hst
              generalize F (16 * c + q) = x at *
              generalize F (16 * c + q + 8) = y at *
              generalize rt (1 + (15 + c)) = z at *
              have hzy : 0 ≤ z * y ∧ z * y ≤ 3328 * 3328 := ⟨Int.mul_nonneg b3.1 b2.1, Int.mul_le_mul (by omega) (by omega) (by omega) (by omega)⟩
              have hzy' : IntKind.i64.wrap (z * y) = z * y := IntWalk.i64_in _ (by omega)
              go_wp2
              have t0 : 0 ≤ 16 * (c : Int) + q := by omega
              have t1 : 16 * (c : Int) + q < 256 := by omega
              have t2 : (16 * (c : Int) + q).toNat = 16 * c + q := by omega
              have t3 : IntKind.i64.wrap (16 * (c : Int) + q + 8) = 16 * (c : Int) + q + 8 := IntWalk.i64_in _ (by omega)
              have t4 : 0 ≤ 16 * (c : Int) + q + 8 := by omega
              have t5 : 16 * (c : Int) + q + 8 < 256 := by omega
              have t6 : (16 * (c : Int) + q + 8).toNat = 16 * c + q + 8 := by omega
              have t7 : 0 < 127 - (15 + c) := by omega
              go_still (by kernel_rfl)
              change Exit.then _ _ _ _ wr.drew
              have t8 : IntKind.i64.wrap (x + z * y) = x + z * y := IntWalk.i64_in _ (by omega)
              have t9 : IntKind.i64.wrap (x - z * y) = x - z * y := IntWalk.i64_in _ (by omega)
              have q1 := q1.drew
              have q2 := q2.drew
              have q3 := q3.drew
              have q4 := q4.drew
              clear c1 c2 c3
              generalize wr.drew = w4 at *
              have c1 := q1.cell (16 * c + q) (by omega)
              have f1 := q1.frozen (16 * c + q)
              have s1 := q1.set (16 * c + q) (emod (x + z * y))
              have c2 := s1.cell (16 * c + q + 8) (by omega)
              have f2 := s1.frozen (16 * c + q + 8)
              have s2 := ((s1.set (16 * c + q + 8) (emod (x - z * y))).congr (fun i _ => hst i)).drew
              have o1 := ((q2.other ⟨w1.heap.size, 16 * c + q, none⟩ (.int .i64 (emod (x + z * y))) (by simp; omega)).other ⟨w1.heap.size, 16 * c + q + 8, none⟩ (.int .i64 (emod (x - z * y))) (by simp; omega)).drew
              have o2 := ((q4.other ⟨w1.heap.size, 16 * c + q, none⟩ (.int .i64 (emod (x + z * y))) (by simp; omega)).other ⟨w1.heap.size, 16 * c + q + 8, none⟩ (.int .i64 (emod (x - z * y))) (by simp; omega)).drew
              have o3 := ((q3.setCell (p := ⟨w1.heap.size, 16 * c + q, none⟩) (by simp; omega) (.int .i64 (emod (x + z * y)))).setCell (p := ⟨w1.heap.size, 16 * c + q + 8, none⟩) (by simp; omega) (.int .i64 (emod (x - z * y)))).drew
              clear s1 q1 q2 q3 q4 hst e1 e2
              go_wp2
              go_region_with (first | (go_at_call 25; refine (mod25 _ _ (by omega) (by omega)).mono ?_; rintro e w' ⟨rfl, rfl⟩))
              go_wp2
              go_roundw
              case rel => exact ⟨q + 1, by omega, by go_num, s2, o1, o3, o2⟩
              case measure => simp [intOf]; omega
            · have e1 : q = 8 := by omega
              subst e1
              have q1 := q1.congr (fun i _ => part_next (16 * c) 8 (lay 8 F) F i)
              have d2 : ¬ (127 - (15 + c) = 1) := by omega
              go_wp2
              go_roundw
              case rel => exact ⟨c + 1, by omega, by go_num, ⟨o + 1, by rw [show 127 - (15 + c) - 1 = 127 - (15 + (c + 1)) by omega], by omega⟩, q1, q2, q3, q4⟩
              case measure => simp [intOf]; omega
        · have e1 : c = 16 := by omega
          subst e1
          have q1 := q1.congr (g := Ls (4 + 1) fun i => emod (a i)) (fun i hi => (part_all 8 (lay 8 F) F i hi).trans (by rw [← HF.out]; rfl))
          go_wp2
          go_roundw
          case rel => exact ⟨4 + 1, 4, 31, _, by unfold Lv; simp, rfl, ⟨o, rfl, ho⟩, q1, q2, q3, q4⟩
          case measure => simp [intOf]
    · generalize hF : (Ls 5 fun i => emod (a i)) = F at q1
      have hFb : ∀ i, 0 ≤ F i ∧ F i < 3329 := fun i => by rw [← hF]; exact Ls_bd _ _ (fun i => emod_bd _) i
      have HF := Lib.hid hF; clear hF
      have HFb := Lib.hid hFb; clear hFb
      go_wp2
      obtain ⟨wo, hwo⟩ : ∃ wo : World, wo = wr := ⟨_, rfl⟩
      go_loopw [4, 6] (fun v4 v6 wr => ∃ c : Nat, c ≤ 32 ∧ v6 = .int .i64 (8 * (c : Int)) ∧ Left v4 (31 + c) ∧ Row wr w1.heap.size 23 256 (part (Done (8 * c) 4 0) (lay 4 F) F) ∧ Row wr (w.heap.size + 1) 23 256 (fun _ => 0) ∧ Below w.heap.size w wr ∧ TRow wr 0 128 rt) (fun v4 v6 wr => 256 - (intOf v6).toNat)
      case atStart => exact ⟨0, by omega, rfl, hv4, q1.congr (fun i _ => (part_zero _ _ _ _).symm), q2, q3, q4⟩
      case round =>
        clear q1 q2 q3 q4 hv4 hwo wo r5 r6 hb2 r7
        obtain ⟨c, hc, rfl, ⟨o, rfl, ho⟩, q1, q2, q3, q4⟩ := hrel
        by_cases hlt2 : c < 32
        · have hd : decide (8 * (c : Int) < 256) = true := by simp; omega
          go_wp2
          obtain ⟨wo, hwo⟩ : ∃ wo : World, wo = wr := ⟨_, rfl⟩
          go_loopw [7] (fun v7 wr => ∃ q : Nat, q ≤ 4 ∧ v7 = .int .i64 (8 * (c : Int) + q) ∧ Row wr w1.heap.size 23 256 (part (Done (8 * c) 4 q) (lay 4 F) F) ∧ Row wr (w.heap.size + 1) 23 256 (fun _ => 0) ∧ Below w.heap.size w wr ∧ TRow wr 0 128 rt) (fun v7 wr => 256 - (intOf v7).toNat)
          case atStart => exact ⟨0, by omega, by go_num, q1, q2, q3, q4⟩
          case round =>
            clear q1 q2 q3 q4 hwo wo
            obtain ⟨q, hq, rfl, q1, q2, q3, q4⟩ := hrel
            by_cases hlt3 : q < 4
            · have ho1 := ho (by omega)
              subst ho1
              have c1 := q1.cell (8 * c + q) (by omega)
              have c2 := q1.cell (8 * c + q + 4) (by omega)
              have c3 := q4.cell (1 + (31 + c)) (by omega)
              rw [show part (Done (8 * c) 4 q) (lay 4 F) F (8 * c + q) = F (8 * c + q) from if_neg (by unfold Done; omega)] at c1
              rw [show part (Done (8 * c) 4 q) (lay 4 F) F (8 * c + q + 4) = F (8 * c + q + 4) from if_neg (by unfold Done; omega)] at c2
              have b1 := HFb.out (8 * c + q)
              have b2 := HFb.out (8 * c + q + 4)
              have b3 := rt_bd (1 + (31 + c))
              have e1 := lay_lo 4 c q hlt3 F
              have e2 := lay_hi 4 c q hlt3 F
              rw [show 128 / 4 + c = 1 + (31 + c) by omega] at e1 e2
              have hst := part_step (8 * c) 4 q hlt3 (lay 4 F) F _ _ e1.symm e2.symm
              simp only [Nat.reduceMul] at e1 e2 hst
              generalize F (8 * c + q) = x at *
              generalize F (8 * c + q + 4) = y at *
              generalize rt (1 + (31 + c)) = z at *
              have hzy : 0 ≤ z * y ∧ z * y ≤ 3328 * 3328 := ⟨Int.mul_nonneg b3.1 b2.1, Int.mul_le_mul (by omega) (by omega) (by omega) (by omega)⟩
              have hzy' : IntKind.i64.wrap (z * y) = z * y := IntWalk.i64_in _ (by omega)
              go_wp2
              have t0 : 0 ≤ 8 * (c : Int) + q := by omega
              have t1 : 8 * (c : Int) + q < 256 := by omega
              have t2 : (8 * (c : Int) + q).toNat = 8 * c + q := by omega
              have t3 : IntKind.i64.wrap (8 * (c : Int) + q + 4) = 8 * (c : Int) + q + 4 := IntWalk.i64_in _ (by omega)
              have t4 : 0 ≤ 8 * (c : Int) + q + 4 := by omega
              have t5 : 8 * (c : Int) + q + 4 < 256 := by omega
              have t6 : (8 * (c : Int) + q + 4).toNat = 8 * c + q + 4 := by omega
              have t7 : 0 < 127 - (31 + c) := by omega
              go_still (by kernel_rfl)
              change Exit.then _ _ _ _ wr.drew
              have t8 : IntKind.i64.wrap (x + z * y) = x + z * y := IntWalk.i64_in _ (by omega)
              have t9 : IntKind.i64.wrap (x - z * y) = x - z * y := IntWalk.i64_in _ (by omega)
              have q1 := q1.drew
              have q2 := q2.drew
              have q3 := q3.drew
              have q4 := q4.drew
              clear c1 c2 c3
              generalize wr.drew = w4 at *
              have c1 := q1.cell (8 * c + q) (by omega)
              have f1 := q1.frozen (8 * c + q)
              have s1 := q1.set (8 * c + q) (emod (x + z * y))
              have c2 := s1.cell (8 * c + q + 4) (by omega)
              have f2 := s1.frozen (8 * c + q + 4)
              have s2 := ((s1.set (8 * c + q + 4) (emod (x - z * y))).congr (fun i _ => hst i)).drew
              have o1 := ((q2.other ⟨w1.heap.size, 8 * c + q, none⟩ (.int .i64 (emod (x + z * y))) (by simp; omega)).other ⟨w1.heap.size, 8 * c + q + 4, none⟩ (.int .i64 (emod (x - z * y))) (by simp; omega)).drew
              have o2 := ((q4.other ⟨w1.heap.size, 8 * c + q, none⟩ (.int .i64 (emod (x + z * y))) (by simp; omega)).other ⟨w1.heap.size, 8 * c + q + 4, none⟩ (.int .i64 (emod (x - z * y))) (by simp; omega)).drew
              have o3 := ((q3.setCell (p := ⟨w1.heap.size, 8 * c + q, none⟩) (by simp; omega) (.int .i64 (emod (x + z * y)))).setCell (p := ⟨w1.heap.size, 8 * c + q + 4, none⟩) (by simp; omega) (.int .i64 (emod (x - z * y)))).drew
              clear s1 q1 q2 q3 q4 hst e1 e2
              go_wp2
              go_region_with (first | (go_at_call 25; refine (mod25 _ _ (by omega) (by omega)).mono ?_; rintro e w' ⟨rfl, rfl⟩))
              go_wp2
              go_roundw
              case rel => exact ⟨q + 1, by omega, by go_num, s2, o1, o3, o2⟩
              case measure => simp [intOf]; omega
            · have e1 : q = 4 := by omega
              subst e1
              have q1 := q1.congr (fun i _ => part_next (8 * c) 4 (lay 4 F) F i)
              have d2 : ¬ (127 - (31 + c) = 1) := by omega
              go_wp2
              go_roundw
              case rel => exact ⟨c + 1, by omega, by go_num, ⟨o + 1, by rw [show 127 - (31 + c) - 1 = 127 - (31 + (c + 1)) by omega], by omega⟩, q1, q2, q3, q4⟩
              case measure => simp [intOf]; omega
        · have e1 : c = 32 := by omega
          subst e1
          have q1 := q1.congr (g := Ls (5 + 1) fun i => emod (a i)) (fun i hi => (part_all 4 (lay 4 F) F i hi).trans (by rw [← HF.out]; rfl))
          go_wp2
          go_roundw
          case rel => exact ⟨5 + 1, 2, 63, _, by unfold Lv; simp, rfl, ⟨o, rfl, ho⟩, q1, q2, q3, q4⟩
          case measure => simp [intOf]
    · generalize hF : (Ls 6 fun i => emod (a i)) = F at q1
      have hFb : ∀ i, 0 ≤ F i ∧ F i < 3329 := fun i => by rw [← hF]; exact Ls_bd _ _ (fun i => emod_bd _) i
      have HF := Lib.hid hF; clear hF
      have HFb := Lib.hid hFb; clear hFb
      go_wp2
      obtain ⟨wo, hwo⟩ : ∃ wo : World, wo = wr := ⟨_, rfl⟩
      go_loopw [4, 6] (fun v4 v6 wr => ∃ c : Nat, c ≤ 64 ∧ v6 = .int .i64 (4 * (c : Int)) ∧ Left v4 (63 + c) ∧ Row wr w1.heap.size 23 256 (part (Done (4 * c) 2 0) (lay 2 F) F) ∧ Row wr (w.heap.size + 1) 23 256 (fun _ => 0) ∧ Below w.heap.size w wr ∧ TRow wr 0 128 rt) (fun v4 v6 wr => 256 - (intOf v6).toNat)
      case atStart => exact ⟨0, by omega, rfl, hv4, q1.congr (fun i _ => (part_zero _ _ _ _).symm), q2, q3, q4⟩
      case round =>
        clear q1 q2 q3 q4 hv4 hwo wo r5 r6 hb2 r7
        obtain ⟨c, hc, rfl, ⟨o, rfl, ho⟩, q1, q2, q3, q4⟩ := hrel
        by_cases hlt2 : c < 64
        · have hd : decide (4 * (c : Int) < 256) = true := by simp; omega
          go_wp2
          obtain ⟨wo, hwo⟩ : ∃ wo : World, wo = wr := ⟨_, rfl⟩
          go_loopw [7] (fun v7 wr => ∃ q : Nat, q ≤ 2 ∧ v7 = .int .i64 (4 * (c : Int) + q) ∧ Row wr w1.heap.size 23 256 (part (Done (4 * c) 2 q) (lay 2 F) F) ∧ Row wr (w.heap.size + 1) 23 256 (fun _ => 0) ∧ Below w.heap.size w wr ∧ TRow wr 0 128 rt) (fun v7 wr => 256 - (intOf v7).toNat)
          case atStart => exact ⟨0, by omega, by go_num, q1, q2, q3, q4⟩
          case round =>
            clear q1 q2 q3 q4 hwo wo
            obtain ⟨q, hq, rfl, q1, q2, q3, q4⟩ := hrel
            by_cases hlt3 : q < 2
            · have ho1 := ho (by omega)
              subst ho1
              have c1 := q1.cell (4 * c + q) (by omega)
              have c2 := q1.cell (4 * c + q + 2) (by omega)
              have c3 := q4.cell (1 + (63 + c)) (by omega)
              rw [show part (Done (4 * c) 2 q) (lay 2 F) F (4 * c + q) = F (4 * c + q) from if_neg (by unfold Done; omega)] at c1
              rw [show part (Done (4 * c) 2 q) (lay 2 F) F (4 * c + q + 2) = F (4 * c + q + 2) from if_neg (by unfold Done; omega)] at c2
              have b1 := HFb.out (4 * c + q)
              have b2 := HFb.out (4 * c + q + 2)
              have b3 := rt_bd (1 + (63 + c))
              have e1 := lay_lo 2 c q hlt3 F
              have e2 := lay_hi 2 c q hlt3 F
              rw [show 128 / 2 + c = 1 + (63 + c) by omega] at e1 e2
              have hst := part_step (4 * c) 2 q hlt3 (lay 2 F) F _ _ e1.symm e2.symm
              simp only [Nat.reduceMul] at e1 e2 hst
              generalize F (4 * c + q) = x at *
              generalize F (4 * c + q + 2) = y at *
              generalize rt (1 + (63 + c)) = z at *
              have hzy : 0 ≤ z * y ∧ z * y ≤ 3328 * 3328 := ⟨Int.mul_nonneg b3.1 b2.1, Int.mul_le_mul (by omega) (by omega) (by omega) (by omega)⟩
              have hzy' : IntKind.i64.wrap (z * y) = z * y := IntWalk.i64_in _ (by omega)
              go_wp2
              have t0 : 0 ≤ 4 * (c : Int) + q := by omega
              have t1 : 4 * (c : Int) + q < 256 := by omega
              have t2 : (4 * (c : Int) + q).toNat = 4 * c + q := by omega
              have t3 : IntKind.i64.wrap (4 * (c : Int) + q + 2) = 4 * (c : Int) + q + 2 := IntWalk.i64_in _ (by omega)
              have t4 : 0 ≤ 4 * (c : Int) + q + 2 := by omega
              have t5 : 4 * (c : Int) + q + 2 < 256 := by omega
              have t6 : (4 * (c : Int) + q + 2).toNat = 4 * c + q + 2 := by omega
              have t7 : 0 < 127 - (63 + c) := by omega
              go_still (by kernel_rfl)
              change Exit.then _ _ _ _ wr.drew
              have t8 : IntKind.i64.wrap (x + z * y) = x + z * y := IntWalk.i64_in _ (by omega)
              have t9 : IntKind.i64.wrap (x - z * y) = x - z * y := IntWalk.i64_in _ (by omega)
              have q1 := q1.drew
              have q2 := q2.drew
              have q3 := q3.drew
              have q4 := q4.drew
              clear c1 c2 c3
              generalize wr.drew = w4 at *
              have c1 := q1.cell (4 * c + q) (by omega)
              have f1 := q1.frozen (4 * c + q)
              have s1 := q1.set (4 * c + q) (emod (x + z * y))
              have c2 := s1.cell (4 * c + q + 2) (by omega)
              have f2 := s1.frozen (4 * c + q + 2)
              have s2 := ((s1.set (4 * c + q + 2) (emod (x - z * y))).congr (fun i _ => hst i)).drew
              have o1 := ((q2.other ⟨w1.heap.size, 4 * c + q, none⟩ (.int .i64 (emod (x + z * y))) (by simp; omega)).other ⟨w1.heap.size, 4 * c + q + 2, none⟩ (.int .i64 (emod (x - z * y))) (by simp; omega)).drew
              have o2 := ((q4.other ⟨w1.heap.size, 4 * c + q, none⟩ (.int .i64 (emod (x + z * y))) (by simp; omega)).other ⟨w1.heap.size, 4 * c + q + 2, none⟩ (.int .i64 (emod (x - z * y))) (by simp; omega)).drew
              have o3 := ((q3.setCell (p := ⟨w1.heap.size, 4 * c + q, none⟩) (by simp; omega) (.int .i64 (emod (x + z * y)))).setCell (p := ⟨w1.heap.size, 4 * c + q + 2, none⟩) (by simp; omega) (.int .i64 (emod (x - z * y)))).drew
              clear s1 q1 q2 q3 q4 hst e1 e2
              go_wp2
              go_region_with (first | (go_at_call 25; refine (mod25 _ _ (by omega) (by omega)).mono ?_; rintro e w' ⟨rfl, rfl⟩))
              go_wp2
              go_roundw
              case rel => exact ⟨q + 1, by omega, by go_num, s2, o1, o3, o2⟩
              case measure => simp [intOf]; omega
            · have e1 : q = 2 := by omega
              subst e1
              have q1 := q1.congr (fun i _ => part_next (4 * c) 2 (lay 2 F) F i)
              by_cases hc63 : c = 63
              · have d2 : 127 - (63 + c) = 1 := by omega
                subst hc63
                go_wp2
                go_roundw
                case rel => exact ⟨63 + 1, by omega, by go_num, ⟨_, rfl, by omega⟩, q1, q2, q3, q4⟩
                case measure => simp [intOf]
              · have d2 : ¬ (127 - (63 + c) = 1) := by omega
                go_wp2
                go_roundw
                case rel => exact ⟨c + 1, by omega, by go_num, ⟨o + 1, by rw [show 127 - (63 + c) - 1 = 127 - (63 + (c + 1)) by omega], by omega⟩, q1, q2, q3, q4⟩
                case measure => simp [intOf]; omega
        · have e1 : c = 64 := by omega
          subst e1
          have q1 := q1.congr (g := Ls (6 + 1) fun i => emod (a i)) (fun i hi => (part_all 2 (lay 2 F) F i hi).trans (by rw [← HF.out]; rfl))
          go_wp2
          go_roundw
          case rel => exact ⟨6 + 1, 1, 127, _, by unfold Lv; simp, rfl, ⟨o, rfl, ho⟩, q1, q2, q3, q4⟩
          case measure => simp [intOf]
    · have rb := below_setRow q3 (g := w.heap.size + 1) (by omega) (arr 256 (Ls 7 fun i => emod (a i)))
      have r4 := q2.setRow (m := 256) (Ls 7 fun i => emod (a i))
      go_wp2_with (first | (with_reducible refine load23 rfl (.tmp 3) rfl w1.heap.size rfl q1 ?_) | (with_reducible refine store23 rfl (.tmp 2) (.tmp 59) rfl (w.heap.size + 1) _ rfl rfl q2 ?_))
      exact ret23 rfl (w.heap.size + 1) rfl r4 rfl ⟨rfl, rb⟩
end Go.Proofs.YtopkmkkohmkceaaDoor
