/- DiskFuses, walked. -/
import Derived.Test.YtklndocfgbbegaaH
namespace Go.Proofs.Ytklndocfgbbegaa
open Go.ChangeShapes Go.WideShapes Go.ChangeAt Go.RowKit
set_option linter.unusedSimpArgs false
set_option linter.unusedVariables false
def b8 (n : Nat) : Byte := BitVec.ofNat 8 n
theorem c8_b8 {n : Nat} (h : n < 256) : c8 (b8 n) = .int .u8 n := by
  unfold c8 b8 bt
  rw [BitVec.toNat_ofNat, Nat.mod_eq_of_lt h]
theorem byg2 (g : Nat) (w : World) (x y : BitVec 8) (u v : Value) (hg : g < w.heap.size) (hu : u = c8 x) (hv : v = c8 y) : Byg g (w.alloc (.cells #[u, v] 5)) (some ⟨w.heap.size, 0, none⟩) [x, y] :=
  ⟨(fun e => by cases e), fun a ha j z hz => by
    injection ha with ha
    subst ha
    refine ⟨by show w.heap.size ≠ g; omega, ?_⟩
    rw [Addr.add_mid, Nat.zero_add, cell_of_row _ _ j _ 5 _ (heap_alloc_new w _)]
    match j, hz with
    | 0, hz => simp at hz; subst hz; rw [hu]; rfl
    | 1, hz => simp at hz; subst hz; rw [hv]; rfl
    | j + 2, hz => simp at hz⟩
/-- The disk behind i writes. -/
def stF (n nb i : Nat) : DS := ⟨fun _ => zs, (List.range i).map fun j => (j % 4, padd [b8 nb, b8 j]), (n : Int) - i, false⟩
theorem stF_wrote (n nb i : Nat) (h : i < n) : wrote 4 (stF n nb i) ((i % 4 : Nat) : Int) [b8 nb, b8 i] = (0, stF n nb (i + 1)) := by
  have hm : Mayc 4 (stF n nb i) ((i % 4 : Nat) : Int) = 0 := by
    unfold Mayc
    rw [show (stF n nb i).down = false from rfl, if_neg (by simp), if_neg (by omega)]
  have hf : (stF n nb i).fuse = (n : Int) - i := rfl
  unfold wrote
  rw [hm, if_neg (by simp), if_neg (by simp), hf, if_neg (by omega), if_pos (by omega)]
  unfold stF
  rw [List.range_succ, List.map_append, Int.toNat_natCast]
  congr 2
  omega
theorem fin_at (S : Nat → Sct) (W : List Wt) (i j : Nat) (p : Wt) (hj : W[j]? = some p) (hp : p.1 = i) (h : ∀ m q, j < m → W[m]? = some q → q.1 ≠ i) : fin S W i = p.2 := by
  rw [← look_at (S i) W i j p hj hp h]
  clear h hp hj
  unfold fin look
  induction W generalizing S with
  | nil => rfl
  | cons q W ih =>
    rw [List.foldl_cons, List.foldl_cons, ih]
    congr 1
    unfold updS
    by_cases e : i = q.1
    · rw [if_pos e, if_pos e.symm]
    · rw [if_neg e, if_neg (fun h => e h.symm)]
/-- What lasts behind n writes. -/
def stE (n nb : Nat) : DS := crashed (stF n nb n) n
theorem stE_at (n nb i : Nat) (h : i < n) (h4 : n ≤ i + 4) : (stE n nb).S (i % 4) = padd [b8 nb, b8 i] := by
  have e : (stE n nb).S = fin (fun _ => zs) ((stF n nb n).W) := by
    unfold stE crashed
    rw [show (stF n nb n).down = false from rfl]
    simp only [Bool.false_eq_true, if_false]
    rw [List.take_of_length_le (by simp [stF])]
    rfl
  rw [e]
  refine fin_at _ _ _ i (i % 4, padd [b8 nb, b8 i]) ?_ rfl (fun m q hm hq => ?_)
  · unfold stF
    rw [List.getElem?_map, List.getElem?_range h]
    rfl
  · have hmn : m < n := by have := (List.getElem?_eq_some_iff.1 hq).1; simpa [stF] using this
    unfold stF at hq
    rw [List.getElem?_map, List.getElem?_range hmn] at hq
    simp only [Option.map_some, Option.some.injEq] at hq
    rw [← hq]
    show m % 4 ≠ i % 4
    omega
theorem img_at {S : Nat → Sct} {n : Nat} (h : ∀ i, i < n → (S i).length = 512) (i j : Nat) (hi : i < n) (hj : j < 512) : ∀ k, i < k → k ≤ n → (img S k)[i * 512 + j]? = (S i)[j]? := by
  intro k
  induction k with
  | zero => omega
  | succ k ih =>
    intro hik hkn
    rw [img_succ]
    have hl := img_len h k (by omega)
    by_cases e : i = k
    · subst e
      rw [List.getElem?_append_right (by omega), hl, Nat.add_sub_cancel_left]
    · have hik2 : i < k := by omega
      rw [List.getElem?_append_left (by rw [hl]; have : (i + 1) * 512 ≤ k * 512 := Nat.mul_le_mul_right _ (by omega); omega)]
      exact ih hik2 (by omega)
theorem own_pos {w : World} {base n : Nat} {v : Value} {T : List (BitVec 8)} (h : Own w base v n T) (hn : 0 < n) : ∃ q c, v = .slice (some ⟨q, 0, none⟩) n c ∧ base ≤ q ∧ q < w.heap.size ∧ ∀ (j : Nat) x, T[j]? = some x → w.cell? ⟨q, j, none⟩ = some (c8 x) := by
  rcases h.2 with ⟨_, e0⟩ | ⟨b, cap, cur, rfl, hb, hh, hnc, hrest⟩
  · omega
  · refine ⟨b, cap, rfl, hb, (Array.getElem?_eq_some_iff.1 hh).1, fun j x hx => ?_⟩
    have := h.cells (g := b) rfl j (c8 x) (by rw [List.getElem?_map, hx]; rfl)
    rwa [Addr.add_mid, Nat.zero_add] at this
theorem stF_down (n nb y : Nat) : wrote 4 (stF n nb n) 0 [b8 y] = (201, stE n nb) := by
  have hm : Mayc 4 (stF n nb n) 0 = 0 := by
    unfold Mayc
    rw [show (stF n nb n).down = false from rfl, if_neg (by simp), if_neg (by omega)]
  unfold wrote
  rw [hm, if_neg (by simp), if_neg (by simp), if_pos (by show (n : Int) - n = 0; omega)]
  unfold stE
  rw [show ((stF n nb n).W.length : Int) = (n : Int) by simp [stF]]
theorem stE_up (n nb : Nat) : wrote 4 { stE n nb with down := false } 0 [] = (0, { stE n nb with down := false, W := [(0, padd [])] }) := by
  unfold stE crashed
  rw [show (stF n nb n).down = false from rfl]
  simp only [Bool.false_eq_true, if_false]
  have hm : ∀ d : DS, d.down = false → Mayc 4 d 0 = 0 := fun d h => by unfold Mayc; rw [h, if_neg (by simp), if_neg (by omega)]
  unfold wrote
  rw [hm _ rfl, if_neg (by simp), if_neg (by simp), if_neg (show ¬ ((-1 : Int) = 0) by decide), if_neg (show ¬ (0 < (-1 : Int)) by decide)]
  rfl
set_option maxRecDepth 4000 in
set_option maxHeartbeats 4000000 in
theorem fuses3 (n nb : Nat) (w : World) (hn : n < 256) (hb : nb < 256) : Calls Try.prog 3 #[.int .u8 n, .int .u8 nb] w fun e w' => e = .returned (.bool true) ∧ Below w.heap.size w w' := by
  have N4 : Hid (∀ w, Calls Try.prog 8 #[.int .i64 4] w fun e w' => ∃ g b, e = .returned (.pointer (some ⟨g, 0, none⟩)) ∧ w.heap.size ≤ b ∧ (∀ A, Dk A w' g b 4 d0) ∧ Below w.heap.size w w') := Lib.hid (fun w => new8 4 w (by omega))
  have en : IntKind.i64.wrap (n : Int) = (n : Int) := IntWalk.i64_in _ (by omega)
  go_enter Try.func3, Try.ntmps3
  go_wp2_with (first
    | (go_at_call 7; (with_reducible refine (head7 _).mono ?_); rintro e w1 ⟨rfl, b1⟩)
    | (go_at_call 8; (with_reducible refine (N4.out _).mono ?_); rintro e w2 ⟨g, b, rfl, hgb, hD, b2⟩; have p2 := hD (fun k => w.heap.size ≤ k))
    | (go_at_call 9; (with_reducible refine (arm9 p2 (n : Int) ?hz).mono ?_); (case hz => omega); rintro e w3 ⟨rfl, p3, f3⟩))
  have p0 : Dk (fun k => w.heap.size ≤ k) w3 g b 4 (stF n nb 0) := by
    have e : (if (n : Int) < -1 then (-1 : Int) else n) = (n : Int) - (0 : Nat) := by rw [if_neg (by omega)]; omega
    rw [e] at p3
    exact p3
  have hbb : Below w.heap.size w w3 := by
    have h1 := b1.size
    have hbg := p2.bg
    have g4 := f3.toBelow (B := w.heap.size) (by have := b2.size; omega) (by omega) (by omega) (fun k hk h => by omega)
    exact b1.trans ((b2.mono h1).trans g4)
  have hgb2 : w.heap.size ≤ b := Nat.le_trans b1.size hgb
  clear p2 p3 f3 b1 b2 hD hgb
  go_loopg [7] n (fun gk v wr => ∃ i : Nat, v = .int .i64 i ∧ i + gk = n ∧ Dk (fun k => w.heap.size ≤ k) wr g b 4 (stF n nb i) ∧ Below w.heap.size w wr)
  case atStart => exact ⟨0, rfl, by omega, p0, hbb⟩
  case round =>
    clear p0 hbb
    obtain ⟨i, rfl, hi, p, hB⟩ := hrel
    have HI := Lib.hid hi
    by_cases hin : i < n
    · have d1 : decide (i < n) = true := by simp; omega
      have q1 : (i : Int) < (n : Int) := by omega
      have ei : IntKind.u8.wrap (i : Int) = (i : Int) := IntWalk.u8_in _ (by omega)
      obtain ⟨m, hm⟩ : ∃ m, m = i % 4 := ⟨_, rfl⟩
      have hmod : (i : Int) % 4 = (m : Int) := by omega
      have hmod2 : (i : Int).tmod 4 = (m : Int) := by rw [Int.tmod_eq_emod_of_nonneg (by omega)]; omega
      have HM := Lib.hid hm
      clear hm
      clear hi
      go_wp2_with (first
        | (go_at_call 10; (with_reducible refine (write10 (fun k => w.heap.size ≤ k) _ g b 4 (stF n nb i) (p.alloc _) ?h1 (m : Int) _ 2 2 [b8 nb, b8 i] rfl ?h2 ?h3).mono ?_); (case h1 => exact fun k hk => by have := hB.size; simp at hk; omega); (case h2 => exact byg2 g wr (b8 nb) (b8 i) _ _ p.lt (c8_b8 hb).symm (c8_b8 (by omega)).symm); (case h3 => simp [stF]; omega); rintro e w4 ⟨he, p4, f4⟩; rw [HM.out, stF_wrote n nb i hin] at he p4; subst he))
      have hB4 : Below w.heap.size w w4 := by
        have h1 := hB.size
        have hbg := p.bg
        exact (hB.alloc h1 _).trans (f4.toBelow (B := w.heap.size) (by simp; omega) (by omega) (by omega) (fun k hk h => by omega))
      go_roundg (gk - 1)
      case measure => have := HI.out; omega
      case rel => exact ⟨i + 1, by simp, by have := HI.out; omega, p4, hB4⟩
    · obtain rfl : i = n := by omega
      have d1 : decide (i < i) = false := by simp
      obtain ⟨y, hy⟩ : ∃ y, y = (nb + 1) % 256 := ⟨_, rfl⟩
      have ey : IntKind.u8.wrap ((nb : Int) + 1) = (y : Int) := by rw [IntKind.wrap_u8]; omega
      have e4 : IntKind.i64.wrap ((i : Int) - 4) = (i : Int) - 4 := IntWalk.i64_in _ (by omega)
      have hy8 : y < 256 := by omega
      have HD := Lib.hid (stF_down i nb y)
      have HY := Lib.hid hy
      clear hy hi
      go_wp2_with (first
        | (go_at_call 10; (with_reducible refine (write10 (fun k => w.heap.size ≤ k) _ g b 4 (stF i nb i) (p.alloc _) ?h1 0 _ 1 1 [b8 y] rfl ?h2 ?h3).mono ?_); (case h1 => exact fun k hk => by have := hB.size; simp at hk; omega); (case h2 => exact byg1 g wr (b8 y) _ (0, 0) p.lt (c8_b8 hy8).symm); (case h3 => simp [stF]; omega); rintro e w4 ⟨he, p4, f4⟩; rw [HD.out] at he p4; subst he)
        | (go_at_call 11; (with_reducible refine (image11 _ _ _ _ _ _ p4).mono ?_); rintro e w5 ⟨v5, rfl, o5, b5⟩; obtain ⟨q, c5, rfl, hq, hql, hqc⟩ := own_pos o5 (by omega); have p5 := p4.below b5))
      all_goals
        have hB5 : Below w.heap.size w w5 := by
          have h1 := hB.size
          have hbg := p.bg
          have hs4 := f4.size
          have B4 := (hB.alloc h1 _).trans (f4.toBelow (B := w.heap.size) (by simp; omega) (by omega) (by omega) (fun k hk h => by omega))
          exact B4.trans (b5.mono B4.size)
        have HC := Lib.hid hqc
        clear hqc o5 b5 f4 p4 p hB
        go_loopg [10] 4 (fun gk v wr => ∃ k : Nat, v = .int .i64 k ∧ i ≤ k + 4 ∧ i ≤ k + gk ∧ wr = w5)
        case atStart =>
          refine ⟨i - 4, ?_, by omega, by omega, rfl⟩
          congr 1; omega
        case round =>
          obtain ⟨k, rfl, hk4, hkg, rfl⟩ := hrel
          have HK := Lib.hid (And.intro hk4 hkg)
          by_cases hki : k < i
          · have q2 : (k : Int) < (i : Int) := by omega
            obtain ⟨m, hm⟩ : ∃ m, m = k % 4 := ⟨_, rfl⟩
            have hm4 : m < 4 := by omega
            have hmod : (k : Int) % 4 = (m : Int) := by omega
            have hmod2 : (k : Int).tmod 4 = (m : Int) := by rw [Int.tmod_eq_emod_of_nonneg (by omega)]; omega
            obtain ⟨t, ht⟩ : ∃ t, t = m * 512 := ⟨_, rfl⟩
            have e5 : 512 * (m : Int) = (t : Int) := by omega
            have e6 : IntKind.i64.wrap (t : Int) = (t : Int) := IntWalk.i64_in _ (by omega)
            have e7 : IntKind.i64.wrap ((t : Int) + 1) = (t : Int) + 1 := IntWalk.i64_in _ (by omega)
            have ek : IntKind.u8.wrap (k : Int) = (k : Int) := IntWalk.u8_in _ (by omega)
            have hS : (stE i nb).S m = padd [b8 nb, b8 k] := by rw [hm]; exact stE_at i nb k hki hk4
            have hlen : ∀ j, j < 4 → ((stE i nb).S j).length = 512 := p5.sec.len
            have h0 : wr.cell? ⟨q, t, none⟩ = some (.int .u8 nb) := by
              rw [← c8_b8 hb]
              refine HC.out t _ ?_
              have := img_at hlen m 0 hm4 (by omega) 4 hm4 (Nat.le_refl _)
              rw [ht]
              rw [Nat.add_zero, hS] at this
              exact this
            have h1 : wr.cell? ⟨q, t + 1, none⟩ = some (.int .u8 k) := by
              rw [← c8_b8 (show k < 256 by omega)]
              refine HC.out (t + 1) _ ?_
              have := img_at hlen m 1 hm4 (by omega) 4 hm4 (Nat.le_refl _)
              rw [ht]
              rw [hS] at this
              exact this
            have t1 : (0 : Int) ≤ (t : Int) := by omega
            have t2 : (t : Int) < 2048 := by omega
            have t3 : (t : Int) + 1 < 2048 := by omega
            clear hm ht hS hlen hk4 hkg
            go_wp2_with fail
            go_roundg (gk - 1)
            case measure => have := HK.out; omega
            case rel => exact ⟨k + 1, by simp, by have := HK.out; omega, by have := HK.out; omega, rfl⟩
          · have d2 : decide (k < i) = false := by simp; omega
            have HU := Lib.hid (stE_up i nb)
            clear hk4 hkg
            go_wp2_with (first
              | (go_at_call 12; (with_reducible refine (up12 p5).mono ?_); rintro e w6 ⟨rfl, p6, f6⟩)
              | (go_at_call 10; (with_reducible refine (write10 (fun k => w.heap.size ≤ k) _ g b 4 _ p6 ?h1 0 none 0 0 [] rfl ?h2 ?h3).mono ?_); (case h1 => exact fun k hk => by have := hB5.size; have := f6.size; omega); (case h2 => exact ⟨fun _ => rfl, fun a ha => by cases ha⟩); (case h3 => simp [stE, crashed, stF]); rintro e w7 ⟨he, p7, f7⟩; rw [HU.out] at he; subst he))
            go_ret
            have h1 := hB5.size
            have hbg := p5.bg
            have hs6 := f6.size
            exact ⟨rfl, (hB5.trans (f6.toBelow (B := w.heap.size) (by omega) (by omega) (by omega) (fun k hk h => by omega))).trans (f7.toBelow (B := w.heap.size) (by omega) (by omega) (by omega) (fun k hk h => by omega))⟩
end Go.Proofs.Ytklndocfgbbegaa
