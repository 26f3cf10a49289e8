/- The spot of a number, where two leaves meet, walked; the table as the program lays it. -/
import Derived.Test.YtjdpkhcnmllleaaDoorC
import Derived.Laws.BitsAllLaws
namespace Go.Proofs.YtjdpkhcnmllleaaDoor
open Go.ChangeShapes Go.WideShapes Go.ChangeAt Go.RowKit
set_option linter.unusedSimpArgs false
set_option linter.unusedVariables false

def tab : List Int := [0, 1, 56, 2, 57, 49, 28, 3, 61, 58, 42, 50, 38, 29, 17, 4, 62, 47, 59, 36, 45, 43, 51, 22, 53, 39, 33, 30, 24, 18, 12, 5, 63, 55, 48, 27, 60, 41, 37, 16, 46, 35, 44, 21, 52, 32, 23, 11, 54, 26, 40, 15, 34, 20, 31, 10, 25, 14, 19, 9, 13, 8, 7, 6]
/-- The table that TrailingZeros64 reads. -/
structure Tab (w : World) : Prop where
  at_ : ∃ t fz, w.heap[1]? = some (.cells ((tab.map fun z => Value.int .u8 z).toArray) t fz)
theorem Tab.lt {w : World} (h : Tab w) : 1 < w.heap.size := by
  obtain ⟨t, fz, h⟩ := h.at_
  rcases Nat.lt_or_ge 1 w.heap.size with g | g
  · exact g
  · rw [Array.getElem?_eq_none g] at h; cases h
theorem Tab.cell {w : World} (h : Tab w) (i : Nat) (z : Int) (hi : tab[i]? = some z) : w.cell? ⟨1, i, none⟩ = some (.int .u8 z) := by
  obtain ⟨t, fz, h⟩ := h.at_
  rw [cell_of_row w 1 i _ t _ h]
  simp [hi]
theorem Tab.below {w w' : World} {B : Nat} (h : Tab w) (j : Below B w w') (hb : 1 < B) : Tab w' := by
  obtain ⟨t, fz, h⟩ := h.at_
  exact ⟨t, fz, by rw [j.block 1 hb]; exact h⟩

theorem odd_and (o k : Nat) (h : o % 2 = 1) (hk : o < 2 ^ k) : o &&& (2 ^ k - o) = 1 := by
  have e : o = (o - 1) + 1 := by omega
  apply Nat.eq_of_testBit_eq
  intro i
  rw [Nat.testBit_and]
  have h2 : (2 ^ k - o).testBit i = (decide (i < k) && !(o - 1).testBit i) := by
    have := Nat.testBit_two_pow_sub_succ (x := o - 1) (n := k) (by omega) i
    rwa [← e] at this
  rw [h2]
  cases i with
  | zero =>
    have hk0 : 0 < k := by rcases Nat.eq_zero_or_pos k with h' | h'; · subst h'; simp at hk; omega
                           · exact h'
    have a1 : o.testBit 0 = true := by rw [Nat.testBit_zero]; simp [h]
    have a2 : (o - 1).testBit 0 = false := by rw [Nat.testBit_zero]; simp; omega
    rw [a1, a2]; simp [hk0]
  | succ j =>
    have a1 : o.testBit (j + 1) = (o - 1).testBit (j + 1) := by
      rw [Nat.testBit_succ, Nat.testBit_succ]; congr 1; omega
    rw [a1]
    have a3 : Nat.testBit 1 (j + 1) = false := by rw [Nat.testBit_succ]; simp
    rw [a3]
    cases (o - 1).testBit (j + 1) <;> simp
theorem low_bit (l p : Nat) (h : (2 * p + 1) * 2 ^ l ≤ 131072) (hl : l ≤ 17) : bits .and .u64 (((2 * p + 1) * 2 ^ l : Nat) : Int) (IntKind.u64.wrap (-(((2 * p + 1) * 2 ^ l : Nat) : Int))) = ((2 ^ l : Nat) : Int) := by
  have hpos : 1 ≤ (2 * p + 1) * 2 ^ l := Nat.mul_pos (by omega) (Nat.two_pow_pos l)
  have e1 : IntKind.u64.wrap (-(((2 * p + 1) * 2 ^ l : Nat) : Int)) = ((2 ^ 64 - (2 * p + 1) * 2 ^ l : Nat) : Int) := by
    rw [IntKind.wrap_u64]
    generalize (2 * p + 1) * 2 ^ l = x at *
    omega
  rw [e1, u64_and_nat _ _ (by omega) (by omega)]
  congr 1
  have e2 : 2 ^ 64 - (2 * p + 1) * 2 ^ l = (2 ^ (64 - l) - (2 * p + 1)) * 2 ^ l := by
    rw [Nat.sub_mul, ← Nat.pow_add, show 64 - l + l = 64 by omega]
  have hk : 2 * p + 1 < 2 ^ (64 - l) := by
    have h1 : 2 * p + 1 ≤ (2 * p + 1) * 2 ^ l := Nat.le_mul_of_pos_right _ (Nat.two_pow_pos l)
    have h2 : 2 ^ 40 ≤ 2 ^ (64 - l) := Nat.pow_le_pow_right (by omega) (by omega)
    omega
  rw [e2, ← Nat.shiftLeft_eq, ← Nat.shiftLeft_eq, ← Nat.shiftLeft_and_distrib, odd_and _ _ (by omega) hk, Nat.shiftLeft_eq, Nat.one_mul]
def dx (l : Nat) : Nat := (2 ^ l * 285870213051353865) % 18446744073709551616 / 288230376151711744
theorem dx_tab : ∀ l : Nat, l < 18 → tab[dx l]? = some (l : Int) ∧ dx l < 64 := by decide +kernel
theorem dx_mul (l : Nat) : IntKind.u64.wrap (((2 ^ l : Nat) : Int) * 285870213051353865) / 288230376151711744 = (dx l : Int) := by
  rw [IntKind.wrap_u64]; unfold dx; generalize 2 ^ l = q; omega

theorem tz64 (l p : Nat) (h : (2 * p + 1) * 2 ^ l ≤ 131072) (hl : l ≤ 17) (w : World) (hT : Tab w) : Calls Tryd.prog 36 #[.int .u64 (((2 * p + 1) * 2 ^ l : Nat) : Int)] w fun e w' => e = .returned (.int .i64 l) ∧ w = w' := by
  have h1 := low_bit l p h hl
  have h2 := dx_mul l
  obtain ⟨h3, h4⟩ := dx_tab l (by omega)
  have h5 := hT.cell _ _ h3
  have hpos : 1 ≤ (2 * p + 1) * 2 ^ l := Nat.mul_pos (by omega) (Nat.two_pow_pos l)
  clear h3
  obtain ⟨m, hm⟩ : ∃ m, m = (2 * p + 1) * 2 ^ l := ⟨_, rfl⟩
  rw [← hm] at h h1 hpos ⊢
  obtain ⟨d, hd⟩ : ∃ d, d = dx l := ⟨_, rfl⟩
  rw [← hd] at h2 h4 h5
  obtain ⟨q, hq⟩ : ∃ q : Nat, q = 2 ^ l := ⟨_, rfl⟩
  rw [← hq] at h1 h2
  clear hm hd hq
  have h6 : ((m : Int) == 0) = false := by rw [beq_eq_false_iff_ne]; omega
  go_enter Tryd.func36, Tryd.ntmps36
  go_wp2
  go_ret
  exact ⟨rfl, rfl⟩
theorem tz (l p : Nat) (h : (2 * p + 1) * 2 ^ l ≤ 131072) (hl : l ≤ 17) (w : World) (hT : Tab w) : Calls Tryd.prog 27 #[.int .u64 (((2 * p + 1) * 2 ^ l : Nat) : Int)] w fun e w' => e = .returned (.int .i64 l) ∧ w = w' := by
  have H := tz64 l p h hl w hT
  obtain ⟨m, hm⟩ : ∃ m, m = (2 * p + 1) * 2 ^ l := ⟨_, rfl⟩
  rw [← hm] at h H ⊢
  have H := Lib.hid H
  clear hm
  go_enter Tryd.func27, Tryd.ntmps27
  go_wp2_with (first | (go_at_call 36; (with_reducible refine (H.out).mono ?_); rintro e w' ⟨rfl, rfl⟩))
  go_ret
  exact ⟨rfl, rfl⟩
theorem at_yes (i l p : Nat) (h : i + 1 = (2 * p + 1) * 2 ^ l) (hi : i < 131071) (w : World) (hT : Tab w) : Calls Tryd.prog 11 #[.int .i64 i] w fun e w' => e = .returned (.complex .f64 (fl l) (fl p)) ∧ w = w' := by
  have hl : l ≤ 16 := by
    refine Decidable.byContradiction fun hc => ?_
    have h1 : 2 ^ 17 ≤ 2 ^ l := Nat.pow_le_pow_right (by omega) (by omega)
    have h2 : 2 ^ l ≤ (2 * p + 1) * 2 ^ l := Nat.le_mul_of_pos_left _ (by omega)
    omega
  have H := tz l p (by omega) (by omega) w hT
  rw [← h] at H
  have H : Hid (Calls Tryd.prog 27 #[.int .u64 ((i : Int) + 1)] w fun e w' => e = .returned (.int .i64 l) ∧ w = w') := Lib.hid (by simpa using H)
  have h1 := floatOfInt_fl l
  have h2 := floatOfInt_fl p
  have h3 : ((i : Int) + 1) / 2 ^ (l + 1) = p := by
    have e : ((i : Int) + 1) = ((i + 1 : Nat) : Int) := by omega
    have e2 : ((2 : Int) ^ (l + 1)) = ((2 ^ (l + 1) : Nat) : Int) := by push_cast; rfl
    rw [e, e2, h, ← Int.natCast_ediv]
    have : (2 * p + 1) * 2 ^ l / 2 ^ (l + 1) = p := by
      rw [Nat.pow_succ, Nat.mul_comm (2 ^ l) 2, Nat.mul_div_mul_right _ _ (Nat.two_pow_pos l)]; omega
    rw [this]
  clear h
  have h6 : decide (131071 ≤ (i : Int)) = false := by simp; omega
  have h7 : IntKind.u64.wrap ((i : Int) + 1) = (i : Int) + 1 := by rw [IntKind.wrap_u64]; omega
  go_enter Tryd.func11, Tryd.ntmps11
  go_wp2_with (first | (go_at_call 27; (with_reducible refine (H.out).mono ?_); rintro e w' ⟨rfl, rfl⟩))
  go_ret
  exact ⟨rfl, rfl⟩
theorem xor_nat (a b : Nat) (ha : a < 65536) (hb : b < 65536) : bits .xor .i64 (a : Int) (b : Int) = ((a ^^^ b : Nat) : Int) := by
  have e1 : bits .xor .i64 (a : Int) (b : Int) = IntKind.i64.wrap (((a ^^^ b : Nat)) : Int) := by
    have e : (BitVec.ofInt 64 (a : Int) ^^^ BitVec.ofInt 64 (b : Int)).toNat = a ^^^ b := by
      rw [BitVec.ofInt_natCast, BitVec.ofInt_natCast, BitVec.toNat_xor, BitVec.toNat_ofNat, BitVec.toNat_ofNat, Nat.mod_eq_of_lt (by omega), Nat.mod_eq_of_lt (by omega)]
    show IntKind.i64.wrap ((BitVec.ofInt 64 (a : Int) ^^^ BitVec.ofInt 64 (b : Int)).toNat : Int) = _
    rw [e]
  have h : a ^^^ b < 2 ^ 16 := Nat.xor_lt_two_pow ha hb
  rw [e1, IntKind.wrap_i64]
  omega
/-- How many digits a number has in base two. -/
def bl (x : Nat) : Nat := if x = 0 then 0 else x.log2 + 1
def l8 : List UInt8 := [0, 1, 2, 2, 3, 3, 3, 3, 4, 4, 4, 4, 4, 4, 4, 4] ++ List.replicate 16 5 ++ List.replicate 32 6 ++ List.replicate 64 7 ++ List.replicate 128 8
def tb : ByteArray := ⟨l8.toArray⟩
theorem tb_size : tb.size = 256 := by decide +kernel
theorem tb_bl : ∀ y : Nat, y < 256 → wrap64 (wrap64 (((l8[y]?.getD 0).toNat : Nat) : Int)) = (bl y : Int) := by decide +kernel
theorem tb_bl8 : ∀ y : Nat, y < 256 → wrap64 (8 + wrap64 (((l8[y]?.getD 0).toNat : Nat) : Int)) = ((bl y + 8 : Nat) : Int) ∨ y = 0 := by decide +kernel
theorem tb_get (y : Nat) (h : y < tb.size) : tb[y] = l8[y]?.getD 0 := by
  have hl : y < l8.length := by rw [tb_size] at h; rw [show l8.length = 256 by decide +kernel]; exact h
  rw [List.getElem?_eq_getElem hl]
  rfl
theorem bl_high (x : Nat) (h : 256 ≤ x) : bl x = bl (x / 256) + 8 := by
  unfold bl
  have h1 : x / 256 ≠ 0 := by omega
  rw [if_neg (by omega), if_neg h1]
  have h2 : 2 ^ (x / 256).log2 ≤ x / 256 := Nat.log2_self_le h1
  have h3 : x / 256 < 2 ^ ((x / 256).log2 + 1) := Nat.lt_log2_self
  have h4 : x.log2 = (x / 256).log2 + 8 := by
    refine (Nat.log2_eq_iff (by omega)).2 ⟨?_, ?_⟩
    · rw [Nat.pow_add]; omega
    · rw [show (x / 256).log2 + 8 + 1 = (x / 256).log2 + 1 + 8 by omega, Nat.pow_add]; omega
  omega
set_option maxRecDepth 100000 in
theorem len64 (x : Nat) (h : x < 65536) (w : World) : Calls Tryd.prog 38 #[.int .u64 (x : Int)] w fun e w' => e = .returned (.int .i64 (bl x)) ∧ w = w' := by
  have h1 : decide ((4294967296 : Int) ≤ (x : Int)) = false := by simp; omega
  have h2 : decide ((65536 : Int) ≤ (x : Int)) = false := by simp; omega
  by_cases h3 : x < 256
  · have h4 : decide ((256 : Int) ≤ (x : Int)) = false := by simp; omega
    clear h
    go_enter Tryd.func38, Tryd.ntmps38
    go_wp2
    go_ret
    refine ⟨congrArg (fun v => Ending.returned (.int .i64 v)) ?_, rfl⟩
    have key : ∀ hs : x < tb.size, wrap64 (wrap64 ((tb[x].toNat : Nat) : Int)) = (bl x : Int) := fun hs => by rw [tb_get]; exact tb_bl x h3
    exact key _
  · have h4 : decide ((256 : Int) ≤ (x : Int)) = true := by simp; omega
    have h5 : (x : Int) / 256 < 256 := by omega
    have h6 : x / 256 < 256 := by omega
    have HB := Lib.hid (bl_high x (by omega))
    have h7 : x / 256 ≠ 0 := by omega
    have H7 := Lib.hid h7
    clear h3 h h7
    obtain ⟨y, hy⟩ : ∃ y : Nat, y = x / 256 := ⟨_, rfl⟩
    have hy2 : (x : Int) / 256 = (y : Int) := by omega
    rw [← hy] at HB H7 h6
    clear h5 hy
    go_enter Tryd.func38, Tryd.ntmps38
    go_wp2
    go_ret
    refine ⟨congrArg (fun v => Ending.returned (.int .i64 v)) ?_, rfl⟩
    have key : ∀ hs : y < tb.size, wrap64 (8 + wrap64 ((tb[y].toNat : Nat) : Int)) = (bl x : Int) := fun hs => by
      rw [tb_get, HB.out]
      rcases tb_bl8 y h6 with h | h
      · exact h
      · exact absurd h H7.out
    exact key _
theorem len (x : Nat) (h : x < 65536) (w : World) : Calls Tryd.prog 29 #[.int .u64 (x : Int)] w fun e w' => e = .returned (.int .i64 (bl x)) ∧ w = w' := by
  go_enter Tryd.func29, Tryd.ntmps29
  go_wp2_with (first | (go_at_call 38; (with_reducible refine (len64 x h _).mono ?_); rintro e w' ⟨rfl, rfl⟩))
  go_ret
  exact ⟨rfl, rfl⟩
theorem bl_le (x : Nat) (h : x < 65536) : bl x ≤ 16 := by
  unfold bl
  by_cases h0 : x = 0
  · rw [if_pos h0]; omega
  · rw [if_neg h0]; have := (Nat.log2_lt h0 (k := 16)).2 h; omega
theorem meet_yes (a b : Nat) (ha : a < 65536) (hb : b < 65536) (w : World) : Calls Tryd.prog 13 #[.int .i64 a, .int .i64 b] w fun e w' => e = .returned (.complex .f64 (fl (bl (a ^^^ b))) (fl (a / 2 ^ bl (a ^^^ b)))) ∧ w = w' := by
  have h1 := xor_nat a b ha hb
  have h2 : a ^^^ b < 65536 := Nat.xor_lt_two_pow (n := 16) ha hb
  have h7 := bl_le _ h2
  obtain ⟨x, hx⟩ : ∃ x, x = a ^^^ b := ⟨_, rfl⟩
  rw [← hx] at h1 h2 h7 ⊢
  clear hx
  have h3 := floatOfInt_fl (bl x)
  have h4 := floatOfInt_fl (a / 2 ^ bl x)
  have h5 : IntKind.u64.wrap (x : Int) = (x : Int) := by rw [IntKind.wrap_u64]; omega
  have h6 : (a : Int) / 2 ^ bl x = ((a / 2 ^ bl x : Nat) : Int) := by push_cast; rfl
  obtain ⟨y, hy⟩ : ∃ y, y = a / 2 ^ bl x := ⟨_, rfl⟩
  rw [← hy] at h4 h6 ⊢
  clear hy
  have HL := Lib.hid (len x h2 w)
  have HA := Lib.hid (leaf_yes a ha w)
  have HB := Lib.hid (leaf_yes b hb w)
  clear h2 ha hb
  go_enter Tryd.func13, Tryd.ntmps13
  go_wp2_with (first | (go_at_call 29; (with_reducible refine (HL.out).mono ?_); rintro e w' ⟨rfl, rfl⟩) | (go_at_call 28; (with_reducible refine (HA.out).mono ?_); rintro e w' ⟨rfl, rfl⟩) | (go_at_call 28; (with_reducible refine (HB.out).mono ?_); rintro e w' ⟨rfl, rfl⟩))
  go_ret
  exact ⟨rfl, rfl⟩
end Go.Proofs.YtjdpkhcnmllleaaDoor
