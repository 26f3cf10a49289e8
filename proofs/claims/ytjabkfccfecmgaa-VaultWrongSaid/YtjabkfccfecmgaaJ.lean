/- Numbers as bytes; bytes compared. -/
import Derived.Test.YtjabkfccfecmgaaQ
import Derived.Lib.EndianBits
namespace Go.Proofs.Ytjabkfccfecmgaa
open Go.ChangeShapes Go.WideShapes Go.ChangeAt Go.RowKit
set_option linter.unusedSimpArgs false
set_option linter.unusedVariables false
theorem below_then {a b c : World} (h : Below a.heap.size a b) (k : Below b.heap.size b c) : Below a.heap.size a c := h.trans (k.mono h.size)
theorem strOf_inj {A B : List Byte} (h : strOf A = strOf B) : A = B := by
  unfold strOf at h
  injection h with h
  have h2 : A.map UInt8.ofBitVec = B.map UInt8.ofBitVec := by simpa using h
  exact (List.map_inj_right (fun a b e => by injection e)).1 h2
theorem str_eq (A B : List Byte) : ((strOf A).toList == (strOf B).toList) = decide (A = B) := by
  rw [ByteArray.toList_eq, ByteArray.toList_eq]
  by_cases h : A = B
  · simp [h]
  · have : ¬ strOf A = strOf B := fun e => h (strOf_inj e)
    have h2 : ¬ (strOf A).data.toList = (strOf B).data.toList := fun e => this (Go.WideShapes.bytes_inj e)
    simp [h]
    intro e
    exact h2 (by rw [e])
theorem equal31 (w : World) (ao bo : Option Addr) (n m ca cb : Nat) (A B : List Byte) (hn : n = A.length) (hm : m = B.length) (hA : Bys w ao A) (hB : Bys w bo B) :
    Calls Try.prog 31 #[.slice ao n ca, .slice bo m cb] w fun e w' => e = .returned (.bool (decide (A = B))) ∧ w' = w := by
  have h1 := conv_bys (c := ca) hn hA
  have h2 := conv_bys (c := cb) hm hB
  have HE := Lib.hid (str_eq A B)
  clear hn hm hA hB
  go_enter Try.func31, Try.ntmps31
  go_wp2_with fail
  go_ret
  exact ⟨congrArg (fun x => Ending.returned (Value.bool x)) HE.out, rfl⟩
/-- The k-th byte of a number, from behind. -/
def byteN (n k : Nat) : Byte := BitVec.ofNat 8 (n / 2 ^ (8 * k))
def be (s n : Nat) : List Byte := (List.range s).map fun j => byteN n (s - 1 - j)
theorem be_len (s n : Nat) : (be s n).length = s := by simp [be]
def val (L : List Byte) : Nat := L.foldl (fun a x => a * 256 + x.toNat) 0
theorem val_snoc (L : List Byte) (x : Byte) : val (L ++ [x]) = val L * 256 + x.toNat := by simp [val, List.foldl_append]
theorem byteN_toNat (n k : Nat) : (byteN n k).toNat = n / 2 ^ (8 * k) % 256 := by simp [byteN]
theorem val_take (s n : Nat) : ∀ k, k ≤ s → val ((be s n).take k) = n / 2 ^ (8 * (s - k)) % 2 ^ (8 * k)
  | 0, _ => by simp [val, Nat.mod_one]
  | k + 1, hk => by
    have h : (be s n)[k]? = some (byteN n (s - 1 - k)) := by
      rw [be, List.getElem?_map, List.getElem?_range (by omega)]; rfl
    rw [List.take_add_one, h]
    show val ((be s n).take k ++ [_]) = _
    rw [val_snoc, val_take s n k (by omega), byteN_toNat]
    have e1 : 2 ^ (8 * (s - k)) = 2 ^ (8 * (s - (k + 1))) * 256 := by
      rw [show 8 * (s - k) = 8 * (s - (k + 1)) + 8 by omega, Nat.pow_add]
    have e2 : 2 ^ (8 * (k + 1)) = 256 * 2 ^ (8 * k) := by
      rw [show 8 * (k + 1) = 8 + 8 * k by omega, Nat.pow_add]
    rw [e1, e2, ← Nat.div_div_eq_div_mul, show s - 1 - k = s - (k + 1) by omega]
    generalize n / 2 ^ (8 * (s - (k + 1))) = x
    rw [Nat.mod_mul]
    omega
theorem val_be {s n : Nat} (h : n < 2 ^ (8 * s)) : val (be s n) = n := by
  have := val_take s n s (Nat.le_refl _)
  rw [List.take_of_length_le (by rw [be_len]; exact Nat.le_refl _), Nat.sub_self] at this
  rw [this]; simp
  exact Nat.mod_eq_of_lt h
def fitsN (s : Nat) : Prop := s = 4 ∨ s = 8
theorem fits43 {s : Nat} (hs : fitsN s) (w : World) : Calls Try.prog 43 #[.int .i64 (s : Int)] w fun e w' => e = .returned (.bool true) ∧ w' = w := by
  rcases hs with rfl | rfl
  · go_enter Try.func43, Try.ntmps43
    go_wp2_with fail
    go_ret
    exact ⟨rfl, rfl⟩
  · go_enter Try.func43, Try.ntmps43
    go_wp2_with fail
    go_ret
    exact ⟨rfl, rfl⟩
/-- The bytes that are there behind so many rounds. -/
def beAt (s n i : Nat) : List Byte := (List.range s).map fun j => if s ≤ j + i then byteN n (s - 1 - j) else 0#8
theorem beAt_len (s n i : Nat) : (beAt s n i).length = s := by simp [beAt]
theorem beAt_zero (s n : Nat) : beAt s n 0 = List.replicate s 0#8 := by
  apply List.ext_getElem?
  intro j
  rw [beAt, List.getElem?_map, List.getElem?_replicate]
  by_cases h : j < s
  · rw [List.getElem?_range h, if_pos h]; simp; omega
  · rw [List.getElem?_eq_none (by simp; omega), if_neg h]; rfl
theorem beAt_full (s n : Nat) : beAt s n s = be s n := by
  unfold beAt be
  apply List.map_congr_left
  intro j hj
  rw [if_pos (by omega)]
theorem beAt_set {s n i : Nat} (hi : i < s) : (beAt s n i).set (s - 1 - i) (byteN n i) = beAt s n (i + 1) := by
  apply List.ext_getElem?
  intro j
  rw [List.getElem?_set, beAt, List.getElem?_map, beAt, List.getElem?_map, List.length_map, List.length_range]
  by_cases h : j < s
  · rw [List.getElem?_range h]
    by_cases e : s - 1 - i = j
    · rw [if_pos e, if_pos (by omega)]
      simp only [Option.map_some, Option.some.injEq]
      rw [if_pos (by omega), show s - 1 - j = i by omega]
    · rw [if_neg e]
      simp only [Option.map_some, Option.some.injEq]
      by_cases h2 : s ≤ j + i
      · rw [if_pos h2, if_pos (by omega)]
      · rw [if_neg h2, if_neg (by omega)]
  · rw [List.getElem?_eq_none (l := List.range s) (by simp; omega)]
    by_cases e : s - 1 - i = j
    · omega
    · rw [if_neg e]; rfl
structure Nb (w : World) (q : Nat) (L : List Byte) : Prop where
  row : w.heap[q]? = some (.cells (L.map c8).toArray 5 (0, 0))
theorem Nb.frozen {w : World} {q : Nat} {L : List Byte} (h : Nb w q L) (i : Nat) : w.frozen? ⟨q, i, none⟩ = false := frozen_of_row _ _ _ _ _ h.row
theorem Nb.cell {w : World} {q : Nat} {L : List Byte} (h : Nb w q L) {i : Nat} (hi : i < L.length) : w.cell? ⟨q, i, none⟩ = some (c8 L[i]) := by
  rw [cell_of_row _ _ _ _ _ _ h.row]
  simp [hi]
theorem Nb.set {w : World} {q : Nat} {L : List Byte} (h : Nb w q L) (i : Nat) (x : Byte) : Nb (w.setCell ⟨q, i, none⟩ (c8 x)) q (L.set i x) := ⟨by
  rw [heap_setCell_same _ _ _ _ _ _ h.row]
  congr 2
  simp [List.map_set]⟩
theorem nb_made (w : World) (s : Nat) : Nb (w.alloc (.cells (madeCells (Value.int .u8 0).cells s) 5)) w.heap.size (List.replicate s 0#8) := ⟨by
  rw [heap_alloc_new]
  congr 2
  apply Array.ext_getElem?
  intro j
  rw [← Array.getElem?_toList]
  by_cases h : j < s
  · rw [made5 s j h]; simp [h, c8, bt]
  · rw [List.getElem?_eq_none (by simp [madeCells]; omega)]; simp [h]⟩
theorem Nb.own {w : World} {q : Nat} {L : List Byte} (h : Nb w q L) {base : Nat} (hb : base ≤ q) (hl : L.length ≤ maxLen) : Own w base (.slice (some ⟨q, 0, none⟩) L.length L.length) L.length L :=
  ⟨by simp, .inr ⟨q, L.length, _, rfl, hb, h.row, Nat.le_refl _, hl, by simp, by simp [List.take_of_length_le]⟩⟩
set_option maxRecDepth 20000 in
set_option maxHeartbeats 4000000 in
theorem number4 (n : Nat) (hn : n < 2 ^ 32) (w : World) : Calls Try.prog 42 #[.int .i64 (n : Int), .int .i64 4] w fun e w' => ∃ q, e = .returned (.slice (some ⟨q, 0, none⟩) 4 4) ∧ w.heap.size ≤ q ∧ Nb w' q (be 4 n) ∧ Below w.heap.size w w' := by
  have H43 : Calls Try.prog 43 #[.int .i64 4] w fun e w' => e = .returned (.bool true) ∧ w' = w := fits43 (s := 4) (by unfold fitsN; omega) w
  have d0 : decide ((n : Int) < 0) = false := by simp
  have d1 : decide ((4294967296 : Int) ≤ (n : Int)) = decide (4294967296 ≤ n) := by by_cases h : 4294967296 ≤ n <;> simp [h] <;> omega
  have d2 : ¬ 4294967296 ≤ n := by omega
  rw [decide_eq_false d2] at d1
  have hmk : (Instr.makeSlice 23 (.int .i64 4) (.int .i64 4)).run Try.prog w = .ok (.slice (some ⟨w.heap.size, 0, none⟩) 4 4) (w.alloc (.cells (madeCells (Value.int .u8 0).cells 4) 5)) := make28 w 4 (by omega)
  have HN := Lib.hid hn
  clear hn
  go_enter Try.func42, Try.ntmps42
  go_wp2_with (first
    | (go_at_call 43; (with_reducible refine H43.mono ?_); rintro e w1 ⟨rfl, hw⟩; obtain rfl : w = w1 := hw.symm))
  obtain ⟨q, hq⟩ : ∃ q, q = w.heap.size := ⟨_, rfl⟩
  have FX := Lib.hid (And.intro (nb_made w 4) ((Below.refl w.heap.size w).alloc (Nat.le_refl _) (.cells (madeCells (Value.int .u8 0).cells 4) 5)))
  rw [← hq] at FX ⊢
  have hw0 : madeCells #[Value.int .u8 0] 4 = madeCells (Value.int .u8 0).cells 4 := rfl
  try rw [hw0]
  generalize w.alloc (.cells (madeCells (Value.int .u8 0).cells 4) 5) = wa at FX ⊢
  have HQ := Lib.hid hq
  clear hmk hw0 hq
  go_loopg [6, 29] 4 (fun gk v6 v29 wr => ∃ i : Nat, v29 = .int .i64 i ∧ i + gk = 4 ∧ Nb wr q (beAt 4 n i) ∧ Below q w wr)
  case atStart => exact ⟨0, rfl, by omega, by rw [beAt_zero]; exact FX.out.1, FX.out.2⟩
  case round =>
    obtain ⟨i, rfl, hig, hf, hb⟩ := hrel
    have HIG := Lib.hid hig
    clear FX
    by_cases h1 : i < 4
    · have z1 : decide ((i : Int) < 4) = true := by simp; omega
      have e1 : IntKind.i64.wrap ((i : Int) + 1) = (i : Int) + 1 := IntWalk.i64_in _ (by omega)
      have e2 : IntKind.i64.wrap (8 * (i : Int)) = 8 * (i : Int) := IntWalk.i64_in _ (by omega)
      have e3 : IntKind.i64.wrap (3 - (i : Int)) = 3 - (i : Int) := IntWalk.i64_in _ (by omega)
      obtain ⟨j, hj⟩ : ∃ j, j = 4 - 1 - i := ⟨_, rfl⟩
      have e4 : (3 : Int) - (i : Int) = (j : Int) := by omega
      have q0 : (0 : Int) ≤ (j : Int) := by omega
      have q1 : (j : Int) < 4 := by omega
      obtain ⟨cb, hcy⟩ : ∃ cb, wr.cell? ⟨q, j, none⟩ = some (.int .u8 (bt cb)) := ⟨_, hf.cell (i := j) (by rw [beAt_len]; omega)⟩
      have hfy := hf.frozen j
      have f1 : ¬ (8 * (i : Int) < 0) := by omega
      have f2 : (8 * (i : Int)).toNat = 8 * i := by omega
      have hset := hf.set j (byteN n i)
      have hst := beAt_set (s := 4) (n := n) (i := i) h1
      rw [← hj] at hst
      rw [hst] at hset
      have ev : c8 (byteN n i) = .int .u8 (IntKind.u8.wrap ((n : Int) / 2 ^ (8 * i))) := by
        unfold c8 bt
        congr 1
      rw [ev] at hset
      have HSET := Lib.hid (And.intro hset (hb.setCell (p := ⟨q, j, none⟩) (Nat.le_refl _) (.int .u8 (IntKind.u8.wrap ((n : Int) / 2 ^ (8 * i))))))
      clear hig hset hst ev hj hf
      go_wp2_with fail
      go_roundg (gk - 1)
      case measure => have := HIG.out; omega
      case rel => exact ⟨i + 1, by simp, by have := HIG.out; omega, HSET.out.1, HSET.out.2⟩
    · have z1 : decide ((i : Int) < 4) = false := by simp; omega
      obtain rfl : i = 4 := by omega
      have HF := Lib.hid (And.intro hf hb)
      clear hig hf hb
      go_wp2_with fail
      go_ret
      exact ⟨q, rfl, by rw [HQ.out]; exact Nat.le_refl _, by have := HF.out.1; rwa [beAt_full] at this, by have := HF.out.2; rwa [HQ.out] at this⟩
set_option maxRecDepth 20000 in
set_option maxHeartbeats 4000000 in
theorem number8 (n : Nat) (hn : n < 2 ^ 63) (w : World) : Calls Try.prog 42 #[.int .i64 (n : Int), .int .i64 8] w fun e w' => ∃ q, e = .returned (.slice (some ⟨q, 0, none⟩) 8 8) ∧ w.heap.size ≤ q ∧ Nb w' q (be 8 n) ∧ Below w.heap.size w w' := by
  have H43 : Calls Try.prog 43 #[.int .i64 8] w fun e w' => e = .returned (.bool true) ∧ w' = w := fits43 (s := 8) (by unfold fitsN; omega) w
  have d0 : decide ((n : Int) < 0) = false := by simp
  have hmk : (Instr.makeSlice 23 (.int .i64 8) (.int .i64 8)).run Try.prog w = .ok (.slice (some ⟨w.heap.size, 0, none⟩) 8 8) (w.alloc (.cells (madeCells (Value.int .u8 0).cells 8) 5)) := make28 w 8 (by omega)
  have HN := Lib.hid hn
  clear hn
  go_enter Try.func42, Try.ntmps42
  go_wp2_with (first
    | (go_at_call 43; (with_reducible refine H43.mono ?_); rintro e w1 ⟨rfl, hw⟩; obtain rfl : w = w1 := hw.symm))
  obtain ⟨q, hq⟩ : ∃ q, q = w.heap.size := ⟨_, rfl⟩
  have FX := Lib.hid (And.intro (nb_made w 8) ((Below.refl w.heap.size w).alloc (Nat.le_refl _) (.cells (madeCells (Value.int .u8 0).cells 8) 5)))
  rw [← hq] at FX ⊢
  have hw0 : madeCells #[Value.int .u8 0] 8 = madeCells (Value.int .u8 0).cells 8 := rfl
  try rw [hw0]
  generalize w.alloc (.cells (madeCells (Value.int .u8 0).cells 8) 5) = wa at FX ⊢
  have HQ := Lib.hid hq
  clear hmk hw0 hq
  go_loopg [6, 29] 8 (fun gk v6 v29 wr => ∃ i : Nat, v29 = .int .i64 i ∧ i + gk = 8 ∧ Nb wr q (beAt 8 n i) ∧ Below q w wr)
  case atStart => exact ⟨0, rfl, by omega, by rw [beAt_zero]; exact FX.out.1, FX.out.2⟩
  case round =>
    obtain ⟨i, rfl, hig, hf, hb⟩ := hrel
    have HIG := Lib.hid hig
    clear FX
    by_cases h1 : i < 8
    · have z1 : decide ((i : Int) < 8) = true := by simp; omega
      have e1 : IntKind.i64.wrap ((i : Int) + 1) = (i : Int) + 1 := IntWalk.i64_in _ (by omega)
      have e2 : IntKind.i64.wrap (8 * (i : Int)) = 8 * (i : Int) := IntWalk.i64_in _ (by omega)
      have e3 : IntKind.i64.wrap (7 - (i : Int)) = 7 - (i : Int) := IntWalk.i64_in _ (by omega)
      obtain ⟨j, hj⟩ : ∃ j, j = 8 - 1 - i := ⟨_, rfl⟩
      have e4 : (7 : Int) - (i : Int) = (j : Int) := by omega
      have q0 : (0 : Int) ≤ (j : Int) := by omega
      have q1 : (j : Int) < 8 := by omega
      obtain ⟨cb, hcy⟩ : ∃ cb, wr.cell? ⟨q, j, none⟩ = some (.int .u8 (bt cb)) := ⟨_, hf.cell (i := j) (by rw [beAt_len]; omega)⟩
      have hfy := hf.frozen j
      have f1 : ¬ (8 * (i : Int) < 0) := by omega
      have f2 : (8 * (i : Int)).toNat = 8 * i := by omega
      have hset := hf.set j (byteN n i)
      have hst := beAt_set (s := 8) (n := n) (i := i) h1
      rw [← hj] at hst
      rw [hst] at hset
      have ev : c8 (byteN n i) = .int .u8 (IntKind.u8.wrap ((n : Int) / 2 ^ (8 * i))) := by
        unfold c8 bt
        congr 1
      rw [ev] at hset
      have HSET := Lib.hid (And.intro hset (hb.setCell (p := ⟨q, j, none⟩) (Nat.le_refl _) (.int .u8 (IntKind.u8.wrap ((n : Int) / 2 ^ (8 * i))))))
      clear hig hset hst ev hj hf
      go_wp2_with fail
      go_roundg (gk - 1)
      case measure => have := HIG.out; omega
      case rel => exact ⟨i + 1, by simp, by have := HIG.out; omega, HSET.out.1, HSET.out.2⟩
    · have z1 : decide ((i : Int) < 8) = false := by simp; omega
      obtain rfl : i = 8 := by omega
      have HF := Lib.hid (And.intro hf hb)
      clear hig hf hb
      go_wp2_with fail
      go_ret
      exact ⟨q, rfl, by rw [HQ.out]; exact Nat.le_refl _, by have := HF.out.1; rwa [beAt_full] at this, by have := HF.out.2; rwa [HQ.out] at this⟩
theorem bits_or_low (x y : Int) (hx : 0 ≤ x) (hx1 : x * 256 < 2 ^ 63) (hy : 0 ≤ y) (hy1 : y < 256) : bits .or .i64 (x * 256) y = x * 256 + y :=
  bits_join .i64 63 (by decide) (fun n h0 h1 => IntWalk.i64_in _ (by omega)) 8 (x * 256) y (by omega) (by omega) hx1 hy (by omega) (by omega)
set_option maxRecDepth 20000 in
set_option maxHeartbeats 4000000 in
theorem get8 (n : Nat) (hn : n < 2 ^ 63) (w : World) (q : Nat) (D : List Byte) (hD : D.length = 512) (hr : w.rangeAt q 0 (D.map c8)) (ht : (D.drop 4).take 8 = be 8 n) :
    Calls Try.prog 32 #[.slice (some ⟨q, 0, none⟩) 512 512, .int .i64 4, .int .i64 8] w fun e w' => e = .returned (.tuple #[.int .i64 (n : Int), .int .i64 (4 + 8), .int .i64 0]) ∧ w' = w := by
  have H43 : Calls Try.prog 43 #[.int .i64 8] w fun e w' => e = .returned (.bool true) ∧ w' = w := fits43 (s := 8) (by unfold fitsN; omega) w
  have HN := Lib.hid (And.intro hn (And.intro hD (And.intro hr ht)))
  clear hn hD hr ht
  go_enter Try.func32, Try.ntmps32
  go_wp2_with (first
    | (go_at_call 43; (with_reducible refine H43.mono ?_); rintro e w1 ⟨rfl, hw⟩; obtain rfl : w = w1 := hw.symm))
  go_loopg [9, 11, 36] 8 (fun gk v9 v11 v36 wr => ∃ i : Nat, v9 = .int .i64 (val ((be 8 n).take i)) ∧ v36 = .int .i64 i ∧ i + gk = 8 ∧ wr = w)
  case atStart => exact ⟨0, rfl, rfl, by omega, rfl⟩
  case round =>
    obtain ⟨i, rfl, rfl, hig, hw⟩ := hrel
    obtain rfl : w = wr := hw.symm
    have HIG := Lib.hid hig
    by_cases h1 : i < 8
    · have z1 : decide ((i : Int) < 8) = true := by simp; omega
      have e1 : IntKind.i64.wrap ((i : Int) + 1) = (i : Int) + 1 := IntWalk.i64_in _ (by omega)
      have q0 : (0 : Int) ≤ (i : Int) := by omega
      have q1 : (i : Int) < 8 := by omega
      obtain ⟨x, hx⟩ : ∃ x, (be 8 n)[i]? = some x := ⟨_, List.getElem?_eq_getElem (by rw [be_len]; exact h1)⟩
      have hdx : D[4 + i]? = some x := by rw [← HN.out.2.2.2, List.getElem?_take, if_pos h1, List.getElem?_drop] at hx; exact hx
      have hcx : w.cell? ⟨q, 4 + i, none⟩ = some (.int .u8 (bt x)) := by
        have := HN.out.2.2.1 (4 + i) (c8 x) (by rw [List.getElem?_map, hdx]; rfl)
        rw [Nat.zero_add] at this
        exact this
      have hb := bt_bd x
      have hv : val ((be 8 n).take (i + 1)) = val ((be 8 n).take i) * 256 + x.toNat := by rw [List.take_add_one, hx]; exact val_snoc _ _
      have hlt : val ((be 8 n).take (i + 1)) < 2 ^ 63 := by
        rw [val_take 8 n (i + 1) (by omega)]
        have h2 := HN.out.1
        have h3 : n / 2 ^ (8 * (8 - (i + 1))) % 2 ^ (8 * (i + 1)) ≤ n := Nat.le_trans (Nat.mod_le _ _) (Nat.div_le_self _ _)
        omega
      obtain ⟨u, hu⟩ : ∃ u, val ((be 8 n).take i) = u := ⟨_, rfl⟩
      rw [hu] at hv ⊢
      rw [hv] at hlt
      have hxt : bt x = (x.toNat : Int) := rfl
      obtain ⟨y, hy⟩ : ∃ y, x.toNat = y := ⟨_, rfl⟩
      have hyl : y < 256 := by rw [← hy]; exact x.isLt
      rw [hxt, hy] at hcx
      rw [hy] at hv hlt
      have e2 : IntKind.i64.wrap ((u : Int) * 256) = (u : Int) * 256 := IntWalk.i64_in _ (by omega)
      have e3 : IntKind.i64.wrap (y : Int) = (y : Int) := IntWalk.i64_in _ (by omega)
      have e4 := bits_or_low (u : Int) (y : Int) (by omega) (by omega) (by omega) (by omega)
      have HV := Lib.hid hv
      clear hig hx hdx hb hv hlt hu hxt hy
      go_wp2_with fail
      go_roundg (gk - 1)
      case measure => have := HIG.out; omega
      case rel => exact ⟨i + 1, by rw [HV.out]; push_cast; rfl, by simp, by have := HIG.out; omega, rfl⟩
    · have z1 : decide ((i : Int) < 8) = false := by simp; omega
      obtain rfl : i = 8 := by omega
      have hv : val ((be 8 n).take 8) = n := by rw [List.take_of_length_le (by rw [be_len]; exact Nat.le_refl _)]; exact val_be (by have := HN.out.1; omega)
      rw [hv]
      have d0 : decide ((n : Int) < 0) = false := by simp
      clear hig hv
      go_wp2_with fail
      go_ret3
      exact ⟨rfl, rfl⟩
set_option maxRecDepth 20000 in
set_option maxHeartbeats 4000000 in
theorem get4 (n : Nat) (hn : n < 2 ^ 32) (w : World) (q : Nat) (D : List Byte) (hD : D.length = 512) (hr : w.rangeAt q 0 (D.map c8)) (ht : (D.drop 12).take 4 = be 4 n) :
    Calls Try.prog 32 #[.slice (some ⟨q, 0, none⟩) 512 512, .int .i64 12, .int .i64 4] w fun e w' => e = .returned (.tuple #[.int .i64 (n : Int), .int .i64 (12 + 4), .int .i64 0]) ∧ w' = w := by
  have H43 : Calls Try.prog 43 #[.int .i64 4] w fun e w' => e = .returned (.bool true) ∧ w' = w := fits43 (s := 4) (by unfold fitsN; omega) w
  have HN := Lib.hid (And.intro hn (And.intro hD (And.intro hr ht)))
  clear hn hD hr ht
  go_enter Try.func32, Try.ntmps32
  go_wp2_with (first
    | (go_at_call 43; (with_reducible refine H43.mono ?_); rintro e w1 ⟨rfl, hw⟩; obtain rfl : w = w1 := hw.symm))
  go_loopg [9, 11, 36] 4 (fun gk v9 v11 v36 wr => ∃ i : Nat, v9 = .int .i64 (val ((be 4 n).take i)) ∧ v36 = .int .i64 i ∧ i + gk = 4 ∧ wr = w)
  case atStart => exact ⟨0, rfl, rfl, by omega, rfl⟩
  case round =>
    obtain ⟨i, rfl, rfl, hig, hw⟩ := hrel
    obtain rfl : w = wr := hw.symm
    have HIG := Lib.hid hig
    by_cases h1 : i < 4
    · have z1 : decide ((i : Int) < 4) = true := by simp; omega
      have e1 : IntKind.i64.wrap ((i : Int) + 1) = (i : Int) + 1 := IntWalk.i64_in _ (by omega)
      have q0 : (0 : Int) ≤ (i : Int) := by omega
      have q1 : (i : Int) < 4 := by omega
      obtain ⟨x, hx⟩ : ∃ x, (be 4 n)[i]? = some x := ⟨_, List.getElem?_eq_getElem (by rw [be_len]; exact h1)⟩
      have hdx : D[12 + i]? = some x := by rw [← HN.out.2.2.2, List.getElem?_take, if_pos h1, List.getElem?_drop] at hx; exact hx
      have hcx : w.cell? ⟨q, 12 + i, none⟩ = some (.int .u8 (bt x)) := by
        have := HN.out.2.2.1 (12 + i) (c8 x) (by rw [List.getElem?_map, hdx]; rfl)
        rw [Nat.zero_add] at this
        exact this
      have hb := bt_bd x
      have hv : val ((be 4 n).take (i + 1)) = val ((be 4 n).take i) * 256 + x.toNat := by rw [List.take_add_one, hx]; exact val_snoc _ _
      have hlt : val ((be 4 n).take (i + 1)) < 2 ^ 63 := by
        rw [val_take 4 n (i + 1) (by omega)]
        have h2 := HN.out.1
        have h3 : n / 2 ^ (8 * (4 - (i + 1))) % 2 ^ (8 * (i + 1)) ≤ n := Nat.le_trans (Nat.mod_le _ _) (Nat.div_le_self _ _)
        omega
      obtain ⟨u, hu⟩ : ∃ u, val ((be 4 n).take i) = u := ⟨_, rfl⟩
      rw [hu] at hv ⊢
      rw [hv] at hlt
      have hxt : bt x = (x.toNat : Int) := rfl
      obtain ⟨y, hy⟩ : ∃ y, x.toNat = y := ⟨_, rfl⟩
      have hyl : y < 256 := by rw [← hy]; exact x.isLt
      rw [hxt, hy] at hcx
      rw [hy] at hv hlt
      have e2 : IntKind.i64.wrap ((u : Int) * 256) = (u : Int) * 256 := IntWalk.i64_in _ (by omega)
      have e3 : IntKind.i64.wrap (y : Int) = (y : Int) := IntWalk.i64_in _ (by omega)
      have e4 := bits_or_low (u : Int) (y : Int) (by omega) (by omega) (by omega) (by omega)
      have HV := Lib.hid hv
      clear hig hx hdx hb hv hlt hu hxt hy
      go_wp2_with fail
      go_roundg (gk - 1)
      case measure => have := HIG.out; omega
      case rel => exact ⟨i + 1, by rw [HV.out]; push_cast; rfl, by simp, by have := HIG.out; omega, rfl⟩
    · have z1 : decide ((i : Int) < 4) = false := by simp; omega
      obtain rfl : i = 4 := by omega
      have hv : val ((be 4 n).take 4) = n := by rw [List.take_of_length_le (by rw [be_len]; exact Nat.le_refl _)]; exact val_be (by have := HN.out.1; omega)
      rw [hv]
      have d0 : decide ((n : Int) < 0) = false := by simp
      clear hig hv
      go_wp2_with fail
      go_ret3
      exact ⟨rfl, rfl⟩
end Go.Proofs.Ytjabkfccfecmgaa
