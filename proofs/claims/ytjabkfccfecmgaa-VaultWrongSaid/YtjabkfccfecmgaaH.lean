/- The law's head. -/
import Derived.Test.YtjabkfccfecmgaaG
namespace Go.Proofs.Ytjabkfccfecmgaa
open Go.ChangeShapes Go.WideShapes Go.ChangeAt Go.RowKit
set_option linter.unusedSimpArgs false
set_option linter.unusedVariables false
theorem Bys.below {w w' : World} {ao : Option Addr} {D : List (BitVec 8)} (h : Bys w ao D) (j : Below w.heap.size w w') : Bys w' ao D :=
  ⟨h.nil, fun a ha i x hx => by
    have hc := h.cells a ha i x hx
    have hb := World.block_lt_of_cell? w _ hc
    rw [add_block] at hb
    exact (World.cell?_of_block (by rw [add_block]; exact j.block _ hb)).trans hc⟩
theorem convnone (c : Nat) (w : World) : (convert 23 9 (.slice none 0 c)).run Try.prog w = .ok (.string (strOf [])) w := by
  first
    | kernel_rfl
    | rfl
    | (simp [convert, run_underlying Try.underlying23, run_underlying Try.underlying5, run_underlying Try.underlying9, strOf, Sem.run_bind]; done)
theorem conv_bys {w : World} {n c : Nat} {ao : Option Addr} {D : List (BitVec 8)} (hn : n = D.length) (h : Bys w ao D) : (convert 23 9 (.slice ao n c)).run Try.prog w = .ok (.string (strOf D)) w := by
  cases ao with
  | none =>
    have hD := h.nil rfl
    subst hn
    subst hD
    exact convnone c w
  | some ad =>
    have := run_convert_bytes_back (P := Try.prog) w 23 9 5 ad c (D.map UInt8.ofBitVec) Try.underlying23 Try.underlying5 Try.underlying9 (fun j hj => by
      have hj2 : j < D.length := by simpa using hj
      have := h.cells ad rfl j D[j] (List.getElem?_eq_getElem hj2)
      rw [this]
      simp [c8, bt])
    rw [List.length_map, ← hn] at this
    exact this
theorem bys_own {w : World} {base n c : Nat} {ao : Option Addr} {T : List (BitVec 8)} (h : Own w base (.slice ao n c) n T) : Bys w ao T := by
  have hl : n = T.length := by have := h.1; simp at this; omega
  rcases h.2 with ⟨e, e0⟩ | ⟨b, cap, cur, e, hb, hh, hnc, hrest⟩
  · injection e with e1
    subst e1
    have : T = [] := List.eq_nil_of_length_eq_zero (by omega)
    exact ⟨fun _ => this, fun a ha => by cases ha⟩
  · injection e with e1
    subst e1
    exact ⟨(fun e => by cases e), fun a ha j x hx => by injection ha with ha; subst ha; exact h.cells (g := b) rfl j (c8 x) (by rw [List.getElem?_map, hx]; rfl)⟩
theorem made5 (n k : Nat) (hk : k < n) : (madeCells (Value.int .u8 0).cells n).toList[k]? = some (.int .u8 0) := by
  refine made_at (Value.int .u8 0).cells (.int .u8 0) 1 n k rfl (by omega) (fun j hj => ?_) hk
  obtain rfl : j = 0 := by omega
  rfl
theorem kc1 (w : World) : (convert 23 23 (.slice (some ⟨w.heap.size + 1, 0, none⟩) 1 1)).run Try.prog ((w.alloc (.cells #[.int .u8 1] 5)).alloc (.cells #[.int .u8 97] 5)) = .ok (.slice (some ⟨w.heap.size + 1, 0, none⟩) 1 1) ((w.alloc (.cells #[.int .u8 1] 5)).alloc (.cells #[.int .u8 97] 5 (1, 2))) := by
  have := Lib.run_convert_bytes_const (P := Try.prog) (w.alloc (.cells #[.int .u8 1] 5)) 23 5 #[.int .u8 97] 1 1 Try.underlying23 Try.underlying5
  simpa using this
theorem make28 (w : World) (n : Nat) (hn : n ≤ 1000000000) : (Instr.makeSlice 23 (.int .i64 (n : Int)) (.int .i64 (n : Int))).run Try.prog w = .ok (.slice (some ⟨w.heap.size, 0, none⟩) n n) (w.alloc (.cells (madeCells (Value.int .u8 0).cells n) 5)) := by
  obtain ⟨i0, hi, hz0, hz1, hz2⟩ := info_parts info5
  have := run_make (P := Try.prog) w 23 5 i0 _ Try.underlying23 hi hz0 .i64 .i64 n n (by omega) (Int.le_refl _) (by rw [hz2]; omega) (by omega)
  rw [hz1, Int.toNat_natCast, Nat.mul_one] at this
  exact this
theorem bys_made (w : World) (n : Nat) : Bys (w.alloc (.cells (madeCells (Value.int .u8 0).cells n) 5)) (some ⟨w.heap.size, 0, none⟩) (List.replicate n 0#8) :=
  ⟨(fun e => by cases e), fun a ha j x hx => by
    injection ha with ha
    subst ha
    rw [List.getElem?_replicate] at hx
    split at hx
    · rename_i hj
      injection hx with hx
      subst hx
      rw [Addr.add_mid, Nat.zero_add, cell_of_row _ _ j _ 5 _ (heap_alloc_new w _)]
      have := made5 n j hj
      rw [← Array.getElem?_toList]; exact this
    · cases hx⟩
theorem img_zs : ∀ k, img (fun _ => zs) k = List.replicate (k * 512) 0#8 := by
  intro k
  induction k with
  | zero => rfl
  | succ k ih => rw [img_succ, ih]; unfold zs; rw [List.replicate_append_replicate, show (k + 1) * 512 = k * 512 + 512 by omega]
theorem of19n (ao : Option Addr) (m c : Nat) (w : World) (h : m % 512 ≠ 0) : Calls Try.prog 16 #[.slice ao m c] w fun e w' => e = .returned (.pointer none) ∧ w' = w := by
  have e1 : ((m : Int).tmod 512 != 0) = true := by rw [Int.tmod_eq_emod_of_nonneg (by omega)]; simp; omega
  have e2 : ((m : Int) % 512 != 0) = true := by simp; omega
  go_enter Try.func16, Try.ntmps16
  go_wp2_with fail
  go_ret
  exact ⟨rfl, rfl⟩
end Go.Proofs.Ytjabkfccfecmgaa
