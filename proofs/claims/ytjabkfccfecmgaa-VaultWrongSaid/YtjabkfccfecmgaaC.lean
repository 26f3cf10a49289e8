/- The disk's small functions, walked. -/
import Derived.Test.YtjabkfccfecmgaaB
namespace Go.Proofs.Ytjabkfccfecmgaa
open Go.ChangeShapes Go.WideShapes Go.ChangeAt Go.RowKit
set_option linter.unusedSimpArgs false
set_option linter.unusedVariables false
section
variable {A : Nat → Prop} {w : World} {g b n : Nat} {d : DS}
def Mayc (n : Nat) (d : DS) (z : Int) : Int := if d.down then 201 else if z < 0 ∨ (n : Int) ≤ z then 1 else 0
theorem may25 (h : Dk A w g b n d) (z : Int) : Calls Try.prog 37 #[.pointer (some ⟨g, 0, none⟩), .int .i64 z] w fun e w' => e = .returned (.int .i64 (Mayc n d z)) ∧ w' = w := by
  have c0 := h.c0
  have c3 := h.c3
  obtain ⟨m, hm⟩ : ∃ m, Mayc n d z = m := ⟨_, rfl⟩
  rw [hm]
  unfold Mayc at hm
  go_enter Try.func37, Try.ntmps37
  cases hd : d.down with
  | true =>
    rw [hd] at c3 hm
    simp only [if_true] at hm
    subst hm
    go_wp2_with fail
    go_ret
    exact ⟨rfl, rfl⟩
  | false =>
    rw [hd] at c3 hm
    simp only [Bool.false_eq_true, if_false] at hm
    by_cases h1 : z < 0
    · have d1 : decide (z < 0) = true := by simp; omega
      rw [if_pos (.inl h1)] at hm
      subst hm
      go_wp2_with fail
      go_ret
      exact ⟨rfl, rfl⟩
    · have d1 : decide (z < 0) = false := by simp; omega
      by_cases h2 : (n : Int) ≤ z
      · have d2 : decide (z ≥ (n : Int)) = true := by simp; omega
        have d3 : decide ((n : Int) ≤ z) = true := by simp; omega
        rw [if_pos (.inr h2)] at hm
        subst hm
        go_wp2_with fail
        go_ret
        exact ⟨rfl, rfl⟩
      · have d2 : decide (z ≥ (n : Int)) = false := by simp; omega
        have d3 : decide ((n : Int) ≤ z) = false := by simp; omega
        rw [if_neg (by omega)] at hm
        subst hm
        go_wp2_with fail
        go_ret
        exact ⟨rfl, rfl⟩
theorem many24 (h : Dk A w g b n d) : Calls Try.prog 18 #[.pointer (some ⟨g, 0, none⟩)] w fun e w' => e = .returned (.int .i64 n) ∧ w' = w := by
  have c0 := h.c0
  go_enter Try.func18, Try.ntmps18
  go_wp2_with fail
  go_ret
  exact ⟨rfl, rfl⟩
theorem down17 (h : Dk A w g b n d) : Calls Try.prog 17 #[.pointer (some ⟨g, 0, none⟩)] w fun e w' => e = .returned (.bool d.down) ∧ w' = w := by
  have c3 := h.c3
  go_enter Try.func17, Try.ntmps17
  go_wp2_with fail
  go_ret
  exact ⟨rfl, rfl⟩
theorem arm9 (hD : Dk A w g b n d) (z : Int) (hz : z < 9223372036854775808) : Calls Try.prog 12 #[.pointer (some ⟨g, 0, none⟩), .int .i64 z] w fun e w' => e = .returned (.tuple #[]) ∧ Dk A w' g b n { d with fuse := if z < -1 then -1 else z } ∧ Frm A g b w w' := by
  have c2 := hD.c2
  have f2 := hD.frozen 2
  go_enter Try.func12, Try.ntmps12
  by_cases h1 : z < -1
  · have d1 : decide (z > -1) = false := by simp; omega
    go_wp2_with fail
    go_end0
    exact ⟨rfl, by simpa [h1] using hD.setFuse (-1) (by omega), (Frm.refl A g b w).setCell _ _ (.inl rfl)⟩
  · by_cases h3 : z = -1
    · subst h3
      go_wp2_with fail
      go_end0
      exact ⟨rfl, by simpa using hD.setFuse (-1) (by omega), (Frm.refl A g b w).setCell _ _ (.inl rfl)⟩
    have d1 : decide (z > -1) = true := by simp; omega
    have d2 : decide (-1 < z) = true := by simp; omega
    go_wp2_with fail
    go_end0
    have h2 : ¬ z < -1 := by omega
    exact ⟨rfl, by simpa [h2] using hD.setFuse z (by omega), (Frm.refl A g b w).setCell _ _ (.inl rfl)⟩
theorem up12 (h : Dk A w g b n d) : Calls Try.prog 14 #[.pointer (some ⟨g, 0, none⟩)] w fun e w' => e = .returned (.tuple #[]) ∧ Dk A w' g b n { d with down := false } ∧ Frm A g b w w' := by
  have c3 := h.c3
  have f3 := h.frozen 3
  go_enter Try.func14, Try.ntmps14
  go_wp2_with fail
  go_end0
  exact ⟨rfl, h.setDown false, (Frm.refl A g b w).setCell _ _ (.inl rfl)⟩
end
def zs : Sct := List.replicate 512 0#8
def d0 : DS := ⟨fun _ => zs, [], -1, false⟩
theorem zero56 (w : World) : (zeroValue 44).run Try.prog w = .ok (.agg #[.slice none 0 0, .slice none 0 0, .int .i64 0, .bool false]) w := by kernel_rfl
theorem c8_zero : c8 0#8 = .int .u8 0 := rfl
theorem zs_len : zs.length = 512 := List.length_replicate
theorem zs_at (j : Nat) (v : Value) (hv : (zs.map c8)[j]? = some v) : v = .int .u8 0 := by
  obtain ⟨x, hx, rfl⟩ := c8_at hv
  unfold zs at hx
  rw [List.getElem?_replicate] at hx
  split at hx
  · injection hx with hx; subst hx; rfl
  · cases hx
theorem made_at (zc : Array Value) (v : Value) (s N k : Nat) (hs : zc.size = s) (h0 : 0 < s) (hz : ∀ j, j < s → zc[j]? = some v) (hk : k < N) : (madeCells zc N).toList[k]? = some v := by
  unfold madeCells
  subst hs
  have h2 := hz (k % zc.size) (Nat.mod_lt _ h0)
  have h3 : k % zc.size < zc.size := Nat.mod_lt _ h0
  rw [Array.getElem?_eq_getElem h3] at h2
  injection h2 with h2
  simp [hk, getElem!_pos, h3, h2]
theorem zero_cells : (Value.agg (List.replicate 512 (.int .u8 0)).toArray).cells = (List.replicate 512 (Value.int .u8 0)).toArray := rfl
theorem made58 (n k : Nat) (hk : k < n * 512) : (madeCells (Value.agg (List.replicate 512 (.int .u8 0)).toArray).cells (n * 512)).toList[k]? = some (.int .u8 0) := by
  rw [zero_cells]
  refine made_at _ _ 512 _ k (by rw [List.size_toArray, List.length_replicate]) (by omega) (fun j hj => ?_) hk
  rw [List.getElem?_toArray, List.getElem?_replicate, if_pos hj]
theorem sec_made {w : World} {b n cap : Nat} {base : Nat} (ho : w.ownsRow base 63 512 (.slice (some ⟨b, 0, none⟩) n cap) n (madeCells (Value.agg (List.replicate 512 (.int .u8 0)).toArray).cells (n * 512)).toList) : Sec w b n (fun _ => zs) := by
  have made := made58 n
  generalize (madeCells (Value.agg (List.replicate 512 (.int .u8 0)).toArray).cells (n * 512)).toList = L at ho made
  rcases ho.2 with ⟨e, _⟩ | ⟨q, cap', cur, e, hb, hq, hc, hm, hcs, htake⟩
  · cases e
  · injection e with e1 e2 e3
    injection e1 with e1
    injection e1 with e1
    subst e1
    have hcell : ∀ k, k < n * 512 → w.cell? ⟨b, k, none⟩ = some (.int .u8 0) := fun k hk => by
      have := ho.cells (g := b) rfl k _ (made k hk)
      rwa [Addr.add_mid, Nat.zero_add] at this
    refine ⟨fun i hi j v hv => ?_, fun i hi => zs_len, fun j hj => ?_, (Array.getElem?_eq_some_iff.1 hq).1⟩
    · have hj : j < 512 := by have := (List.getElem?_eq_some_iff.1 hv).1; rwa [List.length_map, zs_len] at this
      rw [hcell _ (by omega), zs_at j v hv]
    · rw [Nat.zero_add]
      exact ⟨by rw [hcell j hj]; rfl, frozen_of_row w b j _ 63 hq⟩
theorem new8 (n : Nat) (w : World) (hn : 1 ≤ n ∧ n ≤ 4096) : Calls Try.prog 8 #[.int .i64 n] w fun e w' => ∃ g b, e = .returned (.pointer (some ⟨g, 0, none⟩)) ∧ w.heap.size ≤ b ∧ (∀ A, Dk A w' g b n d0) ∧ Below w.heap.size w w' := by
  obtain ⟨i0, hi, hz0, hz1, hz2⟩ := info_parts info58
  have hz56 := zero56
  have d1 : decide ((n : Int) < 1) = false := by simp; omega
  have d2 : decide ((n : Int) > 4096) = false := by simp; omega
  go_enter Try.func8, Try.ntmps8
  go_wp2_with (first | (at_make; refine wpList_make_full _ rfl (.tmp 9) (.tmp 9) 41 rfl w.heap.size 63 i0 _ 512 Try.underlying41 hi hz0 hz1 .i64 .i64 n n n rfl rfl rfl rfl ?m1 ?m2 ?m3 ?_; (case m1 => rw [hz2]; omega); (case m2 => unfold maxLen; omega); (case m3 => exact Nat.le_refl _); intro w1 o1 g1))
  go_ret
  have hb : Below w.heap.size w w1 := ⟨g1.os, g1.tape, g1.output, g1.size, fun k hk => g1.block k hk (by simp)⟩
  have hs := sec_made o1
  exact ⟨_, _, rfl, Nat.le_refl _, fun A => ⟨⟨.slice none 0 0, heap_alloc_new w1 _, World.ownsRow_nil _ _ _ _, (fun k hk => by cases hk)⟩, hs.keep (by simp) (Below.heap_alloc w1 _ _ hs.lt), hs.lt, (fun p hp => by cases hp), hn, by unfold d0; decide⟩, hb.alloc g1.size _⟩
theorem new8n (z : Int) (w : World) (hz : z < 1 ∨ 4096 < z) : Calls Try.prog 8 #[.int .i64 z] w fun e w' => e = .returned (.pointer none) ∧ w' = w := by
  go_enter Try.func8, Try.ntmps8
  by_cases h1 : z < 1
  · have d1 : decide (z < 1) = true := by simp; omega
    go_wp2_with fail
    go_ret
    exact ⟨rfl, rfl⟩
  · have d1 : decide (z < 1) = false := by simp; omega
    have d2 : decide (z > 4096) = true := by simp; omega
    go_wp2_with fail
    go_ret
    exact ⟨rfl, rfl⟩
end Go.Proofs.Ytjabkfccfecmgaa
