/- VaultWrong: what is wrong. -/
import Derived.Test.YtjabkfccfecmgaaQ1
import Derived.Test.YtjabkfccfecmgaaR4
namespace Go.Proofs.Ytjabkfccfecmgaa
open Go.ChangeShapes Go.WideShapes Go.ChangeAt Go.RowKit
set_option linter.unusedSimpArgs false
set_option linter.unusedVariables false
def V27 (gx qi N3 ci : Nat) (T : List Byte) : Nat → Value → World → Prop
  | 0, v, w => v = .bool true
  | 1, v, w => v = .bool true
  | 2, v, w => v = .int .i64 212
  | 3, v, w => v = .bool true
  | 4, v, w => v = .bool true
  | 5, v, w => v = .bool true
  | 6, v, w => v = .pointer none
  | 7, v, w => v = .bool true
  | 8, v, w => v = .bool true
  | 9, v, w => v = .bool true
  | 10, v, w => v = .pointer (some ⟨gx, 0, none⟩)
  | 11, v, w => ∃ ao c, v = .slice ao N3 c ∧ Bys w ao T
  | 12, v, w => v = .string (strOf T)
  | 13, v, w => v = .slice (some ⟨qi, 0, none⟩) N3 ci
  | 14, v, w => v = .string (strOf T)
  | 15, v, w => v = .bool true
  | 16, v, w => v = .bool true
  | 17, v, w => v = .bool true
  | _, _, _ => True
theorem V27_keep (gx qi N3 ci : Nat) (T : List Byte) (i1 : Nat) (v : Value) (w w' : World) (h : V27 gx qi N3 ci T i1 v w) (r : (fun w w' => Below w.heap.size w w') w w') : V27 gx qi N3 ci T i1 v w' := by
  rcases i1 with _ | _ | _ | _ | _ | _ | _ | _ | _ | _ | _ | _ | _ | _ | _ | _ | _ | _ | _
  · exact h
  · exact h
  · exact h
  · exact h
  · exact h
  · exact h
  · exact h
  · exact h
  · exact h
  · exact h
  · exact h
  · obtain ⟨a, c, e, y⟩ := h; exact ⟨a, c, e, y.below r⟩
  · exact h
  · exact h
  · exact h
  · exact h
  · exact h
  · exact h
  · trivial
/-- Bytes in a block. -/
def Im (w : World) (q n : Nat) (f : Nat → Byte) : Prop := ∃ cur, w.heap[q]? = some (.cells cur 5 (0, 0)) ∧ ∀ j, j < n → cur[j]? = some (c8 (f j))
section
variable {w w' : World} {q n : Nat} {f : Nat → Byte}
theorem Im.cell (h : Im w q n f) {j : Nat} (hj : j < n) : w.cell? ⟨q, j, none⟩ = some (c8 (f j)) := by
  obtain ⟨cur, h1, h2⟩ := h
  rw [cell_of_row _ _ _ _ _ _ h1]; exact h2 j hj
theorem Im.frozen (h : Im w q n f) (j : Nat) : w.frozen? ⟨q, j, none⟩ = false := by
  obtain ⟨cur, h1, h2⟩ := h
  exact frozen_of_row _ _ _ _ _ h1
theorem Im.set (h : Im w q n f) (j : Nat) (x : Byte) : Im (w.setCell ⟨q, j, none⟩ (c8 x)) q n (fun k => if k = j then x else f k) := by
  obtain ⟨cur, h1, h2⟩ := h
  refine ⟨cur.setIfInBounds j (c8 x), heap_setCell_same w q j cur 5 _ h1, fun k hk => ?_⟩
  have := h2 k hk
  have hlt := (Array.getElem?_eq_some_iff.1 this).1
  rw [Array.getElem?_setIfInBounds]
  by_cases e : k = j
  · subst e
    show _ = some (c8 (if k = k then x else f k))
    rw [if_pos rfl, if_pos hlt, if_pos rfl]
  · show _ = some (c8 (if k = j then x else f k))
    rw [if_neg (fun x => e x.symm), if_neg e]; exact this
theorem Im.keep (h : Im w q n f) (k : w'.heap[q]? = w.heap[q]?) : Im w' q n f := by
  obtain ⟨cur, h1, h2⟩ := h
  exact ⟨cur, k.trans h1, h2⟩
theorem Im.congr {f' : Nat → Byte} (h : Im w q n f) (e : ∀ k, k < n → f k = f' k) : Im w q n f' := by
  obtain ⟨cur, h1, h2⟩ := h
  exact ⟨cur, h1, fun j hj => by rw [h2 j hj, e j hj]⟩
theorem Im.lt (h : Im w q n f) : q < w.heap.size := by
  obtain ⟨cur, h1, h2⟩ := h
  exact (Array.getElem?_eq_some_iff.1 h1).1
def lst (n : Nat) (f : Nat → Byte) : List Byte := (List.range n).map f
theorem lst_len (n : Nat) (f : Nat → Byte) : (lst n f).length = n := by simp [lst]
theorem lst_get (n : Nat) (f : Nat → Byte) {j : Nat} (hj : j < n) : (lst n f)[j]? = some (f j) := by simp [lst, hj]
theorem Im.rng (h : Im w q n f) : w.rangeAt q 0 ((lst n f).map c8) := fun j v hv => by
  rw [List.getElem?_map] at hv
  have hj : j < n := by
    rcases Nat.lt_or_ge j n with x | x
    · exact x
    · rw [List.getElem?_eq_none (by rw [lst_len]; exact x)] at hv; cases hv
  rw [lst_get n f hj] at hv
  rw [Nat.zero_add, h.cell hj]
  simpa using hv
theorem sec_is {k : Nat} {Z : List Byte} (hk : k * 512 + 512 ≤ n) (hZ : Z.length = 512) (h : ∀ r, r < 512 → Z[r]? = some (f (k * 512 + r))) : sec (lst n f) k = Z := by
  unfold sec
  apply List.ext_getElem?
  intro r
  rw [List.getElem?_take]
  split
  · rename_i hr
    rw [List.getElem?_drop, lst_get n f (by omega), h r hr]
  · rename_i hr
    rw [List.getElem?_eq_none (by omega)]
theorem img_sec {n : Nat} {D : List Byte} (hD : D.length = n * 512) : img (SI D n) n = D := by
  have hl : ∀ j, j < n → (SI D n j).length = 512 := fun j hj => by unfold SI; rw [if_pos hj]; exact sec_len hD hj
  apply List.ext_getElem?
  intro i
  rcases Nat.lt_or_ge i (n * 512) with h | h
  · rw [img_get n hl i h]
    unfold SI
    rw [if_pos (by omega)]
    unfold sec
    rw [List.getElem?_take, if_pos (by omega), List.getElem?_drop, show i / 512 * 512 + i % 512 = i by omega]
  · rw [List.getElem?_eq_none (by rw [img_len hl n (Nat.le_refl _)]; exact h), List.getElem?_eq_none (by omega)]
end
theorem dOf_look (D : List Byte) (n k : Nat) (hk : k < n) : look ((dOf D n).S k) (dOf D n).W k = sec D k := by
  show SI D n k = _
  unfold SI
  rw [if_pos hk]
/-- The bytes of the disk. -/
def fV (D : List Byte) (j : Nat) : Byte := ((vst 6 1 D (j / 512))[j % 512]?).getD 0#8
theorem vst0 (D : List Byte) : vst 6 1 D 0 = zs := by unfold vst; rw [if_neg (by decide), if_neg (by decide), if_neg (by omega)]
theorem vst1 (D : List Byte) : vst 6 1 D 1 = hd 1 D.length := by unfold vst; rw [if_neg (by decide), if_pos (by decide)]
theorem fV0 (D : List Byte) {j : Nat} (h : j < 512) : fV D j = 0#8 := by
  unfold fV; rw [show j / 512 = 0 by omega, vst0, zs_get (by omega)]; rfl
theorem fV1 (D : List Byte) {r : Nat} (h : r < 512) : (hd 1 D.length)[r]? = some (fV D (512 + r)) := by
  unfold fV
  rw [show (512 + r) / 512 = 1 by omega, vst1, show (512 + r) % 512 = r by omega, List.getElem?_eq_getElem (by rw [hd_len]; exact h)]; rfl
/-- The heads turned. -/
def fT (D : List Byte) (i j : Nat) : Byte := if j < i then fV D (j + 512) else if 512 ≤ j ∧ j < 512 + i then fV D (j - 512) else fV D j
/-- A byte is another. -/
def fB (D : List Byte) (kk : Nat) (x : Byte) (j : Nat) : Byte := if j = kk then x else fV D j
section
variable {A : Nat → Prop} {w w' : World} {g b : Nat} {D : List Byte}
theorem wrong_T (hD : Dk A w g b 6 (dOf (lst 3072 (fT D 512)) 6)) (hl : D.length ≤ 1024) : Calls Try.prog 9 #[.pointer (some ⟨g, 0, none⟩)] w fun e w' => e = .returned (.tuple #[.pointer none, .slice none 0 0, .int .i64 212]) ∧ Below w.heap.size w w' := by
  have s0 : sec (lst 3072 (fT D 512)) 0 = hd 1 D.length := sec_is (by omega) (hd_len _ _) fun r hr => by
    rw [fV1 D hr]; unfold fT; rw [if_pos (by omega), show 0 * 512 + r + 512 = 512 + r by omega]
  have s1 : sec (lst 3072 (fT D 512)) 1 = zs := sec_is (by omega) zs_len fun r hr => by
    rw [zs_get hr]; unfold fT; rw [if_neg (by omega), if_pos (by omega), fV0 D (by omega)]
  refine open9x hD rfl (by omega) (by omega) (fun p => if p = 0 then 1 else 0) (fun p => if p = 0 then D.length else 0) (fun p => decide (p ≠ 0)) (fun W p hp hb => ?_) (.inl rfl)
  have : p = 0 ∨ p = 1 := by omega
  rcases this with rfl | rfl
  · have := read19b (hD.below hb) rfl (Nat.zero_le _) (by omega) (by omega) 0 1 D.length (by omega) (by omega) (by omega) (by omega) (by omega) (hd 1 D.length) (by rw [dOf_look _ _ _ (by omega), s0]) (hd_zs _ _) (hd_take _ _) (by omega)
    exact this
  · have := read19z (hD.below hb) rfl (Nat.zero_le _) (by omega) (by omega) 1 (by omega) (by rw [dOf_look _ _ _ (by omega), s1])
    exact this
theorem wrong_B {kk : Nat} {x : Byte} (hD : Dk A w g b 6 (dOf (lst 3072 (fB D kk x)) 6)) (hl : D.length ≤ 1024) (h1 : 528 ≤ kk) (h2 : kk < 1024) (hx : x ≠ 0#8) : Calls Try.prog 9 #[.pointer (some ⟨g, 0, none⟩)] w fun e w' => e = .returned (.tuple #[.pointer none, .slice none 0 0, .int .i64 212]) ∧ Below w.heap.size w w' := by
  have s0 : sec (lst 3072 (fB D kk x)) 0 = zs := sec_is (by omega) zs_len fun r hr => by
    rw [zs_get hr]; unfold fB; rw [if_neg (by omega), fV0 D (by omega)]
  obtain ⟨Z, hZ⟩ : ∃ Z, Z = sec (lst 3072 (fB D kk x)) 1 := ⟨_, rfl⟩
  have zg : ∀ r, r < 512 → Z[r]? = some (fB D kk x (512 + r)) := fun r hr => by
    rw [hZ]
    unfold sec
    rw [List.getElem?_take, if_pos hr, List.getElem?_drop, lst_get _ _ (by omega), show 1 * 512 + r = 512 + r by omega]
  have zh : ∀ r, r < 512 → 512 + r ≠ kk → Z[r]? = (hd 1 D.length)[r]? := fun r hr hn => by
    rw [zg r hr, fV1 D hr]; unfold fB; rw [if_neg hn]
  have zl : Z.length = 512 := by rw [hZ]; exact sec_len (n := 6) (by rw [lst_len]) (by omega)
  have z16 : Z.take 16 = h16 1 D.length := by
    rw [← hd_take]
    apply List.ext_getElem?
    intro r
    rw [List.getElem?_take, List.getElem?_take]
    split
    · exact zh r (by omega) (by omega)
    · rfl
  have znz : Z ≠ zs := fun e => by
    have h3 := zh 0 (by omega) (by omega)
    rw [e, zs_get (by omega), show (hd 1 D.length)[0]? = some 83#8 from rfl] at h3
    injection h3 with h3
    exact absurd h3 (by decide)
  have znh : Z ≠ hd 1 D.length := fun e => by
    have h3 := zg (kk - 512) (by omega)
    rw [e, hd_get (by omega) (by omega)] at h3
    unfold fB at h3
    rw [if_pos (by omega)] at h3
    injection h3 with h3
    exact hx h3.symm
  refine open9x hD rfl (by omega) (by omega) (fun p => if p = 0 then 0 else 1) (fun p => if p = 0 then 0 else D.length) (fun p => decide (p = 0)) (fun W p hp hb => ?_) (.inr ⟨rfl, rfl⟩)
  have : p = 0 ∨ p = 1 := by omega
  rcases this with rfl | rfl
  · have := read19z (hD.below hb) rfl (Nat.zero_le _) (by omega) (by omega) 0 (by omega) (by rw [dOf_look _ _ _ (by omega), s0])
    exact this
  · have := read19a (hD.below hb) rfl (Nat.zero_le _) (by omega) (by omega) 1 1 D.length (by omega) (by omega) (by omega) (by omega) (by omega) Z (by rw [dOf_look _ _ _ (by omega), hZ]) znz z16 (by omega)
    rw [decide_eq_false znh] at this
    exact this
end
end Go.Proofs.Ytjabkfccfecmgaa
