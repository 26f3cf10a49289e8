/- Bytes as a string; the law's head, walked. -/
import Derived.Test.YtinmmenjlhlpmaaDoorI
import Derived.Test.YtinmmenjlhlpmaaDoorJ
import Derived.Lib.SlBytesConst
import Derived.Laws.IdiomStrings
namespace Go.Proofs.YtinmmenjlhlpmaaDoor
open Go.ChangeShapes Go.WideShapes Go.ChangeAt Go.RowKit
set_option linter.unusedSimpArgs false
set_option linter.unusedVariables false
def strOf (D : List (BitVec 8)) : ByteArray := ⟨(D.map UInt8.ofBitVec).toArray⟩
theorem conv_byt {w : World} {g n c : Nat} {ad : Addr} {D : List (BitVec 8)} (hn : n = D.length) (h : Byt w g (some ad) D) : (convert 22 9 (.slice (some ad) n c)).run Tryd.prog w = .ok (.string (strOf D)) w := by
  obtain ⟨_, _, h3⟩ := h.cells ad rfl
  have := run_convert_bytes_back (P := Tryd.prog) w 22 9 5 ad c (D.map UInt8.ofBitVec) Tryd.underlying22 Tryd.underlying5 Tryd.underlying9 (fun j hj => by
    have hj' : j < D.length := by simpa using hj
    rw [h3 j D[j] (List.getElem?_eq_getElem hj')]
    simp [c8, bt])
  rw [List.length_map, ← hn] at this
  exact this
/-- Bytes in a block of their own, whatever its mark. -/
theorem byt_lit (w : World) (g : Nat) (D : List (BitVec 8)) (cs : Array Value) (t : TypeId) (fz : Nat × Nat) (hg : g < w.heap.size) (hc : cs = (D.map c8).toArray) : Byt (w.alloc (.cells cs t fz)) g (some ⟨w.heap.size, 0, none⟩) D := by
  subst hc
  refine ⟨(fun h => by cases h), fun a ha => ?_⟩
  injection ha with ha; subst ha
  refine ⟨by simp, by show w.heap.size ≠ g; omega, fun j y hy => ?_⟩
  have : (⟨w.heap.size, 0, none⟩ : Addr).add j = ⟨w.heap.size, j, none⟩ := by
    unfold Addr.add; split
    · rename_i h; subst h; rfl
    · simp
  rw [this, World.cell?_alloc_mark]
  simp [List.getElem?_map, hy]
theorem own_str {w : World} {base n : Nat} {v : Value} {T : List (BitVec 8)} (h : Own w base v n T) (hb : 0 < base) (hn : 0 < n) : ∃ ad c, v = .slice (some ad) n c ∧ n ≤ c ∧ n = T.length ∧ Byt w 0 (some ad) T := by
  obtain ⟨ao, c, hv, h1, h2, h3⟩ := own_byt (g := 0) h hb
  cases ao with
  | none => have := h3.nil rfl; subst this; simp at h1; omega
  | some ad => exact ⟨ad, c, hv, h2, h1, h3⟩
set_option maxHeartbeats 4000000 in
theorem head7 (w : World) (hK : TK w) : Calls Tryd.prog 7 #[] w fun e w' => e = .returned (.bool true) ∧ Below w.heap.size w w' := by
  have h0 := tk_lt hK
  have hcc := Lib.run_convert_bytes_const (P := Tryd.prog) w 22 5 #[.int .u8 97, .int .u8 98, .int .u8 99] 3 3 Tryd.underlying22 Tryd.underlying5
  have b0 : Byt (w.alloc (.cells #[.int .u8 97, .int .u8 98, .int .u8 99] 5 (3, 4))) 0 (some ⟨w.heap.size, 0, none⟩) [97, 98, 99] := byt_lit w 0 _ _ _ _ h0 rfl
  have k0 : Below w.heap.size w (w.alloc (.cells #[.int .u8 97, .int .u8 98, .int .u8 99] 5 (3, 4))) := (Below.refl _ _).alloc (Nat.le_refl _) _
  have t0 : TK (w.alloc (.cells #[.int .u8 97, .int .u8 98, .int .u8 99] 5 (3, 4))) := hK.alloc _
  go_enter Tryd.func7, Tryd.ntmps7
  go_wp2_with (first
    | (go_at_call 9; (with_reducible refine (sum9 [97, 98, 99] _ 0 3 3 _ rfl (by omega) b0 t0).mono ?_); rintro e w1 ⟨v1, rfl, o1, b1⟩; obtain ⟨ad1, c1, rfl, l1, -, y1⟩ := own_str o1 (by simp) (by omega))
    | (go_at_call 11; (with_reducible refine (new11 _).mono ?_); rintro e w2 ⟨g, rfl, hg, hh, b2⟩)
    | (go_at_call 13; (with_reducible refine (sum13 g [] w2 (by simp) hh ?p2 ?p3).mono ?_); (case p2 => exact (t0.below b1 (by simp)).below b2 (by have := b1.size; simp at this; omega)); (case p3 => have := b1.size; simp at this; omega); rintro e w3 ⟨v3, rfl, o3, b3⟩; obtain ⟨ad3, c3, rfl, l3, -, y3⟩ := own_str o3 (by have := b1.size; have := b2.size; simp at *; omega) (by omega);
       have hv1 : (convert 22 9 (.slice (some ad1) 8 c1)).run Tryd.prog w3 = .ok (.string ⟨#[186, 120, 22, 191, 143, 1, 207, 234]⟩) w3 := conv_byt (D := (dig [97, 98, 99]).take 8) (by rw [List.length_take, dig_length]; rfl) ((((y1.below b2).below b3)).take 8) |>.trans (by rw [abc_dig]; rfl);
       have hv3 : (convert 22 9 (.slice (some ad3) 4 c3)).run Tryd.prog w3 = .ok (.string ⟨#[227, 176, 196, 66]⟩) w3 := conv_byt (D := (dig []).take 4) (by rw [List.length_take, dig_length]; rfl) (y3.take 4) |>.trans (by rw [nil_dig]; rfl)))
  go_ret
  have hs1 := b1.size
  have hs2 := b2.size
  simp at hs1
  exact ⟨rfl, ((k0.trans (b1.mono (by simp))).trans (b2.mono (by omega))).trans (b3.mono (by omega))⟩
end Go.Proofs.YtinmmenjlhlpmaaDoor
