/- The document's sum, walked. -/
import Derived.Test.YtinmmenjlhlpmaaDoorG
import Derived.Test.YtinmmenjlhlpmaaDoorH2
import Derived.Test.YtinmmenjlhlpmaaDoorI
import Derived.Test.YtinmmenjlhlpmaaDoorM
namespace Go.Proofs.YtinmmenjlhlpmaaDoor
open Go.ChangeShapes Go.WideShapes Go.ChangeAt Go.RowKit
set_option linter.unusedSimpArgs false
set_option linter.unusedVariables false
theorem own_keep {w w' : World} {base n : Nat} {v : Value} {T : List (BitVec 8)} (h : Own w base v n T) (r : Below w.heap.size w w') : Own w' base v n T :=
  h.kept (row := none) ⟨r.os, r.tape, r.output, r.size, fun k hk _ => r.block k hk⟩ (by cases v.ownBlock <;> simp)
/-- What holds while the document's sum is told. -/
structure SG (w0 : World) (b : Nat) (F : Nat → BitVec 32) (w : World) : Prop where
  rB : Row w b 36 .u32 8 (fun i => wd (F i)) #[]
  kb : Below w0.heap.size w0 w
  lo : w0.heap.size ≤ b
section
variable {w0 w w' : World} {b : Nat} {F : Nat → BitVec 32}
theorem SG.below (h : SG w0 b F w) (r : Below w.heap.size w w') : SG w0 b F w' := ⟨h.rB.below r h.rB.lt, h.kb.trans (r.mono h.kb.size), h.lo⟩
theorem SG.grown {r : Option Nat} (h : SG w0 b F w) (k : w.grownBy w' r) (hr : ∀ k, r = some k → b + 1 ≤ k) : SG w0 b F w' :=
  ⟨h.rB.grown k (fun e => by have := hr _ e.symm; omega), h.kb.grown k h.kb.size (fun b e => by have := hr b e; have := h.lo; omega), h.lo⟩
end
theorem step_load36 {ops : Array Oper} {o : Oper} {a : Act} {w : World} {K : Act → World → Prop} {Q : Exit → Act → World → Prop} {E : Prop} (hw : Region.wanted o (yielded ops a.tmps) = true) (x : Operand) (ho : o.op = .load 36 x)
    (b : Nat) (hx : a.eval x = .pointer (some ⟨b, 0, none⟩)) {u : TypeId} {f : Nat → Int} (r : Row w b u .u32 8 f #[])
    (h : K (a.put o.dst (.agg (arr .u32 8 f))) w) : if Region.wanted o (yielded ops a.tmps) = true then Oper.wp Tryd.prog o a w K Q else E := by
  rw [if_pos hw]
  refine wp_load_mid 36 x ho b 0 hx (arr .u32 8 f).toList _ (fun j v hv => by
    rw [Nat.zero_add]
    have hj : j < 8 := by
      have := (List.getElem?_eq_some_iff.1 hv).1
      simpa [arr_size] using this
    have : (arr .u32 8 f)[j]? = some v := by simpa using hv
    rw [arr_get .u32 8 f j hj] at this
    rw [r.cell j hj, ← this]) Tryd.underlying36 rfl (by simp [arr_size, info36]) (by simpa using h)
theorem s0_eq : (((((((((arr .u32 8 fun _ => 0).setIfInBounds 0 (Value.int .u32 1779033703)).setIfInBounds 1 (Value.int .u32 3144134277)).setIfInBounds 2 (Value.int .u32 1013904242)).setIfInBounds 3 (Value.int .u32 2773480762)).setIfInBounds 4 (Value.int .u32 1359893119)).setIfInBounds 5 (Value.int .u32 2600822924)).setIfInBounds 6 (Value.int .u32 528734635)).setIfInBounds 7 (Value.int .u32 1541459225)) = arr .u32 8 fun i => wd (st0 i) := by kernel_rfl
theorem blk_of {w : World} {b j : Nat} {ad : Addr} {U : List (BitVec 8)} (h : Byt w b (some ad) U) (hj : 64 * (j + 1) ≤ U.length) : Blk64 w (ad.add (64 * j)) (blk U j) := by
  obtain ⟨q1, q2, q3⟩ := h.cells ad rfl
  refine ⟨by rw [add_block]; exact q1, fun i hi => ?_⟩
  have hlt2 : 64 * j + i < U.length := by omega
  rw [add_add, show blk U j i = U[64 * j + i] by unfold blk; rw [List.getD_eq_getElem?_getD, List.getElem?_eq_getElem hlt2]; rfl]
  exact q3 _ _ (List.getElem?_eq_getElem hlt2)
def V10a (F : Nat → BitVec 32) (B : Nat → BitVec 8) (ad : Addr) (n c p : Nat) : Nat → Value → World → Prop
  | 0, v, w => v = .agg (arr .u32 8 fun i => wd (F i))
  | 1, v, w => v = .slice (some ad) n c
  | 2, v, w => v = .int .i64 p
  | 3, v, w => v = .int .i64 p
  | 4, v, w => v = .int .i64 (p + 64)
  | 5, v, w => v = .slice (some (ad.add p)) 64 (c - p)
  | 6, v, w => v = .agg (arr .u32 8 fun i => wd (comp F B i))
  | _, _, _ => True
theorem V10a_keep (F : Nat → BitVec 32) (B : Nat → BitVec 8) (ad : Addr) (n c p : Nat) (i1 : Nat) (v : Value) (w w' : World) (h : V10a F B ad n c p i1 v w) (r : (fun w w' => Below w.heap.size w w') w w') : V10a F B ad n c p i1 v w' := by
  rcases i1 with _ | _ | _ | _ | _ | _ | _ | _
  · exact h
  · exact h
  · exact h
  · exact h
  · exact h
  · exact h
  · exact h
  · trivial
def V10b (v8 : Value) (b k : Nat) (y : Int) (e : BitVec 32) : Nat → Value → World → Prop
  | 0, v, w => v = v8
  | 1, v, w => v = .int .i64 (k : Nat)
  | 2, v, w => v = .pointer (some ⟨b, k, none⟩)
  | 3, v, w => v = .int .u32 y
  | 4, v, w => v = .int .u32 (y / 16777216)
  | 5, v, w => v = .int .u8 (y / 16777216)
  | 6, v, w => v = .int .i64 (k : Nat)
  | 7, v, w => v = .pointer (some ⟨b, k, none⟩)
  | 8, v, w => v = .int .u32 y
  | 9, v, w => v = .int .u32 (y / 65536)
  | 10, v, w => v = .int .u8 (y / 65536 % 256)
  | 11, v, w => v = .int .i64 (k : Nat)
  | 12, v, w => v = .pointer (some ⟨b, k, none⟩)
  | 13, v, w => v = .int .u32 y
  | 14, v, w => v = .int .u32 (y / 256)
  | 15, v, w => v = .int .u8 (y / 256 % 256)
  | 16, v, w => v = .int .i64 (k : Nat)
  | 17, v, w => v = .pointer (some ⟨b, k, none⟩)
  | 18, v, w => v = .int .u32 y
  | 19, v, w => v = .int .u8 (y % 256)
  | 20, v, w => ∃ ad, v = .slice (some ad) 4 4 ∧ Byt w b (some ad) (four8 e)
  | _, _, _ => True
theorem V10b_keep (v8 : Value) (b k : Nat) (y : Int) (e : BitVec 32) (i1 : Nat) (v : Value) (w w' : World) (h : V10b v8 b k y e i1 v w) (r : (fun w w' => Below w.heap.size w w') w w') : V10b v8 b k y e i1 v w' := by
  rcases i1 with _ | _ | _ | _ | _ | _ | _ | _ | _ | _ | _ | _ | _ | _ | _ | _ | _ | _ | _ | _ | _ | _
  · exact h
  · exact h
  · exact h
  · exact h
  · exact h
  · exact h
  · exact h
  · exact h
  · exact h
  · exact h
  · exact h
  · exact h
  · exact h
  · exact h
  · exact h
  · exact h
  · exact h
  · exact h
  · exact h
  · exact h
  · exact (let ⟨a, e, y⟩ := h; ⟨a, e, y.below r⟩)
  · trivial
set_option maxHeartbeats 4000000 in
theorem rsum10 (T : List (BitVec 8)) (bo : Option Addr) (g0 m bc : Nat) (w : World) (hm : m = T.length) (hL : m ≤ 4294967296) (hD : Byt w g0 bo T) (h0 : 0 < w.heap.size) :
    Calls Tryd.prog 10 #[.slice bo m bc] w fun e w' => ∃ v, e = .returned v ∧ Own w' w.heap.size v 32 (dig T) ∧ Below w.heap.size w w' := by
  have hz := zero36
  have HM := Lib.hid (And.intro hm hL)
  have o1 : Own (w.alloc (.cells #[] 5)) w.heap.size (.slice (some ⟨w.heap.size, 0, none⟩) 0 0) 0 [] := World.ownsRow_made w #[] 0 (Nat.le_refl _) (by unfold maxLen; omega) (by simp)
  have y1 := (hD.alloc (.cells #[] 5))
  clear hL hm
  go_enter Tryd.func10, Tryd.ntmps10
  go_wp2_with (first
    | (at_builtin; refine app_own rfl (.tmp 10) (.tmp 11) rfl w.heap.size (.slice (some ⟨w.heap.size, 0, none⟩) 0 0) 0 [] rfl o1 g0 bo m bc T rfl ?q1 y1 ?q2 ?q3 ?_; (case q1 => exact HM.out.1); (case q2 => have := HM.out; omega); (case q3 => simp); intro v2 w2 o2 g2)
    | (at_builtin; refine app_own rfl (.tmp 12) (.tmp 13) rfl w.heap.size v2 (0 + m) ([] ++ T) rfl (own_alloc o2 _) 0 (some ⟨w2.heap.size, 0, none⟩) 1 1 [128] rfl ?k1 ?k2 ?k3 ?k4 ?_; (case k1 => rfl); (case k2 => exact byt_one w2 0 128 5 (by have := g2.size; simp at *; omega)); (case k3 => have := HM.out; omega); (case k4 => have := g2.size; simp at *; omega); intro v3 w3 o3 g3))
  have k3 : Below w.heap.size w w3 := (((Below.refl _ _).alloc (Nat.le_refl _) _).grown g2 (by simp) (fun b e => by simp [Value.ownBlock] at e; omega) |>.alloc (by have := g2.size; simp at *; omega) _).grown g3 (by have := g2.size; simp at *; omega) (fun b e => (o2.lt b e).1)
  have o3 : Own w3 w.heap.size v3 (m + 1) (T ++ [128]) := by simpa using o3
  clear o1 y1 o2 g2 g3
  obtain ⟨R, hR⟩ : ∃ R, R = T ++ [128] := ⟨_, rfl⟩
  rw [← hR] at o3
  have HR := Lib.hid hR
  clear hR
  go_loopg [3] 64 (fun k v wr => ∃ z, z + k = 64 ∧ z ≤ zl T.length ∧ Own wr w.heap.size v (m + 1 + z) (R ++ List.replicate z 0) ∧ Below w.heap.size w wr)
  case atStart => exact ⟨0, by omega, by omega, by simpa using o3, k3⟩
  case round =>
    rename_i v4
    obtain ⟨z, hz1, hzl, o4, k4⟩ := hrel
    obtain ⟨ao4, c4, rfl, -, -, -⟩ := own_byt (g := 0) o4 (by omega)
    have hs4 := k4.size
    have HZ := Lib.hid (show z + gk = 64 ∧ z ≤ zl T.length from ⟨hz1, hzl⟩)
    by_cases hlt : z < zl T.length
    · have hd' : (((m : Int) + 1 + (z : Int)) % 64 != 56) = true := by
        have := HM.out
        unfold zl at hlt
        simp; omega
      go_wp2_with (first | (at_builtin; refine app_own rfl (.tmp 19) (.tmp 20) rfl w.heap.size (.slice ao4 (m + 1 + z) c4) (m + 1 + z) (R ++ List.replicate z 0) rfl (own_alloc o4 _) 0 (some ⟨wr.heap.size, 0, none⟩) 1 1 [0] rfl ?k1 ?k2 ?k3 ?k4 ?_; (case k1 => rfl); (case k2 => exact byt_one wr 0 0 5 (by omega)); (case k3 => have := HZ.out; have := HM.out; omega); (case k4 => simp; omega); intro v5 w5 o5 g5))
      go_roundg (gk - 1)
      case measure => have := HZ.out; unfold zl at hlt; omega
      case rel =>
        refine ⟨z + 1, by have := HZ.out; unfold zl at hlt; omega, by omega, ?_, (k4.alloc hs4 _).grown g5 (by simp; omega) (fun b e => (o4.lt b e).1)⟩
        rw [List.append_assoc, ← List.replicate_succ'] at o5
        exact o5
    · have hd' : (((m : Int) + 1 + (z : Int)) % 64 != 56) = false := by
        have := HM.out
        have := HZ.out
        have : z = zl T.length := by omega
        unfold zl at this
        simp; omega
      obtain rfl : z = zl T.length := by have := HZ.out; omega
      clear hlt HZ hzl hz1 o3 k3
      obtain ⟨Z, hZ⟩ : ∃ Z, Z = m + 1 + zl T.length := ⟨_, rfl⟩
      obtain ⟨L, hL⟩ : ∃ L, L = T.length := ⟨_, rfl⟩
      have s2 : IntKind.u64.wrap (m : Int) = (L : Int) := by rw [IntKind.wrap_u64]; have := HM.out; omega
      have s3 : IntKind.u64.wrap ((L : Int) * 8) = (L : Int) * 8 := by rw [IntKind.wrap_u64]; have := HM.out; omega
      have HL := Lib.hid hL
      clear hL
      go_wp2_with fail
      obtain ⟨R2, hR2⟩ : ∃ R2, R2 = R ++ List.replicate (zl T.length) 0 := ⟨_, rfl⟩
      have HR2 := Lib.hid hR2
      have HZ := Lib.hid hZ
      rw [← hZ, ← hR2] at o4
      have hZb : Z < 4294967296 * 2 := by have := HM.out; unfold zl at hZ; omega
      rw [← hZ]
      clear hR2 hZ hd' s2 s3
      go_loopg [3, 5] 8 (fun k v4 v5 wr => ∃ i, i + k = 8 ∧ v5 = .int .i64 (56 - 8 * i : Int) ∧ Own wr w.heap.size v4 (Z + i) (R2 ++ (lenb L).take i) ∧ Below w.heap.size w wr)
      case atStart => exact ⟨0, rfl, by simp, by simp only [List.take_zero, List.append_nil, Nat.add_zero]; exact o4, k4⟩
      case round =>
        rename_i v4 v5
        obtain ⟨i, hi, rfl, o5, k5⟩ := hrel
        obtain ⟨ao5, c5, rfl, -, -, -⟩ := own_byt (g := 0) o5 (by omega)
        have hs5' : w.heap.size ≤ wr.heap.size := k5.size
        have hL32 : L ≤ 4294967296 := by have := HM.out; have := HL.out; omega
        rcases (by omega : i = 0 ∨ i = 1 ∨ i = 2 ∨ i = 3 ∨ i = 4 ∨ i = 5 ∨ i = 6 ∨ i = 7 ∨ i = 8) with rfl | rfl | rfl | rfl | rfl | rfl | rfl | rfl | rfl
        · obtain ⟨x, hx1, hx2⟩ := lenb_at L 0 hL32 (by omega)
          have HX := Lib.hid hx1
          have HY := Lib.hid hx2
          clear hx1 hx2
          go_wp2_with (first | (at_builtin; refine app_own rfl (.tmp 30) (.tmp 35) rfl w.heap.size (.slice ao5 (Z + 0) c5) (Z + 0) (R2 ++ (lenb L).take 0) rfl (own_alloc o5 _) 0 (some ⟨wr.heap.size, 0, none⟩) 1 1 [x] rfl ?k1 ?k2 ?k3 ?k4 ?_; (case k1 => rfl); (case k2 => refine byt_one' wr 0 _ x 5 (by omega) ?_; show _ = Value.int .u8 (bt x); rw [HY.out]; refine congrArg (Value.int .u8) ?_; first | omega | (rw [IntKind.wrap_u8]; omega)); (case k3 => omega); (case k4 => simp; omega); intro v6 w6 o6 g6))
          go_roundg (gk - 1)
          case measure => omega
          case rel =>
            rw [List.append_assoc, ← HX.out] at o6
            first
              | exact ⟨0 + 1, by omega, by simp, o6, (k5.alloc hs5' _).grown g6 (by simp; omega) (fun b e => (o5.lt b e).1)⟩
              | ((repeat apply Exists.intro); exact ⟨⟨0 + 1, by omega, by simp, o6, (k5.alloc hs5' _).grown g6 (by simp; omega) (fun b e => (o5.lt b e).1)⟩, rfl⟩)
        · obtain ⟨x, hx1, hx2⟩ := lenb_at L 1 hL32 (by omega)
          have HX := Lib.hid hx1
          have HY := Lib.hid hx2
          clear hx1 hx2
          go_wp2_with (first | (at_builtin; refine app_own rfl (.tmp 30) (.tmp 35) rfl w.heap.size (.slice ao5 (Z + 1) c5) (Z + 1) (R2 ++ (lenb L).take 1) rfl (own_alloc o5 _) 0 (some ⟨wr.heap.size, 0, none⟩) 1 1 [x] rfl ?k1 ?k2 ?k3 ?k4 ?_; (case k1 => rfl); (case k2 => refine byt_one' wr 0 _ x 5 (by omega) ?_; show _ = Value.int .u8 (bt x); rw [HY.out]; refine congrArg (Value.int .u8) ?_; first | omega | (rw [IntKind.wrap_u8]; omega)); (case k3 => omega); (case k4 => simp; omega); intro v6 w6 o6 g6))
          go_roundg (gk - 1)
          case measure => omega
          case rel =>
            rw [List.append_assoc, ← HX.out] at o6
            first
              | exact ⟨1 + 1, by omega, by simp, o6, (k5.alloc hs5' _).grown g6 (by simp; omega) (fun b e => (o5.lt b e).1)⟩
              | ((repeat apply Exists.intro); exact ⟨⟨1 + 1, by omega, by simp, o6, (k5.alloc hs5' _).grown g6 (by simp; omega) (fun b e => (o5.lt b e).1)⟩, rfl⟩)
        · obtain ⟨x, hx1, hx2⟩ := lenb_at L 2 hL32 (by omega)
          have HX := Lib.hid hx1
          have HY := Lib.hid hx2
          clear hx1 hx2
          go_wp2_with (first | (at_builtin; refine app_own rfl (.tmp 30) (.tmp 35) rfl w.heap.size (.slice ao5 (Z + 2) c5) (Z + 2) (R2 ++ (lenb L).take 2) rfl (own_alloc o5 _) 0 (some ⟨wr.heap.size, 0, none⟩) 1 1 [x] rfl ?k1 ?k2 ?k3 ?k4 ?_; (case k1 => rfl); (case k2 => refine byt_one' wr 0 _ x 5 (by omega) ?_; show _ = Value.int .u8 (bt x); rw [HY.out]; refine congrArg (Value.int .u8) ?_; first | omega | (rw [IntKind.wrap_u8]; omega)); (case k3 => omega); (case k4 => simp; omega); intro v6 w6 o6 g6))
          go_roundg (gk - 1)
          case measure => omega
          case rel =>
            rw [List.append_assoc, ← HX.out] at o6
            first
              | exact ⟨2 + 1, by omega, by simp, o6, (k5.alloc hs5' _).grown g6 (by simp; omega) (fun b e => (o5.lt b e).1)⟩
              | ((repeat apply Exists.intro); exact ⟨⟨2 + 1, by omega, by simp, o6, (k5.alloc hs5' _).grown g6 (by simp; omega) (fun b e => (o5.lt b e).1)⟩, rfl⟩)
        · obtain ⟨x, hx1, hx2⟩ := lenb_at L 3 hL32 (by omega)
          have HX := Lib.hid hx1
          have HY := Lib.hid hx2
          clear hx1 hx2
          go_wp2_with (first | (at_builtin; refine app_own rfl (.tmp 30) (.tmp 35) rfl w.heap.size (.slice ao5 (Z + 3) c5) (Z + 3) (R2 ++ (lenb L).take 3) rfl (own_alloc o5 _) 0 (some ⟨wr.heap.size, 0, none⟩) 1 1 [x] rfl ?k1 ?k2 ?k3 ?k4 ?_; (case k1 => rfl); (case k2 => refine byt_one' wr 0 _ x 5 (by omega) ?_; show _ = Value.int .u8 (bt x); rw [HY.out]; refine congrArg (Value.int .u8) ?_; first | omega | (rw [IntKind.wrap_u8]; omega)); (case k3 => omega); (case k4 => simp; omega); intro v6 w6 o6 g6))
          go_roundg (gk - 1)
          case measure => omega
          case rel =>
            rw [List.append_assoc, ← HX.out] at o6
            first
              | exact ⟨3 + 1, by omega, by simp, o6, (k5.alloc hs5' _).grown g6 (by simp; omega) (fun b e => (o5.lt b e).1)⟩
              | ((repeat apply Exists.intro); exact ⟨⟨3 + 1, by omega, by simp, o6, (k5.alloc hs5' _).grown g6 (by simp; omega) (fun b e => (o5.lt b e).1)⟩, rfl⟩)
        · obtain ⟨x, hx1, hx2⟩ := lenb_at L 4 hL32 (by omega)
          have HX := Lib.hid hx1
          have HY := Lib.hid hx2
          clear hx1 hx2
          go_wp2_with (first | (at_builtin; refine app_own rfl (.tmp 30) (.tmp 35) rfl w.heap.size (.slice ao5 (Z + 4) c5) (Z + 4) (R2 ++ (lenb L).take 4) rfl (own_alloc o5 _) 0 (some ⟨wr.heap.size, 0, none⟩) 1 1 [x] rfl ?k1 ?k2 ?k3 ?k4 ?_; (case k1 => rfl); (case k2 => refine byt_one' wr 0 _ x 5 (by omega) ?_; show _ = Value.int .u8 (bt x); rw [HY.out]; refine congrArg (Value.int .u8) ?_; first | omega | (rw [IntKind.wrap_u8]; omega)); (case k3 => omega); (case k4 => simp; omega); intro v6 w6 o6 g6))
          go_roundg (gk - 1)
          case measure => omega
          case rel =>
            rw [List.append_assoc, ← HX.out] at o6
            first
              | exact ⟨4 + 1, by omega, by simp, o6, (k5.alloc hs5' _).grown g6 (by simp; omega) (fun b e => (o5.lt b e).1)⟩
              | ((repeat apply Exists.intro); exact ⟨⟨4 + 1, by omega, by simp, o6, (k5.alloc hs5' _).grown g6 (by simp; omega) (fun b e => (o5.lt b e).1)⟩, rfl⟩)
        · obtain ⟨x, hx1, hx2⟩ := lenb_at L 5 hL32 (by omega)
          have HX := Lib.hid hx1
          have HY := Lib.hid hx2
          clear hx1 hx2
          go_wp2_with (first | (at_builtin; refine app_own rfl (.tmp 30) (.tmp 35) rfl w.heap.size (.slice ao5 (Z + 5) c5) (Z + 5) (R2 ++ (lenb L).take 5) rfl (own_alloc o5 _) 0 (some ⟨wr.heap.size, 0, none⟩) 1 1 [x] rfl ?k1 ?k2 ?k3 ?k4 ?_; (case k1 => rfl); (case k2 => refine byt_one' wr 0 _ x 5 (by omega) ?_; show _ = Value.int .u8 (bt x); rw [HY.out]; refine congrArg (Value.int .u8) ?_; first | omega | (rw [IntKind.wrap_u8]; omega)); (case k3 => omega); (case k4 => simp; omega); intro v6 w6 o6 g6))
          go_roundg (gk - 1)
          case measure => omega
          case rel =>
            rw [List.append_assoc, ← HX.out] at o6
            first
              | exact ⟨5 + 1, by omega, by simp, o6, (k5.alloc hs5' _).grown g6 (by simp; omega) (fun b e => (o5.lt b e).1)⟩
              | ((repeat apply Exists.intro); exact ⟨⟨5 + 1, by omega, by simp, o6, (k5.alloc hs5' _).grown g6 (by simp; omega) (fun b e => (o5.lt b e).1)⟩, rfl⟩)
        · obtain ⟨x, hx1, hx2⟩ := lenb_at L 6 hL32 (by omega)
          have HX := Lib.hid hx1
          have HY := Lib.hid hx2
          clear hx1 hx2
          go_wp2_with (first | (at_builtin; refine app_own rfl (.tmp 30) (.tmp 35) rfl w.heap.size (.slice ao5 (Z + 6) c5) (Z + 6) (R2 ++ (lenb L).take 6) rfl (own_alloc o5 _) 0 (some ⟨wr.heap.size, 0, none⟩) 1 1 [x] rfl ?k1 ?k2 ?k3 ?k4 ?_; (case k1 => rfl); (case k2 => refine byt_one' wr 0 _ x 5 (by omega) ?_; show _ = Value.int .u8 (bt x); rw [HY.out]; refine congrArg (Value.int .u8) ?_; first | omega | (rw [IntKind.wrap_u8]; omega)); (case k3 => omega); (case k4 => simp; omega); intro v6 w6 o6 g6))
          go_roundg (gk - 1)
          case measure => omega
          case rel =>
            rw [List.append_assoc, ← HX.out] at o6
            first
              | exact ⟨6 + 1, by omega, by simp, o6, (k5.alloc hs5' _).grown g6 (by simp; omega) (fun b e => (o5.lt b e).1)⟩
              | ((repeat apply Exists.intro); exact ⟨⟨6 + 1, by omega, by simp, o6, (k5.alloc hs5' _).grown g6 (by simp; omega) (fun b e => (o5.lt b e).1)⟩, rfl⟩)
        · obtain ⟨x, hx1, hx2⟩ := lenb_at L 7 hL32 (by omega)
          have HX := Lib.hid hx1
          have HY := Lib.hid hx2
          clear hx1 hx2
          go_wp2_with (first | (at_builtin; refine app_own rfl (.tmp 30) (.tmp 35) rfl w.heap.size (.slice ao5 (Z + 7) c5) (Z + 7) (R2 ++ (lenb L).take 7) rfl (own_alloc o5 _) 0 (some ⟨wr.heap.size, 0, none⟩) 1 1 [x] rfl ?k1 ?k2 ?k3 ?k4 ?_; (case k1 => rfl); (case k2 => refine byt_one' wr 0 _ x 5 (by omega) ?_; show _ = Value.int .u8 (bt x); rw [HY.out]; refine congrArg (Value.int .u8) ?_; first | omega | (rw [IntKind.wrap_u8]; omega)); (case k3 => omega); (case k4 => simp; omega); intro v6 w6 o6 g6))
          go_roundg (gk - 1)
          case measure => omega
          case rel =>
            rw [List.append_assoc, ← HX.out] at o6
            first
              | exact ⟨7 + 1, by omega, by simp, o6, (k5.alloc hs5' _).grown g6 (by simp; omega) (fun b e => (o5.lt b e).1)⟩
              | ((repeat apply Exists.intro); exact ⟨⟨7 + 1, by omega, by simp, o6, (k5.alloc hs5' _).grown g6 (by simp; omega) (fun b e => (o5.lt b e).1)⟩, rfl⟩)
        · have e1 : R2 ++ (lenb L).take 8 = padded T := by
            rw [HR2.out, HR.out, HL.out, List.take_of_length_le (by simp [lenb])]; rfl
          have e2 : Z + 8 = (padded T).length := by have := HZ.out; have := (padded_length T).1; have := HM.out; omega
          have e4 : (padded T).length % 64 = 0 ∧ (padded T).length < 140737488355328 := by
            have := HM.out; have := padded_length T
            unfold zl at this
            omega
          rw [e1, e2] at o5
          obtain ⟨U, hU⟩ : ∃ U, U = padded T := ⟨_, rfl⟩
          obtain ⟨n, hP⟩ : ∃ n, n = U.length := ⟨_, rfl⟩
          rw [← hU] at e2 e4 o5
          rw [← hP] at e2 e4 o5
          have HU := Lib.hid hU
          have HP := Lib.hid hP
          have HE := Lib.hid e4
          obtain ⟨y1, y2, y3, y4, y5, y6⟩ := own_byt (g := 0) o5 (by omega)
          obtain ⟨rfl, rfl⟩ : ao5 = y1 ∧ c5 = y2 := by injection y3 with z1 _ z3; exact ⟨z1, z3⟩
          obtain ⟨ad, rfl⟩ : ∃ ad, ao5 = some ad := by
            cases ao5 with
            | none => have h1 := y6.nil rfl; rw [h1] at y4; simp at y4; omega
            | some ad => exact ⟨ad, rfl⟩
          have y7 : Byt wr wr.heap.size (some ad) U := y6.mono (fun a ha => by have := (y6.cells a ha).1; omega)
          have hnc : (n : Int) ≤ (c5 : Int) := by omega
          clear hi hL32 o4 e1 e4 hU hP y3 y4 y6 o5
          have r0 := Row.new wr 36 .u32 8 (fun _ => 0)
          go_upto_region 10 with (first | ((with_reducible refine store36 rfl (.tmp 6) (.tmp 37) rfl wr.heap.size (fun i => wd (st0 i)) rfl ?hy r0 ?_); (case hy => exact congrArg Value.agg s0_eq)))
          have f9 : SG w wr.heap.size (fold U 0) ((wr.alloc (.cells (arr .u32 8 fun _ => 0) 36)).setRow wr.heap.size (arr .u32 8 fun i => wd (st0 i))) := ⟨r0.setRow _, below_setRow (k5.alloc hs5' _) hs5' _, hs5'⟩
          have y9 : Byt ((wr.alloc (.cells (arr .u32 8 fun _ => 0) 36)).setRow wr.heap.size (arr .u32 8 fun i => wd (st0 i))) wr.heap.size (some ad) U := y7.below (below_setRow ((Below.refl _ _).alloc (Nat.le_refl _) _) (Nat.le_refl _) _)
          clear y7 r0 k5
          generalize (wr.alloc (.cells (arr .u32 8 fun _ => 0) 36)).setRow wr.heap.size (arr .u32 8 fun i => wd (st0 i)) = w9 at *
          obtain ⟨b, hb⟩ : ∃ b, b = wr.heap.size := ⟨_, rfl⟩
          rw [← hb] at f9 y9 ⊢
          have HB := Lib.hid hb
          clear hb
          go_wp2_with fail
          clear e2
          go_loopg [7] (n / 64) (fun k v wr => ∃ j p : Nat, p = 64 * j ∧ v = .int .i64 p ∧ j + k = n / 64 ∧ SG w b (fold U j) wr ∧ Byt wr b (some ad) U)
          case atStart => exact ⟨0, 0, rfl, rfl, by omega, f9, y9⟩
          case round =>
            clear f9 y9

            obtain ⟨j, p, hp, rfl, hj, f4, y4⟩ := hrel
            have HPJ := Lib.hid hp
            by_cases hlt : p < n
            · have hd3 : decide ((p : Int) < (n : Int)) = true := by simp; omega
              have e64 : IntKind.i64.wrap ((p : Int) + 64) = (p : Int) + 64 := IntWalk.i64_in _ (by have := HE.out; omega)
              have HJ : Hid (64 * (j + 1) ≤ U.length) := Lib.hid (by have := HE.out; have := HP.out; omega)
              have q1 : (0 : Int) ≤ (p : Int) := by omega
              have q2 : (p : Int) ≤ (p : Int) + 64 := by omega
              have q3 : (p : Int) + 64 ≤ (c5 : Int) := by have := HE.out; omega
              have q4 : ((p : Int) + 64).toNat = p + 64 := by omega
              have hcp : ¬ c5 = p := by omega
              have f5 := f4.below (w' := wr.drew) ((Below.refl _ _).drew)
              have y5 := y4.below (w' := wr.drew) ((Below.refl _ _).drew)
              have HJJ := Lib.hid hj
              clear hj f4 y4 hp
              go_upto_region 13 with fail
              refine region_monoT 7 (fun x => SG w b (fold U j) x ∧ Byt x b (some ad) U) (fun w w' => Below w.heap.size w w') (V10a (fold U j) (blk U j) ad n c5 p) [(0, some 44), (1, some 45), (2, some 46), (3, some 47), (4, some 48), (5, some 49), (6, some 50)] (by kernel_rfl) (by kernel_rfl) (by kernel_rfl) (by kernel_rfl) (fun _ _ h r => ⟨h.1.below r, h.2.below r⟩) (fun i1 v1 w1 w2 _ h1 r1 => V10a_keep (fold U j) (blk U j) ad n c5 p i1 v1 w1 w2 h1 r1) (⟨f5, y5⟩) ?_ (fun vs w' hS hV => ?_)
              · refine StepsL.cons0  (by kernel_rfl)  ?_ ?_
                · rintro w1 hS  K hK
                  (try simp only [Act.put, List.setIfInBounds_toArray, List.set_cons_zero, List.set_cons_succ])
                  exact step_load36 (by rfl) (.tmp 6) rfl b rfl hS.1.rB (hK.out _ _ rfl (Below.refl _ _))
                refine StepsL.cons0  (by kernel_rfl)  ?_ ?_
                · rintro w1 hS  K hK
                  (try simp only [Act.put, List.setIfInBounds_toArray, List.set_cons_zero, List.set_cons_succ])
                  go_simp
                  exact hK.out _ _ rfl (Below.refl _ _)
                refine StepsL.cons0  (by kernel_rfl)  ?_ ?_
                · rintro w1 hS  K hK
                  (try simp only [Act.put, List.setIfInBounds_toArray, List.set_cons_zero, List.set_cons_succ])
                  go_simp
                  exact hK.out _ _ rfl (Below.refl _ _)
                refine StepsL.cons0  (by kernel_rfl)  ?_ ?_
                · rintro w1 hS  K hK
                  (try simp only [Act.put, List.setIfInBounds_toArray, List.set_cons_zero, List.set_cons_succ])
                  go_simp
                  exact hK.out _ _ rfl (Below.refl _ _)
                refine StepsL.cons1 3 (some 47) (by kernel_rfl) rfl ?_ ?_
                · rintro w1 hS _ rfl K hK
                  (try simp only [Act.put, List.setIfInBounds_toArray, List.set_cons_zero, List.set_cons_succ])
                  go_simp
                  exact hK.out _ _ rfl (Below.refl _ _)
                refine StepsL.cons3 1 (some 45) 2 (some 46) 4 (some 48) (by kernel_rfl) rfl rfl rfl ?_ ?_
                · rintro w1 hS _ rfl _ rfl _ rfl K hK
                  (try simp only [Act.put, List.setIfInBounds_toArray, List.set_cons_zero, List.set_cons_succ])
                  go_simp
                  exact hK.out _ _ rfl (Below.refl _ _)
                refine StepsL.cons2 0 (some 44) 5 (some 49) (by kernel_rfl) rfl rfl ?_ ?_
                · rintro w1 hS _ rfl _ rfl K hK
                  (try simp only [Act.put, List.setIfInBounds_toArray, List.set_cons_zero, List.set_cons_succ])
                  go_simp
                  go_at_call 14
                  refine (rblock14 (ad.add p) 64 (c5 - p) (blk U j) (fold U j) _ (Nat.le_refl _) (by omega) (HPJ.out ▸ blk_of hS.2 HJ.out)).mono ?_
                  rintro e w7 ⟨rfl, b7⟩
                  exact hK.out _ _ rfl b7
                exact StepsL.nil
              · have e6 : vs 6 = .agg (arr .u32 8 fun i => wd (comp (fold U j) (blk U j) i)) := hV 6 (by omega)
                simp only [putl, List.foldl_cons, List.foldl_nil, Act.put, List.setIfInBounds_toArray, List.set_cons_zero, List.set_cons_succ, e6]
                simp only [List.drop_succ_cons, List.drop_zero]
                have f6 : SG w b (fold U (j + 1)) (w'.setRow b (arr .u32 8 fun i => wd (comp (fold U j) (blk U j) i))) := ⟨hS.1.rB.setRow _, below_setRow hS.1.kb hS.1.lo _, hS.1.lo⟩
                have y6 : Byt (w'.setRow b (arr .u32 8 fun i => wd (comp (fold U j) (blk U j) i))) b (some ad) U := hS.2.keep (by simp) (fun k hk hne => _root_.Go.setRow_other w' b k _ hne)
                refine store36 rfl (.tmp 6) (.tmp 50) rfl b (fun i => wd (comp (fold U j) (blk U j) i)) rfl rfl hS.1.rB ?_
                clear hV hS e6
                go_wp2_with fail
                go_roundg (gk - 1)
                case measure => have := HPJ.out; have := HJJ.out; have := HE.out; omega
                case rel => exact ⟨j + 1, p + 64, by have := HPJ.out; omega, by simp, by have := HPJ.out; have := HJJ.out; have := HE.out; omega, f6, y6⟩
            · have hd3 : decide (p < n) = false := by simp; omega
              obtain rfl : j = n / 64 := by have := HE.out; omega
              obtain ⟨F, hF⟩ : ∃ F, F = fold U (n / 64) := ⟨_, rfl⟩
              rw [← hF] at f4
              have HF := Lib.hid hF
              clear hF y4 hj hp
              go_wp2_with fail
              go_loopg [8, 9] 8 (fun m v8 v9 wr => ∃ k, k + m = 8 ∧ v9 = .int .i64 (k : Nat) ∧ Own wr (b + 1) v8 (4 * k) (out8 F k) ∧ SG w b F wr)
              case atStart => exact ⟨0, rfl, rfl, World.ownsRow_nil _ _ _ _, f4⟩
              case round =>
                clear f4

                obtain ⟨k, hk, rfl, o6, f6⟩ := hrel
                by_cases hk8 : k < 8
                · have hd8 : decide ((k : Int) < 8) = true := by simp; omega
                  obtain ⟨e, he⟩ : ∃ e, e = F k := ⟨_, rfl⟩
                  obtain ⟨y, hy', y0, y1, z0, z1, z2, z3⟩ := four_parts e
                  have hy : wd (F k) = y := by rw [← he]; exact hy'
                  have HY := Lib.hid (And.intro z0 (And.intro z1 (And.intro z2 z3)))
                  have HO := Lib.hid (show out8 F (k + 1) = out8 F k ++ four8 e by rw [he]; rfl)
                  have HYK := Lib.hid hy
                  clear he hy hy' z0 z1 z2 z3
                  have W1 : IntKind.u8.wrap (y / 16777216) = y / 16777216 := by rw [IntKind.wrap_u8]; omega
                  have W2 : IntKind.u8.wrap (y / 65536) = y / 65536 % 256 := by rw [IntKind.wrap_u8]
                  have W3 : IntKind.u8.wrap (y / 256) = y / 256 % 256 := by rw [IntKind.wrap_u8]
                  have W4 : IntKind.u8.wrap y = y % 256 := by rw [IntKind.wrap_u8]
                  have kk0 : (0 : Int) ≤ (k : Int) := by omega
                  have kk8 : (k : Int) < 8 := by omega
                  have f8 := f6.below (w' := wr.drew) ((Below.refl _ _).drew)
                  have o8 := own_keep o6 ((Below.refl _ _).drew)
                  clear f6 o6
                  go_upto_region 18 with fail
                  refine region_monoT 21 (fun x => SG w b F x ∧ Own x (b + 1) u8 (4 * k) (out8 F k)) (fun w w' => Below w.heap.size w w') (V10b u8 b k y e) [(0, some 55), (1, some 56), (2, some 57), (3, some 58), (4, some 59), (5, some 60), (6, some 61), (7, some 62), (8, some 63), (9, some 64), (10, some 65), (11, some 66), (12, some 67), (13, some 68), (14, some 69), (15, some 70), (16, some 71), (17, some 72), (18, some 73), (19, some 74), (20, some 75)] (by kernel_rfl) (by kernel_rfl) (by kernel_rfl) (by kernel_rfl) (fun _ _ h r => ⟨h.1.below r, own_keep h.2 r⟩) (fun i1 v1 w1 w2 _ h1 r1 => V10b_keep u8 b k y e i1 v1 w1 w2 h1 r1) (⟨f8, o8⟩) ?_ (fun vs w' hS hV => ?_)
                  · refine StepsL.cons0  (by kernel_rfl)  ?_ ?_
                    · rintro w1 hS  K hK
                      (try simp only [Act.put, List.setIfInBounds_toArray, List.set_cons_zero, List.set_cons_succ])
                      go_simp
                      exact hK.out _ _ rfl (Below.refl _ _)
                    refine StepsL.cons0  (by kernel_rfl)  ?_ ?_
                    · rintro w1 hS  K hK
                      (try simp only [Act.put, List.setIfInBounds_toArray, List.set_cons_zero, List.set_cons_succ])
                      go_simp
                      exact hK.out _ _ rfl (Below.refl _ _)
                    refine StepsL.cons1 1 (some 56) (by kernel_rfl) rfl ?_ ?_
                    · rintro w1 hS _ rfl K hK
                      (try simp only [Act.put, List.setIfInBounds_toArray, List.set_cons_zero, List.set_cons_succ])
                      go_simp
                      exact hK.out _ _ rfl (Below.refl _ _)
                    refine StepsL.cons1 2 (some 57) (by kernel_rfl) rfl ?_ ?_
                    · rintro w1 hS _ rfl K hK
                      (try simp only [Act.put, List.setIfInBounds_toArray, List.set_cons_zero, List.set_cons_succ])
                      have hc := hS.1.rB.cell k hk8
                      rw [HYK.out] at hc
                      go_simp
                      exact hK.out _ _ rfl (Below.refl _ _)
                    refine StepsL.cons1 3 (some 58) (by kernel_rfl) rfl ?_ ?_
                    · rintro w1 hS _ rfl K hK
                      (try simp only [Act.put, List.setIfInBounds_toArray, List.set_cons_zero, List.set_cons_succ])
                      go_simp
                      exact hK.out _ _ rfl (Below.refl _ _)
                    refine StepsL.cons1 4 (some 59) (by kernel_rfl) rfl ?_ ?_
                    · rintro w1 hS _ rfl K hK
                      (try simp only [Act.put, List.setIfInBounds_toArray, List.set_cons_zero, List.set_cons_succ])
                      go_simp
                      exact hK.out _ _ rfl (Below.refl _ _)
                    refine StepsL.cons0  (by kernel_rfl)  ?_ ?_
                    · rintro w1 hS  K hK
                      (try simp only [Act.put, List.setIfInBounds_toArray, List.set_cons_zero, List.set_cons_succ])
                      go_simp
                      exact hK.out _ _ rfl (Below.refl _ _)
                    refine StepsL.cons1 6 (some 61) (by kernel_rfl) rfl ?_ ?_
                    · rintro w1 hS _ rfl K hK
                      (try simp only [Act.put, List.setIfInBounds_toArray, List.set_cons_zero, List.set_cons_succ])
                      go_simp
                      exact hK.out _ _ rfl (Below.refl _ _)
                    refine StepsL.cons1 7 (some 62) (by kernel_rfl) rfl ?_ ?_
                    · rintro w1 hS _ rfl K hK
                      (try simp only [Act.put, List.setIfInBounds_toArray, List.set_cons_zero, List.set_cons_succ])
                      have hc := hS.1.rB.cell k hk8
                      rw [HYK.out] at hc
                      go_simp
                      exact hK.out _ _ rfl (Below.refl _ _)
                    refine StepsL.cons1 8 (some 63) (by kernel_rfl) rfl ?_ ?_
                    · rintro w1 hS _ rfl K hK
                      (try simp only [Act.put, List.setIfInBounds_toArray, List.set_cons_zero, List.set_cons_succ])
                      go_simp
                      exact hK.out _ _ rfl (Below.refl _ _)
                    refine StepsL.cons1 9 (some 64) (by kernel_rfl) rfl ?_ ?_
                    · rintro w1 hS _ rfl K hK
                      (try simp only [Act.put, List.setIfInBounds_toArray, List.set_cons_zero, List.set_cons_succ])
                      go_simp
                      exact hK.out _ _ rfl (Below.refl _ _)
                    refine StepsL.cons0  (by kernel_rfl)  ?_ ?_
                    · rintro w1 hS  K hK
                      (try simp only [Act.put, List.setIfInBounds_toArray, List.set_cons_zero, List.set_cons_succ])
                      go_simp
                      exact hK.out _ _ rfl (Below.refl _ _)
                    refine StepsL.cons1 11 (some 66) (by kernel_rfl) rfl ?_ ?_
                    · rintro w1 hS _ rfl K hK
                      (try simp only [Act.put, List.setIfInBounds_toArray, List.set_cons_zero, List.set_cons_succ])
                      go_simp
                      exact hK.out _ _ rfl (Below.refl _ _)
                    refine StepsL.cons1 12 (some 67) (by kernel_rfl) rfl ?_ ?_
                    · rintro w1 hS _ rfl K hK
                      (try simp only [Act.put, List.setIfInBounds_toArray, List.set_cons_zero, List.set_cons_succ])
                      have hc := hS.1.rB.cell k hk8
                      rw [HYK.out] at hc
                      go_simp
                      exact hK.out _ _ rfl (Below.refl _ _)
                    refine StepsL.cons1 13 (some 68) (by kernel_rfl) rfl ?_ ?_
                    · rintro w1 hS _ rfl K hK
                      (try simp only [Act.put, List.setIfInBounds_toArray, List.set_cons_zero, List.set_cons_succ])
                      go_simp
                      exact hK.out _ _ rfl (Below.refl _ _)
                    refine StepsL.cons1 14 (some 69) (by kernel_rfl) rfl ?_ ?_
                    · rintro w1 hS _ rfl K hK
                      (try simp only [Act.put, List.setIfInBounds_toArray, List.set_cons_zero, List.set_cons_succ])
                      go_simp
                      exact hK.out _ _ rfl (Below.refl _ _)
                    refine StepsL.cons0  (by kernel_rfl)  ?_ ?_
                    · rintro w1 hS  K hK
                      (try simp only [Act.put, List.setIfInBounds_toArray, List.set_cons_zero, List.set_cons_succ])
                      go_simp
                      exact hK.out _ _ rfl (Below.refl _ _)
                    refine StepsL.cons1 16 (some 71) (by kernel_rfl) rfl ?_ ?_
                    · rintro w1 hS _ rfl K hK
                      (try simp only [Act.put, List.setIfInBounds_toArray, List.set_cons_zero, List.set_cons_succ])
                      go_simp
                      exact hK.out _ _ rfl (Below.refl _ _)
                    refine StepsL.cons1 17 (some 72) (by kernel_rfl) rfl ?_ ?_
                    · rintro w1 hS _ rfl K hK
                      (try simp only [Act.put, List.setIfInBounds_toArray, List.set_cons_zero, List.set_cons_succ])
                      have hc := hS.1.rB.cell k hk8
                      rw [HYK.out] at hc
                      go_simp
                      exact hK.out _ _ rfl (Below.refl _ _)
                    refine StepsL.cons1 18 (some 73) (by kernel_rfl) rfl ?_ ?_
                    · rintro w1 hS _ rfl K hK
                      (try simp only [Act.put, List.setIfInBounds_toArray, List.set_cons_zero, List.set_cons_succ])
                      go_simp
                      exact hK.out _ _ rfl (Below.refl _ _)
                    refine StepsL.cons4 5 (some 60) 10 (some 65) 15 (some 70) 19 (some 74) (by kernel_rfl) rfl rfl rfl rfl ?_ ?_
                    · rintro w1 hS _ rfl _ rfl _ rfl _ rfl K hK
                      (try simp only [Act.put, List.setIfInBounds_toArray, List.set_cons_zero, List.set_cons_succ])
                      go_simp
                      refine hK.out _ _ ⟨_, rfl, byt_four w1 b _ _ _ _ e 5 hS.1.rB.lt ?_ ?_ ?_ ?_⟩ ((Below.refl _ _).alloc (Nat.le_refl _) _) <;> (show _ = Value.int .u8 (bt _)) <;> (first | rw [HY.out.1] | rw [HY.out.2.1] | rw [HY.out.2.2.1] | rw [HY.out.2.2.2])
                    exact StepsL.nil
                  · have e0 : vs 0 = u8 := hV 0 (by omega)
                    obtain ⟨a20, e20, y20⟩ : ∃ ad, vs 20 = .slice (some ad) 4 4 ∧ Byt w' b (some ad) (four8 e) := hV 20 (by omega)
                    simp only [putl, List.foldl_cons, List.foldl_nil, Act.put, List.setIfInBounds_toArray, List.set_cons_zero, List.set_cons_succ, e0, e20]
                    simp only [List.drop_succ_cons, List.drop_zero]
                    obtain ⟨hS1, hS2⟩ := hS
                    clear hV e0 e20
                    refine app_own rfl (.tmp 55) (.tmp 75) rfl (b + 1) u8 (4 * k) (out8 F k) rfl hS2 b (some a20) 4 4 (four8 e) rfl rfl y20 (by omega) (by have := hS1.rB.lt; omega) ?_
                    intro v7 w7 o7 g7
                    rw [← HO.out] at o7
                    have f7 := hS1.grown g7 (fun k e => (hS2.lt k e).1)
                    clear hS1 hS2 g7 y20
                    go_wp2_with fail
                    go_roundg (gk - 1)
                    case measure => omega
                    case rel =>
                      first
                        | exact ⟨k + 1, by omega, by simp, o7, f7⟩
                        | ((repeat apply Exists.intro); exact ⟨⟨k + 1, by omega, by simp, o7, f7⟩, rfl⟩)
                · have hd8 : decide ((k : Int) < 8) = false := by simp; omega
                  obtain rfl : k = 8 := by omega
                  go_wp2_with fail
                  go_ret
                  refine ⟨u8, rfl, ?_, f6.kb⟩
                  have hd : out8 F 8 = dig T := by unfold dig; rw [HF.out, ← HU.out, ← HP.out]
                  rw [← hd]
                  exact own_mono o6 (by have := f6.lo; omega)
end Go.Proofs.YtinmmenjlhlpmaaDoor
