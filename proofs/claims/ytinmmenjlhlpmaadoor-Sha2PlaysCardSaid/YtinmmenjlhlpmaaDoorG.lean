/- A hash's sum, walked. -/
import Derived.Test.YtinmmenjlhlpmaaDoorF
import Derived.Deep.QuietTactic
import Derived.BigQuiet
import Derived.Deep.DeepCutAuto
import Derived.Deep.LoopGhost
import Derived.Outline
namespace Go.Proofs.YtinmmenjlhlpmaaDoor
open Go.ChangeShapes Go.WideShapes Go.ChangeAt Go.RowKit
set_option linter.unusedSimpArgs false
set_option linter.unusedVariables false

/-- One byte in a block of its own. -/
theorem byt_one (w : World) (g : Nat) (x : BitVec 8) (t : TypeId) (hg : g < w.heap.size) : Byt (w.alloc (.cells #[c8 x] t)) g (some ⟨w.heap.size, 0, none⟩) [x] :=
  ⟨(fun h => by cases h), fun a ha => by
    injection ha with ha; subst ha
    refine ⟨by simp, by show w.heap.size ≠ g; omega, fun j y hy => ?_⟩
    cases j with
    | zero =>
      simp at hy; subst hy
      rw [show (⟨w.heap.size, 0, none⟩ : Addr).add 0 = ⟨w.heap.size, 0, none⟩ from rfl, cell_of_row _ _ 0 _ t (0, 0) (heap_alloc_new w _)]
      rfl
    | succ j => simp at hy⟩
/-- One byte in a block of its own, spelled as it may be. -/
theorem byt_one' (w : World) (g : Nat) (v : Value) (x : BitVec 8) (t : TypeId) (hg : g < w.heap.size) (hv : v = c8 x) : Byt (w.alloc (.cells #[v] t)) g (some ⟨w.heap.size, 0, none⟩) [x] := by
  subst hv; exact byt_one w g x t hg
theorem lenb_at (L i : Nat) (hL : L ≤ 4294967296) (hi : i < 8) : ∃ x, (lenb L).take (i + 1) = (lenb L).take i ++ [x] ∧ bt x = ((L * 8 / 2 ^ (56 - 8 * i) % 256 : Nat) : Int) := by
  refine ⟨((BitVec.ofNat 64 L * 8) >>> (56 - 8 * i)).setWidth 8, ?_, ?_⟩
  · have hl : i < (lenb L).length := by simp [lenb]; omega
    rw [List.take_succ_eq_append_getElem hl]
    congr 2
    simp [lenb]
  · unfold bt
    rw [BitVec.toNat_setWidth, BitVec.toNat_ushiftRight, BitVec.toNat_mul, BitVec.toNat_ofNat, Nat.shiftRight_eq_div_pow]
    have : (8 : BitVec 64).toNat = 8 := rfl
    rw [this, Nat.mod_eq_of_lt (show L < 2 ^ 64 by omega), Nat.mod_eq_of_lt (show L * 8 < 2 ^ 64 by omega)]
theorem index39_all (f : Nat → Int) (w : World) (k : Nat) (hk : k < 8) : (Instr.index 39 (.agg (arr .u32 8 f)) (.int .i64 k)).run Tryd.prog w = .ok (.int .u32 (f k)) w := by
  rcases (by omega : k = 0 ∨ k = 1 ∨ k = 2 ∨ k = 3 ∨ k = 4 ∨ k = 5 ∨ k = 6 ∨ k = 7) with rfl | rfl | rfl | rfl | rfl | rfl | rfl | rfl <;>
    simp [Instr.index, run_underlying Tryd.underlying39, asIntOf, Go.part, Sem.run_bind, arr, List.range, List.range.loop]
/-- A word's four bytes in a block of their own. -/
theorem byt_four (w : World) (g : Nat) (v0 v1 v2 v3 : Value) (e : BitVec 32) (t : TypeId) (hg : g < w.heap.size) (h0 : v0 = c8 ((e >>> 24).setWidth 8)) (h1 : v1 = c8 ((e >>> 16).setWidth 8)) (h2 : v2 = c8 ((e >>> 8).setWidth 8)) (h3 : v3 = c8 (e.setWidth 8)) :
    Byt (w.alloc (.cells #[v0, v1, v2, v3] t)) g (some ⟨w.heap.size, 0, none⟩) (four8 e) := by
  subst h0 h1 h2 h3
  refine ⟨(fun h => by cases h), fun a ha => ?_⟩
  injection ha with ha; subst ha
  refine ⟨by simp, by show w.heap.size ≠ g; omega, fun j y hy => ?_⟩
  unfold four8 at hy
  rcases j with _ | _ | _ | _ | j
  · simp at hy; subst hy
    rw [show (⟨w.heap.size, 0, none⟩ : Addr).add 0 = ⟨w.heap.size, 0, none⟩ from rfl, cell_of_row _ _ 0 _ t (0, 0) (heap_alloc_new w _)]; rfl
  · simp at hy; subst hy
    rw [show (⟨w.heap.size, 0, none⟩ : Addr).add 1 = ⟨w.heap.size, 1, none⟩ from rfl, cell_of_row _ _ 1 _ t (0, 0) (heap_alloc_new w _)]; rfl
  · simp at hy; subst hy
    rw [show (⟨w.heap.size, 0, none⟩ : Addr).add 2 = ⟨w.heap.size, 2, none⟩ from rfl, cell_of_row _ _ 2 _ t (0, 0) (heap_alloc_new w _)]; rfl
  · simp at hy; subst hy
    rw [show (⟨w.heap.size, 0, none⟩ : Addr).add 3 = ⟨w.heap.size, 3, none⟩ from rfl, cell_of_row _ _ 3 _ t (0, 0) (heap_alloc_new w _)]; rfl
  · simp at hy
theorem four_parts (e : BitVec 32) : (∃ y : Int, wd e = y ∧ 0 ≤ y ∧ y < 4294967296 ∧ bt ((e >>> 24).setWidth 8) = y / 16777216 ∧ bt ((e >>> 16).setWidth 8) = y / 65536 % 256 ∧ bt ((e >>> 8).setWidth 8) = y / 256 % 256 ∧ bt (e.setWidth 8) = y % 256) := by
  refine ⟨_, rfl, ?_, ?_, ?_, ?_, ?_, ?_⟩
  · unfold wd; omega
  · unfold wd; have := e.isLt; omega
  · rw [← wd_low, ← wd_shr]; have := e.isLt; unfold wd; omega
  · rw [← wd_low, ← wd_shr]; rfl
  · rw [← wd_low, ← wd_shr]; rfl
  · rw [← wd_low]
theorem own_mono {w : World} {base base' n : Nat} {v : Value} {T : List (BitVec 8)} (h : Own w base v n T) (hb : base' ≤ base) : Own w base' v n T :=
  ⟨h.1, h.2.imp id fun ⟨g, cap, cur, h1, h2, h3⟩ => ⟨g, cap, cur, h1, by omega, h3⟩⟩
theorem own_alloc {w : World} {base n : Nat} {v : Value} {T : List (BitVec 8)} (h : Own w base v n T) (o : Obj) : Own (w.alloc o) base v n T := h.alloc o
theorem info39' : (Tryd.prog.info? 39).map (·.size) = some 8 := info39
/-- The state at the head of a hash's block, read. -/
theorem load39h {ops : Array Oper} {rest : List Oper} {o : Oper} {a : Act} {w : World} {Q : Exit → Act → World → Prop} (hgd : o.guard = none) (x : Operand) (ho : o.op = .load 39 x)
    (b : Nat) (hx : a.eval x = .pointer (some ⟨b, 0, none⟩)) {u : TypeId} {f : Nat → Int} {tl : Array Value} (r : Row w b u .u32 8 f tl)
    (h : wpList Tryd.prog ops Q rest (a.put o.dst (.agg (arr .u32 8 f))) w) : wpList Tryd.prog ops Q (o :: rest) a w :=
  wpList_load_mid hgd 39 x ho b 0 hx (arr .u32 8 f).toList _ (fun j v hv => by
    rw [Nat.zero_add]
    have hj : j < 8 := by
      have := (List.getElem?_eq_some_iff.1 hv).1
      simpa [arr_size] using this
    have : (arr .u32 8 f)[j]? = some v := by simpa using hv
    rw [arr_get .u32 8 f j hj] at this
    rw [r.cell j hj, ← this]) Tryd.underlying39 rfl (by simp [arr_size, info39]) (by simpa using h)
theorem padded_drop (T : List (BitVec 8)) (q : Nat) (hq : 64 * q ≤ T.length) : (padded T).drop (64 * q) = T.drop (64 * q) ++ [128] ++ List.replicate (zl T.length) 0 ++ lenb T.length := by
  unfold padded
  rw [List.append_assoc, List.append_assoc, List.drop_append_of_le_length hq, List.append_assoc, List.append_assoc]
/-- What holds while a hash's sum is told. -/
structure SF (w0 : World) (F : Nat → BitVec 32) (w : World) : Prop where
  rB : Row w w0.heap.size 39 .u32 8 (fun i => wd (F i)) #[]
  kb : Below w0.heap.size w0 w
section
variable {w0 w w' : World} {F : Nat → BitVec 32}
theorem SF.alloc (h : SF w0 F w) (o : Obj) : SF w0 F (w.alloc o) := ⟨h.rB.alloc o, h.kb.alloc h.kb.size o⟩
theorem SF.drew (h : SF w0 F w) : SF w0 F w.drew := ⟨h.rB.drew, h.kb.drew⟩
theorem SF.grown {r : Option Nat} (h : SF w0 F w) (k : w.grownBy w' r) (hr : ∀ b, r = some b → w0.heap.size + 1 ≤ b) : SF w0 F w' :=
  ⟨h.rB.grown k (fun e => by have := hr _ e.symm; omega), h.kb.grown k h.kb.size (fun b e => by have := hr b e; omega)⟩
end
set_option maxHeartbeats 4000000 in
theorem sum13 (g : Nat) (T : List (BitVec 8)) (w : World) (hL : T.length ≤ 4294967296) (hH : Hash w g T) (hK : TRow w 0 .u32 64 (fun i => wd (kk i))) (hg0 : 0 ≠ g) :
    Calls Tryd.prog 13 #[.pointer (some ⟨g, 0, none⟩)] w fun e w' => ∃ v, e = .returned v ∧ Own w' w.heap.size v 32 (dig T) ∧ Below w.heap.size w w' := by
  obtain ⟨h0, ao, c, hc, hr, hb⟩ := hH
  obtain ⟨q, hq⟩ : ∃ q, q = T.length / 64 := ⟨_, rfl⟩
  rw [← hq] at h0 hc hr hb
  obtain ⟨n, hn⟩ : ∃ n, n = T.length - 64 * q := ⟨_, rfl⟩
  rw [← hn] at hr hc
  have hz := zero39
  have r0 := Row.new w 39 .u32 8 (fun _ => 0)
  have hgl := hr.lt
  obtain ⟨w1, hw1⟩ : ∃ w1 : World, (w.alloc (.cells (arr .u32 8 fun _ => 0) 39)).setRow w.heap.size (arr .u32 8 fun i => wd (fold T q i)) = w1 := ⟨_, rfl⟩
  have hf : SF w (fold T q) w1 := by rw [← hw1]; exact ⟨r0.setRow _, below_setRow ((Below.refl _ _).alloc (Nat.le_refl _) _) (Nat.le_refl _) _⟩
  have hsz : w1.heap.size = w.heap.size + 1 := by rw [← hw1]; simp
  have HW := Lib.hid hw1
  have HQ := Lib.hid (show q = T.length / 64 ∧ n = T.length - 64 * q ∧ T.length ≤ 4294967296 ∧ 64 * q ≤ T.length from ⟨hq, hn, hL, h0⟩)
  have HSZ := Lib.hid hsz
  clear hw1 hq hn hL h0 hsz
  go_enter Tryd.func13, Tryd.ntmps13
  go_upto_region 2 with (first | (with_reducible refine load39h rfl (.tmp 11) rfl g rfl hr ?_) | (with_reducible refine store39 rfl (.tmp 3) (.tmp 12) rfl w.heap.size _ rfl rfl r0 ?_))
  rw [HW.out]
  clear HW r0 hz
  have c8' : (w1.alloc (.cells #[] 5)).cell? ⟨g, 8, none⟩ = some (.slice ao n c) := by
    have := (hr.below hf.kb hgl).alloc (.cells #[] 5)
    exact this.cellTl 0
  have o1 : Own (w1.alloc (.cells #[] 5)) (w.heap.size + 1) (.slice (some ⟨w1.heap.size, 0, none⟩) 0 0) 0 [] := World.ownsRow_made w1 #[] 0 (by have := HSZ.out; omega) (by unfold maxLen; omega) (by simp)
  have b1 := (hb.below (w' := w1.alloc (.cells #[] 5)) (hf.kb.alloc (by have := HSZ.out; omega) _))
  go_wp2_with (first | (at_builtin; refine app_own rfl (.tmp 13) (.tmp 17) rfl (w.heap.size + 1) (.slice (some ⟨w1.heap.size, 0, none⟩) 0 0) 0 [] rfl o1 g ao n c (T.drop (64 * q)) rfl ?h1 b1 ?h2 ?h3 ?_; (case h1 => have := HQ.out; simp; omega); (case h2 => have := HQ.out; omega); (case h3 => have := HSZ.out; simp; omega); intro v2 w2 o2 g2) | (at_builtin; refine app_own rfl (.tmp 18) (.tmp 19) rfl (w.heap.size + 1) v2 (0 + n) ([] ++ T.drop (64 * q)) rfl (own_alloc o2 _) g (some ⟨w2.heap.size, 0, none⟩) 1 1 [128] rfl ?k1 ?k2 ?k3 ?k4 ?_; (case k1 => rfl); (case k2 => exact byt_one w2 g 128 5 (by have := g2.size; have := HSZ.out; simp at *; omega)); (case k3 => have := HQ.out; omega); (case k4 => have := g2.size; have := HSZ.out; simp at *; omega); intro v3 w3 o3 g3))
  have hf3 : SF w (fold T q) w3 := (((hf.alloc _).grown g2 (fun b e => by simp [Value.ownBlock] at e; have := HSZ.out; omega)).alloc _).grown g3 (fun b e => (o2.lt b e).1)
  have o3 : Own w3 (w.heap.size + 1) v3 (n + 1) (T.drop (64 * q) ++ [128]) := by simpa using o3
  have HLT : Hid (v3 = v3) := Lib.hid rfl
  clear c8' b1 o1 o2 g2 g3 hf HSZ HLT
  obtain ⟨R, hR⟩ : ∃ R, R = T.drop (64 * q) ++ [128] := ⟨_, rfl⟩
  rw [← hR] at o3
  have HR := Lib.hid hR
  clear hR
  go_loopg [4] 64 (fun k v wr => ∃ z, z + k = 64 ∧ z ≤ zl T.length ∧ Own wr (w.heap.size + 1) v (n + 1 + z) (R ++ List.replicate z 0) ∧ SF w (fold T q) wr)
  case atStart => exact ⟨0, by omega, by omega, by simpa using o3, hf3⟩
  case round =>
    rename_i v4
    obtain ⟨z, hz, hzl, o4, hf4⟩ := hrel
    obtain ⟨ao4, c4, rfl, -, -, -⟩ := own_byt (g := 0) o4 (by omega)
    have hs4 := hf4.kb.size
    have hrow := hf4.rB.lt
    have HZ := Lib.hid (show z + gk = 64 ∧ z ≤ zl T.length from ⟨hz, hzl⟩)
    have hn64 : n < 64 := by have := HQ.out; omega
    by_cases hlt : z < zl T.length
    · have hd : (((n : Int) + 1 + (z : Int)) % 64 != 56) = true := by
        have := HQ.out
        unfold zl at hlt
        simp; omega
      go_wp2_with (first | (at_builtin; refine app_own rfl (.tmp 25) (.tmp 26) rfl (w.heap.size + 1) (.slice ao4 (n + 1 + z) c4) (n + 1 + z) (R ++ List.replicate z 0) rfl (own_alloc o4 _) g (some ⟨wr.heap.size, 0, none⟩) 1 1 [0] rfl ?k1 ?k2 ?k3 ?k4 ?_; (case k1 => rfl); (case k2 => exact byt_one wr g 0 5 (by omega)); (case k3 => have := HZ.out; omega); (case k4 => simp; omega); intro v5 w5 o5 g5))
      go_roundg (gk - 1)
      case measure => have := HZ.out; unfold zl at hlt; omega
      case rel =>
        refine ⟨z + 1, by have := HZ.out; unfold zl at hlt; omega, by omega, ?_, (hf4.alloc _).grown g5 (fun b e => (o4.lt b e).1)⟩
        rw [List.append_assoc, ← List.replicate_succ'] at o5
        exact o5
    · have hd : (((n : Int) + 1 + (z : Int)) % 64 != 56) = false := by
        have := HQ.out
        have := HZ.out
        have : z = zl T.length := by omega
        unfold zl at this
        simp; omega
      obtain rfl : z = zl T.length := by have := HZ.out; omega
      clear hlt HZ hzl hz o3 hf3
      go_wp2_with fail
      obtain ⟨Z, hZ⟩ : ∃ Z, Z = n + 1 + zl T.length := ⟨_, rfl⟩
      obtain ⟨L, hL⟩ : ∃ L, L = T.length := ⟨_, rfl⟩
      obtain ⟨R2, hR2⟩ : ∃ R2, R2 = R ++ List.replicate (zl T.length) 0 := ⟨_, rfl⟩
      have HR2 := Lib.hid hR2
      have HZ := Lib.hid hZ
      have HL := Lib.hid hL
      rw [← hZ, ← hR2] at o4
      have hZb : Z < 4294967296 * 2 := by have := HQ.out; unfold zl at hZ; omega
      have g0 : g < w.heap.size := hgl
      rw [← hL] at hr
      rw [← hZ]
      clear hR2 hZ hL hd
      go_loopg [4, 5] 8 (fun k v4 v5 wr => ∃ i, i + k = 8 ∧ v5 = .int .i64 (56 - 8 * i : Int) ∧ Own wr (w.heap.size + 1) v4 (Z + i) (R2 ++ (lenb L).take i) ∧ SF w (fold T q) wr)
      case atStart => exact ⟨0, rfl, by simp, by simp only [List.take_zero, List.append_nil, Nat.add_zero]; exact o4, hf4⟩
      case round =>
        rename_i v4 v5
        obtain ⟨i, hi, rfl, o5, hf5⟩ := hrel
        obtain ⟨ao5, c5, rfl, -, -, -⟩ := own_byt (g := 0) o5 (by omega)
        have hs5 := hf5.kb.size
        have hrow5 := hf5.rB.lt
        have r5 := hr.below hf5.kb hgl
        have c9 : wr.cell? ⟨g, 9, none⟩ = some (.int .u64 (L : Int)) := r5.cellTl 1
        have hL32 : L ≤ 4294967296 := by have := HQ.out; have := HL.out; omega
        have s3 : IntKind.u64.wrap ((L : Int) * 2 ^ 3) = (L : Int) * 8 := by rw [IntKind.wrap_u64]; omega
        rcases (by omega : i = 0 ∨ i = 1 ∨ i = 2 ∨ i = 3 ∨ i = 4 ∨ i = 5 ∨ i = 6 ∨ i = 7 ∨ i = 8) with rfl | rfl | rfl | rfl | rfl | rfl | rfl | rfl | rfl
        · obtain ⟨x, hx1, hx2⟩ := lenb_at L 0 hL32 (by omega)
          have HX := Lib.hid hx1
          have HY := Lib.hid hx2
          clear hx1 hx2
          go_wp2_with (first | (at_builtin; refine app_own rfl (.tmp 32) (.tmp 41) rfl (w.heap.size + 1) (.slice ao5 (Z + 0) c5) (Z + 0) (R2 ++ (lenb L).take 0) rfl (own_alloc o5 _) g (some ⟨wr.heap.size, 0, none⟩) 1 1 [x] rfl ?k1 ?k2 ?k3 ?k4 ?_; (case k1 => rfl); (case k2 => refine byt_one' wr g _ x 5 (by omega) ?_; show _ = Value.int .u8 (bt x); rw [HY.out]; refine congrArg (Value.int .u8) ?_; first | omega | (rw [IntKind.wrap_u8]; omega)); (case k3 => omega); (case k4 => simp; omega); intro v6 w6 o6 g6))
          go_roundg (gk - 1)
          case measure => omega
          case rel =>
            rw [List.append_assoc, ← HX.out] at o6
            first
              | exact ⟨0 + 1, by omega, by simp, o6, (hf5.alloc _).grown g6 (fun b e => (o5.lt b e).1)⟩
              | ((repeat apply Exists.intro); exact ⟨⟨0 + 1, by omega, by simp, o6, (hf5.alloc _).grown g6 (fun b e => (o5.lt b e).1)⟩, rfl⟩)
        · obtain ⟨x, hx1, hx2⟩ := lenb_at L 1 hL32 (by omega)
          have HX := Lib.hid hx1
          have HY := Lib.hid hx2
          clear hx1 hx2
          go_wp2_with (first | (at_builtin; refine app_own rfl (.tmp 32) (.tmp 41) rfl (w.heap.size + 1) (.slice ao5 (Z + 1) c5) (Z + 1) (R2 ++ (lenb L).take 1) rfl (own_alloc o5 _) g (some ⟨wr.heap.size, 0, none⟩) 1 1 [x] rfl ?k1 ?k2 ?k3 ?k4 ?_; (case k1 => rfl); (case k2 => refine byt_one' wr g _ x 5 (by omega) ?_; show _ = Value.int .u8 (bt x); rw [HY.out]; refine congrArg (Value.int .u8) ?_; first | omega | (rw [IntKind.wrap_u8]; omega)); (case k3 => omega); (case k4 => simp; omega); intro v6 w6 o6 g6))
          go_roundg (gk - 1)
          case measure => omega
          case rel =>
            rw [List.append_assoc, ← HX.out] at o6
            first
              | exact ⟨1 + 1, by omega, by simp, o6, (hf5.alloc _).grown g6 (fun b e => (o5.lt b e).1)⟩
              | ((repeat apply Exists.intro); exact ⟨⟨1 + 1, by omega, by simp, o6, (hf5.alloc _).grown g6 (fun b e => (o5.lt b e).1)⟩, rfl⟩)
        · obtain ⟨x, hx1, hx2⟩ := lenb_at L 2 hL32 (by omega)
          have HX := Lib.hid hx1
          have HY := Lib.hid hx2
          clear hx1 hx2
          go_wp2_with (first | (at_builtin; refine app_own rfl (.tmp 32) (.tmp 41) rfl (w.heap.size + 1) (.slice ao5 (Z + 2) c5) (Z + 2) (R2 ++ (lenb L).take 2) rfl (own_alloc o5 _) g (some ⟨wr.heap.size, 0, none⟩) 1 1 [x] rfl ?k1 ?k2 ?k3 ?k4 ?_; (case k1 => rfl); (case k2 => refine byt_one' wr g _ x 5 (by omega) ?_; show _ = Value.int .u8 (bt x); rw [HY.out]; refine congrArg (Value.int .u8) ?_; first | omega | (rw [IntKind.wrap_u8]; omega)); (case k3 => omega); (case k4 => simp; omega); intro v6 w6 o6 g6))
          go_roundg (gk - 1)
          case measure => omega
          case rel =>
            rw [List.append_assoc, ← HX.out] at o6
            first
              | exact ⟨2 + 1, by omega, by simp, o6, (hf5.alloc _).grown g6 (fun b e => (o5.lt b e).1)⟩
              | ((repeat apply Exists.intro); exact ⟨⟨2 + 1, by omega, by simp, o6, (hf5.alloc _).grown g6 (fun b e => (o5.lt b e).1)⟩, rfl⟩)
        · obtain ⟨x, hx1, hx2⟩ := lenb_at L 3 hL32 (by omega)
          have HX := Lib.hid hx1
          have HY := Lib.hid hx2
          clear hx1 hx2
          go_wp2_with (first | (at_builtin; refine app_own rfl (.tmp 32) (.tmp 41) rfl (w.heap.size + 1) (.slice ao5 (Z + 3) c5) (Z + 3) (R2 ++ (lenb L).take 3) rfl (own_alloc o5 _) g (some ⟨wr.heap.size, 0, none⟩) 1 1 [x] rfl ?k1 ?k2 ?k3 ?k4 ?_; (case k1 => rfl); (case k2 => refine byt_one' wr g _ x 5 (by omega) ?_; show _ = Value.int .u8 (bt x); rw [HY.out]; refine congrArg (Value.int .u8) ?_; first | omega | (rw [IntKind.wrap_u8]; omega)); (case k3 => omega); (case k4 => simp; omega); intro v6 w6 o6 g6))
          go_roundg (gk - 1)
          case measure => omega
          case rel =>
            rw [List.append_assoc, ← HX.out] at o6
            first
              | exact ⟨3 + 1, by omega, by simp, o6, (hf5.alloc _).grown g6 (fun b e => (o5.lt b e).1)⟩
              | ((repeat apply Exists.intro); exact ⟨⟨3 + 1, by omega, by simp, o6, (hf5.alloc _).grown g6 (fun b e => (o5.lt b e).1)⟩, rfl⟩)
        · obtain ⟨x, hx1, hx2⟩ := lenb_at L 4 hL32 (by omega)
          have HX := Lib.hid hx1
          have HY := Lib.hid hx2
          clear hx1 hx2
          go_wp2_with (first | (at_builtin; refine app_own rfl (.tmp 32) (.tmp 41) rfl (w.heap.size + 1) (.slice ao5 (Z + 4) c5) (Z + 4) (R2 ++ (lenb L).take 4) rfl (own_alloc o5 _) g (some ⟨wr.heap.size, 0, none⟩) 1 1 [x] rfl ?k1 ?k2 ?k3 ?k4 ?_; (case k1 => rfl); (case k2 => refine byt_one' wr g _ x 5 (by omega) ?_; show _ = Value.int .u8 (bt x); rw [HY.out]; refine congrArg (Value.int .u8) ?_; first | omega | (rw [IntKind.wrap_u8]; omega)); (case k3 => omega); (case k4 => simp; omega); intro v6 w6 o6 g6))
          go_roundg (gk - 1)
          case measure => omega
          case rel =>
            rw [List.append_assoc, ← HX.out] at o6
            first
              | exact ⟨4 + 1, by omega, by simp, o6, (hf5.alloc _).grown g6 (fun b e => (o5.lt b e).1)⟩
              | ((repeat apply Exists.intro); exact ⟨⟨4 + 1, by omega, by simp, o6, (hf5.alloc _).grown g6 (fun b e => (o5.lt b e).1)⟩, rfl⟩)
        · obtain ⟨x, hx1, hx2⟩ := lenb_at L 5 hL32 (by omega)
          have HX := Lib.hid hx1
          have HY := Lib.hid hx2
          clear hx1 hx2
          go_wp2_with (first | (at_builtin; refine app_own rfl (.tmp 32) (.tmp 41) rfl (w.heap.size + 1) (.slice ao5 (Z + 5) c5) (Z + 5) (R2 ++ (lenb L).take 5) rfl (own_alloc o5 _) g (some ⟨wr.heap.size, 0, none⟩) 1 1 [x] rfl ?k1 ?k2 ?k3 ?k4 ?_; (case k1 => rfl); (case k2 => refine byt_one' wr g _ x 5 (by omega) ?_; show _ = Value.int .u8 (bt x); rw [HY.out]; refine congrArg (Value.int .u8) ?_; first | omega | (rw [IntKind.wrap_u8]; omega)); (case k3 => omega); (case k4 => simp; omega); intro v6 w6 o6 g6))
          go_roundg (gk - 1)
          case measure => omega
          case rel =>
            rw [List.append_assoc, ← HX.out] at o6
            first
              | exact ⟨5 + 1, by omega, by simp, o6, (hf5.alloc _).grown g6 (fun b e => (o5.lt b e).1)⟩
              | ((repeat apply Exists.intro); exact ⟨⟨5 + 1, by omega, by simp, o6, (hf5.alloc _).grown g6 (fun b e => (o5.lt b e).1)⟩, rfl⟩)
        · obtain ⟨x, hx1, hx2⟩ := lenb_at L 6 hL32 (by omega)
          have HX := Lib.hid hx1
          have HY := Lib.hid hx2
          clear hx1 hx2
          go_wp2_with (first | (at_builtin; refine app_own rfl (.tmp 32) (.tmp 41) rfl (w.heap.size + 1) (.slice ao5 (Z + 6) c5) (Z + 6) (R2 ++ (lenb L).take 6) rfl (own_alloc o5 _) g (some ⟨wr.heap.size, 0, none⟩) 1 1 [x] rfl ?k1 ?k2 ?k3 ?k4 ?_; (case k1 => rfl); (case k2 => refine byt_one' wr g _ x 5 (by omega) ?_; show _ = Value.int .u8 (bt x); rw [HY.out]; refine congrArg (Value.int .u8) ?_; first | omega | (rw [IntKind.wrap_u8]; omega)); (case k3 => omega); (case k4 => simp; omega); intro v6 w6 o6 g6))
          go_roundg (gk - 1)
          case measure => omega
          case rel =>
            rw [List.append_assoc, ← HX.out] at o6
            first
              | exact ⟨6 + 1, by omega, by simp, o6, (hf5.alloc _).grown g6 (fun b e => (o5.lt b e).1)⟩
              | ((repeat apply Exists.intro); exact ⟨⟨6 + 1, by omega, by simp, o6, (hf5.alloc _).grown g6 (fun b e => (o5.lt b e).1)⟩, rfl⟩)
        · obtain ⟨x, hx1, hx2⟩ := lenb_at L 7 hL32 (by omega)
          have HX := Lib.hid hx1
          have HY := Lib.hid hx2
          clear hx1 hx2
          go_wp2_with (first | (at_builtin; refine app_own rfl (.tmp 32) (.tmp 41) rfl (w.heap.size + 1) (.slice ao5 (Z + 7) c5) (Z + 7) (R2 ++ (lenb L).take 7) rfl (own_alloc o5 _) g (some ⟨wr.heap.size, 0, none⟩) 1 1 [x] rfl ?k1 ?k2 ?k3 ?k4 ?_; (case k1 => rfl); (case k2 => refine byt_one' wr g _ x 5 (by omega) ?_; show _ = Value.int .u8 (bt x); rw [HY.out]; refine congrArg (Value.int .u8) ?_; first | omega | (rw [IntKind.wrap_u8]; omega)); (case k3 => omega); (case k4 => simp; omega); intro v6 w6 o6 g6))
          go_roundg (gk - 1)
          case measure => omega
          case rel =>
            rw [List.append_assoc, ← HX.out] at o6
            first
              | exact ⟨7 + 1, by omega, by simp, o6, (hf5.alloc _).grown g6 (fun b e => (o5.lt b e).1)⟩
              | ((repeat apply Exists.intro); exact ⟨⟨7 + 1, by omega, by simp, o6, (hf5.alloc _).grown g6 (fun b e => (o5.lt b e).1)⟩, rfl⟩)
        · have hk5 : TRow wr 0 .u32 64 (fun i => wd (kk i)) := hK.below hf5.kb (by omega)
          have e1 : R2 ++ (lenb L).take 8 = (padded T).drop (64 * q) := by
            rw [padded_drop T q HQ.out.2.2.2, HR2.out, HR.out, HL.out, List.take_of_length_le (by simp [lenb])]
          have e2 : Z + 8 = (padded T).length - 64 * q := by have := HQ.out; have := HZ.out; have := (padded_length T).1; omega
          have e3 : fold T q = fold (padded T) q := by
            unfold padded
            rw [List.append_assoc, List.append_assoc, fold_append _ _ _ HQ.out.2.2.2]
          have e4 : q ≤ (padded T).length / 64 ∧ (padded T).length % 64 = 0 ∧ (padded T).length < 140737488355328 := by
            have := HQ.out; have := padded_length T
            unfold zl at this
            omega
          rw [e1, e2] at o5
          rw [e3] at hf5
          obtain ⟨y1, y2, y3, y4, y5, y6⟩ := own_byt (g := w.heap.size) o5 (by omega)
          obtain ⟨rfl, rfl⟩ : ao5 = y1 ∧ c5 = y2 := by injection y3 with z1 _ z3; exact ⟨z1, z3⟩
          obtain ⟨U, hU⟩ : ∃ U, U = padded T := ⟨_, rfl⟩
          obtain ⟨P, hP⟩ : ∃ P, P = U.length := ⟨_, rfl⟩
          rw [← hU] at e2 e4 y5 y6 hf5
          rw [← hP] at e2 e4 y5
          have HU := Lib.hid hU
          have HP := Lib.hid hP
          have HE := Lib.hid e4
          clear hr c9 s3 hi hL32 r5 y3 y4 o5 o4 e1 e3 e4 hU hP hn64
          go_wp2_with fail
          rw [e2]
          clear e2
          go_loopg [4] (P / 64 - q) (fun k v4 wr => ∃ j ao c, j + k = P / 64 ∧ v4 = .slice ao (P - 64 * j) c ∧ P - 64 * j ≤ c ∧ Byt wr w.heap.size ao (U.drop (64 * j)) ∧ SF w (fold U j) wr)
          case atStart => exact ⟨q, _, _, by have := HE.out; omega, rfl, y5, y6, hf5⟩
          case round =>
            clear hk5 y5 y6 hf5 hrow5 hs5
            rename_i v4
            obtain ⟨j, ao6, c6, hj, rfl, hc6, b6, f6⟩ := hrel
            obtain ⟨n6, hn6⟩ : ∃ n6, n6 = P - 64 * j := ⟨_, rfl⟩
            rw [← hn6] at hc6
            rw [← hn6]
            have HN := Lib.hid hn6
            have HJ := Lib.hid hj
            have hn47 : n6 ≤ 140737488355328 := by have := HE.out; omega
            by_cases hpos : 0 < n6
            · have hn64 : 64 ≤ n6 := by have := HE.out; omega
              obtain ⟨ad, rfl⟩ : ∃ ad, ao6 = some ad := by
                cases ao6 with
                | none => have h1 := congrArg List.length (b6.nil rfl); have := HP.out; rw [List.length_drop, List.length_nil] at h1; omega
                | some ad => exact ⟨ad, rfl⟩
              obtain ⟨q1, q2, q3⟩ := b6.cells ad rfl
              have HB : Blk64 wr ad (blk U j) := ⟨q1, fun i hi => by
                have hlt2 : 64 * j + i < U.length := by have := HP.out; omega
                have := q3 i (U[64 * j + i]) (by rw [List.getElem?_drop]; exact List.getElem?_eq_getElem hlt2)
                rw [show blk U j i = U[64 * j + i] by unfold blk; rw [List.getD_eq_getElem?_getD, List.getElem?_eq_getElem hlt2]; rfl]
                exact this⟩
              have M := Lib.hid (block16 w.heap.size 39 #[] ad n6 c6 (blk U j) (fold U j) wr hn64 (by omega) HB f6.rB (hK.below f6.kb (by omega)) q2 (by omega))
              clear hj hn6 HB q3
              go_wp2_with (first | (go_at_call 16; (with_reducible refine (M.out).mono ?_); rintro e w7 ⟨rfl, r7, g7⟩))
              all_goals
                have b7 := (b6.grown g7).drop 64 _ (by rw [List.length_drop, ← HP.out, ← HN.out]; exact hc6) (by rw [List.length_drop, ← HP.out, ← HN.out]; exact hn64)
                rw [List.drop_drop, show 64 * j + 64 = 64 * (j + 1) by omega] at b7
                have f7 : SF w (fold U (j + 1)) _ := ⟨r7, f6.kb.grown g7 f6.kb.size (fun b e => by injection e with e; omega)⟩
                have hn7 : n6 - 64 = P - 64 * (j + 1) := by have := HN.out; omega
                go_roundg (gk - 1)
                case measure => have := HJ.out; have := HN.out; have := HE.out; omega
                case rel =>
                  rw [hn7]
                  refine ⟨j + 1, _, _, by have := HJ.out; have := HN.out; have := HE.out; omega, rfl, by omega, ?_, f7⟩
                  refine Eq.mp (congrArg (fun z => Byt _ w.heap.size z (U.drop (64 * (j + 1)))) ?_) b7
                  split <;> first | rfl | (exfalso; omega)
            · have hd9 : decide (0 < n6) = false := by simp; omega
              obtain rfl : n6 = 0 := by omega
              obtain rfl : j = P / 64 := by have := HJ.out; have := HN.out; have := HE.out; omega
              obtain ⟨S, hS⟩ : ∃ S, S = fold U (P / 64) := ⟨_, rfl⟩
              have HS := Lib.hid hS
              rw [← hS] at f6
              clear hS b6 hc6 hn6 hj hpos
              go_wp2_with (first | (with_reducible refine load39h rfl (.tmp 3) rfl w.heap.size rfl f6.rB ?_))
              go_loopg [6, 51] 8 (fun m v6 v51 wr => ∃ k, k + m = 8 ∧ v51 = .int .i64 (k : Nat) ∧ Own wr (w.heap.size + 1) v6 (4 * k) (out8 S k) ∧ SF w S wr)
              case atStart => exact ⟨0, rfl, rfl, World.ownsRow_nil _ _ _ _, f6⟩
              case round =>
                clear f6
                obtain ⟨k, hk, rfl, o6, f6⟩ := hrel
                have hs6 := f6.kb.size
                have hrow6 := f6.rB.lt
                obtain ⟨ao8, cc8, rfl, -, -, -⟩ := own_byt (g := 0) o6 (by omega)
                rcases (by omega : k = 0 ∨ k = 1 ∨ k = 2 ∨ k = 3 ∨ k = 4 ∨ k = 5 ∨ k = 6 ∨ k = 7 ∨ k = 8) with rfl | rfl | rfl | rfl | rfl | rfl | rfl | rfl | rfl
                · obtain ⟨e, he⟩ : ∃ e, e = S 0 := ⟨_, rfl⟩
                  have hix : ∀ w, (Instr.index 39 (.agg (arr .u32 8 (fun i => wd (S i)))) (.int .i64 0)).run Tryd.prog w = .ok (.int .u32 (wd e)) w := fun w => he ▸ index39_all (fun i => wd (S i)) w 0 (by omega)
                  obtain ⟨y, hy, y0, y1, z0, z1, z2, z3⟩ := four_parts e
                  rw [hy] at hix
                  have HY := Lib.hid (And.intro z0 (And.intro z1 (And.intro z2 z3)))
                  have HO := Lib.hid (show out8 S (0 + 1) = out8 S 0 ++ four8 e by rw [he]; rfl)
                  clear he hy z0 z1 z2 z3
                  go_wp2_with (first | (at_builtin; refine app_own rfl (.tmp 54) (.tmp 66) rfl (w.heap.size + 1) (.slice ao8 (4 * 0) cc8) (4 * 0) (out8 S 0) rfl (own_alloc o6 _) g (some ⟨wr.heap.size, 0, none⟩) 4 4 (four8 e) rfl ?k1 ?k2 ?k3 ?k4 ?_; (case k1 => rfl); (case k2 => refine byt_four wr g _ _ _ _ e 5 (by omega) ?_ ?_ ?_ ?_ <;> (show _ = Value.int .u8 (bt _)) <;> (first | rw [HY.out.1] | rw [HY.out.2.1] | rw [HY.out.2.2.1] | rw [HY.out.2.2.2]) <;> refine congrArg (Value.int .u8) ?_ <;> first | omega | (rw [IntKind.wrap_u8]; omega)); (case k3 => omega); (case k4 => simp; omega); intro v7 w7 o7 g7))
                  go_roundg (gk - 1)
                  case measure => omega
                  case rel =>
                    rw [← HO.out] at o7
                    have hh := (f6.alloc _).grown g7 (fun b e => (o6.lt b e).1)
                    first
                      | exact ⟨0 + 1, by omega, rfl, o7, hh⟩
                      | ((repeat apply Exists.intro); exact ⟨⟨0 + 1, by omega, rfl, o7, hh⟩, rfl⟩)
                · obtain ⟨e, he⟩ : ∃ e, e = S 1 := ⟨_, rfl⟩
                  have hix : ∀ w, (Instr.index 39 (.agg (arr .u32 8 (fun i => wd (S i)))) (.int .i64 1)).run Tryd.prog w = .ok (.int .u32 (wd e)) w := fun w => he ▸ index39_all (fun i => wd (S i)) w 1 (by omega)
                  obtain ⟨y, hy, y0, y1, z0, z1, z2, z3⟩ := four_parts e
                  rw [hy] at hix
                  have HY := Lib.hid (And.intro z0 (And.intro z1 (And.intro z2 z3)))
                  have HO := Lib.hid (show out8 S (1 + 1) = out8 S 1 ++ four8 e by rw [he]; rfl)
                  clear he hy z0 z1 z2 z3
                  go_wp2_with (first | (at_builtin; refine app_own rfl (.tmp 54) (.tmp 66) rfl (w.heap.size + 1) (.slice ao8 (4 * 1) cc8) (4 * 1) (out8 S 1) rfl (own_alloc o6 _) g (some ⟨wr.heap.size, 0, none⟩) 4 4 (four8 e) rfl ?k1 ?k2 ?k3 ?k4 ?_; (case k1 => rfl); (case k2 => refine byt_four wr g _ _ _ _ e 5 (by omega) ?_ ?_ ?_ ?_ <;> (show _ = Value.int .u8 (bt _)) <;> (first | rw [HY.out.1] | rw [HY.out.2.1] | rw [HY.out.2.2.1] | rw [HY.out.2.2.2]) <;> refine congrArg (Value.int .u8) ?_ <;> first | omega | (rw [IntKind.wrap_u8]; omega)); (case k3 => omega); (case k4 => simp; omega); intro v7 w7 o7 g7))
                  go_roundg (gk - 1)
                  case measure => omega
                  case rel =>
                    rw [← HO.out] at o7
                    have hh := (f6.alloc _).grown g7 (fun b e => (o6.lt b e).1)
                    first
                      | exact ⟨1 + 1, by omega, rfl, o7, hh⟩
                      | ((repeat apply Exists.intro); exact ⟨⟨1 + 1, by omega, rfl, o7, hh⟩, rfl⟩)
                · obtain ⟨e, he⟩ : ∃ e, e = S 2 := ⟨_, rfl⟩
                  have hix : ∀ w, (Instr.index 39 (.agg (arr .u32 8 (fun i => wd (S i)))) (.int .i64 2)).run Tryd.prog w = .ok (.int .u32 (wd e)) w := fun w => he ▸ index39_all (fun i => wd (S i)) w 2 (by omega)
                  obtain ⟨y, hy, y0, y1, z0, z1, z2, z3⟩ := four_parts e
                  rw [hy] at hix
                  have HY := Lib.hid (And.intro z0 (And.intro z1 (And.intro z2 z3)))
                  have HO := Lib.hid (show out8 S (2 + 1) = out8 S 2 ++ four8 e by rw [he]; rfl)
                  clear he hy z0 z1 z2 z3
                  go_wp2_with (first | (at_builtin; refine app_own rfl (.tmp 54) (.tmp 66) rfl (w.heap.size + 1) (.slice ao8 (4 * 2) cc8) (4 * 2) (out8 S 2) rfl (own_alloc o6 _) g (some ⟨wr.heap.size, 0, none⟩) 4 4 (four8 e) rfl ?k1 ?k2 ?k3 ?k4 ?_; (case k1 => rfl); (case k2 => refine byt_four wr g _ _ _ _ e 5 (by omega) ?_ ?_ ?_ ?_ <;> (show _ = Value.int .u8 (bt _)) <;> (first | rw [HY.out.1] | rw [HY.out.2.1] | rw [HY.out.2.2.1] | rw [HY.out.2.2.2]) <;> refine congrArg (Value.int .u8) ?_ <;> first | omega | (rw [IntKind.wrap_u8]; omega)); (case k3 => omega); (case k4 => simp; omega); intro v7 w7 o7 g7))
                  go_roundg (gk - 1)
                  case measure => omega
                  case rel =>
                    rw [← HO.out] at o7
                    have hh := (f6.alloc _).grown g7 (fun b e => (o6.lt b e).1)
                    first
                      | exact ⟨2 + 1, by omega, rfl, o7, hh⟩
                      | ((repeat apply Exists.intro); exact ⟨⟨2 + 1, by omega, rfl, o7, hh⟩, rfl⟩)
                · obtain ⟨e, he⟩ : ∃ e, e = S 3 := ⟨_, rfl⟩
                  have hix : ∀ w, (Instr.index 39 (.agg (arr .u32 8 (fun i => wd (S i)))) (.int .i64 3)).run Tryd.prog w = .ok (.int .u32 (wd e)) w := fun w => he ▸ index39_all (fun i => wd (S i)) w 3 (by omega)
                  obtain ⟨y, hy, y0, y1, z0, z1, z2, z3⟩ := four_parts e
                  rw [hy] at hix
                  have HY := Lib.hid (And.intro z0 (And.intro z1 (And.intro z2 z3)))
                  have HO := Lib.hid (show out8 S (3 + 1) = out8 S 3 ++ four8 e by rw [he]; rfl)
                  clear he hy z0 z1 z2 z3
                  go_wp2_with (first | (at_builtin; refine app_own rfl (.tmp 54) (.tmp 66) rfl (w.heap.size + 1) (.slice ao8 (4 * 3) cc8) (4 * 3) (out8 S 3) rfl (own_alloc o6 _) g (some ⟨wr.heap.size, 0, none⟩) 4 4 (four8 e) rfl ?k1 ?k2 ?k3 ?k4 ?_; (case k1 => rfl); (case k2 => refine byt_four wr g _ _ _ _ e 5 (by omega) ?_ ?_ ?_ ?_ <;> (show _ = Value.int .u8 (bt _)) <;> (first | rw [HY.out.1] | rw [HY.out.2.1] | rw [HY.out.2.2.1] | rw [HY.out.2.2.2]) <;> refine congrArg (Value.int .u8) ?_ <;> first | omega | (rw [IntKind.wrap_u8]; omega)); (case k3 => omega); (case k4 => simp; omega); intro v7 w7 o7 g7))
                  go_roundg (gk - 1)
                  case measure => omega
                  case rel =>
                    rw [← HO.out] at o7
                    have hh := (f6.alloc _).grown g7 (fun b e => (o6.lt b e).1)
                    first
                      | exact ⟨3 + 1, by omega, rfl, o7, hh⟩
                      | ((repeat apply Exists.intro); exact ⟨⟨3 + 1, by omega, rfl, o7, hh⟩, rfl⟩)
                · obtain ⟨e, he⟩ : ∃ e, e = S 4 := ⟨_, rfl⟩
                  have hix : ∀ w, (Instr.index 39 (.agg (arr .u32 8 (fun i => wd (S i)))) (.int .i64 4)).run Tryd.prog w = .ok (.int .u32 (wd e)) w := fun w => he ▸ index39_all (fun i => wd (S i)) w 4 (by omega)
                  obtain ⟨y, hy, y0, y1, z0, z1, z2, z3⟩ := four_parts e
                  rw [hy] at hix
                  have HY := Lib.hid (And.intro z0 (And.intro z1 (And.intro z2 z3)))
                  have HO := Lib.hid (show out8 S (4 + 1) = out8 S 4 ++ four8 e by rw [he]; rfl)
                  clear he hy z0 z1 z2 z3
                  go_wp2_with (first | (at_builtin; refine app_own rfl (.tmp 54) (.tmp 66) rfl (w.heap.size + 1) (.slice ao8 (4 * 4) cc8) (4 * 4) (out8 S 4) rfl (own_alloc o6 _) g (some ⟨wr.heap.size, 0, none⟩) 4 4 (four8 e) rfl ?k1 ?k2 ?k3 ?k4 ?_; (case k1 => rfl); (case k2 => refine byt_four wr g _ _ _ _ e 5 (by omega) ?_ ?_ ?_ ?_ <;> (show _ = Value.int .u8 (bt _)) <;> (first | rw [HY.out.1] | rw [HY.out.2.1] | rw [HY.out.2.2.1] | rw [HY.out.2.2.2]) <;> refine congrArg (Value.int .u8) ?_ <;> first | omega | (rw [IntKind.wrap_u8]; omega)); (case k3 => omega); (case k4 => simp; omega); intro v7 w7 o7 g7))
                  go_roundg (gk - 1)
                  case measure => omega
                  case rel =>
                    rw [← HO.out] at o7
                    have hh := (f6.alloc _).grown g7 (fun b e => (o6.lt b e).1)
                    first
                      | exact ⟨4 + 1, by omega, rfl, o7, hh⟩
                      | ((repeat apply Exists.intro); exact ⟨⟨4 + 1, by omega, rfl, o7, hh⟩, rfl⟩)
                · obtain ⟨e, he⟩ : ∃ e, e = S 5 := ⟨_, rfl⟩
                  have hix : ∀ w, (Instr.index 39 (.agg (arr .u32 8 (fun i => wd (S i)))) (.int .i64 5)).run Tryd.prog w = .ok (.int .u32 (wd e)) w := fun w => he ▸ index39_all (fun i => wd (S i)) w 5 (by omega)
                  obtain ⟨y, hy, y0, y1, z0, z1, z2, z3⟩ := four_parts e
                  rw [hy] at hix
                  have HY := Lib.hid (And.intro z0 (And.intro z1 (And.intro z2 z3)))
                  have HO := Lib.hid (show out8 S (5 + 1) = out8 S 5 ++ four8 e by rw [he]; rfl)
                  clear he hy z0 z1 z2 z3
                  go_wp2_with (first | (at_builtin; refine app_own rfl (.tmp 54) (.tmp 66) rfl (w.heap.size + 1) (.slice ao8 (4 * 5) cc8) (4 * 5) (out8 S 5) rfl (own_alloc o6 _) g (some ⟨wr.heap.size, 0, none⟩) 4 4 (four8 e) rfl ?k1 ?k2 ?k3 ?k4 ?_; (case k1 => rfl); (case k2 => refine byt_four wr g _ _ _ _ e 5 (by omega) ?_ ?_ ?_ ?_ <;> (show _ = Value.int .u8 (bt _)) <;> (first | rw [HY.out.1] | rw [HY.out.2.1] | rw [HY.out.2.2.1] | rw [HY.out.2.2.2]) <;> refine congrArg (Value.int .u8) ?_ <;> first | omega | (rw [IntKind.wrap_u8]; omega)); (case k3 => omega); (case k4 => simp; omega); intro v7 w7 o7 g7))
                  go_roundg (gk - 1)
                  case measure => omega
                  case rel =>
                    rw [← HO.out] at o7
                    have hh := (f6.alloc _).grown g7 (fun b e => (o6.lt b e).1)
                    first
                      | exact ⟨5 + 1, by omega, rfl, o7, hh⟩
                      | ((repeat apply Exists.intro); exact ⟨⟨5 + 1, by omega, rfl, o7, hh⟩, rfl⟩)
                · obtain ⟨e, he⟩ : ∃ e, e = S 6 := ⟨_, rfl⟩
                  have hix : ∀ w, (Instr.index 39 (.agg (arr .u32 8 (fun i => wd (S i)))) (.int .i64 6)).run Tryd.prog w = .ok (.int .u32 (wd e)) w := fun w => he ▸ index39_all (fun i => wd (S i)) w 6 (by omega)
                  obtain ⟨y, hy, y0, y1, z0, z1, z2, z3⟩ := four_parts e
                  rw [hy] at hix
                  have HY := Lib.hid (And.intro z0 (And.intro z1 (And.intro z2 z3)))
                  have HO := Lib.hid (show out8 S (6 + 1) = out8 S 6 ++ four8 e by rw [he]; rfl)
                  clear he hy z0 z1 z2 z3
                  go_wp2_with (first | (at_builtin; refine app_own rfl (.tmp 54) (.tmp 66) rfl (w.heap.size + 1) (.slice ao8 (4 * 6) cc8) (4 * 6) (out8 S 6) rfl (own_alloc o6 _) g (some ⟨wr.heap.size, 0, none⟩) 4 4 (four8 e) rfl ?k1 ?k2 ?k3 ?k4 ?_; (case k1 => rfl); (case k2 => refine byt_four wr g _ _ _ _ e 5 (by omega) ?_ ?_ ?_ ?_ <;> (show _ = Value.int .u8 (bt _)) <;> (first | rw [HY.out.1] | rw [HY.out.2.1] | rw [HY.out.2.2.1] | rw [HY.out.2.2.2]) <;> refine congrArg (Value.int .u8) ?_ <;> first | omega | (rw [IntKind.wrap_u8]; omega)); (case k3 => omega); (case k4 => simp; omega); intro v7 w7 o7 g7))
                  go_roundg (gk - 1)
                  case measure => omega
                  case rel =>
                    rw [← HO.out] at o7
                    have hh := (f6.alloc _).grown g7 (fun b e => (o6.lt b e).1)
                    first
                      | exact ⟨6 + 1, by omega, rfl, o7, hh⟩
                      | ((repeat apply Exists.intro); exact ⟨⟨6 + 1, by omega, rfl, o7, hh⟩, rfl⟩)
                · obtain ⟨e, he⟩ : ∃ e, e = S 7 := ⟨_, rfl⟩
                  have hix : ∀ w, (Instr.index 39 (.agg (arr .u32 8 (fun i => wd (S i)))) (.int .i64 7)).run Tryd.prog w = .ok (.int .u32 (wd e)) w := fun w => he ▸ index39_all (fun i => wd (S i)) w 7 (by omega)
                  obtain ⟨y, hy, y0, y1, z0, z1, z2, z3⟩ := four_parts e
                  rw [hy] at hix
                  have HY := Lib.hid (And.intro z0 (And.intro z1 (And.intro z2 z3)))
                  have HO := Lib.hid (show out8 S (7 + 1) = out8 S 7 ++ four8 e by rw [he]; rfl)
                  clear he hy z0 z1 z2 z3
                  go_wp2_with (first | (at_builtin; refine app_own rfl (.tmp 54) (.tmp 66) rfl (w.heap.size + 1) (.slice ao8 (4 * 7) cc8) (4 * 7) (out8 S 7) rfl (own_alloc o6 _) g (some ⟨wr.heap.size, 0, none⟩) 4 4 (four8 e) rfl ?k1 ?k2 ?k3 ?k4 ?_; (case k1 => rfl); (case k2 => refine byt_four wr g _ _ _ _ e 5 (by omega) ?_ ?_ ?_ ?_ <;> (show _ = Value.int .u8 (bt _)) <;> (first | rw [HY.out.1] | rw [HY.out.2.1] | rw [HY.out.2.2.1] | rw [HY.out.2.2.2]) <;> refine congrArg (Value.int .u8) ?_ <;> first | omega | (rw [IntKind.wrap_u8]; omega)); (case k3 => omega); (case k4 => simp; omega); intro v7 w7 o7 g7))
                  go_roundg (gk - 1)
                  case measure => omega
                  case rel =>
                    rw [← HO.out] at o7
                    have hh := (f6.alloc _).grown g7 (fun b e => (o6.lt b e).1)
                    first
                      | exact ⟨7 + 1, by omega, rfl, o7, hh⟩
                      | ((repeat apply Exists.intro); exact ⟨⟨7 + 1, by omega, rfl, o7, hh⟩, rfl⟩)
                · go_wp2_with fail
                  go_ret
                  refine ⟨_, rfl, ?_, f6.kb⟩
                  have : dig T = out8 S 8 := by unfold dig; rw [HS.out, HP.out, HU.out]
                  rw [this]
                  exact own_mono o6 (by omega)
end Go.Proofs.YtinmmenjlhlpmaaDoor
