/- A block's words, walked. -/
import Derived.Test.YtinmmenjlhlpmaaDoorB
import Derived.Deep.DeepCutAuto
namespace Go.Proofs.YtinmmenjlhlpmaaDoor
open Go.ChangeShapes Go.WideShapes Go.ChangeAt Go.RowKit
set_option linter.unusedSimpArgs false
set_option linter.unusedVariables false

def updw (f : Nat → BitVec 32) (k : Nat) (v : BitVec 32) : Nat → BitVec 32 := fun i => if i = k then v else f i
theorem upd_wd (f : Nat → BitVec 32) (k : Nat) (v : BitVec 32) (i : Nat) : upd (fun i => wd (f i)) k (wd v) i = wd (updw f k v i) := by
  unfold upd updw; split <;> rfl
def four (a b c d : BitVec 8) : BitVec 32 := a.setWidth 32 <<< 24 ||| b.setWidth 32 <<< 16 ||| c.setWidth 32 <<< 8 ||| d.setWidth 32
def w16 (B : Nat → BitVec 8) (i : Nat) : BitVec 32 := four (B (4 * i)) (B (4 * i + 1)) (B (4 * i + 2)) (B (4 * i + 3))
def first (B : Nat → BitVec 8) (k : Nat) : Nat → BitVec 32 := fun i => if i < k then w16 B i else 0
theorem wds_8 (A : BitVec 32) : wd A / 8 = wd (A >>> 3) := wd_shr A 3
theorem wds_1024 (A : BitVec 32) : wd A / 1024 = wd (A >>> 10) := wd_shr A 10
theorem rc (A : BitVec 32) (n : Nat) (hn : 0 < n ∧ n < 32) (m : Int) (hm : m = n) (w : World) : Calls Tryd.prog 20 #[.int .u32 (wd A), .int .i64 m] w fun e w' => e = .returned (.int .u32 (wd (rr n A))) ∧ w' = w := by
  subst hm; exact right20 A n hn w
theorem first_succ (B : Nat → BitVec 8) (k i : Nat) : updw (first B k) k (w16 B k) i = first B (k + 1) i := by
  unfold updw first
  by_cases h : i = k
  · subst h; simp
  · by_cases h2 : i < k
    · simp [h, h2, Nat.lt_succ_of_lt h2]
    · have h3 : ¬ i < k + 1 := by omega
      simp [h, h2, h3]
def s0 (x : BitVec 32) : BitVec 32 := rr 7 x ^^^ rr 18 x ^^^ x >>> 3
def s1 (x : BitVec 32) : BitVec 32 := rr 17 x ^^^ rr 19 x ^^^ x >>> 10
def wnext (W : Nat → BitVec 32) (i : Nat) : BitVec 32 := W (i - 16) + W (i - 7) + s0 (W (i - 15)) + s1 (W (i - 2))
def sch (B : Nat → BitVec 8) : Nat → (Nat → BitVec 32)
  | 0 => first B 16
  | k + 1 => updw (sch B k) (16 + k) (wnext (sch B k) (16 + k))
theorem bts_wide (A : BitVec 8) : IntKind.u32.wrap (bt A) = wd (A.setWidth 32) := by have := bt_bd A; rw [IntKind.wrap_u32, ← bt_wide]; omega
/-- A slice's first 64 bytes. -/
def Blk64 (w : World) (ad : Addr) (B : Nat → BitVec 8) : Prop := ad.block < w.heap.size ∧ ∀ j, j < 64 → w.cell? (ad.add j) = some (.int .u8 (bt (B j)))
theorem add_block (a : Addr) (n : Nat) : (a.add n).block = a.block := by unfold Addr.add; split <;> rfl
theorem Blk64.far {w : World} {ad : Addr} {B : Nat → BitVec 8} (h : Blk64 w ad B) (j : Nat) (hj : j < 64) (h0 : 0 < j) : w.cell? ⟨ad.block, ad.off + j, none⟩ = some (.int .u8 (bt (B j))) := by
  have := h.2 j hj
  unfold Addr.add at this
  rw [if_neg (by omega)] at this
  exact this
theorem Blk64.below {w w' : World} {ad : Addr} {B : Nat → BitVec 8} {n : Nat} (h : Blk64 w ad B) (k : Below n w w') (hn : ad.block < n) : Blk64 w' ad B :=
  ⟨Nat.lt_of_lt_of_le h.1 (Nat.le_trans (Nat.le_refl _) (by have := k.size; omega)), fun j hj => (k.cell (p := ad.add j) (by rw [add_block]; exact hn)).trans (h.2 j hj)⟩

set_option maxRecDepth 20000 in
set_option maxHeartbeats 4000000 in
theorem words19 (ad : Addr) (n c : Nat) (B : Nat → BitVec 8) (w : World) (hn : 64 ≤ n) (hm : n ≤ 9223372036854775807) (hB : Blk64 w ad B) :
    Calls Tryd.prog 19 #[.slice (some ad) n c] w fun e w' => e = .returned (.agg (arr .u32 64 fun i => wd (sch B 48 i))) ∧ Below w.heap.size w w' := by
  have hz := zero43
  have hlt := hB.1
  obtain ⟨w0, hw0⟩ : ∃ w0 : World, w0 = (w.alloc (.cells (arr .u32 64 fun _ => 0) 43)).alloc (.cells (arr .u32 64 fun _ => 0) 43) := ⟨_, rfl⟩
  have r2 : Row w0 w.heap.size 43 .u32 64 (fun _ => 0) #[] := by rw [hw0]; exact (Row.new w 43 .u32 64 (fun _ => 0)).alloc _
  have r3 : Row w0 (w.heap.size + 1) 43 .u32 64 (fun _ => 0) #[] := by
    have := Row.new (w.alloc (.cells (arr .u32 64 fun _ => 0) 43)) 43 .u32 64 (fun _ => 0)
    rw [hw0]; simpa using this
  have hb0 : Below w.heap.size w w0 := by rw [hw0]; exact ((Below.refl _ _).alloc (Nat.le_refl _) _).alloc (by simp) _
  have HW := Lib.hid hw0
  go_enter Tryd.func19, Tryd.ntmps19
  go_upto_region 2 with (fail)
  rw [← HW.out]
  clear hw0 HW hz
  go_wp2_with fail
  go_loopw [8] (fun v wr => ∃ k : Nat, k ≤ 16 ∧ v = .int .i64 k ∧ Row wr (w.heap.size + 1) 43 .u32 64 (fun i => wd (first B k i)) #[] ∧ Row wr w.heap.size 43 .u32 64 (fun _ => 0) #[] ∧ Below w.heap.size w wr) (fun v wr => 16 - (intOf v).toNat)
  case atStart => exact ⟨0, by omega, rfl, r3.congr (fun i _ => by simp [first, wd]), r2, hb0⟩
  case round =>
    clear r2 r3 hb0
    obtain ⟨k, hk, rfl, q1, q2, q3⟩ := hrel
    by_cases hlt2 : k < 16
    · have hB1 := hB.below q3 hlt
      have c0 := hB1.2 (4 * k) (by omega)
      have c1 := hB1.far (4 * k + 1) (by omega) (by omega)
      have c2 := hB1.far (4 * k + 2) (by omega) (by omega)
      have c3 := hB1.far (4 * k + 3) (by omega) (by omega)
      have HF := Lib.hid (show four (B (4 * k)) (B (4 * k + 1)) (B (4 * k + 2)) (B (4 * k + 3)) = w16 B k from rfl)
      generalize B (4 * k) = x0 at *
      generalize B (4 * k + 1) = x1 at *
      generalize B (4 * k + 2) = x2 at *
      generalize B (4 * k + 3) = x3 at *
      have e0 := bt_bd x0; have e1 := bt_bd x1; have e2 := bt_bd x2; have e3 := bt_bd x3
      have t0 : 0 ≤ 4 * (k : Int) := by omega
      have t1 : 4 * (k : Int) < (n : Int) := by omega
      have t2 : (4 * (k : Int)).toNat = 4 * k := by omega
      have t3 : IntKind.i64.wrap (4 * (k : Int)) = 4 * (k : Int) := IntWalk.i64_in _ (by omega)
      have t4 : 0 ≤ 4 * (k : Int) + 1 := by omega
      have t5 : 4 * (k : Int) + 1 < (n : Int) := by omega
      have t6 : (4 * (k : Int) + 1).toNat = 4 * k + 1 := by omega
      have t7 : IntKind.i64.wrap (4 * (k : Int) + 1) = 4 * (k : Int) + 1 := IntWalk.i64_in _ (by omega)
      have t8 : 0 ≤ 4 * (k : Int) + 2 := by omega
      have t9 : 4 * (k : Int) + 2 < (n : Int) := by omega
      have t10 : (4 * (k : Int) + 2).toNat = 4 * k + 2 := by omega
      have t11 : IntKind.i64.wrap (4 * (k : Int) + 2) = 4 * (k : Int) + 2 := IntWalk.i64_in _ (by omega)
      have t12 : 0 ≤ 4 * (k : Int) + 3 := by omega
      have t13 : 4 * (k : Int) + 3 < (n : Int) := by omega
      have t14 : (4 * (k : Int) + 3).toNat = 4 * k + 3 := by omega
      have t15 : IntKind.i64.wrap (4 * (k : Int) + 3) = 4 * (k : Int) + 3 := IntWalk.i64_in _ (by omega)
      obtain ⟨a0, h0⟩ : ∃ a, a = x0.setWidth 32 := ⟨_, rfl⟩
      obtain ⟨a1, h1⟩ : ∃ a, a = x1.setWidth 32 := ⟨_, rfl⟩
      obtain ⟨a2, h2⟩ : ∃ a, a = x2.setWidth 32 := ⟨_, rfl⟩
      obtain ⟨a3, h3⟩ : ∃ a, a = x3.setWidth 32 := ⟨_, rfl⟩
      obtain ⟨d0, i0⟩ : ∃ a, a = a0 <<< 24 := ⟨_, rfl⟩
      obtain ⟨d1, i1⟩ : ∃ a, a = a1 <<< 16 := ⟨_, rfl⟩
      obtain ⟨d2, i2⟩ : ∃ a, a = a2 <<< 8 := ⟨_, rfl⟩
      obtain ⟨m1, j1⟩ : ∃ a, a = d0 ||| d1 := ⟨_, rfl⟩
      obtain ⟨m2, j2⟩ : ∃ a, a = m1 ||| d2 := ⟨_, rfl⟩
      obtain ⟨m3, j3⟩ : ∃ a, a = m2 ||| a3 := ⟨_, rfl⟩
      have u0 : IntKind.u32.wrap (bt x0) = wd a0 := h0 ▸ bts_wide x0
      have u1 : IntKind.u32.wrap (bt x1) = wd a1 := h1 ▸ bts_wide x1
      have u2 : IntKind.u32.wrap (bt x2) = wd a2 := h2 ▸ bts_wide x2
      have u3 : IntKind.u32.wrap (bt x3) = wd a3 := h3 ▸ bts_wide x3
      have v0 : IntKind.u32.wrap (wd a0 * 16777216) = wd d0 := i0 ▸ wds_shl a0 24
      have v1 : IntKind.u32.wrap (wd a1 * 65536) = wd d1 := i1 ▸ wds_shl a1 16
      have v2 : IntKind.u32.wrap (wd a2 * 256) = wd d2 := i2 ▸ wds_shl a2 8
      have k1 : bits .or .u32 (wd d0) (wd d1) = wd m1 := j1 ▸ wd_or d0 d1
      have k2 : bits .or .u32 (wd m1) (wd d2) = wd m2 := j2 ▸ wd_or m1 d2
      have k3 : bits .or .u32 (wd m2) (wd a3) = wd m3 := j3 ▸ wd_or m2 a3
      have HM : Hid (m3 = w16 B k) := Lib.hid (by rw [← HF.out, j3, j2, j1, i0, i1, i2, h0, h1, h2, h3]; rfl)
      clear h0 h1 h2 h3 i0 i1 i2 j1 j2 j3
      go_wp2_with fail
      go_still_tail 34, (by kernel_rfl)
      change wpList _ _ _ _ _ wr.drew
      have q1 := q1.drew; have q2 := q2.drew; have q3 := q3.drew
      clear c0 c1 c2 c3 hB1
      generalize wr.drew = w5 at *
      have f0 := q1.cell k (by omega)
      have f1 := q1.frozen k
      have s1 := (q1.set k (wd m3) (by omega)).congr (g := fun i => wd (first B (k + 1) i)) (fun i _ => by rw [upd_wd, HM.out, first_succ])
      have s2 := q2.other ⟨w.heap.size + 1, k, none⟩ (.int .u32 (wd m3)) (by simp)
      have s3 := q3.setCell (p := ⟨w.heap.size + 1, k, none⟩) (by simp) (.int .u32 (wd m3))
      clear q1 q2 q3
      go_wp2_with fail
      go_roundw
      case rel => exact ⟨k + 1, by omega, by go_num, s1, s2, s3⟩
      case measure => simp [intOf]; omega
    · have e1 : k = 16 := by omega
      have E1 := Lib.hid e1
      have q1 := q1.congr (g := fun i => wd (sch B 0 i)) (fun i _ => by rw [e1]; rfl)
      have hd : decide ((k : Int) < 16) = false := by simp; omega
      clear e1
      go_wp2_with fail
      obtain ⟨wo, hwo⟩ : ∃ wo : World, wo = wr := ⟨_, rfl⟩
      go_loopw [5] (fun v wr => ∃ k : Nat, k ≤ 48 ∧ v = .int .i64 (16 + (k : Int)) ∧ Row wr (w.heap.size + 1) 43 .u32 64 (fun i => wd (sch B k i)) #[] ∧ Row wr w.heap.size 43 .u32 64 (fun _ => 0) #[] ∧ Below w.heap.size w wr) (fun v wr => 64 - (intOf v).toNat)
      case atStart => exact ⟨0, by omega, by go_num, q1, q2, q3⟩
      case round =>
        clear q1 q2 q3 hwo wo
        obtain ⟨k, hk, rfl, q1, q2, q3⟩ := hrel
        by_cases hlt2 : k < 48
        · have HN := Lib.hid (show sch B (k + 1) = updw (sch B k) (16 + k) (wnext (sch B k) (16 + k)) from rfl)
          have HX : Hid (wnext (sch B k) (16 + k) = sch B k k + sch B k (k + 9) + s0 (sch B k (k + 1)) + s1 (sch B k (k + 14))) := Lib.hid (by unfold wnext; rw [show 16 + k - 16 = k by omega, show 16 + k - 7 = k + 9 by omega, show 16 + k - 15 = k + 1 by omega, show 16 + k - 2 = k + 14 by omega])
          have c0 := q1.cell (k + 1) (by omega)
          have c1 := q1.cell (k + 14) (by omega)
          have c2 := q1.cell k (by omega)
          have c3 := q1.cell (k + 9) (by omega)
          generalize sch B k (k + 1) = a at *
          generalize sch B k (k + 14) = b at *
          generalize C2 : sch B k k = cc at *
          generalize C3 : sch B k (k + 9) = d at *
          have C2 := Lib.hid C2; have C3 := Lib.hid C3
          have t0 : 0 ≤ 16 + (k : Int) - 15 := by omega
          have t4 : 15 ≤ 16 + (k : Int) := by omega
          have t1 : 16 + (k : Int) - 15 < 64 := by omega
          have t2 : (16 + (k : Int) - 15).toNat = k + 1 := by omega
          have t3 : IntKind.i64.wrap (16 + (k : Int) - 15) = 16 + (k : Int) - 15 := IntWalk.i64_in _ (by omega)
          have p0 : 0 ≤ 16 + (k : Int) - 2 := by omega
          have p4 : 2 ≤ 16 + (k : Int) := by omega
          have p1 : 16 + (k : Int) - 2 < 64 := by omega
          have p2 : (16 + (k : Int) - 2).toNat = k + 14 := by omega
          have p3 : IntKind.i64.wrap (16 + (k : Int) - 2) = 16 + (k : Int) - 2 := IntWalk.i64_in _ (by omega)
          have r0 : 0 ≤ 16 + (k : Int) - 16 := by omega
          have r4 : 16 ≤ 16 + (k : Int) := by omega
          have r1 : 16 + (k : Int) - 16 < 64 := by omega
          have r2 : (16 + (k : Int) - 16).toNat = k := by omega
          have r3 : IntKind.i64.wrap (16 + (k : Int) - 16) = 16 + (k : Int) - 16 := IntWalk.i64_in _ (by omega)
          have z0 : 0 ≤ 16 + (k : Int) - 7 := by omega
          have z4 : 7 ≤ 16 + (k : Int) := by omega
          have z1 : 16 + (k : Int) - 7 < 64 := by omega
          have z2 : (16 + (k : Int) - 7).toNat = k + 9 := by omega
          have z3 : IntKind.i64.wrap (16 + (k : Int) - 7) = 16 + (k : Int) - 7 := IntWalk.i64_in _ (by omega)
          have o0 : 0 ≤ 16 + (k : Int) := by omega
          have o1 : 16 + (k : Int) < 64 := by omega
          have o2 : (16 + (k : Int)).toNat = 16 + k := by omega
          go_wp2_with fail
          go_still (by kernel_rfl)
          change Exit.then _ _ _ _ wr.drew
          have q1 := q1.drew; have q2 := q2.drew; have q3 := q3.drew
          clear c0 c1 c2 c3
          generalize wr.drew = w5 at *
          have c2 := q1.cell k (by omega)
          have c3 := q1.cell (k + 9) (by omega)
          rw [C2.out] at c2
          rw [C3.out] at c3
          obtain ⟨p1, g1⟩ : ∃ x, x = rr 7 a := ⟨_, rfl⟩
          obtain ⟨p2, g2⟩ : ∃ x, x = rr 18 a := ⟨_, rfl⟩
          obtain ⟨p3, g3⟩ : ∃ x, x = a >>> 3 := ⟨_, rfl⟩
          obtain ⟨p4, g4⟩ : ∃ x, x = rr 17 b := ⟨_, rfl⟩
          obtain ⟨p5, g5⟩ : ∃ x, x = rr 19 b := ⟨_, rfl⟩
          obtain ⟨p6, g6⟩ : ∃ x, x = b >>> 10 := ⟨_, rfl⟩
          obtain ⟨n1, f1⟩ : ∃ x, x = cc + d := ⟨_, rfl⟩
          obtain ⟨n2, f2⟩ : ∃ x, x = p1 ^^^ p2 := ⟨_, rfl⟩
          obtain ⟨n3, f3⟩ : ∃ x, x = n2 ^^^ p3 := ⟨_, rfl⟩
          obtain ⟨n4, f4⟩ : ∃ x, x = n1 + n3 := ⟨_, rfl⟩
          obtain ⟨n5, f5⟩ : ∃ x, x = p4 ^^^ p5 := ⟨_, rfl⟩
          obtain ⟨n6, f6⟩ : ∃ x, x = n5 ^^^ p6 := ⟨_, rfl⟩
          obtain ⟨n7, f7⟩ : ∃ x, x = n4 + n6 := ⟨_, rfl⟩
          have v1 : wd a / 8 = wd p3 := g3 ▸ wds_8 a
          have v2 : wd b / 1024 = wd p6 := g6 ▸ wds_1024 b
          have u1 : IntKind.u32.wrap (wd cc + wd d) = wd n1 := f1 ▸ wds_add cc d
          have u2 : bits .xor .u32 (wd p1) (wd p2) = wd n2 := f2 ▸ wd_xor p1 p2
          have u3 : bits .xor .u32 (wd n2) (wd p3) = wd n3 := f3 ▸ wd_xor n2 p3
          have u4 : IntKind.u32.wrap (wd n1 + wd n3) = wd n4 := f4 ▸ wds_add n1 n3
          have u5 : bits .xor .u32 (wd p4) (wd p5) = wd n5 := f5 ▸ wd_xor p4 p5
          have u6 : bits .xor .u32 (wd n5) (wd p6) = wd n6 := f6 ▸ wd_xor n5 p6
          have u7 : IntKind.u32.wrap (wd n4 + wd n6) = wd n7 := f7 ▸ wds_add n4 n6
          have M1 := Lib.hid (rc a 7 (by omega) 7 rfl w5.drew)
          have M2 := Lib.hid (rc a 18 (by omega) 18 rfl w5.drew)
          have M3 := Lib.hid (rc b 17 (by omega) 17 rfl w5.drew)
          have M4 := Lib.hid (rc b 19 (by omega) 19 rfl w5.drew)
          rw [← g1] at M1
          rw [← g2] at M2
          rw [← g4] at M3
          rw [← g5] at M4
          have HM : Hid (sch B (k + 1) = updw (sch B k) (16 + k) n7) := Lib.hid (by rw [HN.out, HX.out, f7, f6, f5, f4, f3, f2, f1, g1, g2, g3, g4, g5, g6]; rfl)
          clear g1 g2 g3 g4 g5 g6 f1 f2 f3 f4 f5 f6 f7
          go_wp2_with fail
          go_still_tail 28, (by kernel_rfl)
          still_call M1.out
          repeat still_step
          still_call M2.out
          repeat still_step
          still_call M3.out
          repeat still_step
          still_call M4.out
          repeat still_step
          refine wpStill_nil ?_
          change wpList _ _ _ _ _ w5.drew
          have q1 := q1.drew; have q2 := q2.drew; have q3 := q3.drew
          clear c2 c3 M1 M2 M3 M4
          generalize w5.drew = w6 at *
          have f0 := q1.cell (16 + k) (by omega)
          have f1 := q1.frozen (16 + k)
          have s1 := (q1.set (16 + k) (wd n7) (by omega)).congr (g := fun i => wd (sch B (k + 1) i)) (fun i _ => by rw [upd_wd, HM.out])
          have s2 := q2.other ⟨w.heap.size + 1, 16 + k, none⟩ (.int .u32 (wd n7)) (by simp)
          have s3 := q3.setCell (p := ⟨w.heap.size + 1, 16 + k, none⟩) (by simp) (.int .u32 (wd n7))
          clear q1 q2 q3
          go_wp2_with fail
          go_roundw
          case rel => exact ⟨k + 1, by omega, by go_num, s1, s2, s3⟩
          case measure => simp [intOf]; omega
        · have e1 : k = 48 := by omega
          subst e1
          have r4 := q2.setRow (m := 64) (fun i => wd (sch B 48 i))
          have rb := below_setRow q3 (g := w.heap.size) (by omega) (arr .u32 64 fun i => wd (sch B 48 i))
          go_wp2_with (first | (with_reducible refine load43 rfl (.tmp 3) rfl (w.heap.size + 1) rfl q1 ?_) | (with_reducible refine store43 rfl (.tmp 2) (.tmp 88) rfl w.heap.size _ rfl rfl q2 ?_))
          exact ret43 rfl w.heap.size rfl r4 rfl ⟨rfl, rb⟩
end Go.Proofs.YtinmmenjlhlpmaaDoor
