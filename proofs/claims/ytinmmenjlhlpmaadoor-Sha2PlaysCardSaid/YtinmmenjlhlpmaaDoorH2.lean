/- The reference's block, walked. -/
import Derived.Test.YtinmmenjlhlpmaaDoorH1
import Derived.Outline
import Derived.StillTailTactics
import Derived.Deep.QuietTactic
import Derived.BigQuiet
import Derived.Deep.LoopGhost
namespace Go.Proofs.YtinmmenjlhlpmaaDoor
open Go.ChangeShapes Go.WideShapes Go.ChangeAt Go.RowKit
set_option linter.unusedSimpArgs false
set_option linter.unusedVariables false

theorem tq (A : BitVec 32) (n : Nat) (hn : 0 < n ∧ n < 32) (m : Int) (hm : m = n) (w : World) (k : Nat) : Calls Tryd.prog 18 #[.int .u32 (wd A), .int .i64 m] (w.drewN k) fun e w'' => e = .returned (.int .u32 (wd (rr n A))) ∧ ∃ m, w'' = w.drewN m := by
  subst hm
  exact Calls.quiet_of ((turned18 A n hn _).mono fun e w' ⟨h1, h2⟩ => ⟨h1, 1, h2⟩)
/-- The facts of a block's walk. -/
structure BF (w0 : World) (bS b5 b6 : Nat) (S : Nat → BitVec 32) (W : Nat → BitVec 32) (w : World) : Prop where
  rS : Row w bS 36 .u32 8 (fun i => wd (S i)) #[]
  rR : Row w (bS + 1) 36 .u32 8 (fun _ => 0) #[]
  rK : Row w b5 43 .u32 64 (fun i => wd (kk i)) #[]
  rW : Row w b6 43 .u32 64 (fun i => wd (W i)) #[]
  kb : Below bS w0 w
  n5 : bS + 2 ≤ b5
  n6 : b5 < b6
theorem BF.drew {w0 w : World} {bS b5 b6 : Nat} {S W : Nat → BitVec 32} (h : BF w0 bS b5 b6 S W w) : BF w0 bS b5 b6 S W w.drew := ⟨h.rS.drew, h.rR.drew, h.rK.drew, h.rW.drew, h.kb.drew, h.n5, h.n6⟩
theorem Row.drewN {w : World} {b n : Nat} {t : TypeId} {k : IntKind} {f : Nat → Int} {tl : Array Value} (h : Row w b t k n f tl) (m : Nat) : Row (w.drewN m) b t k n f tl := ⟨h.at_⟩
theorem below_drewN' {B n : Nat} {a w : World} (h : Below B a w) : Below B a (w.drewN n) := ⟨h.os, h.tape, h.output, h.size, h.block⟩
theorem BF.drewN {w0 w : World} {bS b5 b6 : Nat} {S W : Nat → BitVec 32} (h : BF w0 bS b5 b6 S W w) (n : Nat) : BF w0 bS b5 b6 S W (w.drewN n) := ⟨h.rS.drewN n, h.rR.drewN n, h.rK.drewN n, h.rW.drewN n, below_drewN' h.kb, h.n5, h.n6⟩
theorem BF.word {w0 w : World} {bS b5 b6 : Nat} {S W W' : Nat → BitVec 32} (h : BF w0 bS b5 b6 S W w) (k : Nat) (x : BitVec 32) (hk : k < 64) (e : ∀ i, updw W k x i = W' i) : BF w0 bS b5 b6 S W' (w.setCell ⟨b6, k, none⟩ (.int .u32 (wd x))) :=
  ⟨h.rS.other _ _ (by have := h.n5; have := h.n6; simp; omega), h.rR.other _ _ (by have := h.n5; have := h.n6; simp; omega), h.rK.other _ _ (by have := h.n6; simp; omega), (h.rW.set k (wd x) hk).congr (fun i _ => by rw [upd_wd, e]), h.kb.setCell (by have := h.n5; have := h.n6; simp; omega) _, h.n5, h.n6⟩
theorem sch_comm (B : Nat → BitVec 8) (k : Nat) : sch B (k + 1) = updw (sch B k) (16 + k) (sch B k k + s0 (sch B k (k + 1)) + sch B k (k + 9) + s1 (sch B k (k + 14))) := by
  show updw (sch B k) (16 + k) (wnext (sch B k) (16 + k)) = _
  unfold wnext
  rw [show 16 + k - 16 = k by omega, show 16 + k - 7 = k + 9 by omega, show 16 + k - 15 = k + 1 by omega, show 16 + k - 2 = k + 14 by omega]
  congr 2
  rw [BitVec.add_assoc, BitVec.add_assoc, BitVec.add_comm (sch B k (k + 9))]
theorem ch_eq (e f g : BitVec 32) : (e &&& f) ^^^ (~~~e &&& g) = g ^^^ (e &&& (f ^^^ g)) := by
  apply BitVec.eq_of_getLsbD_eq
  intro i hi
  simp only [BitVec.getLsbD_xor, BitVec.getLsbD_and, BitVec.getLsbD_not]
  cases e.getLsbD i <;> cases f.getLsbD i <;> cases g.getLsbD i <;> simp [hi]
theorem maj_eq (a b c : BitVec 32) : (a &&& b) ^^^ (a &&& c) ^^^ (b &&& c) = (a &&& b) ||| (c &&& (a ||| b)) := by
  apply BitVec.eq_of_getLsbD_eq
  intro i hi
  simp only [BitVec.getLsbD_xor, BitVec.getLsbD_and, BitVec.getLsbD_or]
  cases a.getLsbD i <;> cases b.getLsbD i <;> cases c.getLsbD i <;> rfl
theorem wd_not (A : BitVec 32) : bits .xor .u32 4294967295 (wd A) = wd (~~~A) := by
  have e : (4294967295 : Int) = wd (BitVec.allOnes 32) := by decide
  rw [e, wd_xor]
  congr 1
theorem wd_notm (A : BitVec 32) : bits .xor .u32 IntKind.u32.max (wd A) = wd (~~~A) := by
  rw [show IntKind.u32.max = 4294967295 by decide]; exact wd_not A
set_option maxRecDepth 20000 in
set_option maxHeartbeats 16000000 in
theorem rblock14 (ad : Addr) (n c : Nat) (B : Nat → BitVec 8) (S : Nat → BitVec 32) (w : World) (hn : 64 ≤ n) (hm : n ≤ 9223372036854775807) (hB : Blk64 w ad B) :
    Calls Tryd.prog 14 #[.agg (arr .u32 8 fun i => wd (S i)), .slice (some ad) n c] w fun e w' => e = .returned (.agg (arr .u32 8 fun i => wd (comp S B i))) ∧ Below w.heap.size w w' := by
  have hz := zero36
  have hz2 := zero43
  have hlt := hB.1
  have hS1 := (Row.new w 36 .u32 8 (fun i => wd (S i))).alloc (.cells (arr .u32 8 fun _ => 0) 36)
  have hR1 : Row ((w.alloc (.cells (arr .u32 8 fun i => wd (S i)) 36)).alloc (.cells (arr .u32 8 fun _ => 0) 36)) (w.heap.size + 1) 36 .u32 8 (fun _ => 0) #[] := by
    have := Row.new (w.alloc (.cells (arr .u32 8 fun i => wd (S i)) 36)) 36 .u32 8 (fun _ => 0)
    simpa using this
  have hb1 : Below w.heap.size w ((w.alloc (.cells (arr .u32 8 fun i => wd (S i)) 36)).alloc (.cells (arr .u32 8 fun _ => 0) 36)) := ((Below.refl _ _).alloc (Nat.le_refl _) _).alloc (by simp) _
  have hs1 : ((w.alloc (.cells (arr .u32 8 fun i => wd (S i)) 36)).alloc (.cells (arr .u32 8 fun _ => 0) 36)).heap.size = w.heap.size + 2 := by simp
  have HS1 := Lib.hid hs1
  clear hs1
  go_enter Tryd.func14, Tryd.ntmps14
  go_wp2_with fail
  obtain ⟨w1, hw1⟩ : ∃ w1 : World, (w.alloc (.cells (arr .u32 8 fun i => wd (S i)) 36)).alloc (.cells (arr .u32 8 fun _ => 0) 36) = w1 := ⟨_, rfl⟩
  rw [hw1] at hS1 hR1 hb1 HS1 ⊢
  clear hw1
  refine (kk_arr w1).mono ?_
  rintro e w2 ⟨rfl, k2⟩
  have hS2 := hS1.below k2 hS1.lt
  have hR2 := hR1.below k2 hR1.lt
  have hb2 := hb1.trans (k2.mono hb1.size)
  have hz2' : w.heap.size + 2 ≤ w2.heap.size := by have := k2.size; have := HS1.out; omega
  have r5 := Row.new w2 43 .u32 64 (fun _ => 0)
  clear hS1 hR1 hb1 k2 HS1
  go_wp2_with (first | (with_reducible refine store43 rfl (.tmp 5) (.tmp 18) rfl w2.heap.size _ rfl rfl r5 ?_))
  obtain ⟨w3, hw3⟩ : ∃ w3 : World, ((w2.alloc (.cells (arr .u32 64 fun _ => 0) 43)).setRow w2.heap.size (arr .u32 64 fun i => wd (kk i))).alloc (.cells (arr .u32 64 fun _ => 0) 43) = w3 := ⟨_, rfl⟩
  have hf : BF w w.heap.size w2.heap.size (w2.heap.size + 1) S (first B 0) w3 := by
    rw [← hw3]
    refine ⟨((hS2.alloc _).setRow_other _ (by omega)).alloc _, ((hR2.alloc _).setRow_other _ (by omega)).alloc _, (r5.setRow _).alloc _, ?_, (below_setRow (hb2.alloc hb2.size _) (by omega) _).alloc (by simp; omega) _, hz2', by omega⟩
    have := Row.new ((w2.alloc (.cells (arr .u32 64 fun _ => 0) 43)).setRow w2.heap.size (arr .u32 64 fun i => wd (kk i))) 43 .u32 64 (fun _ => 0)
    refine Row.congr (f := fun _ => 0) (by simpa using this) (fun i _ => by simp [first, wd])
  rw [hw3]
  clear hw3 hS2 hR2 hb2 r5 hz2
  generalize w2.heap.size = b5 at *
  go_loopw [7] (fun v wr => ∃ k : Nat, k ≤ 16 ∧ v = .int .i64 k ∧ BF w w.heap.size b5 (b5 + 1) S (first B k) wr) (fun v wr => 16 - (intOf v).toNat)
  case atStart => exact ⟨0, by omega, rfl, hf⟩
  case round =>
    clear hf
    obtain ⟨k, hk, rfl, hf⟩ := hrel
    by_cases hlt2 : k < 16
    · have q3 := hf.kb
      have hB1 := hB.below q3 hlt
      have c0 := hB1.2 (4 * k) (by omega)
      have c1 := hB1.far (4 * k + 1) (by omega) (by omega)
      have c2 := hB1.far (4 * k + 2) (by omega) (by omega)
      have c3 := hB1.far (4 * k + 3) (by omega) (by omega)
      have HF := Lib.hid (show four (B (4 * k)) (B (4 * k + 1)) (B (4 * k + 2)) (B (4 * k + 3)) = w16 B k from rfl)
      generalize B (4 * k) = x0 at *
      generalize B (4 * k + 1) = x1 at *
      generalize B (4 * k + 2) = x2 at *
      generalize B (4 * k + 3) = x3 at *
      have e0 := bt_bd x0; have e1 := bt_bd x1; have e2 := bt_bd x2; have e3 := bt_bd x3
      have t0 : 0 ≤ 4 * (k : Int) := by omega
      have t1 : 4 * (k : Int) < (n : Int) := by omega
      have t2 : (4 * (k : Int)).toNat = 4 * k := by omega
      have t3 : IntKind.i64.wrap (4 * (k : Int)) = 4 * (k : Int) := IntWalk.i64_in _ (by omega)
      have t4 : 0 ≤ 4 * (k : Int) + 1 := by omega
      have t5 : 4 * (k : Int) + 1 < (n : Int) := by omega
      have t6 : (4 * (k : Int) + 1).toNat = 4 * k + 1 := by omega
      have t7 : IntKind.i64.wrap (4 * (k : Int) + 1) = 4 * (k : Int) + 1 := IntWalk.i64_in _ (by omega)
      have t8 : 0 ≤ 4 * (k : Int) + 2 := by omega
      have t9 : 4 * (k : Int) + 2 < (n : Int) := by omega
      have t10 : (4 * (k : Int) + 2).toNat = 4 * k + 2 := by omega
      have t11 : IntKind.i64.wrap (4 * (k : Int) + 2) = 4 * (k : Int) + 2 := IntWalk.i64_in _ (by omega)
      have t12 : 0 ≤ 4 * (k : Int) + 3 := by omega
      have t13 : 4 * (k : Int) + 3 < (n : Int) := by omega
      have t14 : (4 * (k : Int) + 3).toNat = 4 * k + 3 := by omega
      have t15 : IntKind.i64.wrap (4 * (k : Int) + 3) = 4 * (k : Int) + 3 := IntWalk.i64_in _ (by omega)
      obtain ⟨a0, h0⟩ : ∃ a, a = x0.setWidth 32 := ⟨_, rfl⟩
      obtain ⟨a1, h1⟩ : ∃ a, a = x1.setWidth 32 := ⟨_, rfl⟩
      obtain ⟨a2, h2⟩ : ∃ a, a = x2.setWidth 32 := ⟨_, rfl⟩
      obtain ⟨a3, h3⟩ : ∃ a, a = x3.setWidth 32 := ⟨_, rfl⟩
      obtain ⟨d0, i0⟩ : ∃ a, a = a0 <<< 24 := ⟨_, rfl⟩
      obtain ⟨d1, i1⟩ : ∃ a, a = a1 <<< 16 := ⟨_, rfl⟩
      obtain ⟨d2, i2⟩ : ∃ a, a = a2 <<< 8 := ⟨_, rfl⟩
      obtain ⟨m1, j1⟩ : ∃ a, a = d0 ||| d1 := ⟨_, rfl⟩
      obtain ⟨m2, j2⟩ : ∃ a, a = m1 ||| d2 := ⟨_, rfl⟩
      obtain ⟨m3, j3⟩ : ∃ a, a = m2 ||| a3 := ⟨_, rfl⟩
      have u0 : IntKind.u32.wrap (bt x0) = wd a0 := h0 ▸ bts_wide x0
      have u1 : IntKind.u32.wrap (bt x1) = wd a1 := h1 ▸ bts_wide x1
      have u2 : IntKind.u32.wrap (bt x2) = wd a2 := h2 ▸ bts_wide x2
      have u3 : IntKind.u32.wrap (bt x3) = wd a3 := h3 ▸ bts_wide x3
      have v0 : IntKind.u32.wrap (wd a0 * 16777216) = wd d0 := i0 ▸ wds_shl a0 24
      have v1 : IntKind.u32.wrap (wd a1 * 65536) = wd d1 := i1 ▸ wds_shl a1 16
      have v2 : IntKind.u32.wrap (wd a2 * 256) = wd d2 := i2 ▸ wds_shl a2 8
      have k1 : bits .or .u32 (wd d0) (wd d1) = wd m1 := j1 ▸ wd_or d0 d1
      have k2 : bits .or .u32 (wd m1) (wd d2) = wd m2 := j2 ▸ wd_or m1 d2
      have k3 : bits .or .u32 (wd m2) (wd a3) = wd m3 := j3 ▸ wd_or m2 a3
      have HM : Hid (m3 = w16 B k) := Lib.hid (by rw [← HF.out, j3, j2, j1, i0, i1, i2, h0, h1, h2, h3]; rfl)
      clear h0 h1 h2 h3 i0 i1 i2 j1 j2 j3
      go_wp2_with fail
      go_still_tail 34, (by kernel_rfl)
      change wpList _ _ _ _ _ wr.drew
      have hf := hf.drew
      clear c0 c1 c2 c3 hB1 q3
      generalize wr.drew = w5 at *
      have f0 := hf.rW.cell k (by omega)
      have f1 := hf.rW.frozen k
      have s1 := hf.word (W' := first B (k + 1)) k m3 (by omega) (fun i => by rw [HM.out, first_succ])
      clear hf
      go_wp2_with fail
      go_roundw
      case rel => exact ⟨k + 1, by omega, by go_num, s1⟩
      case measure => simp [intOf]; omega
    · have e1 : k = 16 := by omega
      subst e1
      have hd : decide ((16 : Int) < 16) = false := by decide
      go_wp2_with fail
      obtain ⟨wo, hwo⟩ : ∃ wo : World, wo = wr := ⟨_, rfl⟩
      go_loopw [8] (fun v wr => ∃ k : Nat, k ≤ 48 ∧ v = .int .i64 (16 + (k : Int)) ∧ BF w w.heap.size b5 (b5 + 1) S (sch B k) wr) (fun v wr => 64 - (intOf v).toNat)
      case atStart => exact ⟨0, by omega, by go_num, hf⟩
      case round =>
        clear hf hwo wo
        obtain ⟨k, hk, rfl, hf⟩ := hrel
        by_cases hlt2 : k < 48
        · have HX := Lib.hid (sch_comm B k)
          have c0 := hf.rW.cell (k + 1) (by omega)
          have c1 := hf.rW.cell (k + 14) (by omega)
          have c2 := hf.rW.cell k (by omega)
          have c3 := hf.rW.cell (k + 9) (by omega)
          obtain ⟨a, ha⟩ : ∃ a, a = sch B k (k + 1) := ⟨_, rfl⟩
          obtain ⟨b, hb⟩ : ∃ a, a = sch B k (k + 14) := ⟨_, rfl⟩
          obtain ⟨cc, hcc⟩ : ∃ a, a = sch B k k := ⟨_, rfl⟩
          obtain ⟨d, hd⟩ : ∃ a, a = sch B k (k + 9) := ⟨_, rfl⟩
          rw [← ha, ← hb, ← hcc, ← hd] at HX
          rw [← ha] at c0
          rw [← hb] at c1
          rw [← hcc] at c2
          rw [← hd] at c3
          clear ha hb hcc hd
          have t0 : 0 ≤ 16 + (k : Int) - 15 := by omega
          have t4 : 15 ≤ 16 + (k : Int) := by omega
          have t1 : 16 + (k : Int) - 15 < 64 := by omega
          have t2 : (16 + (k : Int) - 15).toNat = k + 1 := by omega
          have t3 : IntKind.i64.wrap (16 + (k : Int) - 15) = 16 + (k : Int) - 15 := IntWalk.i64_in _ (by omega)
          have p0 : 0 ≤ 16 + (k : Int) - 2 := by omega
          have p4 : 2 ≤ 16 + (k : Int) := by omega
          have p1 : 16 + (k : Int) - 2 < 64 := by omega
          have p2 : (16 + (k : Int) - 2).toNat = k + 14 := by omega
          have p3 : IntKind.i64.wrap (16 + (k : Int) - 2) = 16 + (k : Int) - 2 := IntWalk.i64_in _ (by omega)
          have r0 : 0 ≤ 16 + (k : Int) - 16 := by omega
          have r4 : 16 ≤ 16 + (k : Int) := by omega
          have r1 : 16 + (k : Int) - 16 < 64 := by omega
          have r2 : (16 + (k : Int) - 16).toNat = k := by omega
          have r3 : IntKind.i64.wrap (16 + (k : Int) - 16) = 16 + (k : Int) - 16 := IntWalk.i64_in _ (by omega)
          have z0 : 0 ≤ 16 + (k : Int) - 7 := by omega
          have z4 : 7 ≤ 16 + (k : Int) := by omega
          have z1 : 16 + (k : Int) - 7 < 64 := by omega
          have z2 : (16 + (k : Int) - 7).toNat = k + 9 := by omega
          have z3 : IntKind.i64.wrap (16 + (k : Int) - 7) = 16 + (k : Int) - 7 := IntWalk.i64_in _ (by omega)
          have o0 : 0 ≤ 16 + (k : Int) := by omega
          have o1 : 16 + (k : Int) < 64 := by omega
          have o2 : (16 + (k : Int)).toNat = 16 + k := by omega
          obtain ⟨x1, g1⟩ : ∃ x, x = rr 7 a := ⟨_, rfl⟩
          obtain ⟨x2, g2⟩ : ∃ x, x = rr 18 a := ⟨_, rfl⟩
          obtain ⟨x3, g3⟩ : ∃ x, x = a >>> 3 := ⟨_, rfl⟩
          obtain ⟨x4, g4⟩ : ∃ x, x = rr 17 b := ⟨_, rfl⟩
          obtain ⟨x5, g5⟩ : ∃ x, x = rr 19 b := ⟨_, rfl⟩
          obtain ⟨x6, g6⟩ : ∃ x, x = b >>> 10 := ⟨_, rfl⟩
          obtain ⟨n2, f2⟩ : ∃ x, x = x1 ^^^ x2 := ⟨_, rfl⟩
          obtain ⟨n3, f3⟩ : ∃ x, x = n2 ^^^ x3 := ⟨_, rfl⟩
          obtain ⟨n1, f1⟩ : ∃ x, x = cc + n3 := ⟨_, rfl⟩
          obtain ⟨n4, f4⟩ : ∃ x, x = n1 + d := ⟨_, rfl⟩
          obtain ⟨n5, f5⟩ : ∃ x, x = x4 ^^^ x5 := ⟨_, rfl⟩
          obtain ⟨n6, f6⟩ : ∃ x, x = n5 ^^^ x6 := ⟨_, rfl⟩
          obtain ⟨n7, f7⟩ : ∃ x, x = n4 + n6 := ⟨_, rfl⟩
          have v1 : wd a / 8 = wd x3 := g3 ▸ wds_8 a
          have v2 : wd b / 1024 = wd x6 := g6 ▸ wds_1024 b
          have u1 : IntKind.u32.wrap (wd cc + wd n3) = wd n1 := f1 ▸ wds_add cc n3
          have u2 : bits .xor .u32 (wd x1) (wd x2) = wd n2 := f2 ▸ wd_xor x1 x2
          have u3 : bits .xor .u32 (wd n2) (wd x3) = wd n3 := f3 ▸ wd_xor n2 x3
          have u4 : IntKind.u32.wrap (wd n1 + wd d) = wd n4 := f4 ▸ wds_add n1 d
          have u5 : bits .xor .u32 (wd x4) (wd x5) = wd n5 := f5 ▸ wd_xor x4 x5
          have u6 : bits .xor .u32 (wd n5) (wd x6) = wd n6 := f6 ▸ wd_xor n5 x6
          have u7 : IntKind.u32.wrap (wd n4 + wd n6) = wd n7 := f7 ▸ wds_add n4 n6
          have M1 := Lib.hid (g1 ▸ tq a 7 (by omega) 7 rfl wr)
          have M2 := Lib.hid (g2 ▸ tq a 18 (by omega) 18 rfl wr)
          have M3 := Lib.hid (g4 ▸ tq b 17 (by omega) 17 rfl wr)
          have M4 := Lib.hid (g5 ▸ tq b 19 (by omega) 19 rfl wr)
          have HM : Hid (sch B (k + 1) = updw (sch B k) (16 + k) n7) := Lib.hid (by rw [HX.out, f7, f6, f5, f4, f1, f3, f2, g1, g2, g3, g4, g5, g6]; rfl)
          clear g1 g2 g3 g4 g5 g6 f1 f2 f3 f4 f5 f6 f7
          go_wp2_with fail
          refine region_quiet_tail 28 (by kernel_rfl) (by kernel_rfl) ?_
          simp only [List.take_succ_cons, List.take_zero, List.drop_succ_cons, List.drop_zero]
          repeat (go_big_quiet_step ((go_at_call 18; first | (with_reducible exact M1.out _) | (with_reducible exact M2.out _) | (with_reducible exact M3.out _) | (with_reducible exact M4.out _))))
          refine wpQuiet_nil ?_
          intro _ hw'
          obtain ⟨nq, hw''⟩ := hw'
          subst hw''
          have hf := hf.drewN nq
          clear c0 c1 c2 c3 M1 M2 M3 M4
          generalize wr.drewN nq = w6 at *
          have f0 := hf.rW.cell (16 + k) (by omega)
          have f1 := hf.rW.frozen (16 + k)
          have s1 := hf.word (W' := sch B (k + 1)) (16 + k) n7 (by omega) (fun i => by rw [HM.out])
          clear hf
          go_wp2_with fail
          go_roundw
          case rel => exact ⟨k + 1, by omega, by go_num, s1⟩
          case measure => simp [intOf]; omega
        · have e1 : k = 48 := by omega
          subst e1
          have hd2 : decide ((16 : Int) + 48 < 64) = false := by decide
          have r11 := Row.new wr 36 .u32 8 (fun _ => 0)
          have r12 := r11.setRow (m := 8) (fun i => wd (S i))
          have hsz := hf.rW.lt
          have hf2 : BF w w.heap.size b5 (b5 + 1) S (sch B 48) ((wr.alloc (.cells (arr .u32 8 fun _ => 0) 36)).setRow wr.heap.size (arr .u32 8 fun i => wd (S i))) :=
            ⟨(hf.rS.alloc _).setRow_other _ (by have := hf.n5; omega), (hf.rR.alloc _).setRow_other _ (by have := hf.n5; omega), (hf.rK.alloc _).setRow_other _ (by omega), (hf.rW.alloc _).setRow_other _ (by omega),
              below_setRow (hf.kb.alloc hf.kb.size _) (by have := hf.n5; omega) _, hf.n5, hf.n6⟩
          go_wp2_with (first | (with_reducible refine load36 rfl (.tmp 2) rfl w.heap.size rfl hf.rS ?_) | (with_reducible refine store36 rfl (.tmp 11) (.tmp 99) rfl wr.heap.size _ rfl rfl r11 ?_))
          obtain ⟨b11, hb11⟩ : ∃ b, b = wr.heap.size := ⟨_, rfl⟩
          rw [← hb11] at r12 hf2 hsz ⊢
          obtain ⟨w7, hw7⟩ : ∃ w7 : World, (wr.alloc (.cells (arr .u32 8 fun _ => 0) 36)).setRow b11 (arr .u32 8 fun i => wd (S i)) = w7 := ⟨_, rfl⟩
          rw [hw7] at r12 hf2 ⊢
          clear hb11 hw7 r11 hf hz
          go_loopw [12] (fun v wr => ∃ m : Nat, m ≤ 64 ∧ v = .int .i64 m ∧ BF w w.heap.size b5 (b5 + 1) S (sch B 48) wr ∧ Row wr b11 36 .u32 8 (fun i => wd (rounds kk (sch B 48) S m i)) #[]) (fun v wr => 64 - (intOf v).toNat)
          case atStart => exact ⟨0, by omega, rfl, hf2, r12⟩
          case round =>
            clear hf2 r12
            obtain ⟨m, hm2, rfl, hf, rV⟩ := hrel
            by_cases hlt3 : m < 64
            · --R3BEGIN
              obtain ⟨x0, hx0⟩ : ∃ x, x = rounds kk (sch B 48) S m 0 := ⟨_, rfl⟩
              have c0 := rV.cell 0 (by omega)
              rw [← hx0] at c0
              obtain ⟨x1, hx1⟩ : ∃ x, x = rounds kk (sch B 48) S m 1 := ⟨_, rfl⟩
              have c1 := rV.cell 1 (by omega)
              rw [← hx1] at c1
              obtain ⟨x2, hx2⟩ : ∃ x, x = rounds kk (sch B 48) S m 2 := ⟨_, rfl⟩
              have c2 := rV.cell 2 (by omega)
              rw [← hx2] at c2
              obtain ⟨x3, hx3⟩ : ∃ x, x = rounds kk (sch B 48) S m 3 := ⟨_, rfl⟩
              have c3 := rV.cell 3 (by omega)
              rw [← hx3] at c3
              obtain ⟨x4, hx4⟩ : ∃ x, x = rounds kk (sch B 48) S m 4 := ⟨_, rfl⟩
              have c4 := rV.cell 4 (by omega)
              rw [← hx4] at c4
              obtain ⟨x5, hx5⟩ : ∃ x, x = rounds kk (sch B 48) S m 5 := ⟨_, rfl⟩
              have c5 := rV.cell 5 (by omega)
              rw [← hx5] at c5
              obtain ⟨x6, hx6⟩ : ∃ x, x = rounds kk (sch B 48) S m 6 := ⟨_, rfl⟩
              have c6 := rV.cell 6 (by omega)
              rw [← hx6] at c6
              obtain ⟨x7, hx7⟩ : ∃ x, x = rounds kk (sch B 48) S m 7 := ⟨_, rfl⟩
              have c7 := rV.cell 7 (by omega)
              rw [← hx7] at c7
              obtain ⟨km, hkm⟩ : ∃ x, x = kk m := ⟨_, rfl⟩
              obtain ⟨wm, hwm⟩ : ∃ x, x = sch B 48 m := ⟨_, rfl⟩
              have cK := hf.rK.cell m hlt3
              rw [← hkm] at cK
              have cW := hf.rW.cell m hlt3
              rw [← hwm] at cW
              obtain ⟨p1, gp1⟩ : ∃ x, x = rr 6 x4 := ⟨_, rfl⟩
              obtain ⟨p2, gp2⟩ : ∃ x, x = rr 11 x4 := ⟨_, rfl⟩
              obtain ⟨n1, gn1⟩ : ∃ x, x = p1 ^^^ p2 := ⟨_, rfl⟩
              obtain ⟨p3, gp3⟩ : ∃ x, x = rr 25 x4 := ⟨_, rfl⟩
              obtain ⟨n2, gn2⟩ : ∃ x, x = n1 ^^^ p3 := ⟨_, rfl⟩
              obtain ⟨n3, gn3⟩ : ∃ x, x = x7 + n2 := ⟨_, rfl⟩
              obtain ⟨n4, gn4⟩ : ∃ x, x = x4 &&& x5 := ⟨_, rfl⟩
              obtain ⟨nx, gnx⟩ : ∃ x, x = ~~~x4 := ⟨_, rfl⟩
              obtain ⟨n5, gn5⟩ : ∃ x, x = nx &&& x6 := ⟨_, rfl⟩
              obtain ⟨n6, gn6⟩ : ∃ x, x = n4 ^^^ n5 := ⟨_, rfl⟩
              obtain ⟨n7, gn7⟩ : ∃ x, x = n3 + n6 := ⟨_, rfl⟩
              obtain ⟨n8, gn8⟩ : ∃ x, x = n7 + km := ⟨_, rfl⟩
              obtain ⟨TT, gTT⟩ : ∃ x, x = n8 + wm := ⟨_, rfl⟩
              obtain ⟨p4, gp4⟩ : ∃ x, x = rr 2 x0 := ⟨_, rfl⟩
              obtain ⟨p5, gp5⟩ : ∃ x, x = rr 13 x0 := ⟨_, rfl⟩
              obtain ⟨n9, gn9⟩ : ∃ x, x = p4 ^^^ p5 := ⟨_, rfl⟩
              obtain ⟨p6, gp6⟩ : ∃ x, x = rr 22 x0 := ⟨_, rfl⟩
              obtain ⟨n10, gn10⟩ : ∃ x, x = n9 ^^^ p6 := ⟨_, rfl⟩
              obtain ⟨n11, gn11⟩ : ∃ x, x = x0 &&& x1 := ⟨_, rfl⟩
              obtain ⟨n12, gn12⟩ : ∃ x, x = x0 &&& x2 := ⟨_, rfl⟩
              obtain ⟨n13, gn13⟩ : ∃ x, x = n11 ^^^ n12 := ⟨_, rfl⟩
              obtain ⟨n14, gn14⟩ : ∃ x, x = x1 &&& x2 := ⟨_, rfl⟩
              obtain ⟨n15, gn15⟩ : ∃ x, x = n13 ^^^ n14 := ⟨_, rfl⟩
              obtain ⟨UU, gUU⟩ : ∃ x, x = n10 + n15 := ⟨_, rfl⟩
              obtain ⟨e0, ge0⟩ : ∃ x, x = TT + UU := ⟨_, rfl⟩
              obtain ⟨e4, ge4⟩ : ∃ x, x = x3 + TT := ⟨_, rfl⟩
              have f0 : bits .xor .u32 (wd p1) (wd p2) = wd n1 := gn1 ▸ wd_xor p1 p2
              have f1 : bits .xor .u32 (wd n1) (wd p3) = wd n2 := gn2 ▸ wd_xor n1 p3
              have f2 : IntKind.u32.wrap (wd x7 + wd n2) = wd n3 := gn3 ▸ wds_add x7 n2
              have f3 : (wd x7 + wd n2) % 4294967296 = wd n3 := gn3 ▸ wd_add x7 n2
              have f4 : bits .and .u32 (wd x4) (wd x5) = wd n4 := gn4 ▸ wd_and x4 x5
              have f5 : bits .xor .u32 4294967295 (wd x4) = wd nx := gnx ▸ wd_not x4
              have f6 : bits .xor .u32 IntKind.u32.max (wd x4) = wd nx := gnx ▸ wd_notm x4
              have f7 : bits .and .u32 (wd nx) (wd x6) = wd n5 := gn5 ▸ wd_and nx x6
              have f8 : bits .xor .u32 (wd n4) (wd n5) = wd n6 := gn6 ▸ wd_xor n4 n5
              have f9 : IntKind.u32.wrap (wd n3 + wd n6) = wd n7 := gn7 ▸ wds_add n3 n6
              have f10 : (wd n3 + wd n6) % 4294967296 = wd n7 := gn7 ▸ wd_add n3 n6
              have f11 : IntKind.u32.wrap (wd n7 + wd km) = wd n8 := gn8 ▸ wds_add n7 km
              have f12 : (wd n7 + wd km) % 4294967296 = wd n8 := gn8 ▸ wd_add n7 km
              have f13 : IntKind.u32.wrap (wd n8 + wd wm) = wd TT := gTT ▸ wds_add n8 wm
              have f14 : (wd n8 + wd wm) % 4294967296 = wd TT := gTT ▸ wd_add n8 wm
              have f15 : bits .xor .u32 (wd p4) (wd p5) = wd n9 := gn9 ▸ wd_xor p4 p5
              have f16 : bits .xor .u32 (wd n9) (wd p6) = wd n10 := gn10 ▸ wd_xor n9 p6
              have f17 : bits .and .u32 (wd x0) (wd x1) = wd n11 := gn11 ▸ wd_and x0 x1
              have f18 : bits .and .u32 (wd x0) (wd x2) = wd n12 := gn12 ▸ wd_and x0 x2
              have f19 : bits .xor .u32 (wd n11) (wd n12) = wd n13 := gn13 ▸ wd_xor n11 n12
              have f20 : bits .and .u32 (wd x1) (wd x2) = wd n14 := gn14 ▸ wd_and x1 x2
              have f21 : bits .xor .u32 (wd n13) (wd n14) = wd n15 := gn15 ▸ wd_xor n13 n14
              have f22 : IntKind.u32.wrap (wd n10 + wd n15) = wd UU := gUU ▸ wds_add n10 n15
              have f23 : (wd n10 + wd n15) % 4294967296 = wd UU := gUU ▸ wd_add n10 n15
              have f24 : IntKind.u32.wrap (wd TT + wd UU) = wd e0 := ge0 ▸ wds_add TT UU
              have f25 : (wd TT + wd UU) % 4294967296 = wd e0 := ge0 ▸ wd_add TT UU
              have f26 : IntKind.u32.wrap (wd x3 + wd TT) = wd e4 := ge4 ▸ wds_add x3 TT
              have f27 : (wd x3 + wd TT) % 4294967296 = wd e4 := ge4 ▸ wd_add x3 TT
              have Mp1 : Hid (∀ w k, Calls Tryd.prog 18 #[.int .u32 (wd x4), .int .i64 6] (World.drewN w k) fun e w'' => e = .returned (.int .u32 (wd p1)) ∧ ∃ m, w'' = w.drewN m) := Lib.hid (gp1 ▸ tq x4 6 (by omega) 6 rfl)
              have Mp2 : Hid (∀ w k, Calls Tryd.prog 18 #[.int .u32 (wd x4), .int .i64 11] (World.drewN w k) fun e w'' => e = .returned (.int .u32 (wd p2)) ∧ ∃ m, w'' = w.drewN m) := Lib.hid (gp2 ▸ tq x4 11 (by omega) 11 rfl)
              have Mp3 : Hid (∀ w k, Calls Tryd.prog 18 #[.int .u32 (wd x4), .int .i64 25] (World.drewN w k) fun e w'' => e = .returned (.int .u32 (wd p3)) ∧ ∃ m, w'' = w.drewN m) := Lib.hid (gp3 ▸ tq x4 25 (by omega) 25 rfl)
              have Mp4 : Hid (∀ w k, Calls Tryd.prog 18 #[.int .u32 (wd x0), .int .i64 2] (World.drewN w k) fun e w'' => e = .returned (.int .u32 (wd p4)) ∧ ∃ m, w'' = w.drewN m) := Lib.hid (gp4 ▸ tq x0 2 (by omega) 2 rfl)
              have Mp5 : Hid (∀ w k, Calls Tryd.prog 18 #[.int .u32 (wd x0), .int .i64 13] (World.drewN w k) fun e w'' => e = .returned (.int .u32 (wd p5)) ∧ ∃ m, w'' = w.drewN m) := Lib.hid (gp5 ▸ tq x0 13 (by omega) 13 rfl)
              have Mp6 : Hid (∀ w k, Calls Tryd.prog 18 #[.int .u32 (wd x0), .int .i64 22] (World.drewN w k) fun e w'' => e = .returned (.int .u32 (wd p6)) ∧ ∃ m, w'' = w.drewN m) := Lib.hid (gp6 ▸ tq x0 22 (by omega) 22 rfl)
              have HT : TT = tt kk (sch B 48) (rounds kk (sch B 48) S m) m := by unfold tt; rw [← hkm, ← hwm, ← hx4, ← hx5, ← hx6, ← hx7, gTT, gn8, gn7, gn6, gn5, gnx, gn4, gn3, gn2, gp3, gn1, gp2, gp1, ch_eq]
              have HU : UU = uu (rounds kk (sch B 48) S m) := by unfold uu; rw [← hx0, ← hx1, ← hx2, gUU, gn15, gn14, gn13, gn12, gn11, gn10, gp6, gn9, gp5, gp4, maj_eq]
              have HE : Hid (∀ i, i < 8 → ev e0 x0 x1 x2 e4 x4 x5 x6 i = rounds kk (sch B 48) S (m + 1) i) := by
                refine Lib.hid ?_
                intro i hi
                show _ = turn (rounds kk (sch B 48) S m) (tt kk (sch B 48) (rounds kk (sch B 48) S m) m) (uu (rounds kk (sch B 48) S m)) i
                rw [← HT, ← HU]
                rcases (show i = 0 ∨ i = 1 ∨ i = 2 ∨ i = 3 ∨ i = 4 ∨ i = 5 ∨ i = 6 ∨ i = 7 by omega) with rfl | rfl | rfl | rfl | rfl | rfl | rfl | rfl
                · exact ge0
                · exact hx0
                · exact hx1
                · exact hx2
                · exact (by show e4 = rounds kk (sch B 48) S m 3 + TT; rw [ge4, hx3])
                · exact hx4
                · exact hx5
                · exact hx6
              have HX7 := Lib.hid hx7
              have HX6 := Lib.hid hx6
              have HX5 := Lib.hid hx5
              have HX4 := Lib.hid hx4
              have HX3 := Lib.hid hx3
              have HX2 := Lib.hid hx2
              have HX1 := Lib.hid hx1
              have HX0 := Lib.hid hx0
              clear HT HU gp1 gp2 gn1 gp3 gn2 gn3 gn4 gnx gn5 gn6 gn7 gn8 gTT gp4 gp5 gn9 gp6 gn10 gn11 gn12 gn13 gn14 gn15 gUU ge0 ge4 hx0 hx1 hx2 hx3 hx4 hx5 hx6 hx7 hkm hwm
              have t0 : 0 ≤ (m : Int) := by omega
              have t1 : (m : Int) < 64 := by omega
              have n11 : w.heap.size + 2 ≤ b11 := by have := hf.n5; omega
              go_wp2_with fail
              go_quiet ((go_at_call 18; first | (with_reducible exact Mp1.out _ _) | (with_reducible exact Mp2.out _ _) | (with_reducible exact Mp3.out _ _)))
              have hf := hf.drewN nq; have rV := rV.drewN nq
              clear c0 c1 c2 c3 c4 c5 c6 c7 cK cW
              generalize wr.drewN nq = w5 at *
              have c1 : w5.cell? ⟨b11, 1, none⟩ = some (.int .u32 (wd x1)) := by have := rV.cell 1 (by omega); rwa [show rounds kk (sch B 48) S m 1 = x1 from HX1.out.symm] at this
              have c2 : w5.cell? ⟨b11, 2, none⟩ = some (.int .u32 (wd x2)) := by have := rV.cell 2 (by omega); rwa [show rounds kk (sch B 48) S m 2 = x2 from HX2.out.symm] at this
              go_wp2_with fail
              go_quiet ((go_at_call 18; first | (with_reducible exact Mp4.out _ _) | (with_reducible exact Mp5.out _ _) | (with_reducible exact Mp6.out _ _)))
              have hf := hf.drewN nq; have rV := rV.drewN nq
              clear c1 c2
              generalize w5.drewN nq = w6 at *
              have c0 : w6.cell? ⟨b11, 0, none⟩ = some (.int .u32 (wd x0)) := by have := rV.cell 0 (by omega); rwa [show rounds kk (sch B 48) S m 0 = x0 from HX0.out.symm] at this
              have c1 : w6.cell? ⟨b11, 1, none⟩ = some (.int .u32 (wd x1)) := by have := rV.cell 1 (by omega); rwa [show rounds kk (sch B 48) S m 1 = x1 from HX1.out.symm] at this
              have c2 : w6.cell? ⟨b11, 2, none⟩ = some (.int .u32 (wd x2)) := by have := rV.cell 2 (by omega); rwa [show rounds kk (sch B 48) S m 2 = x2 from HX2.out.symm] at this
              have c3 : w6.cell? ⟨b11, 3, none⟩ = some (.int .u32 (wd x3)) := by have := rV.cell 3 (by omega); rwa [show rounds kk (sch B 48) S m 3 = x3 from HX3.out.symm] at this
              have c4 : w6.cell? ⟨b11, 4, none⟩ = some (.int .u32 (wd x4)) := by have := rV.cell 4 (by omega); rwa [show rounds kk (sch B 48) S m 4 = x4 from HX4.out.symm] at this
              have c5 : w6.cell? ⟨b11, 5, none⟩ = some (.int .u32 (wd x5)) := by have := rV.cell 5 (by omega); rwa [show rounds kk (sch B 48) S m 5 = x5 from HX5.out.symm] at this
              have c6 : w6.cell? ⟨b11, 6, none⟩ = some (.int .u32 (wd x6)) := by have := rV.cell 6 (by omega); rwa [show rounds kk (sch B 48) S m 6 = x6 from HX6.out.symm] at this
              have rN := (rV.setRow (m := 8) (fun i => wd (ev e0 x0 x1 x2 e4 x4 x5 x6 i))).congr (g := fun i => wd (rounds kk (sch B 48) S (m + 1) i)) (fun i hi => by rw [HE.out i hi])
              have hN : BF w w.heap.size b5 (b5 + 1) S (sch B 48) (w6.setRow b11 (arr .u32 8 fun i => wd (ev e0 x0 x1 x2 e4 x4 x5 x6 i))) := ⟨hf.rS.setRow_other _ (by omega), hf.rR.setRow_other _ (by omega), hf.rK.setRow_other _ (by omega), hf.rW.setRow_other _ (by omega), below_setRow hf.kb (by omega) _, hf.n5, hf.n6⟩
              go_wp2_with (first | (with_reducible refine store36 rfl (.tmp 11) (.tmp 181) rfl b11 (fun i => wd (ev e0 x0 x1 x2 e4 x4 x5 x6 i)) rfl ?hy rV ?_))
              case hy =>
                have h0 : (wd n3 + wd n6 + wd km + wd wm + wd UU) % 4294967296 = wd e0 := by omega
                have h4 : (wd x3 + (wd n3 + wd n6 + wd km + wd wm)) % 4294967296 = wd e4 := by omega
                show Value.agg #[Value.int .u32 ((wd n3 + wd n6 + wd km + wd wm + wd UU) % 4294967296), .int .u32 (wd x0), .int .u32 (wd x1), .int .u32 (wd x2), .int .u32 ((wd x3 + (wd n3 + wd n6 + wd km + wd wm)) % 4294967296), .int .u32 (wd x4), .int .u32 (wd x5), .int .u32 (wd x6)] = _
                rw [h0, h4]
                exact congrArg Value.agg (arr8 (fun i => wd (ev e0 x0 x1 x2 e4 x4 x5 x6 i))).symm
              clear hf rV c0 c1 c2 c3 c4 c5 c6
              go_wp2_with fail
              go_roundw
              case rel => exact ⟨m + 1, by omega, by go_num, hN, rN⟩
              case measure => simp [intOf]; omega
              --R3END
            · have e1 : m = 64 := by omega
              subst e1
              have hd3 : decide ((64 : Int) < 64) = false := by decide
              go_wp2_with fail
              obtain ⟨wo, hwo⟩ : ∃ wo : World, wo = wr := ⟨_, rfl⟩
              go_loopw [17] (fun v wr => ∃ k : Nat, k ≤ 8 ∧ v = .int .i64 k ∧ Row wr w.heap.size 36 .u32 8 (fun i => wd (addv S (rounds kk (sch B 48) S 64) k i)) #[] ∧ Row wr (w.heap.size + 1) 36 .u32 8 (fun _ => 0) #[] ∧ Row wr b11 36 .u32 8 (fun i => wd (rounds kk (sch B 48) S 64 i)) #[] ∧ Below w.heap.size w wr) (fun v wr => 8 - (intOf v).toNat)
              case atStart => exact ⟨0, by omega, rfl, hf.rS.congr (fun i _ => by simp [addv]), hf.rR, rV, hf.kb⟩
              case round =>
                have n11 : w.heap.size + 2 ≤ b11 := by have := hf.n5; omega
                clear hf rV hwo wo
                obtain ⟨k, hk, rfl, rS, rR, rV, kb⟩ := hrel
                by_cases hlt4 : k < 8
                · have cS := rS.cell k hlt4
                  have cV := rV.cell k hlt4
                  rw [addv_at] at cS
                  obtain ⟨sk, hsk⟩ : ∃ x, x = S k := ⟨_, rfl⟩
                  obtain ⟨vk, hvk⟩ : ∃ x, x = rounds kk (sch B 48) S 64 k := ⟨_, rfl⟩
                  rw [← hsk] at cS
                  rw [← hvk] at cV
                  obtain ⟨r, hr⟩ : ∃ x, x = sk + vk := ⟨_, rfl⟩
                  have fa : IntKind.u32.wrap (wd sk + wd vk) = wd r := hr ▸ wds_add sk vk
                  have HRR : Hid (r = S k + rounds kk (sch B 48) S 64 k) := Lib.hid (by rw [hr, hsk, hvk])
                  have k0 : 0 ≤ (k : Int) := by omega
                  have k8 : (k : Int) < 8 := by omega
                  clear hr hsk hvk
                  go_wp2_with fail
                  go_still_tail 8, (by kernel_rfl)
                  change wpList _ _ _ _ _ wr.drew
                  have rS := rS.drew; have rR := rR.drew; have rV := rV.drew; have kb := kb.drew
                  clear cS cV
                  generalize wr.drew = w5 at *
                  have c0 := rS.cell k hlt4
                  have f0 := rS.frozen k
                  have y1 := (rS.set k (wd r) hlt4).congr (fun i _ => addv_succ S (rounds kk (sch B 48) S 64) k i r HRR.out)
                  have y2 := rR.other ⟨w.heap.size, k, none⟩ (.int .u32 (wd r)) (by simp)
                  have y3 := rV.other ⟨w.heap.size, k, none⟩ (.int .u32 (wd r)) (by simp; omega)
                  have y4 := kb.setCell (p := ⟨w.heap.size, k, none⟩) (Nat.le_refl _) (.int .u32 (wd r))
                  clear rS rR rV kb
                  go_wp2_with fail
                  go_roundw
                  case rel => first | exact ⟨k + 1, by omega, by go_num, y1, y2, y3, y4⟩ | ((repeat apply Exists.intro); exact ⟨⟨k + 1, by omega, rfl, y1, y2, y3, y4⟩, rfl⟩)
                  case measure => simp [intOf]; omega
                · have e1 : k = 8 := by omega
                  subst e1
                  have hd4 : decide ((8 : Int) < 8) = false := by decide
                  have rS := rS.congr (g := fun i => wd (comp S B i)) (fun i hi => by unfold addv comp; rw [if_pos hi])
                  have rb := below_setRow kb (g := w.heap.size + 1) (by omega) (arr .u32 8 fun i => wd (comp S B i))
                  have rF := rR.setRow (m := 8) (fun i => wd (comp S B i))
                  go_wp2_with (first | (with_reducible refine load36 rfl (.tmp 2) rfl w.heap.size rfl rS ?_) | (with_reducible refine store36 rfl (.tmp 4) (.tmp 195) rfl (w.heap.size + 1) _ rfl rfl rR ?_))
                  exact ret36 rfl (w.heap.size + 1) rfl rF rfl ⟨rfl, rb⟩
end Go.Proofs.YtinmmenjlhlpmaaDoor
