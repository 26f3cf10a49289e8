/- A block taken in, walked. -/
import Derived.Test.YtinmmenjlhlpmaaDoorC
import Derived.WalkMore
import Derived.ScopeJumps
namespace Go.Proofs.YtinmmenjlhlpmaaDoor
open Go.ChangeShapes Go.WideShapes Go.ChangeAt Go.RowKit
set_option linter.unusedSimpArgs false
set_option linter.unusedVariables false

theorem scope_again {P : Program} {c X : Code} {a : Act} {w : World} {Q : Exit → Act → World → Prop} (l : Nat) (J : Act → World → Prop) (μ : Act → World → Nat) (hf : findLabel c l = some (.seq .skip X))
    (pass : ∀ a w, J a w → X.wp P (Exit.jump l (fun a' w' => J a' w' ∧ μ a' w' < μ a w) Q) a w)
    (first : (∀ a w, J a w → X.wp P (Exit.jump l J Q) a w) → c.wp P (Exit.jump l J Q) a w) : (Code.scope c).wp P Q a w :=
  wp_scope_jumps l J μ hf (first fun a w h => Code.wp_mono (fun e a' w' hq => by
    cases e with
    | goto l' => exact ⟨hq.1, hq.2.1⟩
    | _ => exact hq) (pass a w h)) (fun a w h => wp_seq (wp_skip (pass a w h)))

def tt (K W : Nat → BitVec 32) (V : Nat → BitVec 32) (i : Nat) : BitVec 32 := V 7 + (rr 6 (V 4) ^^^ rr 11 (V 4) ^^^ rr 25 (V 4)) + (V 6 ^^^ V 4 &&& (V 5 ^^^ V 6)) + K i + W i
def uu (V : Nat → BitVec 32) : BitVec 32 := (rr 2 (V 0) ^^^ rr 13 (V 0) ^^^ rr 22 (V 0)) + (V 0 &&& V 1 ||| V 2 &&& (V 0 ||| V 1))
def turn (V : Nat → BitVec 32) (t u : BitVec 32) : Nat → BitVec 32
  | 0 => t + u | 1 => V 0 | 2 => V 1 | 3 => V 2 | 4 => V 3 + t | 5 => V 4 | 6 => V 5 | _ => V 6
def rounds (K W S : Nat → BitVec 32) : Nat → (Nat → BitVec 32)
  | 0 => S
  | n + 1 => turn (rounds K W S n) (tt K W (rounds K W S n) n) (uu (rounds K W S n))
def kl : List (BitVec 32) := [0x428a2f98, 0x71374491, 0xb5c0fbcf, 0xe9b5dba5, 0x3956c25b, 0x59f111f1, 0x923f82a4, 0xab1c5ed5,
  0xd807aa98, 0x12835b01, 0x243185be, 0x550c7dc3, 0x72be5d74, 0x80deb1fe, 0x9bdc06a7, 0xc19bf174,
  0xe49b69c1, 0xefbe4786, 0x0fc19dc6, 0x240ca1cc, 0x2de92c6f, 0x4a7484aa, 0x5cb0a9dc, 0x76f988da,
  0x983e5152, 0xa831c66d, 0xb00327c8, 0xbf597fc7, 0xc6e00bf3, 0xd5a79147, 0x06ca6351, 0x14292967,
  0x27b70a85, 0x2e1b2138, 0x4d2c6dfc, 0x53380d13, 0x650a7354, 0x766a0abb, 0x81c2c92e, 0x92722c85,
  0xa2bfe8a1, 0xa81a664b, 0xc24b8b70, 0xc76c51a3, 0xd192e819, 0xd6990624, 0xf40e3585, 0x106aa070,
  0x19a4c116, 0x1e376c08, 0x2748774c, 0x34b0bcb5, 0x391c0cb3, 0x4ed8aa4a, 0x5b9cca4f, 0x682e6ff3,
  0x748f82ee, 0x78a5636f, 0x84c87814, 0x8cc70208, 0x90befffa, 0xa4506ceb, 0xbef9a3f7, 0xc67178f2]
def kk (i : Nat) : BitVec 32 := kl.getD i 0
/-- A state with a block taken in. -/
def comp (S : Nat → BitVec 32) (B : Nat → BitVec 8) : Nat → BitVec 32 := fun i => S i + rounds kk (sch B 48) S 64 i

theorem index36_0 (a b c d e f g h : Int) (w : World) : (Instr.index 36 (.agg #[.int .u32 a, .int .u32 b, .int .u32 c, .int .u32 d, .int .u32 e, .int .u32 f, .int .u32 g, .int .u32 h]) (.int .i64 0)).run Tryd.prog w = .ok (.int .u32 a) w := by
  simp [Instr.index, run_underlying Tryd.underlying36, asIntOf, Go.part, Sem.run_bind]
theorem index36_1 (a b c d e f g h : Int) (w : World) : (Instr.index 36 (.agg #[.int .u32 a, .int .u32 b, .int .u32 c, .int .u32 d, .int .u32 e, .int .u32 f, .int .u32 g, .int .u32 h]) (.int .i64 1)).run Tryd.prog w = .ok (.int .u32 b) w := by
  simp [Instr.index, run_underlying Tryd.underlying36, asIntOf, Go.part, Sem.run_bind]
theorem index36_2 (a b c d e f g h : Int) (w : World) : (Instr.index 36 (.agg #[.int .u32 a, .int .u32 b, .int .u32 c, .int .u32 d, .int .u32 e, .int .u32 f, .int .u32 g, .int .u32 h]) (.int .i64 2)).run Tryd.prog w = .ok (.int .u32 c) w := by
  simp [Instr.index, run_underlying Tryd.underlying36, asIntOf, Go.part, Sem.run_bind]
theorem index36_3 (a b c d e f g h : Int) (w : World) : (Instr.index 36 (.agg #[.int .u32 a, .int .u32 b, .int .u32 c, .int .u32 d, .int .u32 e, .int .u32 f, .int .u32 g, .int .u32 h]) (.int .i64 3)).run Tryd.prog w = .ok (.int .u32 d) w := by
  simp [Instr.index, run_underlying Tryd.underlying36, asIntOf, Go.part, Sem.run_bind]
theorem index36_4 (a b c d e f g h : Int) (w : World) : (Instr.index 36 (.agg #[.int .u32 a, .int .u32 b, .int .u32 c, .int .u32 d, .int .u32 e, .int .u32 f, .int .u32 g, .int .u32 h]) (.int .i64 4)).run Tryd.prog w = .ok (.int .u32 e) w := by
  simp [Instr.index, run_underlying Tryd.underlying36, asIntOf, Go.part, Sem.run_bind]
theorem index36_5 (a b c d e f g h : Int) (w : World) : (Instr.index 36 (.agg #[.int .u32 a, .int .u32 b, .int .u32 c, .int .u32 d, .int .u32 e, .int .u32 f, .int .u32 g, .int .u32 h]) (.int .i64 5)).run Tryd.prog w = .ok (.int .u32 f) w := by
  simp [Instr.index, run_underlying Tryd.underlying36, asIntOf, Go.part, Sem.run_bind]
theorem index36_6 (a b c d e f g h : Int) (w : World) : (Instr.index 36 (.agg #[.int .u32 a, .int .u32 b, .int .u32 c, .int .u32 d, .int .u32 e, .int .u32 f, .int .u32 g, .int .u32 h]) (.int .i64 6)).run Tryd.prog w = .ok (.int .u32 g) w := by
  simp [Instr.index, run_underlying Tryd.underlying36, asIntOf, Go.part, Sem.run_bind]
theorem index36_7 (a b c d e f g h : Int) (w : World) : (Instr.index 36 (.agg #[.int .u32 a, .int .u32 b, .int .u32 c, .int .u32 d, .int .u32 e, .int .u32 f, .int .u32 g, .int .u32 h]) (.int .i64 7)).run Tryd.prog w = .ok (.int .u32 h) w := by
  simp [Instr.index, run_underlying Tryd.underlying36, asIntOf, Go.part, Sem.run_bind]
theorem grown_set {w w' : World} {g : Nat} (h : w.grownBy w' (some g)) (i : Nat) (v : Value) : w.grownBy (w'.setCell ⟨g, i, none⟩ v) (some g) :=
  ⟨h.os, h.tape, h.output, by have := h.size; simpa using this, fun k hk hne => (heap_setCell_other w' ⟨g, i, none⟩ k v (fun e => hne (by rw [e]))).trans (h.block k hk hne)⟩
def ev (a b c d e f g h : BitVec 32) : Nat → BitVec 32
  | 0 => a | 1 => b | 2 => c | 3 => d | 4 => e | 5 => f | 6 => g | _ => h
def addv (S V : Nat → BitVec 32) (k : Nat) : Nat → BitVec 32 := fun i => if i < k then S i + V i else S i
theorem addv_at (S V : Nat → BitVec 32) (k : Nat) : addv S V k k = S k := by simp [addv]
theorem addv_succ (S V : Nat → BitVec 32) (k i : Nat) (r : BitVec 32) (hr : r = S k + V k) : upd (fun i => wd (addv S V k i)) k (wd r) i = wd (addv S V (k + 1) i) := by
  subst hr
  unfold upd addv
  by_cases h : i = k
  · subst h; simp
  · by_cases h2 : i < k
    · simp [h, h2, Nat.lt_succ_of_lt h2]
    · have h3 : ¬ i < k + 1 := by omega
      simp [h, h2, h3]

def Fr (g n c b4 m : Nat) (ad : Addr) (x0 x1 x2 x3 x4 x5 x6 x7 : BitVec 32) (u : Nat → Value) : Act := { tmps := #[.pointer (some ⟨g, 0, none⟩), .slice (some ad) n c, u 2, u 3, .pointer (some ⟨b4, 0, none⟩), .int .u32 (wd x0), .int .u32 (wd x1), .int .u32 (wd x2), .int .u32 (wd x3), .int .u32 (wd x4), .int .u32 (wd x5), .int .u32 (wd x6), .int .u32 (wd x7), .int .i64 (m : Int), u 14, u 15, u 16, u 17, u 18, u 19, u 20, u 21, u 22, u 23, u 24, u 25, u 26, u 27, u 28, u 29, u 30, u 31, u 32, u 33, u 34, u 35, u 36, u 37, u 38, u 39, u 40, u 41, u 42, u 43, u 44, u 45, u 46, u 47, u 48, u 49, u 50, u 51, u 52, u 53, u 54, u 55, u 56, u 57, u 58, u 59, u 60, u 61, u 62, u 63, u 64, u 65, u 66, u 67, u 68, u 69, u 70, u 71, u 72, u 73, u 74, u 75, u 76, u 77, u 78, u 79, u 80, u 81, u 82, u 83, u 84, u 85, u 86, u 87, u 88, u 89, u 90, u 91, u 92, u 93, u 94, u 95, u 96, u 97, u 98, u 99, u 100, u 101, u 102, u 103, u 104, u 105, u 106, u 107, u 108, u 109, u 110, u 111, u 112, u 113, u 114, u 115, u 116, u 117, u 118, u 119, u 120, u 121, u 122, u 123, u 124, u 125, u 126, u 127, u 128, u 129, u 130, u 131, u 132, u 133, u 134], defers := [] }
structure JF (w : World) (g : Nat) (t : TypeId) (tl : Array Value) (B : Nat → BitVec 8) (S : Nat → BitVec 32) (b4 m : Nat) (x0 x1 x2 x3 x4 x5 x6 x7 : BitVec 32) (w' : World) : Prop where
  x : x0 = rounds kk (sch B 48) S m 0 ∧ x1 = rounds kk (sch B 48) S m 1 ∧ x2 = rounds kk (sch B 48) S m 2 ∧ x3 = rounds kk (sch B 48) S m 3 ∧ x4 = rounds kk (sch B 48) S m 4 ∧ x5 = rounds kk (sch B 48) S m 5 ∧ x6 = rounds kk (sch B 48) S m 6 ∧ x7 = rounds kk (sch B 48) S m 7
  m63 : m ≤ 63
  hb4 : w.heap.size ≤ b4
  q2 : Row w' b4 43 .u32 64 (fun i => wd (sch B 48 i)) #[]
  s1 : Row w' g t .u32 8 (fun i => wd (S i)) tl
  s2 : TRow w' 0 .u32 64 (fun i => wd (kk i))
  kb : Below w.heap.size w w'
def JJ (w : World) (g n c : Nat) (ad : Addr) (t : TypeId) (tl : Array Value) (B : Nat → BitVec 8) (S : Nat → BitVec 32) (a' : Act) (w' : World) : Prop :=
  ∃ (m b4 : Nat) (x0 x1 x2 x3 x4 x5 x6 x7 : BitVec 32) (u : Nat → Value), JF w g t tl B S b4 m x0 x1 x2 x3 x4 x5 x6 x7 w' ∧ a' = Fr g n c b4 m ad x0 x1 x2 x3 x4 x5 x6 x7 u
theorem JJ.mk {w : World} {g n c : Nat} {ad : Addr} {t : TypeId} {tl : Array Value} {B : Nat → BitVec 8} {S : Nat → BitVec 32} {a' : Act} {w' : World} (m b4 : Nat) (x0 x1 x2 x3 x4 x5 x6 x7 : BitVec 32) (h : JF w g t tl B S b4 m x0 x1 x2 x3 x4 x5 x6 x7 w')
    (ha : a' = Fr g n c b4 m ad x0 x1 x2 x3 x4 x5 x6 x7 (fun j => a'.tmps.getD j undef)) : JJ w g n c ad t tl B S a' w' := ⟨m, b4, x0, x1, x2, x3, x4, x5, x6, x7, _, h, ha⟩

set_option maxRecDepth 20000 in
set_option maxHeartbeats 4000000 in
theorem block16 (g : Nat) (t : TypeId) (tl : Array Value) (ad : Addr) (n c : Nat) (B : Nat → BitVec 8) (S : Nat → BitVec 32) (w : World) (hn : 64 ≤ n) (hm : n ≤ 9223372036854775807) (hB : Blk64 w ad B)
    (hS : Row w g t .u32 8 (fun i => wd (S i)) tl) (hK : TRow w 0 .u32 64 (fun i => wd (kk i))) (hg : ad.block ≠ g) (hg0 : 0 ≠ g) :
    Calls Tryd.prog 16 #[.pointer (some ⟨g, 0, none⟩), .slice (some ad) n c] w fun e w' => e = .returned (.tuple #[]) ∧ Row w' g t .u32 8 (fun i => wd (comp S B i)) tl ∧ w.grownBy w' (some g) := by
  go_enter Tryd.func16, Tryd.ntmps16
  go_wp2_with fail
  refine scope_again 0 (JJ w g n c ad t tl B S) (fun a' _ => 64 - (intOf (a'.tmps.getD 13 undef)).toNat) rfl ?pass ?first
  case first =>
    intro hp
    have hz := zero43
    go_wp2_with fail
    refine (words19 ad n c B w hn hm hB).mono ?_
    rintro e w1 ⟨rfl, k1⟩
    have q1 := Row.new w1 43 .u32 64 (fun _ => 0)
    have q2 := q1.setRow (m := 64) (fun i => wd (sch B 48 i))
    have s1 := ((hS.below k1 hS.lt).alloc (.cells (arr .u32 64 fun _ => 0) 43)).setRow_other (c := w1.heap.size) (arr .u32 64 fun i => wd (sch B 48 i)) (by have := hS.lt; have := k1.size; omega)
    have s2 := ((hK.below k1 hK.lt).alloc (.cells (arr .u32 64 fun _ => 0) 43)).setRow_other (c := w1.heap.size) (arr .u32 64 fun i => wd (sch B 48 i)) (by have := hK.lt; have := k1.size; omega)
    have kb := below_setRow (k1.alloc k1.size (.cells (arr .u32 64 fun _ => 0) 43)) (g := w1.heap.size) k1.size (arr .u32 64 fun i => wd (sch B 48 i))
    have ksz := k1.size
    clear k1
    go_wp2_with (first | (with_reducible refine store43 rfl (.tmp 4) (.tmp 19) rfl w1.heap.size _ rfl rfl q1 ?_))
    clear q1 hz
    generalize (w1.alloc (.cells (arr .u32 64 fun _ => 0) 43)).setRow w1.heap.size (arr .u32 64 fun i => wd (sch B 48 i)) = w2 at *
    have c0 := s1.cell 0 (by omega)
    have c1 := s1.cell 1 (by omega)
    have c2 := s1.cell 2 (by omega)
    have c3 := s1.cell 3 (by omega)
    have c4 := s1.cell 4 (by omega)
    have c5 := s1.cell 5 (by omega)
    have c6 := s1.cell 6 (by omega)
    have c7 := s1.cell 7 (by omega)
    go_still (by kernel_rfl)
    change Exit.then _ _ _ _ w2.drew
    have q2 := q2.drew; have s1 := s1.drew; have s2 := s2.drew; have kb := kb.drew
    clear c0 c1 c2 c3 c4 c5 c6 c7
    generalize w2.drew = w3 at *
    go_wp2_with fail
    go_step3
    rename_i hk
    exact hk _ _ (hp _ _ (JJ.mk 0 w1.heap.size (S 0) (S 1) (S 2) (S 3) (S 4) (S 5) (S 6) (S 7) ⟨⟨rfl, rfl, rfl, rfl, rfl, rfl, rfl, rfl⟩, by omega, ksz, q2, s1, s2, kb⟩ rfl))
  case pass =>
    rintro a' wr ⟨m, b4, x0, x1, x2, x3, x4, x5, x6, x7, u, ⟨hx, hm63, hb4, q2, s1, s2, kb⟩, rfl⟩
    simp only [Fr]
    have HX := Lib.hid hx; clear hx
    have cK := s2.cell m (by omega)
    have cW := q2.cell m (by omega)
    generalize hkm : kk m = km at cK
    generalize hwm : sch B 48 m = wm at cW
    have HKM := Lib.hid hkm; have HWM := Lib.hid hwm; clear hkm hwm
    obtain ⟨p1, gp1⟩ : ∃ x, x = rr 6 x4 := ⟨_, rfl⟩
    obtain ⟨p2, gp2⟩ : ∃ x, x = rr 11 x4 := ⟨_, rfl⟩
    obtain ⟨n1, gn1⟩ : ∃ x, x = p1 ^^^ p2 := ⟨_, rfl⟩
    obtain ⟨p3, gp3⟩ : ∃ x, x = rr 25 x4 := ⟨_, rfl⟩
    obtain ⟨n2, gn2⟩ : ∃ x, x = n1 ^^^ p3 := ⟨_, rfl⟩
    obtain ⟨n3, gn3⟩ : ∃ x, x = x7 + n2 := ⟨_, rfl⟩
    obtain ⟨n4, gn4⟩ : ∃ x, x = x5 ^^^ x6 := ⟨_, rfl⟩
    obtain ⟨n5, gn5⟩ : ∃ x, x = x4 &&& n4 := ⟨_, rfl⟩
    obtain ⟨n6, gn6⟩ : ∃ x, x = x6 ^^^ n5 := ⟨_, rfl⟩
    obtain ⟨n7, gn7⟩ : ∃ x, x = n3 + n6 := ⟨_, rfl⟩
    obtain ⟨n8, gn8⟩ : ∃ x, x = n7 + km := ⟨_, rfl⟩
    obtain ⟨T, gT⟩ : ∃ x, x = n8 + wm := ⟨_, rfl⟩
    obtain ⟨p4, gp4⟩ : ∃ x, x = rr 2 x0 := ⟨_, rfl⟩
    obtain ⟨p5, gp5⟩ : ∃ x, x = rr 13 x0 := ⟨_, rfl⟩
    obtain ⟨n9, gn9⟩ : ∃ x, x = p4 ^^^ p5 := ⟨_, rfl⟩
    obtain ⟨p6, gp6⟩ : ∃ x, x = rr 22 x0 := ⟨_, rfl⟩
    obtain ⟨n10, gn10⟩ : ∃ x, x = n9 ^^^ p6 := ⟨_, rfl⟩
    obtain ⟨n11, gn11⟩ : ∃ x, x = x0 &&& x1 := ⟨_, rfl⟩
    obtain ⟨n12, gn12⟩ : ∃ x, x = x0 ||| x1 := ⟨_, rfl⟩
    obtain ⟨n13, gn13⟩ : ∃ x, x = x2 &&& n12 := ⟨_, rfl⟩
    obtain ⟨n14, gn14⟩ : ∃ x, x = n11 ||| n13 := ⟨_, rfl⟩
    obtain ⟨U, gU⟩ : ∃ x, x = n10 + n14 := ⟨_, rfl⟩
    obtain ⟨e0, ge0⟩ : ∃ x, x = T + U := ⟨_, rfl⟩
    obtain ⟨e4, ge4⟩ : ∃ x, x = x3 + T := ⟨_, rfl⟩
    have f0 : bits .xor .u32 (wd p1) (wd p2) = wd n1 := gn1 ▸ wd_xor p1 p2
    have f1 : bits .xor .u32 (wd n1) (wd p3) = wd n2 := gn2 ▸ wd_xor n1 p3
    have f2 : IntKind.u32.wrap (wd x7 + wd n2) = wd n3 := gn3 ▸ wds_add x7 n2
    have f3 : (wd x7 + wd n2) % 4294967296 = wd n3 := gn3 ▸ wd_add x7 n2
    have f4 : bits .xor .u32 (wd x5) (wd x6) = wd n4 := gn4 ▸ wd_xor x5 x6
    have f5 : bits .and .u32 (wd x4) (wd n4) = wd n5 := gn5 ▸ wd_and x4 n4
    have f6 : bits .xor .u32 (wd x6) (wd n5) = wd n6 := gn6 ▸ wd_xor x6 n5
    have f7 : IntKind.u32.wrap (wd n3 + wd n6) = wd n7 := gn7 ▸ wds_add n3 n6
    have f8 : (wd n3 + wd n6) % 4294967296 = wd n7 := gn7 ▸ wd_add n3 n6
    have f9 : IntKind.u32.wrap (wd n7 + wd km) = wd n8 := gn8 ▸ wds_add n7 km
    have f10 : (wd n7 + wd km) % 4294967296 = wd n8 := gn8 ▸ wd_add n7 km
    have f11 : IntKind.u32.wrap (wd n8 + wd wm) = wd T := gT ▸ wds_add n8 wm
    have f12 : (wd n8 + wd wm) % 4294967296 = wd T := gT ▸ wd_add n8 wm
    have f13 : bits .xor .u32 (wd p4) (wd p5) = wd n9 := gn9 ▸ wd_xor p4 p5
    have f14 : bits .xor .u32 (wd n9) (wd p6) = wd n10 := gn10 ▸ wd_xor n9 p6
    have f15 : bits .and .u32 (wd x0) (wd x1) = wd n11 := gn11 ▸ wd_and x0 x1
    have f16 : bits .or .u32 (wd x0) (wd x1) = wd n12 := gn12 ▸ wd_or x0 x1
    have f17 : bits .and .u32 (wd x2) (wd n12) = wd n13 := gn13 ▸ wd_and x2 n12
    have f18 : bits .or .u32 (wd n11) (wd n13) = wd n14 := gn14 ▸ wd_or n11 n13
    have f19 : IntKind.u32.wrap (wd n10 + wd n14) = wd U := gU ▸ wds_add n10 n14
    have f20 : (wd n10 + wd n14) % 4294967296 = wd U := gU ▸ wd_add n10 n14
    have f21 : IntKind.u32.wrap (wd T + wd U) = wd e0 := ge0 ▸ wds_add T U
    have f22 : (wd T + wd U) % 4294967296 = wd e0 := ge0 ▸ wd_add T U
    have f23 : IntKind.u32.wrap (wd x3 + wd T) = wd e4 := ge4 ▸ wds_add x3 T
    have f24 : (wd x3 + wd T) % 4294967296 = wd e4 := ge4 ▸ wd_add x3 T
    have Mp1 : Hid (∀ w, Calls Tryd.prog 20 #[.int .u32 (wd x4), .int .i64 6] w fun e w' => e = .returned (.int .u32 (wd p1)) ∧ w' = w) := Lib.hid (gp1 ▸ rc x4 6 (by omega) 6 rfl)
    have Mp2 : Hid (∀ w, Calls Tryd.prog 20 #[.int .u32 (wd x4), .int .i64 11] w fun e w' => e = .returned (.int .u32 (wd p2)) ∧ w' = w) := Lib.hid (gp2 ▸ rc x4 11 (by omega) 11 rfl)
    have Mp3 : Hid (∀ w, Calls Tryd.prog 20 #[.int .u32 (wd x4), .int .i64 25] w fun e w' => e = .returned (.int .u32 (wd p3)) ∧ w' = w) := Lib.hid (gp3 ▸ rc x4 25 (by omega) 25 rfl)
    have Mp4 : Hid (∀ w, Calls Tryd.prog 20 #[.int .u32 (wd x0), .int .i64 2] w fun e w' => e = .returned (.int .u32 (wd p4)) ∧ w' = w) := Lib.hid (gp4 ▸ rc x0 2 (by omega) 2 rfl)
    have Mp5 : Hid (∀ w, Calls Tryd.prog 20 #[.int .u32 (wd x0), .int .i64 13] w fun e w' => e = .returned (.int .u32 (wd p5)) ∧ w' = w) := Lib.hid (gp5 ▸ rc x0 13 (by omega) 13 rfl)
    have Mp6 : Hid (∀ w, Calls Tryd.prog 20 #[.int .u32 (wd x0), .int .i64 22] w fun e w' => e = .returned (.int .u32 (wd p6)) ∧ w' = w) := Lib.hid (gp6 ▸ rc x0 22 (by omega) 22 rfl)
    have HT : Hid (T = tt kk (sch B 48) (rounds kk (sch B 48) S m) m) := Lib.hid (by unfold tt; rw [HKM.out, HWM.out, ← HX.out.2.2.2.2.1, ← HX.out.2.2.2.2.2.1, ← HX.out.2.2.2.2.2.2.1, ← HX.out.2.2.2.2.2.2.2, gT, gn8, gn7, gn6, gn5, gn4, gn3, gn2, gp3, gn1, gp2, gp1])
    have HU : Hid (U = uu (rounds kk (sch B 48) S m)) := Lib.hid (by unfold uu; rw [← HX.out.1, ← HX.out.2.1, ← HX.out.2.2.1, gU, gn14, gn13, gn12, gn11, gn10, gp6, gn9, gp5, gp4])
    have H0 : Hid (e0 = rounds kk (sch B 48) S (m + 1) 0) := Lib.hid (by rw [ge0, HT.out, HU.out]; rfl)
    have H4 : Hid (e4 = rounds kk (sch B 48) S (m + 1) 4) := Lib.hid (by rw [ge4, HT.out, HX.out.2.2.2.1]; rfl)
    clear gp1 gp2 gn1 gp3 gn2 gn3 gn4 gn5 gn6 gn7 gn8 gT gp4 gp5 gn9 gp6 gn10 gn11 gn12 gn13 gn14 gU ge0 ge4
    have t0 : 0 ≤ (m : Int) := by omega
    have t1 : (m : Int) < 64 := by omega
    go_wp2_with fail
    refine wp_region_still_lit (by kernel_rfl) (by kernel_rfl) ?_
    repeat still_step
    still_call (Mp1.out wr.drew)
    repeat still_step
    still_call (Mp2.out wr.drew)
    repeat still_step
    still_call (Mp3.out wr.drew)
    repeat still_step
    refine wpStill_nil ?_
    change Exit.then _ _ _ _ wr.drew
    have q2 := q2.drew; have s1 := s1.drew; have s2 := s2.drew; have kb := kb.drew
    clear cK cW
    generalize wr.drew = w5 at *
    by_cases hl : m + 1 < 64
    · go_wp2_with (first | (go_at_call 20; refine (Mp4.out _).mono ?_; rintro e w' ⟨rfl, rfl⟩) | (go_at_call 20; refine (Mp5.out _).mono ?_; rintro e w' ⟨rfl, rfl⟩) | (go_at_call 20; refine (Mp6.out _).mono ?_; rintro e w' ⟨rfl, rfl⟩))
      go_step3
      exact ⟨rfl, JJ.mk (m + 1) b4 e0 x0 x1 x2 e4 x4 x5 x6 ⟨⟨H0.out, HX.out.1, HX.out.2.1, HX.out.2.2.1, H4.out, HX.out.2.2.2.2.1, HX.out.2.2.2.2.2.1, HX.out.2.2.2.2.2.2.1⟩, by omega, hb4, q2, s1, s2, kb⟩ rfl, by simp [intOf]; omega⟩
    · have hd : decide ((m : Int) + 1 < 64) = false := by simp; omega
      go_wp2_with (first | (go_at_call 20; refine (Mp4.out _).mono ?_; rintro e w' ⟨rfl, rfl⟩) | (go_at_call 20; refine (Mp5.out _).mono ?_; rintro e w' ⟨rfl, rfl⟩) | (go_at_call 20; refine (Mp6.out _).mono ?_; rintro e w' ⟨rfl, rfl⟩))
      have HE : Hid (∀ i, i < 8 → (ev e0 x0 x1 x2 e4 x4 x5 x6) i = rounds kk (sch B 48) S (m + 1) i) := by
        refine Lib.hid ?_
        intro i hi
        rcases (show i = 0 ∨ i = 1 ∨ i = 2 ∨ i = 3 ∨ i = 4 ∨ i = 5 ∨ i = 6 ∨ i = 7 by omega) with rfl | rfl | rfl | rfl | rfl | rfl | rfl | rfl
        · exact H0.out
        · exact HX.out.1
        · exact HX.out.2.1
        · exact HX.out.2.2.1
        · exact H4.out
        · exact HX.out.2.2.2.2.1
        · exact HX.out.2.2.2.2.2.1
        · exact HX.out.2.2.2.2.2.2.1
      go_loopw [121] (fun v wr => ∃ k : Nat, k ≤ 8 ∧ v = .int .i64 k ∧ Row wr g t .u32 8 (fun i => wd (addv S (ev e0 x0 x1 x2 e4 x4 x5 x6) k i)) tl ∧ w.grownBy wr (some g)) (fun v wr => 8 - (intOf v).toNat)
      case atStart => exact ⟨0, by omega, rfl, s1.congr (fun i _ => by simp [addv]), ⟨kb.os, kb.tape, kb.output, kb.size, fun k hk _ => kb.block k hk⟩⟩
      case round =>
        clear q2 s1 s2 kb
        obtain ⟨k, hk, rfl, z1, z2⟩ := hrel
        by_cases hlt : k < 8
        · rcases (show k = 0 ∨ k = 1 ∨ k = 2 ∨ k = 3 ∨ k = 4 ∨ k = 5 ∨ k = 6 ∨ k = 7 by omega) with rfl | rfl | rfl | rfl | rfl | rfl | rfl | rfl
          · have cc := z1.cell 0 (by omega)
            rw [addv_at] at cc
            obtain ⟨sk, hsk⟩ : ∃ x, x = S 0 := ⟨_, rfl⟩
            rw [← hsk] at cc
            obtain ⟨r, hr⟩ : ∃ x, x = sk + e0 := ⟨_, rfl⟩
            have fa : IntKind.u32.wrap (wd sk + wd e0) = wd r := hr ▸ wds_add sk e0
            have HRR : Hid (r = S 0 + (ev e0 x0 x1 x2 e4 x4 x5 x6) 0) := Lib.hid (by rw [hr, hsk]; rfl)
            clear hr hsk
            have hix := index36_0 (wd e0) (wd x0) (wd x1) (wd x2) (wd e4) (wd x4) (wd x5) (wd x6)
            go_wp2_with fail
            go_still_tail 8, (by kernel_rfl)
            change wpList _ _ _ _ _ wr.drew
            have z1 := z1.drew
            have z2 : w.grownBy wr.drew (some g) := ⟨z2.os, z2.tape, z2.output, z2.size, z2.block⟩
            clear cc
            generalize wr.drew = w6 at *
            have c0 := z1.cell 0 (by omega)
            have f0 := z1.frozen 0
            have y1 := (z1.set 0 (wd r) (by omega)).congr (fun i _ => addv_succ S (ev e0 x0 x1 x2 e4 x4 x5 x6) 0 i r HRR.out)
            have y2 : w.grownBy (w6.setCell ⟨g, 0, none⟩ (.int .u32 (wd r))) (some g) := grown_set z2 _ _
            clear z1 z2
            go_wp2_with fail
            go_roundw
            case rel => exact ⟨1, by omega, rfl, y1, y2⟩
            case measure => simp [intOf]
          · have cc := z1.cell 1 (by omega)
            rw [addv_at] at cc
            obtain ⟨sk, hsk⟩ : ∃ x, x = S 1 := ⟨_, rfl⟩
            rw [← hsk] at cc
            obtain ⟨r, hr⟩ : ∃ x, x = sk + x0 := ⟨_, rfl⟩
            have fa : IntKind.u32.wrap (wd sk + wd x0) = wd r := hr ▸ wds_add sk x0
            have HRR : Hid (r = S 1 + (ev e0 x0 x1 x2 e4 x4 x5 x6) 1) := Lib.hid (by rw [hr, hsk]; rfl)
            clear hr hsk
            have hix := index36_1 (wd e0) (wd x0) (wd x1) (wd x2) (wd e4) (wd x4) (wd x5) (wd x6)
            go_wp2_with fail
            go_still_tail 8, (by kernel_rfl)
            change wpList _ _ _ _ _ wr.drew
            have z1 := z1.drew
            have z2 : w.grownBy wr.drew (some g) := ⟨z2.os, z2.tape, z2.output, z2.size, z2.block⟩
            clear cc
            generalize wr.drew = w6 at *
            have c0 := z1.cell 1 (by omega)
            have f0 := z1.frozen 1
            have y1 := (z1.set 1 (wd r) (by omega)).congr (fun i _ => addv_succ S (ev e0 x0 x1 x2 e4 x4 x5 x6) 1 i r HRR.out)
            have y2 : w.grownBy (w6.setCell ⟨g, 1, none⟩ (.int .u32 (wd r))) (some g) := grown_set z2 _ _
            clear z1 z2
            go_wp2_with fail
            go_roundw
            case rel => exact ⟨2, by omega, rfl, y1, y2⟩
            case measure => simp [intOf]
          · have cc := z1.cell 2 (by omega)
            rw [addv_at] at cc
            obtain ⟨sk, hsk⟩ : ∃ x, x = S 2 := ⟨_, rfl⟩
            rw [← hsk] at cc
            obtain ⟨r, hr⟩ : ∃ x, x = sk + x1 := ⟨_, rfl⟩
            have fa : IntKind.u32.wrap (wd sk + wd x1) = wd r := hr ▸ wds_add sk x1
            have HRR : Hid (r = S 2 + (ev e0 x0 x1 x2 e4 x4 x5 x6) 2) := Lib.hid (by rw [hr, hsk]; rfl)
            clear hr hsk
            have hix := index36_2 (wd e0) (wd x0) (wd x1) (wd x2) (wd e4) (wd x4) (wd x5) (wd x6)
            go_wp2_with fail
            go_still_tail 8, (by kernel_rfl)
            change wpList _ _ _ _ _ wr.drew
            have z1 := z1.drew
            have z2 : w.grownBy wr.drew (some g) := ⟨z2.os, z2.tape, z2.output, z2.size, z2.block⟩
            clear cc
            generalize wr.drew = w6 at *
            have c0 := z1.cell 2 (by omega)
            have f0 := z1.frozen 2
            have y1 := (z1.set 2 (wd r) (by omega)).congr (fun i _ => addv_succ S (ev e0 x0 x1 x2 e4 x4 x5 x6) 2 i r HRR.out)
            have y2 : w.grownBy (w6.setCell ⟨g, 2, none⟩ (.int .u32 (wd r))) (some g) := grown_set z2 _ _
            clear z1 z2
            go_wp2_with fail
            go_roundw
            case rel => exact ⟨3, by omega, rfl, y1, y2⟩
            case measure => simp [intOf]
          · have cc := z1.cell 3 (by omega)
            rw [addv_at] at cc
            obtain ⟨sk, hsk⟩ : ∃ x, x = S 3 := ⟨_, rfl⟩
            rw [← hsk] at cc
            obtain ⟨r, hr⟩ : ∃ x, x = sk + x2 := ⟨_, rfl⟩
            have fa : IntKind.u32.wrap (wd sk + wd x2) = wd r := hr ▸ wds_add sk x2
            have HRR : Hid (r = S 3 + (ev e0 x0 x1 x2 e4 x4 x5 x6) 3) := Lib.hid (by rw [hr, hsk]; rfl)
            clear hr hsk
            have hix := index36_3 (wd e0) (wd x0) (wd x1) (wd x2) (wd e4) (wd x4) (wd x5) (wd x6)
            go_wp2_with fail
            go_still_tail 8, (by kernel_rfl)
            change wpList _ _ _ _ _ wr.drew
            have z1 := z1.drew
            have z2 : w.grownBy wr.drew (some g) := ⟨z2.os, z2.tape, z2.output, z2.size, z2.block⟩
            clear cc
            generalize wr.drew = w6 at *
            have c0 := z1.cell 3 (by omega)
            have f0 := z1.frozen 3
            have y1 := (z1.set 3 (wd r) (by omega)).congr (fun i _ => addv_succ S (ev e0 x0 x1 x2 e4 x4 x5 x6) 3 i r HRR.out)
            have y2 : w.grownBy (w6.setCell ⟨g, 3, none⟩ (.int .u32 (wd r))) (some g) := grown_set z2 _ _
            clear z1 z2
            go_wp2_with fail
            go_roundw
            case rel => exact ⟨4, by omega, rfl, y1, y2⟩
            case measure => simp [intOf]
          · have cc := z1.cell 4 (by omega)
            rw [addv_at] at cc
            obtain ⟨sk, hsk⟩ : ∃ x, x = S 4 := ⟨_, rfl⟩
            rw [← hsk] at cc
            obtain ⟨r, hr⟩ : ∃ x, x = sk + e4 := ⟨_, rfl⟩
            have fa : IntKind.u32.wrap (wd sk + wd e4) = wd r := hr ▸ wds_add sk e4
            have HRR : Hid (r = S 4 + (ev e0 x0 x1 x2 e4 x4 x5 x6) 4) := Lib.hid (by rw [hr, hsk]; rfl)
            clear hr hsk
            have hix := index36_4 (wd e0) (wd x0) (wd x1) (wd x2) (wd e4) (wd x4) (wd x5) (wd x6)
            go_wp2_with fail
            go_still_tail 8, (by kernel_rfl)
            change wpList _ _ _ _ _ wr.drew
            have z1 := z1.drew
            have z2 : w.grownBy wr.drew (some g) := ⟨z2.os, z2.tape, z2.output, z2.size, z2.block⟩
            clear cc
            generalize wr.drew = w6 at *
            have c0 := z1.cell 4 (by omega)
            have f0 := z1.frozen 4
            have y1 := (z1.set 4 (wd r) (by omega)).congr (fun i _ => addv_succ S (ev e0 x0 x1 x2 e4 x4 x5 x6) 4 i r HRR.out)
            have y2 : w.grownBy (w6.setCell ⟨g, 4, none⟩ (.int .u32 (wd r))) (some g) := grown_set z2 _ _
            clear z1 z2
            go_wp2_with fail
            go_roundw
            case rel => exact ⟨5, by omega, rfl, y1, y2⟩
            case measure => simp [intOf]
          · have cc := z1.cell 5 (by omega)
            rw [addv_at] at cc
            obtain ⟨sk, hsk⟩ : ∃ x, x = S 5 := ⟨_, rfl⟩
            rw [← hsk] at cc
            obtain ⟨r, hr⟩ : ∃ x, x = sk + x4 := ⟨_, rfl⟩
            have fa : IntKind.u32.wrap (wd sk + wd x4) = wd r := hr ▸ wds_add sk x4
            have HRR : Hid (r = S 5 + (ev e0 x0 x1 x2 e4 x4 x5 x6) 5) := Lib.hid (by rw [hr, hsk]; rfl)
            clear hr hsk
            have hix := index36_5 (wd e0) (wd x0) (wd x1) (wd x2) (wd e4) (wd x4) (wd x5) (wd x6)
            go_wp2_with fail
            go_still_tail 8, (by kernel_rfl)
            change wpList _ _ _ _ _ wr.drew
            have z1 := z1.drew
            have z2 : w.grownBy wr.drew (some g) := ⟨z2.os, z2.tape, z2.output, z2.size, z2.block⟩
            clear cc
            generalize wr.drew = w6 at *
            have c0 := z1.cell 5 (by omega)
            have f0 := z1.frozen 5
            have y1 := (z1.set 5 (wd r) (by omega)).congr (fun i _ => addv_succ S (ev e0 x0 x1 x2 e4 x4 x5 x6) 5 i r HRR.out)
            have y2 : w.grownBy (w6.setCell ⟨g, 5, none⟩ (.int .u32 (wd r))) (some g) := grown_set z2 _ _
            clear z1 z2
            go_wp2_with fail
            go_roundw
            case rel => exact ⟨6, by omega, rfl, y1, y2⟩
            case measure => simp [intOf]
          · have cc := z1.cell 6 (by omega)
            rw [addv_at] at cc
            obtain ⟨sk, hsk⟩ : ∃ x, x = S 6 := ⟨_, rfl⟩
            rw [← hsk] at cc
            obtain ⟨r, hr⟩ : ∃ x, x = sk + x5 := ⟨_, rfl⟩
            have fa : IntKind.u32.wrap (wd sk + wd x5) = wd r := hr ▸ wds_add sk x5
            have HRR : Hid (r = S 6 + (ev e0 x0 x1 x2 e4 x4 x5 x6) 6) := Lib.hid (by rw [hr, hsk]; rfl)
            clear hr hsk
            have hix := index36_6 (wd e0) (wd x0) (wd x1) (wd x2) (wd e4) (wd x4) (wd x5) (wd x6)
            go_wp2_with fail
            go_still_tail 8, (by kernel_rfl)
            change wpList _ _ _ _ _ wr.drew
            have z1 := z1.drew
            have z2 : w.grownBy wr.drew (some g) := ⟨z2.os, z2.tape, z2.output, z2.size, z2.block⟩
            clear cc
            generalize wr.drew = w6 at *
            have c0 := z1.cell 6 (by omega)
            have f0 := z1.frozen 6
            have y1 := (z1.set 6 (wd r) (by omega)).congr (fun i _ => addv_succ S (ev e0 x0 x1 x2 e4 x4 x5 x6) 6 i r HRR.out)
            have y2 : w.grownBy (w6.setCell ⟨g, 6, none⟩ (.int .u32 (wd r))) (some g) := grown_set z2 _ _
            clear z1 z2
            go_wp2_with fail
            go_roundw
            case rel => exact ⟨7, by omega, rfl, y1, y2⟩
            case measure => simp [intOf]
          · have cc := z1.cell 7 (by omega)
            rw [addv_at] at cc
            obtain ⟨sk, hsk⟩ : ∃ x, x = S 7 := ⟨_, rfl⟩
            rw [← hsk] at cc
            obtain ⟨r, hr⟩ : ∃ x, x = sk + x6 := ⟨_, rfl⟩
            have fa : IntKind.u32.wrap (wd sk + wd x6) = wd r := hr ▸ wds_add sk x6
            have HRR : Hid (r = S 7 + (ev e0 x0 x1 x2 e4 x4 x5 x6) 7) := Lib.hid (by rw [hr, hsk]; rfl)
            clear hr hsk
            have hix := index36_7 (wd e0) (wd x0) (wd x1) (wd x2) (wd e4) (wd x4) (wd x5) (wd x6)
            go_wp2_with fail
            go_still_tail 8, (by kernel_rfl)
            change wpList _ _ _ _ _ wr.drew
            have z1 := z1.drew
            have z2 : w.grownBy wr.drew (some g) := ⟨z2.os, z2.tape, z2.output, z2.size, z2.block⟩
            clear cc
            generalize wr.drew = w6 at *
            have c0 := z1.cell 7 (by omega)
            have f0 := z1.frozen 7
            have y1 := (z1.set 7 (wd r) (by omega)).congr (fun i _ => addv_succ S (ev e0 x0 x1 x2 e4 x4 x5 x6) 7 i r HRR.out)
            have y2 : w.grownBy (w6.setCell ⟨g, 7, none⟩ (.int .u32 (wd r))) (some g) := grown_set z2 _ _
            clear z1 z2
            go_wp2_with fail
            go_roundw
            case rel => exact ⟨8, by omega, rfl, y1, y2⟩
            case measure => simp [intOf]
        · have e1 : k = 8 := by omega
          have z9 := z1.congr (g := fun i => wd (comp S B i)) (fun i hi => by rw [e1]; unfold addv comp; rw [if_pos hi, show (64 : Nat) = m + 1 by omega, HE.out i hi])
          subst e1
          go_wp2_with fail
          change bodyPost Tryd.prog Tryd.f16 (fun e w' => e = .returned (.tuple #[]) ∧ Row w' g t .u32 8 (fun i => wd (comp S B i)) tl ∧ w.grownBy w' (some g)) Exit.normal _ _
          go_end0
          exact ⟨rfl, z9, z2⟩
end Go.Proofs.YtinmmenjlhlpmaaDoor
