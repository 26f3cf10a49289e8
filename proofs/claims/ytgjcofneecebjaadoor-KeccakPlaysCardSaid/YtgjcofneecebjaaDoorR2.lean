/- The document's change of a state, walked. -/
import Derived.Test.YtgjcofneecebjaaDoorR1
import Derived.Test.YtgjcofneecebjaaDoorM
import Derived.Outline
namespace Go.Proofs.YtgjcofneecebjaaDoor
open Go.ChangeShapes Go.WideShapes Go.ChangeAt Go.RowKit
set_option linter.unusedSimpArgs false
set_option linter.unusedVariables false
def cz (Z : Nat → Int) (x : Nat) : Int := bits .xor .u64 (bits .xor .u64 (bits .xor .u64 (bits .xor .u64 (Z (x * 5)) (Z (x * 5 + 1))) (Z (x * 5 + 2))) (Z (x * 5 + 3))) (Z (x * 5 + 4))
def dz (Z : Nat → Int) (x : Nat) : Int := bits .xor .u64 (cz Z ((x + 4) % 5)) (rol 1 (cz Z ((x + 1) % 5)))
def tz (s : Nat) : Nat := (tarr 24 s).toNat
def bz (Z : Nat → Int) : Nat → (Nat → Int)
  | 0 => fun _ => 0
  | s + 1 => upd (bz Z s) (s % 5 * 5 + (2 * (s / 5) + 3 * (s % 5)) % 5) (rol (tz s) (bits .xor .u64 (Z s) (dz Z (s / 5))))
def chz (B : Nat → Int) (s : Nat) : Int := bits .xor .u64 (B s) (bits .and .u64 (nt (B ((s / 5 + 1) % 5 * 5 + s % 5))) (B ((s / 5 + 2) % 5 * 5 + s % 5)))
def rdz (c : Int) (Z : Nat → Int) : Nat → Int :=
  let V := upto 25 (chz (bz Z 25)) Z
  upd V 0 (bits .xor .u64 (V 0) c)
def prz (Z : Nat → Int) : Nat → (Nat → Int)
  | 0 => Z
  | n + 1 => rdz (cst 24 0 n) (prz Z n)
theorem tz_at : ∀ s, s < 25 → tarr 24 s = (tz s : Int) ∧ tz s < 64 := by decide +kernel
/-- What holds while the document's change runs. -/
structure CH (w0 : World) (p1 p2 p3 p4 : Nat) (Z : Nat → Int) (w : World) : Prop where
  r1 : Row w p1 47 .u64 25 Z #[]
  r2 : Row w p2 47 .u64 25 (fun _ => 0) #[]
  r3 : Row w p3 55 .i64 25 (tarr 24) #[]
  r4 : Row w p4 57 .u64 24 (cst 24 0) #[]
  k : Below w0.heap.size w0 w
  o1 : w0.heap.size ≤ p1
  o2 : p1 < p2
  o3 : p2 < p3
  o4 : p3 < p4
section
variable {w0 w w' : World} {p1 p2 p3 p4 p : Nat} {Z : Nat → Int}
theorem CH.below (h : CH w0 p1 p2 p3 p4 Z w) (r : Below w.heap.size w w') : CH w0 p1 p2 p3 p4 Z w' :=
  ⟨h.r1.below r h.r1.lt, h.r2.below r h.r2.lt, h.r3.below r h.r3.lt, h.r4.below r h.r4.lt, h.k.trans (r.mono h.k.size), h.o1, h.o2, h.o3, h.o4⟩
theorem CH.other (h : CH w0 p1 p2 p3 p4 Z w) (hp : p4 < p) (i : Nat) (v : Value) : CH w0 p1 p2 p3 p4 Z (w.setCell ⟨p, i, none⟩ v) := by
  have := h.o1; have := h.o2; have := h.o3; have := h.o4
  exact ⟨h.r1.other _ _ (by show p1 ≠ p; omega), h.r2.other _ _ (by show p2 ≠ p; omega), h.r3.other _ _ (by show p3 ≠ p; omega), h.r4.other _ _ (by show p4 ≠ p; omega), Below.setCell h.k (p := ⟨p, i, none⟩) (by show w0.heap.size ≤ p; omega) v, h.o1, h.o2, h.o3, h.o4⟩
theorem CH.set (h : CH w0 p1 p2 p3 p4 Z w) (i : Nat) (v : Int) (hi : i < 25) : CH w0 p1 p2 p3 p4 (upd Z i v) (w.setCell ⟨p1, i, none⟩ (.int .u64 v)) := by
  have := h.o1; have := h.o2; have := h.o3; have := h.o4
  exact ⟨h.r1.set i v hi, h.r2.other _ _ (by show p2 ≠ p1; omega), h.r3.other _ _ (by show p3 ≠ p1; omega), h.r4.other _ _ (by show p4 ≠ p1; omega), Below.setCell h.k (p := ⟨p1, i, none⟩) (by show w0.heap.size ≤ p1; omega) (.int .u64 v), h.o1, h.o2, h.o3, h.o4⟩
theorem CH.congr (h : CH w0 p1 p2 p3 p4 Z w) {Y : Nat → Int} (e : ∀ i, i < 25 → Z i = Y i) : CH w0 p1 p2 p3 p4 Y w := ⟨h.r1.congr e, h.r2, h.r3, h.r4, h.k, h.o1, h.o2, h.o3, h.o4⟩
end
theorem upto_set (n : Nat) (A B : Nat → Int) : upd (upto n A B) n (A n) = upto (n + 1) A B := by
  funext x
  unfold upd upto
  by_cases hx : x = n
  · subst hx; rw [if_pos rfl, if_pos (by omega)]
  · rw [if_neg hx]
    by_cases h : x < n
    · rw [if_pos h, if_pos (by omega)]
    · rw [if_neg h, if_neg (by omega)]
def Wc10 (p1 p6 n : Nat) (a0 a1 a2 a3 a4 : Int) : Nat → Value → World → Prop
  | 0, v, w => v = .int .i64 n
  | 1, v, w => v = .int .i64 n
  | 2, v, w => v = .pointer (some ⟨p1, n * 5, none⟩)
  | 3, v, w => v = .pointer (some ⟨p1, n * 5, none⟩)
  | 4, v, w => v = .int .u64 a0
  | 5, v, w => v = .int .i64 n
  | 6, v, w => v = .pointer (some ⟨p1, n * 5, none⟩)
  | 7, v, w => v = .pointer (some ⟨p1, n * 5 + 1, none⟩)
  | 8, v, w => v = .int .u64 a1
  | 9, v, w => v = .int .u64 (bits .xor .u64 a0 a1)
  | 10, v, w => v = .int .i64 n
  | 11, v, w => v = .pointer (some ⟨p1, n * 5, none⟩)
  | 12, v, w => v = .pointer (some ⟨p1, n * 5 + 2, none⟩)
  | 13, v, w => v = .int .u64 a2
  | 14, v, w => v = .int .u64 (bits .xor .u64 (bits .xor .u64 a0 a1) a2)
  | 15, v, w => v = .int .i64 n
  | 16, v, w => v = .pointer (some ⟨p1, n * 5, none⟩)
  | 17, v, w => v = .pointer (some ⟨p1, n * 5 + 3, none⟩)
  | 18, v, w => v = .int .u64 a3
  | 19, v, w => v = .int .u64 (bits .xor .u64 (bits .xor .u64 (bits .xor .u64 a0 a1) a2) a3)
  | 20, v, w => v = .int .i64 n
  | 21, v, w => v = .pointer (some ⟨p1, n * 5, none⟩)
  | 22, v, w => v = .pointer (some ⟨p1, n * 5 + 4, none⟩)
  | 23, v, w => v = .int .u64 a4
  | 24, v, w => v = .int .u64 (bits .xor .u64 (bits .xor .u64 (bits .xor .u64 (bits .xor .u64 a0 a1) a2) a3) a4)
  | 25, v, w => v = .pointer (some ⟨p6, n, none⟩)
  | _, _, _ => True
theorem Wc10_keep (p1 p6 n : Nat) (a0 a1 a2 a3 a4 : Int) (i1 : Nat) (v : Value) (w w' : World) (h : Wc10 p1 p6 n a0 a1 a2 a3 a4 i1 v w) (r : (fun w w' => Below w.heap.size w w') w w') : Wc10 p1 p6 n a0 a1 a2 a3 a4 i1 v w' := by
  rcases i1 with _ | _ | _ | _ | _ | _ | _ | _ | _ | _ | _ | _ | _ | _ | _ | _ | _ | _ | _ | _ | _ | _ | _ | _ | _ | _ | _
  · exact h
  · exact h
  · exact h
  · exact h
  · exact h
  · exact h
  · exact h
  · exact h
  · exact h
  · exact h
  · exact h
  · exact h
  · exact h
  · exact h
  · exact h
  · exact h
  · exact h
  · exact h
  · exact h
  · exact h
  · exact h
  · exact h
  · exact h
  · exact h
  · exact h
  · exact h
  · trivial
def Wc15 (p6 n r4 ro : Nat) (s4 s1 : Int) : Nat → Value → World → Prop
  | 0, v, w => v = .int .i64 n
  | 1, v, w => v = .int .i64 (n + 4 : Int)
  | 2, v, w => v = .int .i64 r4
  | 3, v, w => v = .pointer (some ⟨p6, r4, none⟩)
  | 4, v, w => v = .int .u64 s4
  | 5, v, w => v = .int .i64 n
  | 6, v, w => v = .int .i64 (n + 1 : Int)
  | 7, v, w => v = .int .i64 ro
  | 8, v, w => v = .pointer (some ⟨p6, ro, none⟩)
  | 9, v, w => v = .int .u64 s1
  | 10, v, w => v = .int .u64 (rol 1 s1)
  | 11, v, w => v = .int .u64 (bits .xor .u64 s4 (rol 1 s1))
  | 12, v, w => v = .int .u64 (bits .xor .u64 s4 (rol 1 s1))
  | _, _, _ => True
theorem Wc15_keep (p6 n r4 ro : Nat) (s4 s1 : Int) (i1 : Nat) (v : Value) (w w' : World) (h : Wc15 p6 n r4 ro s4 s1 i1 v w) (r : (fun w w' => Below w.heap.size w w') w w') : Wc15 p6 n r4 ro s4 s1 i1 v w' := by
  rcases i1 with _ | _ | _ | _ | _ | _ | _ | _ | _ | _ | _ | _ | _ | _
  · exact h
  · exact h
  · exact h
  · exact h
  · exact h
  · exact h
  · exact h
  · exact h
  · exact h
  · exact h
  · exact h
  · exact h
  · exact h
  · trivial
def Wc19 (p1 p3 p8 n y q tv : Nat) (a dv : Int) : Nat → Value → World → Prop
  | 0, v, w => v = .int .i64 y
  | 1, v, w => v = .int .i64 n
  | 2, v, w => v = .int .i64 (2 * n : Int)
  | 3, v, w => v = .int .i64 y
  | 4, v, w => v = .int .i64 (3 * y : Int)
  | 5, v, w => v = .int .i64 (2 * n + 3 * y : Int)
  | 6, v, w => v = .int .i64 q
  | 7, v, w => v = .int .i64 n
  | 8, v, w => v = .int .i64 y
  | 9, v, w => v = .pointer (some ⟨p1, n * 5, none⟩)
  | 10, v, w => v = .pointer (some ⟨p1, n * 5 + y, none⟩)
  | 11, v, w => v = .int .u64 a
  | 12, v, w => v = .int .u64 dv
  | 13, v, w => v = .int .u64 (bits .xor .u64 a dv)
  | 14, v, w => v = .int .i64 n
  | 15, v, w => v = .int .i64 y
  | 16, v, w => v = .pointer (some ⟨p3, n * 5, none⟩)
  | 17, v, w => v = .pointer (some ⟨p3, n * 5 + y, none⟩)
  | 18, v, w => v = .int .i64 tv
  | 19, v, w => v = .int .u64 (rol tv (bits .xor .u64 a dv))
  | 20, v, w => v = .pointer (some ⟨p8, y * 5, none⟩)
  | 21, v, w => v = .pointer (some ⟨p8, y * 5 + q, none⟩)
  | _, _, _ => True
theorem Wc19_keep (p1 p3 p8 n y q tv : Nat) (a dv : Int) (i1 : Nat) (v : Value) (w w' : World) (h : Wc19 p1 p3 p8 n y q tv a dv i1 v w) (r : (fun w w' => Below w.heap.size w w') w w') : Wc19 p1 p3 p8 n y q tv a dv i1 v w' := by
  rcases i1 with _ | _ | _ | _ | _ | _ | _ | _ | _ | _ | _ | _ | _ | _ | _ | _ | _ | _ | _ | _ | _ | _ | _
  · exact h
  · exact h
  · exact h
  · exact h
  · exact h
  · exact h
  · exact h
  · exact h
  · exact h
  · exact h
  · exact h
  · exact h
  · exact h
  · exact h
  · exact h
  · exact h
  · exact h
  · exact h
  · exact h
  · exact h
  · exact h
  · exact h
  · trivial
def Wc26 (p1 p8 n y ra rb : Nat) (a b cc : Int) : Nat → Value → World → Prop
  | 0, v, w => v = .int .i64 n
  | 1, v, w => v = .int .i64 y
  | 2, v, w => v = .int .i64 n
  | 3, v, w => v = .int .i64 y
  | 4, v, w => v = .pointer (some ⟨p8, n * 5, none⟩)
  | 5, v, w => v = .pointer (some ⟨p8, n * 5 + y, none⟩)
  | 6, v, w => v = .int .u64 a
  | 7, v, w => v = .int .i64 n
  | 8, v, w => v = .int .i64 (n + 1 : Int)
  | 9, v, w => v = .int .i64 ra
  | 10, v, w => v = .int .i64 y
  | 11, v, w => v = .pointer (some ⟨p8, ra * 5, none⟩)
  | 12, v, w => v = .pointer (some ⟨p8, ra * 5 + y, none⟩)
  | 13, v, w => v = .int .u64 b
  | 14, v, w => v = .int .u64 (nt b)
  | 15, v, w => v = .int .i64 n
  | 16, v, w => v = .int .i64 (n + 2 : Int)
  | 17, v, w => v = .int .i64 rb
  | 18, v, w => v = .int .i64 y
  | 19, v, w => v = .pointer (some ⟨p8, rb * 5, none⟩)
  | 20, v, w => v = .pointer (some ⟨p8, rb * 5 + y, none⟩)
  | 21, v, w => v = .int .u64 cc
  | 22, v, w => v = .int .u64 (bits .and .u64 (nt b) cc)
  | 23, v, w => v = .int .u64 (bits .xor .u64 a (bits .and .u64 (nt b) cc))
  | 24, v, w => v = .pointer (some ⟨p1, n * 5, none⟩)
  | 25, v, w => v = .pointer (some ⟨p1, n * 5 + y, none⟩)
  | _, _, _ => True
theorem Wc26_keep (p1 p8 n y ra rb : Nat) (a b cc : Int) (i1 : Nat) (v : Value) (w w' : World) (h : Wc26 p1 p8 n y ra rb a b cc i1 v w) (r : (fun w w' => Below w.heap.size w w') w w') : Wc26 p1 p8 n y ra rb a b cc i1 v w' := by
  rcases i1 with _ | _ | _ | _ | _ | _ | _ | _ | _ | _ | _ | _ | _ | _ | _ | _ | _ | _ | _ | _ | _ | _ | _ | _ | _ | _ | _
  · exact h
  · exact h
  · exact h
  · exact h
  · exact h
  · exact h
  · exact h
  · exact h
  · exact h
  · exact h
  · exact h
  · exact h
  · exact h
  · exact h
  · exact h
  · exact h
  · exact h
  · exact h
  · exact h
  · exact h
  · exact h
  · exact h
  · exact h
  · exact h
  · exact h
  · exact h
  · trivial
def Wc27 (p1 p4 i : Nat) (a c : Int) : Nat → Value → World → Prop
  | 0, v, w => v = .pointer (some ⟨p1, 0, none⟩)
  | 1, v, w => v = .pointer (some ⟨p1, 0, none⟩)
  | 2, v, w => v = .int .u64 a
  | 3, v, w => v = .int .i64 i
  | 4, v, w => v = .pointer (some ⟨p4, i, none⟩)
  | 5, v, w => v = .int .u64 c
  | 6, v, w => v = .int .u64 (bits .xor .u64 a c)
  | 7, v, w => v = .pointer (some ⟨p1, 0, none⟩)
  | 8, v, w => v = .pointer (some ⟨p1, 0, none⟩)
  | _, _, _ => True
theorem Wc27_keep (p1 p4 i : Nat) (a c : Int) (i1 : Nat) (v : Value) (w w' : World) (h : Wc27 p1 p4 i a c i1 v w) (r : (fun w w' => Below w.heap.size w w') w w') : Wc27 p1 p4 i a c i1 v w' := by
  rcases i1 with _ | _ | _ | _ | _ | _ | _ | _ | _ | _
  · exact h
  · exact h
  · exact h
  · exact h
  · exact h
  · exact h
  · exact h
  · exact h
  · exact h
  · trivial
set_option maxRecDepth 20000 in
set_option maxHeartbeats 4000000 in
theorem rchange27 (Z : Nat → Int) (w : World) : Calls Tryd.prog 27 #[.agg (arr .u64 25 Z)] w fun e w' => e = .returned (.agg (arr .u64 25 (prz Z 24))) ∧ Below w.heap.size w w' := by
  have hz := zero47
  have hz2 := zero55
  have hz3 := zero57
  have hz4 := zero46
  obtain ⟨w1, hw1⟩ : ∃ w1 : World, w1 = (w.alloc (.cells (arr .u64 25 Z) 47)).alloc (.cells (arr .u64 25 fun _ => 0) 47) := ⟨_, rfl⟩
  have q1 : Row w1 w.heap.size 47 .u64 25 Z #[] := by rw [hw1]; exact (Row.new w 47 .u64 25 Z).alloc _
  have q2 : Row w1 (w.heap.size + 1) 47 .u64 25 (fun _ => 0) #[] := by
    have := Row.new (w.alloc (.cells (arr .u64 25 Z) 47)) 47 .u64 25 (fun _ => 0)
    rw [hw1]; simpa using this
  have k1 : Below w.heap.size w w1 := by rw [hw1]; exact ((Below.refl _ _).alloc (Nat.le_refl _) _).alloc (by simp) _
  have hs1 : w1.heap.size = w.heap.size + 2 := by rw [hw1]; simp
  have HW := Lib.hid hw1
  have HS1 := Lib.hid hs1
  clear hs1 hw1
  go_enter Tryd.func27, Tryd.ntmps27
  go_upto_region 3 with (first
    | (go_at_call 31; rw [← HW.out]; (with_reducible refine (turns31 _).mono ?_); rintro e w2 ⟨rfl, b2⟩)
    | (with_reducible refine storer55 rfl (.tmp 3) (.tmp 14) rfl w2.heap.size _ rfl rfl (Row.new w2 55 .i64 25 (fun _ => 0)) ?_)
    | (go_at_call 32; (with_reducible refine (constants32 _).mono ?_); rintro e w3 ⟨rfl, b3⟩)
    | (with_reducible refine storer57 rfl (.tmp 4) (.tmp 15) rfl w3.heap.size _ rfl rfl (Row.new w3 57 .u64 24 (fun _ => 0)) ?_))
  have j2 : Below w2.heap.size w2 ((w2.alloc (.cells (arr .i64 25 fun _ => 0) 55)).setRow w2.heap.size (arr .i64 25 (tarr 24))) := below_setRow ((Below.refl _ _).alloc (Nat.le_refl _) _) (Nat.le_refl _) _
  have t3 := (Row.new w2 55 .i64 25 (fun _ => 0)).setRow (m := 25) (tarr 24)
  have j3 : Below w3.heap.size w3 ((w3.alloc (.cells (arr .u64 24 fun _ => 0) 57)).setRow w3.heap.size (arr .u64 24 (cst 24 0))) := below_setRow ((Below.refl _ _).alloc (Nat.le_refl _) _) (Nat.le_refl _) _
  have t4 := (Row.new w3 57 .u64 24 (fun _ => 0)).setRow (m := 24) (cst 24 0)
  have hw12 := b2.size
  have hw23 := b3.size
  have hj2 := j2.size
  have h23 : w2.heap.size < w3.heap.size := by simp at hw23; omega
  have c0 : CH w w.heap.size (w.heap.size + 1) w2.heap.size w3.heap.size Z ((w3.alloc (.cells (arr .u64 24 fun _ => 0) 57)).setRow w3.heap.size (arr .u64 24 (cst 24 0))) := by
    have hs := HS1.out
    exact ⟨(((q1.below b2 q1.lt).below j2 (by omega)).below b3 (by omega)).below j3 (by omega), (((q2.below b2 q2.lt).below j2 (by omega)).below b3 (by omega)).below j3 (by omega), (t3.below b3 t3.lt).below j3 (by omega), t4,
      ((k1.trans (b2.mono k1.size)).trans ((j2.mono (by omega)).trans (b3.mono (by omega)))).trans (j3.mono (by omega)), Nat.le_refl _, by omega, by omega, by omega⟩
  obtain ⟨wx, hwx⟩ : ∃ wx, wx = (w3.alloc (.cells (arr .u64 24 fun _ => 0) 57)).setRow w3.heap.size (arr .u64 24 (cst 24 0)) := ⟨_, rfl⟩
  obtain ⟨p3, hp3⟩ : ∃ p, p = w2.heap.size := ⟨_, rfl⟩
  obtain ⟨p4, hp4⟩ : ∃ p, p = w3.heap.size := ⟨_, rfl⟩
  obtain ⟨p2, hp2⟩ : ∃ p, p = w.heap.size + 1 := ⟨_, rfl⟩
  obtain ⟨p1, hp1⟩ : ∃ p, p = w.heap.size := ⟨_, rfl⟩
  rw [← hwx] at c0 ⊢
  rw [← hp3, ← hp4, ← hp2] at c0 ⊢
  clear q1 q2 k1 j2 j3 t3 t4 b2 b3 hw12 hw23 hj2 h23 HS1 HW hwx hp3 hp4 hz hz2 hz3
  rw [← hp1] at c0 ⊢
  have hz := zero47
  have HP1 := Lib.hid hp1
  clear hp1 hp2
  go_wp2_with fail
  go_loopg [5] 24 (fun k v wr => ∃ i : Nat, v = .int .i64 i ∧ i + k = 24 ∧ CH w p1 p2 p3 p4 (prz Z i) wr)
  case atStart => exact ⟨0, rfl, rfl, c0⟩
  case round =>
    clear c0
    obtain ⟨i, rfl, hi, h1⟩ := hrel
    by_cases hlt : i < 24
    · have zi0 : (0 : Int) ≤ (i : Int) := by omega
      have zi1 : (i : Int) < 24 := by omega
      obtain ⟨Z0, hZ0⟩ : ∃ Z0, Z0 = Z := ⟨_, rfl⟩
      have HZ : Hid (prz Z (i + 1) = rdz (cst 24 0 i) (prz Z i)) := Lib.hid rfl
      obtain ⟨Y, hY⟩ : ∃ Y, Y = prz Z i := ⟨_, rfl⟩
      rw [← hY] at h1 HZ
      obtain ⟨ko, hko⟩ : ∃ ko, ko = gk := ⟨_, rfl⟩
      have HI : Hid (i + ko = 24 ∧ ko = gk) := Lib.hid ⟨by omega, hko⟩
      clear hY hko hi hZ0
      go_wp2_with fail
      have h2 := h1.below (w' := wr.alloc (.cells (arr .u64 5 fun _ => 0) 46)) ((Below.refl _ _).alloc (Nat.le_refl _) _)
      have r2 := (Row.new wr 46 .u64 5 (fun _ => 0)).congr (g := upto 0 (cz Y) fun _ => 0) (fun i _ => by simp [upto])
      obtain ⟨p6, hp6⟩ : ∃ p, p = wr.heap.size := ⟨_, rfl⟩
      have h46 : p4 < p6 := by rw [hp6]; exact h1.r4.lt
      have ho1 := h1.o1
      have ho2 := h1.o2
      have ho3 := h1.o3
      have ho4 := h1.o4
      rw [← hp6] at r2 ⊢
      obtain ⟨wy, hwy⟩ : ∃ wy, wy = wr.alloc (.cells (arr .u64 5 fun _ => 0) 46) := ⟨_, rfl⟩
      rw [← hwy] at h2 r2 ⊢
      clear h1 hp6 hwy
      go_loopg [7] 5 (fun k v wr => ∃ n : Nat, v = .int .i64 n ∧ n + k = 5 ∧ CH w p1 p2 p3 p4 Y wr ∧ Row wr p6 46 .u64 5 (upto n (cz Y) fun _ => 0) #[])
      case atStart => exact ⟨0, rfl, rfl, h2, r2⟩
      case round =>
        clear h2 r2
        obtain ⟨n, rfl, hn, h1, r1⟩ := hrel
        by_cases hl5 : n < 5
        · have z0 : (0 : Int) ≤ (n : Int) := by omega
          have z1 : (n : Int) < 5 := by omega
          have e1 : IntKind.i64.wrap ((n : Int) + 1) = (n : Int) + 1 := IntWalk.i64_in _ (by omega)
          obtain ⟨a0, ha0⟩ : ∃ a, Y (n * 5) = a := ⟨_, rfl⟩
          have H0 : Hid (some (Value.int .u64 (Y (n * 5))) = some (.int .u64 a0)) := Lib.hid (by rw [ha0])
          obtain ⟨a1, ha1⟩ : ∃ a, Y (n * 5 + 1) = a := ⟨_, rfl⟩
          have H1 : Hid (some (Value.int .u64 (Y (n * 5 + 1))) = some (.int .u64 a1)) := Lib.hid (by rw [ha1])
          obtain ⟨a2, ha2⟩ : ∃ a, Y (n * 5 + 2) = a := ⟨_, rfl⟩
          have H2 : Hid (some (Value.int .u64 (Y (n * 5 + 2))) = some (.int .u64 a2)) := Lib.hid (by rw [ha2])
          obtain ⟨a3, ha3⟩ : ∃ a, Y (n * 5 + 3) = a := ⟨_, rfl⟩
          have H3 : Hid (some (Value.int .u64 (Y (n * 5 + 3))) = some (.int .u64 a3)) := Lib.hid (by rw [ha3])
          obtain ⟨a4, ha4⟩ : ∃ a, Y (n * 5 + 4) = a := ⟨_, rfl⟩
          have H4 : Hid (some (Value.int .u64 (Y (n * 5 + 4))) = some (.int .u64 a4)) := Lib.hid (by rw [ha4])
          have HV : Hid (upd (upto n (cz Y) fun _ => 0) n (bits .xor .u64 (bits .xor .u64 (bits .xor .u64 (bits .xor .u64 a0 a1) a2) a3) a4) = upto (n + 1) (cz Y) fun _ => 0) := Lib.hid (by
            rw [← upto_set]; unfold cz; rw [ha0, ha1, ha2, ha3, ha4])
          have HN := Lib.hid hn
          clear ha0 ha1 ha2 ha3 ha4 hn
          go_upto_region 10 with fail
          have h2 := h1.below (w' := wr.drew) ((Below.refl _ _).drew)
          have r2 := r1.drew
          clear h1 r1
          refine region_monoT 26 (fun x => CH w p1 p2 p3 p4 Y x ∧ Row x p6 46 .u64 5 (upto n (cz Y) fun _ => 0) #[]) (fun w w' => Below w.heap.size w w') (Wc10 p1 p6 n a0 a1 a2 a3 a4) [(0, some 24), (1, some 25), (2, some 26), (3, some 27), (4, some 28), (5, some 29), (6, some 30), (7, some 31), (8, some 32), (9, some 33), (10, some 34), (11, some 35), (12, some 36), (13, some 37), (14, some 38), (15, some 39), (16, some 40), (17, some 41), (18, some 42), (19, some 43), (20, some 44), (21, some 45), (22, some 46), (23, some 47), (24, some 48), (25, some 49)] (by kernel_rfl) (by kernel_rfl) (by kernel_rfl) (by kernel_rfl) (fun _ _ h r => ⟨h.1.below r, h.2.below r h.2.lt⟩) (fun i1 v1 w1 w2 _ h1 r1 => Wc10_keep p1 p6 n a0 a1 a2 a3 a4 i1 v1 w1 w2 h1 r1) (⟨h2, r2⟩) ?_ (fun vs w' hS hV => ?_)
          · refine StepsL.cons0  (by kernel_rfl)  ?_ ?_
            · rintro w1 hS  K hK
              (try simp only [Act.put, List.setIfInBounds_toArray, List.set_cons_zero, List.set_cons_succ])
              go_simp
              exact hK.out _ _ rfl (Below.refl _ _)
            refine StepsL.cons0  (by kernel_rfl)  ?_ ?_
            · rintro w1 hS  K hK
              (try simp only [Act.put, List.setIfInBounds_toArray, List.set_cons_zero, List.set_cons_succ])
              go_simp
              exact hK.out _ _ rfl (Below.refl _ _)
            refine StepsL.cons1 1 (some 25) (by kernel_rfl) rfl ?_ ?_
            · rintro w1 hS _ rfl K hK
              (try simp only [Act.put, List.setIfInBounds_toArray, List.set_cons_zero, List.set_cons_succ])
              go_simp
              exact hK.out _ _ rfl (Below.refl _ _)
            refine StepsL.cons1 2 (some 26) (by kernel_rfl) rfl ?_ ?_
            · rintro w1 hS _ rfl K hK
              (try simp only [Act.put, List.setIfInBounds_toArray, List.set_cons_zero, List.set_cons_succ])
              go_simp
              exact hK.out _ _ rfl (Below.refl _ _)
            refine StepsL.cons1 3 (some 27) (by kernel_rfl) rfl ?_ ?_
            · rintro w1 hS _ rfl K hK
              (try simp only [Act.put, List.setIfInBounds_toArray, List.set_cons_zero, List.set_cons_succ])
              have hcl := hS.1.r1.cell (n * 5) (by omega) |>.trans H0.out
              go_simp
              exact hK.out _ _ rfl (Below.refl _ _)
            refine StepsL.cons0  (by kernel_rfl)  ?_ ?_
            · rintro w1 hS  K hK
              (try simp only [Act.put, List.setIfInBounds_toArray, List.set_cons_zero, List.set_cons_succ])
              go_simp
              exact hK.out _ _ rfl (Below.refl _ _)
            refine StepsL.cons1 5 (some 29) (by kernel_rfl) rfl ?_ ?_
            · rintro w1 hS _ rfl K hK
              (try simp only [Act.put, List.setIfInBounds_toArray, List.set_cons_zero, List.set_cons_succ])
              go_simp
              exact hK.out _ _ rfl (Below.refl _ _)
            refine StepsL.cons1 6 (some 30) (by kernel_rfl) rfl ?_ ?_
            · rintro w1 hS _ rfl K hK
              (try simp only [Act.put, List.setIfInBounds_toArray, List.set_cons_zero, List.set_cons_succ])
              go_simp
              exact hK.out _ _ rfl (Below.refl _ _)
            refine StepsL.cons1 7 (some 31) (by kernel_rfl) rfl ?_ ?_
            · rintro w1 hS _ rfl K hK
              (try simp only [Act.put, List.setIfInBounds_toArray, List.set_cons_zero, List.set_cons_succ])
              have hcl := hS.1.r1.cell (n * 5 + 1) (by omega) |>.trans H1.out
              go_simp
              exact hK.out _ _ rfl (Below.refl _ _)
            refine StepsL.cons2 4 (some 28) 8 (some 32) (by kernel_rfl) rfl rfl ?_ ?_
            · rintro w1 hS _ rfl _ rfl K hK
              (try simp only [Act.put, List.setIfInBounds_toArray, List.set_cons_zero, List.set_cons_succ])
              go_simp
              exact hK.out _ _ rfl (Below.refl _ _)
            refine StepsL.cons0  (by kernel_rfl)  ?_ ?_
            · rintro w1 hS  K hK
              (try simp only [Act.put, List.setIfInBounds_toArray, List.set_cons_zero, List.set_cons_succ])
              go_simp
              exact hK.out _ _ rfl (Below.refl _ _)
            refine StepsL.cons1 10 (some 34) (by kernel_rfl) rfl ?_ ?_
            · rintro w1 hS _ rfl K hK
              (try simp only [Act.put, List.setIfInBounds_toArray, List.set_cons_zero, List.set_cons_succ])
              go_simp
              exact hK.out _ _ rfl (Below.refl _ _)
            refine StepsL.cons1 11 (some 35) (by kernel_rfl) rfl ?_ ?_
            · rintro w1 hS _ rfl K hK
              (try simp only [Act.put, List.setIfInBounds_toArray, List.set_cons_zero, List.set_cons_succ])
              go_simp
              exact hK.out _ _ rfl (Below.refl _ _)
            refine StepsL.cons1 12 (some 36) (by kernel_rfl) rfl ?_ ?_
            · rintro w1 hS _ rfl K hK
              (try simp only [Act.put, List.setIfInBounds_toArray, List.set_cons_zero, List.set_cons_succ])
              have hcl := hS.1.r1.cell (n * 5 + 2) (by omega) |>.trans H2.out
              go_simp
              exact hK.out _ _ rfl (Below.refl _ _)
            refine StepsL.cons2 9 (some 33) 13 (some 37) (by kernel_rfl) rfl rfl ?_ ?_
            · rintro w1 hS _ rfl _ rfl K hK
              (try simp only [Act.put, List.setIfInBounds_toArray, List.set_cons_zero, List.set_cons_succ])
              go_simp
              exact hK.out _ _ rfl (Below.refl _ _)
            refine StepsL.cons0  (by kernel_rfl)  ?_ ?_
            · rintro w1 hS  K hK
              (try simp only [Act.put, List.setIfInBounds_toArray, List.set_cons_zero, List.set_cons_succ])
              go_simp
              exact hK.out _ _ rfl (Below.refl _ _)
            refine StepsL.cons1 15 (some 39) (by kernel_rfl) rfl ?_ ?_
            · rintro w1 hS _ rfl K hK
              (try simp only [Act.put, List.setIfInBounds_toArray, List.set_cons_zero, List.set_cons_succ])
              go_simp
              exact hK.out _ _ rfl (Below.refl _ _)
            refine StepsL.cons1 16 (some 40) (by kernel_rfl) rfl ?_ ?_
            · rintro w1 hS _ rfl K hK
              (try simp only [Act.put, List.setIfInBounds_toArray, List.set_cons_zero, List.set_cons_succ])
              go_simp
              exact hK.out _ _ rfl (Below.refl _ _)
            refine StepsL.cons1 17 (some 41) (by kernel_rfl) rfl ?_ ?_
            · rintro w1 hS _ rfl K hK
              (try simp only [Act.put, List.setIfInBounds_toArray, List.set_cons_zero, List.set_cons_succ])
              have hcl := hS.1.r1.cell (n * 5 + 3) (by omega) |>.trans H3.out
              go_simp
              exact hK.out _ _ rfl (Below.refl _ _)
            refine StepsL.cons2 14 (some 38) 18 (some 42) (by kernel_rfl) rfl rfl ?_ ?_
            · rintro w1 hS _ rfl _ rfl K hK
              (try simp only [Act.put, List.setIfInBounds_toArray, List.set_cons_zero, List.set_cons_succ])
              go_simp
              exact hK.out _ _ rfl (Below.refl _ _)
            refine StepsL.cons0  (by kernel_rfl)  ?_ ?_
            · rintro w1 hS  K hK
              (try simp only [Act.put, List.setIfInBounds_toArray, List.set_cons_zero, List.set_cons_succ])
              go_simp
              exact hK.out _ _ rfl (Below.refl _ _)
            refine StepsL.cons1 20 (some 44) (by kernel_rfl) rfl ?_ ?_
            · rintro w1 hS _ rfl K hK
              (try simp only [Act.put, List.setIfInBounds_toArray, List.set_cons_zero, List.set_cons_succ])
              go_simp
              exact hK.out _ _ rfl (Below.refl _ _)
            refine StepsL.cons1 21 (some 45) (by kernel_rfl) rfl ?_ ?_
            · rintro w1 hS _ rfl K hK
              (try simp only [Act.put, List.setIfInBounds_toArray, List.set_cons_zero, List.set_cons_succ])
              go_simp
              exact hK.out _ _ rfl (Below.refl _ _)
            refine StepsL.cons1 22 (some 46) (by kernel_rfl) rfl ?_ ?_
            · rintro w1 hS _ rfl K hK
              (try simp only [Act.put, List.setIfInBounds_toArray, List.set_cons_zero, List.set_cons_succ])
              have hcl := hS.1.r1.cell (n * 5 + 4) (by omega) |>.trans H4.out
              go_simp
              exact hK.out _ _ rfl (Below.refl _ _)
            refine StepsL.cons2 19 (some 43) 23 (some 47) (by kernel_rfl) rfl rfl ?_ ?_
            · rintro w1 hS _ rfl _ rfl K hK
              (try simp only [Act.put, List.setIfInBounds_toArray, List.set_cons_zero, List.set_cons_succ])
              go_simp
              exact hK.out _ _ rfl (Below.refl _ _)
            refine StepsL.cons1 0 (some 24) (by kernel_rfl) rfl ?_ ?_
            · rintro w1 hS _ rfl K hK
              (try simp only [Act.put, List.setIfInBounds_toArray, List.set_cons_zero, List.set_cons_succ])
              go_simp
              exact hK.out _ _ rfl (Below.refl _ _)
            exact StepsL.nil
          · have e24 : vs 24 = .int .u64 (bits .xor .u64 (bits .xor .u64 (bits .xor .u64 (bits .xor .u64 a0 a1) a2) a3) a4) := hV 24 (by omega)
            have e25 : vs 25 = .pointer (some ⟨p6, n, none⟩) := hV 25 (by omega)
            simp only [putl, List.foldl_cons, List.foldl_nil, Act.put, List.setIfInBounds_toArray, List.set_cons_zero, List.set_cons_succ, e24, e25]
            simp only [List.drop_succ_cons, List.drop_zero]
            obtain ⟨h3, r3⟩ := hS
            obtain ⟨vv, hvv⟩ : ∃ vv, bits .xor .u64 (bits .xor .u64 (bits .xor .u64 (bits .xor .u64 a0 a1) a2) a3) a4 = vv := ⟨_, rfl⟩
            rw [hvv] at HV ⊢
            have hcl := r3.cell n hl5
            have hff := r3.frozen n
            have r4 := r3.set n vv hl5
            rw [HV.out] at r4
            have h4 := h3.other h46 n (.int .u64 vv)
            clear hV e24 e25 h3 r3 h2 r2 hvv
            go_wp2_with fail
            go_roundg (gk - 1)
            case measure => have := HN.out; omega
            case rel => exact ⟨n + 1, by simp, by have := HN.out; omega, h4, r4⟩
        · have hd5 : decide (n < 5) = false := by simp; omega
          obtain rfl : n = 5 := by omega
          clear hn hl5
          go_wp2_with fail
          have h2 := h1.below (w' := wr.alloc (.cells (arr .u64 25 fun _ => 0) 47)) ((Below.refl _ _).alloc (Nat.le_refl _) _)
          have r2 := r1.alloc (.cells (arr .u64 25 fun _ => 0) 47)
          have b2 := Row.new wr 47 .u64 25 (fun _ => 0)
          obtain ⟨p8, hp8⟩ : ∃ p, p = wr.heap.size := ⟨_, rfl⟩
          have h68 : p6 < p8 := by rw [hp8]; exact r1.lt
          rw [← hp8] at b2 ⊢
          obtain ⟨wy, hwy⟩ : ∃ wy, wy = wr.alloc (.cells (arr .u64 25 fun _ => 0) 47) := ⟨_, rfl⟩
          rw [← hwy] at h2 r2 b2 ⊢
          have b2 : Row wy p8 47 .u64 25 (bz Y (0 * 5)) #[] := b2
          clear h1 r1 hp8 hwy
          go_loopg [9] 5 (fun k v wr => ∃ n : Nat, v = .int .i64 n ∧ n + k = 5 ∧ CH w p1 p2 p3 p4 Y wr ∧ Row wr p6 46 .u64 5 (upto 5 (cz Y) fun _ => 0) #[] ∧ Row wr p8 47 .u64 25 (bz Y (n * 5)) #[])
          case atStart => exact ⟨0, rfl, rfl, h2, r2, b2⟩
          case round =>
            clear h2 r2 b2
            obtain ⟨n, rfl, hn, h1, r1, b1⟩ := hrel
            by_cases hl5 : n < 5
            · have z0 : (0 : Int) ≤ (n : Int) := by omega
              have z1 : (n : Int) < 5 := by omega
              have e1 : IntKind.i64.wrap ((n : Int) + 1) = (n : Int) + 1 := IntWalk.i64_in _ (by omega)
              have e4 : IntKind.i64.wrap ((n : Int) + 4) = (n : Int) + 4 := IntWalk.i64_in _ (by omega)
              obtain ⟨r4, hr4⟩ : ∃ r, (n + 4) % 5 = r := ⟨_, rfl⟩
              obtain ⟨ro, hro⟩ : ∃ r, (n + 1) % 5 = r := ⟨_, rfl⟩
              have t1 : ((n : Int) + 4) % 5 = (r4 : Int) := by omega
              have t2 : ((n : Int) + 4).tmod 5 = (r4 : Int) := by rw [Int.tmod_eq_emod_of_nonneg (by omega)]; omega
              have t3 : ((n : Int) + 1) % 5 = (ro : Int) := by omega
              have t4 : ((n : Int) + 1).tmod 5 = (ro : Int) := by rw [Int.tmod_eq_emod_of_nonneg (by omega)]; omega
              have z2 : (0 : Int) ≤ (r4 : Int) := by omega
              have z3 : (r4 : Int) < 5 := by omega
              have z4 : (0 : Int) ≤ (ro : Int) := by omega
              have z5 : (ro : Int) < 5 := by omega
              obtain ⟨s4, hs4⟩ : ∃ s, cz Y r4 = s := ⟨_, rfl⟩
              obtain ⟨s1, hs1⟩ : ∃ s, cz Y ro = s := ⟨_, rfl⟩
              have HS4 : Hid (some (Value.int .u64 (upto 5 (cz Y) (fun _ => 0) r4)) = some (.int .u64 s4)) := Lib.hid (by unfold upto; rw [if_pos (by omega), hs4])
              have HS1 : Hid (some (Value.int .u64 (upto 5 (cz Y) (fun _ => 0) ro)) = some (.int .u64 s1)) := Lib.hid (by unfold upto; rw [if_pos (by omega), hs1])
              have HDZ : Hid (bits .xor .u64 s4 (rol 1 s1) = dz Y n) := Lib.hid (by unfold dz; rw [hr4, hro, hs4, hs1])
              have HN := Lib.hid hn
              obtain ⟨kn, hkn⟩ : ∃ kn, kn = gk := ⟨_, rfl⟩
              have HKN := Lib.hid hkn
              clear hr4 hro hs4 hs1 hn hkn
              go_upto_region 15 with fail
              have h2 := h1.below (w' := wr.drew) ((Below.refl _ _).drew)
              have r2 := r1.drew
              have b2 := b1.drew
              clear h1 r1 b1
              refine region_monoL (fun x => CH w p1 p2 p3 p4 Y x ∧ Row x p6 46 .u64 5 (upto 5 (cz Y) fun _ => 0) #[] ∧ Row x p8 47 .u64 25 (bz Y (n * 5)) #[]) (fun w w' => Below w.heap.size w w') (Wc15 p6 n r4 ro s4 s1) [(0, some 54), (1, some 55), (2, some 56), (3, some 57), (4, some 58), (5, some 59), (6, some 60), (7, some 61), (8, some 62), (9, some 63), (10, some 64), (11, some 65), (12, some 10)] (by kernel_rfl) (by kernel_rfl) (by kernel_rfl) (fun _ _ h r => ⟨h.1.below r, h.2.1.below r h.2.1.lt, h.2.2.below r h.2.2.lt⟩) (fun i1 v1 w1 w2 _ h1 r1 => Wc15_keep p6 n r4 ro s4 s1 i1 v1 w1 w2 h1 r1) (⟨h2, r2, b2⟩) ?_ (fun vs w' hS hV => ?_)
              · refine StepsL.cons0  (by kernel_rfl)  ?_ ?_
                · rintro w1 hS  K hK
                  (try simp only [Act.put, List.setIfInBounds_toArray, List.set_cons_zero, List.set_cons_succ])
                  go_simp
                  exact hK.out _ _ rfl (Below.refl _ _)
                refine StepsL.cons1 0 (some 54) (by kernel_rfl) rfl ?_ ?_
                · rintro w1 hS _ rfl K hK
                  (try simp only [Act.put, List.setIfInBounds_toArray, List.set_cons_zero, List.set_cons_succ])
                  go_simp
                  exact hK.out _ _ rfl (Below.refl _ _)
                refine StepsL.cons1 1 (some 55) (by kernel_rfl) rfl ?_ ?_
                · rintro w1 hS _ rfl K hK
                  (try simp only [Act.put, List.setIfInBounds_toArray, List.set_cons_zero, List.set_cons_succ])
                  go_simp
                  exact hK.out _ _ rfl (Below.refl _ _)
                refine StepsL.cons1 2 (some 56) (by kernel_rfl) rfl ?_ ?_
                · rintro w1 hS _ rfl K hK
                  (try simp only [Act.put, List.setIfInBounds_toArray, List.set_cons_zero, List.set_cons_succ])
                  go_simp
                  exact hK.out _ _ rfl (Below.refl _ _)
                refine StepsL.cons1 3 (some 57) (by kernel_rfl) rfl ?_ ?_
                · rintro w1 hS _ rfl K hK
                  (try simp only [Act.put, List.setIfInBounds_toArray, List.set_cons_zero, List.set_cons_succ])
                  have hcl := hS.2.1.cell r4 (by omega) |>.trans HS4.out
                  go_simp
                  exact hK.out _ _ rfl (Below.refl _ _)
                refine StepsL.cons0  (by kernel_rfl)  ?_ ?_
                · rintro w1 hS  K hK
                  (try simp only [Act.put, List.setIfInBounds_toArray, List.set_cons_zero, List.set_cons_succ])
                  go_simp
                  exact hK.out _ _ rfl (Below.refl _ _)
                refine StepsL.cons1 5 (some 59) (by kernel_rfl) rfl ?_ ?_
                · rintro w1 hS _ rfl K hK
                  (try simp only [Act.put, List.setIfInBounds_toArray, List.set_cons_zero, List.set_cons_succ])
                  go_simp
                  exact hK.out _ _ rfl (Below.refl _ _)
                refine StepsL.cons1 6 (some 60) (by kernel_rfl) rfl ?_ ?_
                · rintro w1 hS _ rfl K hK
                  (try simp only [Act.put, List.setIfInBounds_toArray, List.set_cons_zero, List.set_cons_succ])
                  go_simp
                  exact hK.out _ _ rfl (Below.refl _ _)
                refine StepsL.cons1 7 (some 61) (by kernel_rfl) rfl ?_ ?_
                · rintro w1 hS _ rfl K hK
                  (try simp only [Act.put, List.setIfInBounds_toArray, List.set_cons_zero, List.set_cons_succ])
                  go_simp
                  exact hK.out _ _ rfl (Below.refl _ _)
                refine StepsL.cons1 8 (some 62) (by kernel_rfl) rfl ?_ ?_
                · rintro w1 hS _ rfl K hK
                  (try simp only [Act.put, List.setIfInBounds_toArray, List.set_cons_zero, List.set_cons_succ])
                  have hcl := hS.2.1.cell ro (by omega) |>.trans HS1.out
                  go_simp
                  exact hK.out _ _ rfl (Below.refl _ _)
                refine StepsL.cons1 9 (some 63) (by kernel_rfl) rfl ?_ ?_
                · rintro w1 hS _ rfl K hK
                  (try simp only [Act.put, List.setIfInBounds_toArray, List.set_cons_zero, List.set_cons_succ])
                  go_simp
                  go_at_call 33
                  refine (turned33 s1 1 (by omega) _).mono ?_
                  rintro e w2 ⟨rfl, rfl⟩
                  exact hK.out _ _ rfl ((Below.refl _ _).drew)
                refine StepsL.cons2 4 (some 58) 10 (some 64) (by kernel_rfl) rfl rfl ?_ ?_
                · rintro w1 hS _ rfl _ rfl K hK
                  (try simp only [Act.put, List.setIfInBounds_toArray, List.set_cons_zero, List.set_cons_succ])
                  go_simp
                  exact hK.out _ _ rfl (Below.refl _ _)
                refine StepsL.cons1 11 (some 65) (by kernel_rfl) rfl ?_ ?_
                · rintro w1 hS _ rfl K hK
                  (try simp only [Act.put, List.setIfInBounds_toArray, List.set_cons_zero, List.set_cons_succ])
                  go_simp
                  exact hK.out _ _ rfl (Below.refl _ _)
                exact StepsL.nil
              · have e12 : vs 12 = .int .u64 (bits .xor .u64 s4 (rol 1 s1)) := hV 12 (by simp)
                rw [HDZ.out] at e12
                obtain ⟨dv, hdv⟩ : ∃ dv, dz Y n = dv := ⟨_, rfl⟩
                rw [hdv] at e12
                simp only [putl, List.foldl_cons, List.foldl_nil, Act.put, List.setIfInBounds_toArray, List.set_cons_zero, List.set_cons_succ, e12]
                obtain ⟨h3, r3, b3⟩ := hS
                have HDV := Lib.hid hdv
                clear hV e12 h2 r2 b2 hdv HS4 HS1 HDZ t1 t2 t3 t4
                go_wp2_with fail
                go_loopg [11] 5 (fun k v wr => ∃ y : Nat, v = .int .i64 y ∧ y + k = 5 ∧ CH w p1 p2 p3 p4 Y wr ∧ Row wr p6 46 .u64 5 (upto 5 (cz Y) fun _ => 0) #[] ∧ Row wr p8 47 .u64 25 (bz Y (n * 5 + y)) #[])
                case atStart => exact ⟨0, rfl, rfl, h3, r3, b3⟩
                case round =>
                  clear h3 r3 b3
                  obtain ⟨y, rfl, hy, h1, r1, b1⟩ := hrel
                  by_cases hy5 : y < 5
                  · have y0 : (0 : Int) ≤ (y : Int) := by omega
                    have y1 : (y : Int) < 5 := by omega
                    have e1 : IntKind.i64.wrap ((y : Int) + 1) = (y : Int) + 1 := IntWalk.i64_in _ (by omega)
                    have f1 : IntKind.i64.wrap (2 * (n : Int)) = 2 * (n : Int) := IntWalk.i64_in _ (by omega)
                    have f2 : IntKind.i64.wrap (3 * (y : Int)) = 3 * (y : Int) := IntWalk.i64_in _ (by omega)
                    have f3 : IntKind.i64.wrap (2 * (n : Int) + 3 * (y : Int)) = 2 * (n : Int) + 3 * (y : Int) := IntWalk.i64_in _ (by omega)
                    obtain ⟨q, hq⟩ : ∃ q, (2 * n + 3 * y) % 5 = q := ⟨_, rfl⟩
                    have f4 : (2 * (n : Int) + 3 * (y : Int)) % 5 = (q : Int) := by omega
                    have f5 : (2 * (n : Int) + 3 * (y : Int)).tmod 5 = (q : Int) := by rw [Int.tmod_eq_emod_of_nonneg (by omega)]; omega
                    have y2 : (0 : Int) ≤ (q : Int) := by omega
                    have y3 : (q : Int) < 5 := by omega
                    have hny : n * 5 + y < 25 := by omega
                    have hyq : y * 5 + q < 25 := by omega
                    obtain ⟨a, ha⟩ : ∃ a, Y (n * 5 + y) = a := ⟨_, rfl⟩
                    obtain ⟨tv, htv⟩ : ∃ t, tz (n * 5 + y) = t := ⟨_, rfl⟩
                    obtain ⟨htz, htl⟩ := tz_at (n * 5 + y) hny
                    rw [htv] at htz htl
                    have HA : Hid (some (Value.int .u64 (Y (n * 5 + y))) = some (.int .u64 a)) := Lib.hid (by rw [ha])
                    have HT : Hid (some (Value.int .i64 (tarr 24 (n * 5 + y))) = some (.int .i64 (tv : Int))) := Lib.hid (by rw [htz])
                    have HTV := Lib.hid htl
                    have HB2 := Lib.hid (show upd (bz Y (n * 5 + y)) (y * 5 + q) (rol tv (bits .xor .u64 a dv)) = bz Y (n * 5 + (y + 1)) by
                      show _ = upd (bz Y (n * 5 + y)) ((n * 5 + y) % 5 * 5 + (2 * ((n * 5 + y) / 5) + 3 * ((n * 5 + y) % 5)) % 5) (rol (tz (n * 5 + y)) (bits .xor .u64 (Y (n * 5 + y)) (dz Y ((n * 5 + y) / 5))))
                      rw [show (n * 5 + y) % 5 = y by omega, show (n * 5 + y) / 5 = n by omega, hq, ha, htv, HDV.out])
                    have HY := Lib.hid hy
                    clear hq ha htv htz htl hy
                    go_upto_region 19 with fail
                    have h2 := h1.below (w' := wr.drew) ((Below.refl _ _).drew)
                    have r2 := r1.drew
                    have b2 := b1.drew
                    clear h1 r1 b1
                    refine region_monoT 22 (fun x => CH w p1 p2 p3 p4 Y x ∧ Row x p6 46 .u64 5 (upto 5 (cz Y) fun _ => 0) #[] ∧ Row x p8 47 .u64 25 (bz Y (n * 5 + y)) #[]) (fun w w' => Below w.heap.size w w') (Wc19 p1 p3 p8 n y q tv a dv) [(0, some 70), (1, some 71), (2, some 72), (3, some 73), (4, some 74), (5, some 75), (6, some 76), (7, some 77), (8, some 78), (9, some 79), (10, some 80), (11, some 81), (12, some 82), (13, some 83), (14, some 84), (15, some 85), (16, some 86), (17, some 87), (18, some 88), (19, some 89), (20, some 90), (21, some 91)] (by kernel_rfl) (by kernel_rfl) (by kernel_rfl) (by kernel_rfl) (fun _ _ h r => ⟨h.1.below r, h.2.1.below r h.2.1.lt, h.2.2.below r h.2.2.lt⟩) (fun i1 v1 w1 w2 _ h1 r1 => Wc19_keep p1 p3 p8 n y q tv a dv i1 v1 w1 w2 h1 r1) (⟨h2, r2, b2⟩) ?_ (fun vs w' hS hV => ?_)
                    · refine StepsL.cons0  (by kernel_rfl)  ?_ ?_
                      · rintro w1 hS  K hK
                        (try simp only [Act.put, List.setIfInBounds_toArray, List.set_cons_zero, List.set_cons_succ])
                        go_simp
                        exact hK.out _ _ rfl (Below.refl _ _)
                      refine StepsL.cons0  (by kernel_rfl)  ?_ ?_
                      · rintro w1 hS  K hK
                        (try simp only [Act.put, List.setIfInBounds_toArray, List.set_cons_zero, List.set_cons_succ])
                        go_simp
                        exact hK.out _ _ rfl (Below.refl _ _)
                      refine StepsL.cons1 1 (some 71) (by kernel_rfl) rfl ?_ ?_
                      · rintro w1 hS _ rfl K hK
                        (try simp only [Act.put, List.setIfInBounds_toArray, List.set_cons_zero, List.set_cons_succ])
                        go_simp
                        exact hK.out _ _ rfl (Below.refl _ _)
                      refine StepsL.cons0  (by kernel_rfl)  ?_ ?_
                      · rintro w1 hS  K hK
                        (try simp only [Act.put, List.setIfInBounds_toArray, List.set_cons_zero, List.set_cons_succ])
                        go_simp
                        exact hK.out _ _ rfl (Below.refl _ _)
                      refine StepsL.cons1 3 (some 73) (by kernel_rfl) rfl ?_ ?_
                      · rintro w1 hS _ rfl K hK
                        (try simp only [Act.put, List.setIfInBounds_toArray, List.set_cons_zero, List.set_cons_succ])
                        go_simp
                        exact hK.out _ _ rfl (Below.refl _ _)
                      refine StepsL.cons2 2 (some 72) 4 (some 74) (by kernel_rfl) rfl rfl ?_ ?_
                      · rintro w1 hS _ rfl _ rfl K hK
                        (try simp only [Act.put, List.setIfInBounds_toArray, List.set_cons_zero, List.set_cons_succ])
                        go_simp
                        exact hK.out _ _ rfl (Below.refl _ _)
                      refine StepsL.cons1 5 (some 75) (by kernel_rfl) rfl ?_ ?_
                      · rintro w1 hS _ rfl K hK
                        (try simp only [Act.put, List.setIfInBounds_toArray, List.set_cons_zero, List.set_cons_succ])
                        go_simp
                        exact hK.out _ _ rfl (Below.refl _ _)
                      refine StepsL.cons0  (by kernel_rfl)  ?_ ?_
                      · rintro w1 hS  K hK
                        (try simp only [Act.put, List.setIfInBounds_toArray, List.set_cons_zero, List.set_cons_succ])
                        go_simp
                        exact hK.out _ _ rfl (Below.refl _ _)
                      refine StepsL.cons0  (by kernel_rfl)  ?_ ?_
                      · rintro w1 hS  K hK
                        (try simp only [Act.put, List.setIfInBounds_toArray, List.set_cons_zero, List.set_cons_succ])
                        go_simp
                        exact hK.out _ _ rfl (Below.refl _ _)
                      refine StepsL.cons1 7 (some 77) (by kernel_rfl) rfl ?_ ?_
                      · rintro w1 hS _ rfl K hK
                        (try simp only [Act.put, List.setIfInBounds_toArray, List.set_cons_zero, List.set_cons_succ])
                        go_simp
                        exact hK.out _ _ rfl (Below.refl _ _)
                      refine StepsL.cons2 8 (some 78) 9 (some 79) (by kernel_rfl) rfl rfl ?_ ?_
                      · rintro w1 hS _ rfl _ rfl K hK
                        (try simp only [Act.put, List.setIfInBounds_toArray, List.set_cons_zero, List.set_cons_succ])
                        go_simp
                        exact hK.out _ _ rfl (Below.refl _ _)
                      refine StepsL.cons1 10 (some 80) (by kernel_rfl) rfl ?_ ?_
                      · rintro w1 hS _ rfl K hK
                        (try simp only [Act.put, List.setIfInBounds_toArray, List.set_cons_zero, List.set_cons_succ])
                        have hcl := hS.1.r1.cell (n * 5 + y) (by omega) |>.trans HA.out
                        go_simp
                        exact hK.out _ _ rfl (Below.refl _ _)
                      refine StepsL.cons0  (by kernel_rfl)  ?_ ?_
                      · rintro w1 hS  K hK
                        (try simp only [Act.put, List.setIfInBounds_toArray, List.set_cons_zero, List.set_cons_succ])
                        go_simp
                        exact hK.out _ _ rfl (Below.refl _ _)
                      refine StepsL.cons2 11 (some 81) 12 (some 82) (by kernel_rfl) rfl rfl ?_ ?_
                      · rintro w1 hS _ rfl _ rfl K hK
                        (try simp only [Act.put, List.setIfInBounds_toArray, List.set_cons_zero, List.set_cons_succ])
                        go_simp
                        exact hK.out _ _ rfl (Below.refl _ _)
                      refine StepsL.cons0  (by kernel_rfl)  ?_ ?_
                      · rintro w1 hS  K hK
                        (try simp only [Act.put, List.setIfInBounds_toArray, List.set_cons_zero, List.set_cons_succ])
                        go_simp
                        exact hK.out _ _ rfl (Below.refl _ _)
                      refine StepsL.cons0  (by kernel_rfl)  ?_ ?_
                      · rintro w1 hS  K hK
                        (try simp only [Act.put, List.setIfInBounds_toArray, List.set_cons_zero, List.set_cons_succ])
                        go_simp
                        exact hK.out _ _ rfl (Below.refl _ _)
                      refine StepsL.cons1 14 (some 84) (by kernel_rfl) rfl ?_ ?_
                      · rintro w1 hS _ rfl K hK
                        (try simp only [Act.put, List.setIfInBounds_toArray, List.set_cons_zero, List.set_cons_succ])
                        go_simp
                        exact hK.out _ _ rfl (Below.refl _ _)
                      refine StepsL.cons2 15 (some 85) 16 (some 86) (by kernel_rfl) rfl rfl ?_ ?_
                      · rintro w1 hS _ rfl _ rfl K hK
                        (try simp only [Act.put, List.setIfInBounds_toArray, List.set_cons_zero, List.set_cons_succ])
                        go_simp
                        exact hK.out _ _ rfl (Below.refl _ _)
                      refine StepsL.cons1 17 (some 87) (by kernel_rfl) rfl ?_ ?_
                      · rintro w1 hS _ rfl K hK
                        (try simp only [Act.put, List.setIfInBounds_toArray, List.set_cons_zero, List.set_cons_succ])
                        have hcl := hS.1.r3.cell (n * 5 + y) (by omega) |>.trans HT.out
                        go_simp
                        exact hK.out _ _ rfl (Below.refl _ _)
                      refine StepsL.cons2 13 (some 83) 18 (some 88) (by kernel_rfl) rfl rfl ?_ ?_
                      · rintro w1 hS _ rfl _ rfl K hK
                        (try simp only [Act.put, List.setIfInBounds_toArray, List.set_cons_zero, List.set_cons_succ])
                        go_simp
                        go_at_call 33
                        refine (turned33 _ tv HTV.out _).mono ?_
                        rintro e w2 ⟨rfl, rfl⟩
                        exact hK.out _ _ rfl ((Below.refl _ _).drew)
                      refine StepsL.cons1 0 (some 70) (by kernel_rfl) rfl ?_ ?_
                      · rintro w1 hS _ rfl K hK
                        (try simp only [Act.put, List.setIfInBounds_toArray, List.set_cons_zero, List.set_cons_succ])
                        go_simp
                        exact hK.out _ _ rfl (Below.refl _ _)
                      refine StepsL.cons2 6 (some 76) 20 (some 90) (by kernel_rfl) rfl rfl ?_ ?_
                      · rintro w1 hS _ rfl _ rfl K hK
                        (try simp only [Act.put, List.setIfInBounds_toArray, List.set_cons_zero, List.set_cons_succ])
                        go_simp
                        exact hK.out _ _ rfl (Below.refl _ _)
                      exact StepsL.nil
                    · have e19 : vs 19 = .int .u64 (rol tv (bits .xor .u64 a dv)) := hV 19 (by omega)
                      have e21 : vs 21 = .pointer (some ⟨p8, y * 5 + q, none⟩) := hV 21 (by omega)
                      simp only [putl, List.foldl_cons, List.foldl_nil, Act.put, List.setIfInBounds_toArray, List.set_cons_zero, List.set_cons_succ, e19, e21]
                      simp only [List.drop_succ_cons, List.drop_zero]
                      obtain ⟨h3, r3, b3⟩ := hS
                      obtain ⟨vv, hvv⟩ : ∃ vv, rol tv (bits .xor .u64 a dv) = vv := ⟨_, rfl⟩
                      rw [hvv] at HB2 ⊢
                      have hcl := b3.cell (y * 5 + q) hyq
                      have hff := b3.frozen (y * 5 + q)
                      have b4 := b3.set (y * 5 + q) vv hyq
                      rw [HB2.out] at b4
                      have h4 := h3.other (show p4 < p8 by omega) (y * 5 + q) (.int .u64 vv)
                      have r4 := r3.other ⟨p8, y * 5 + q, none⟩ (.int .u64 vv) (by show p6 ≠ p8; omega)
                      clear hV e19 e21 h3 r3 b3 h2 r2 b2 hvv
                      go_wp2_with fail
                      go_roundg (gk - 1)
                      case measure => have := HY.out; omega
                      case rel => exact ⟨y + 1, by simp, by have := HY.out; omega, h4, r4, b4⟩
                  · have hd5 : decide (y < 5) = false := by simp; omega
                    obtain rfl : y = 5 := by omega
                    clear hy hy5
                    go_wp2_with fail
                    go_roundg (kn - 1)
                    case measure => have := HKN.out; have := HN.out; omega
                    case rel => exact ⟨n + 1, by simp, by have := HKN.out; have := HN.out; omega, h1, r1, by rw [show (n + 1) * 5 = n * 5 + 5 by omega]; exact b1⟩
            · have hd5 : decide (n < 5) = false := by simp; omega
              obtain rfl : n = 5 := by omega
              obtain ⟨B, hB⟩ : ∃ B, B = bz Y 25 := ⟨_, rfl⟩
              have b2 : Row wr p8 47 .u64 25 B #[] := by rw [hB]; exact b1
              have HBB := Lib.hid hB
              have h2 : CH w p1 p2 p3 p4 (upto (0 * 5) (chz B) Y) wr := h1.congr (fun i _ => by simp [upto])
              clear hn hl5 h1 b1 r1 hB
              go_wp2_with fail
              go_loopg [12] 5 (fun k v wr => ∃ n : Nat, v = .int .i64 n ∧ n + k = 5 ∧ CH w p1 p2 p3 p4 (upto (n * 5) (chz B) Y) wr ∧ Row wr p8 47 .u64 25 B #[])
              case atStart => exact ⟨0, rfl, rfl, h2, b2⟩
              case round =>
                clear h2 b2
                obtain ⟨n, rfl, hn, h1, b1⟩ := hrel
                by_cases hl5 : n < 5
                · have z0 : (0 : Int) ≤ (n : Int) := by omega
                  have z1 : (n : Int) < 5 := by omega
                  have HN := Lib.hid hn
                  obtain ⟨kn, hkn⟩ : ∃ kn, kn = gk := ⟨_, rfl⟩
                  have HKN := Lib.hid hkn
                  clear hn hkn
                  go_wp2_with fail
                  go_loopg [13] 5 (fun k v wr => ∃ y : Nat, v = .int .i64 y ∧ y + k = 5 ∧ CH w p1 p2 p3 p4 (upto (n * 5 + y) (chz B) Y) wr ∧ Row wr p8 47 .u64 25 B #[])
                  case atStart => exact ⟨0, rfl, rfl, h1, b1⟩
                  case round =>
                    clear h1 b1
                    obtain ⟨y, rfl, hy, h1, b1⟩ := hrel
                    by_cases hy5 : y < 5
                    · have y0 : (0 : Int) ≤ (y : Int) := by omega
                      have y1 : (y : Int) < 5 := by omega
                      have e1 : IntKind.i64.wrap ((y : Int) + 1) = (y : Int) + 1 := IntWalk.i64_in _ (by omega)
                      have e2 : IntKind.i64.wrap ((n : Int) + 1) = (n : Int) + 1 := IntWalk.i64_in _ (by omega)
                      have e3 : IntKind.i64.wrap ((n : Int) + 2) = (n : Int) + 2 := IntWalk.i64_in _ (by omega)
                      obtain ⟨ra, hra⟩ : ∃ r, (n + 1) % 5 = r := ⟨_, rfl⟩
                      obtain ⟨rb, hrb⟩ : ∃ r, (n + 2) % 5 = r := ⟨_, rfl⟩
                      have t1 : ((n : Int) + 1) % 5 = (ra : Int) := by omega
                      have t2 : ((n : Int) + 1).tmod 5 = (ra : Int) := by rw [Int.tmod_eq_emod_of_nonneg (by omega)]; omega
                      have t3 : ((n : Int) + 2) % 5 = (rb : Int) := by omega
                      have t4 : ((n : Int) + 2).tmod 5 = (rb : Int) := by rw [Int.tmod_eq_emod_of_nonneg (by omega)]; omega
                      have y2 : (0 : Int) ≤ (ra : Int) := by omega
                      have y3 : (ra : Int) < 5 := by omega
                      have y4 : (0 : Int) ≤ (rb : Int) := by omega
                      have y5 : (rb : Int) < 5 := by omega
                      have hny : n * 5 + y < 25 := by omega
                      obtain ⟨a, ha⟩ : ∃ a, B (n * 5 + y) = a := ⟨_, rfl⟩
                      obtain ⟨b, hb⟩ : ∃ a, B (ra * 5 + y) = a := ⟨_, rfl⟩
                      obtain ⟨cc, hcc⟩ : ∃ a, B (rb * 5 + y) = a := ⟨_, rfl⟩
                      have HA : Hid (some (Value.int .u64 (B (n * 5 + y))) = some (.int .u64 a)) := Lib.hid (by rw [ha])
                      have HB : Hid (some (Value.int .u64 (B (ra * 5 + y))) = some (.int .u64 b)) := Lib.hid (by rw [hb])
                      have HC : Hid (some (Value.int .u64 (B (rb * 5 + y))) = some (.int .u64 cc)) := Lib.hid (by rw [hcc])
                      have HV2 := Lib.hid (show upd (upto (n * 5 + y) (chz B) Y) (n * 5 + y) (bits .xor .u64 a (bits .and .u64 (nt b) cc)) = upto (n * 5 + (y + 1)) (chz B) Y by
                        rw [← Nat.add_assoc, ← upto_set]
                        unfold chz
                        rw [show (n * 5 + y) / 5 = n by omega, show (n * 5 + y) % 5 = y by omega, hra, hrb, ha, hb, hcc])
                      have HY := Lib.hid hy
                      clear hra hrb ha hb hcc hy
                      go_upto_region 26 with fail
                      have h2 := h1.below (w' := wr.drew) ((Below.refl _ _).drew)
                      have b2 := b1.drew
                      clear h1 b1
                      refine region_monoT 26 (fun x => CH w p1 p2 p3 p4 (upto (n * 5 + y) (chz B) Y) x ∧ Row x p8 47 .u64 25 B #[]) (fun w w' => Below w.heap.size w w') (Wc26 p1 p8 n y ra rb a b cc) [(0, some 100), (1, some 101), (2, some 102), (3, some 103), (4, some 104), (5, some 105), (6, some 106), (7, some 107), (8, some 108), (9, some 109), (10, some 110), (11, some 111), (12, some 112), (13, some 113), (14, some 114), (15, some 115), (16, some 116), (17, some 117), (18, some 118), (19, some 119), (20, some 120), (21, some 121), (22, some 122), (23, some 123), (24, some 124), (25, some 125)] (by kernel_rfl) (by kernel_rfl) (by kernel_rfl) (by kernel_rfl) (fun _ _ h r => ⟨h.1.below r, h.2.below r h.2.lt⟩) (fun i1 v1 w1 w2 _ h1 r1 => Wc26_keep p1 p8 n y ra rb a b cc i1 v1 w1 w2 h1 r1) (⟨h2, b2⟩) ?_ (fun vs w' hS hV => ?_)
                      · refine StepsL.cons0  (by kernel_rfl)  ?_ ?_
                        · rintro w1 hS  K hK
                          (try simp only [Act.put, List.setIfInBounds_toArray, List.set_cons_zero, List.set_cons_succ])
                          go_simp
                          exact hK.out _ _ rfl (Below.refl _ _)
                        refine StepsL.cons0  (by kernel_rfl)  ?_ ?_
                        · rintro w1 hS  K hK
                          (try simp only [Act.put, List.setIfInBounds_toArray, List.set_cons_zero, List.set_cons_succ])
                          go_simp
                          exact hK.out _ _ rfl (Below.refl _ _)
                        refine StepsL.cons0  (by kernel_rfl)  ?_ ?_
                        · rintro w1 hS  K hK
                          (try simp only [Act.put, List.setIfInBounds_toArray, List.set_cons_zero, List.set_cons_succ])
                          go_simp
                          exact hK.out _ _ rfl (Below.refl _ _)
                        refine StepsL.cons0  (by kernel_rfl)  ?_ ?_
                        · rintro w1 hS  K hK
                          (try simp only [Act.put, List.setIfInBounds_toArray, List.set_cons_zero, List.set_cons_succ])
                          go_simp
                          exact hK.out _ _ rfl (Below.refl _ _)
                        refine StepsL.cons1 2 (some 102) (by kernel_rfl) rfl ?_ ?_
                        · rintro w1 hS _ rfl K hK
                          (try simp only [Act.put, List.setIfInBounds_toArray, List.set_cons_zero, List.set_cons_succ])
                          go_simp
                          exact hK.out _ _ rfl (Below.refl _ _)
                        refine StepsL.cons2 3 (some 103) 4 (some 104) (by kernel_rfl) rfl rfl ?_ ?_
                        · rintro w1 hS _ rfl _ rfl K hK
                          (try simp only [Act.put, List.setIfInBounds_toArray, List.set_cons_zero, List.set_cons_succ])
                          go_simp
                          exact hK.out _ _ rfl (Below.refl _ _)
                        refine StepsL.cons1 5 (some 105) (by kernel_rfl) rfl ?_ ?_
                        · rintro w1 hS _ rfl K hK
                          (try simp only [Act.put, List.setIfInBounds_toArray, List.set_cons_zero, List.set_cons_succ])
                          have hcl := hS.2.cell (n * 5 + y) (by omega) |>.trans HA.out
                          go_simp
                          exact hK.out _ _ rfl (Below.refl _ _)
                        refine StepsL.cons0  (by kernel_rfl)  ?_ ?_
                        · rintro w1 hS  K hK
                          (try simp only [Act.put, List.setIfInBounds_toArray, List.set_cons_zero, List.set_cons_succ])
                          go_simp
                          exact hK.out _ _ rfl (Below.refl _ _)
                        refine StepsL.cons1 7 (some 107) (by kernel_rfl) rfl ?_ ?_
                        · rintro w1 hS _ rfl K hK
                          (try simp only [Act.put, List.setIfInBounds_toArray, List.set_cons_zero, List.set_cons_succ])
                          go_simp
                          exact hK.out _ _ rfl (Below.refl _ _)
                        refine StepsL.cons1 8 (some 108) (by kernel_rfl) rfl ?_ ?_
                        · rintro w1 hS _ rfl K hK
                          (try simp only [Act.put, List.setIfInBounds_toArray, List.set_cons_zero, List.set_cons_succ])
                          go_simp
                          exact hK.out _ _ rfl (Below.refl _ _)
                        refine StepsL.cons0  (by kernel_rfl)  ?_ ?_
                        · rintro w1 hS  K hK
                          (try simp only [Act.put, List.setIfInBounds_toArray, List.set_cons_zero, List.set_cons_succ])
                          go_simp
                          exact hK.out _ _ rfl (Below.refl _ _)
                        refine StepsL.cons1 9 (some 109) (by kernel_rfl) rfl ?_ ?_
                        · rintro w1 hS _ rfl K hK
                          (try simp only [Act.put, List.setIfInBounds_toArray, List.set_cons_zero, List.set_cons_succ])
                          go_simp
                          exact hK.out _ _ rfl (Below.refl _ _)
                        refine StepsL.cons2 10 (some 110) 11 (some 111) (by kernel_rfl) rfl rfl ?_ ?_
                        · rintro w1 hS _ rfl _ rfl K hK
                          (try simp only [Act.put, List.setIfInBounds_toArray, List.set_cons_zero, List.set_cons_succ])
                          go_simp
                          exact hK.out _ _ rfl (Below.refl _ _)
                        refine StepsL.cons1 12 (some 112) (by kernel_rfl) rfl ?_ ?_
                        · rintro w1 hS _ rfl K hK
                          (try simp only [Act.put, List.setIfInBounds_toArray, List.set_cons_zero, List.set_cons_succ])
                          have hcl := hS.2.cell (ra * 5 + y) (by omega) |>.trans HB.out
                          go_simp
                          exact hK.out _ _ rfl (Below.refl _ _)
                        refine StepsL.cons1 13 (some 113) (by kernel_rfl) rfl ?_ ?_
                        · rintro w1 hS _ rfl K hK
                          (try simp only [Act.put, List.setIfInBounds_toArray, List.set_cons_zero, List.set_cons_succ])
                          go_simp
                          exact hK.out _ _ rfl (Below.refl _ _)
                        refine StepsL.cons0  (by kernel_rfl)  ?_ ?_
                        · rintro w1 hS  K hK
                          (try simp only [Act.put, List.setIfInBounds_toArray, List.set_cons_zero, List.set_cons_succ])
                          go_simp
                          exact hK.out _ _ rfl (Below.refl _ _)
                        refine StepsL.cons1 15 (some 115) (by kernel_rfl) rfl ?_ ?_
                        · rintro w1 hS _ rfl K hK
                          (try simp only [Act.put, List.setIfInBounds_toArray, List.set_cons_zero, List.set_cons_succ])
                          go_simp
                          exact hK.out _ _ rfl (Below.refl _ _)
                        refine StepsL.cons1 16 (some 116) (by kernel_rfl) rfl ?_ ?_
                        · rintro w1 hS _ rfl K hK
                          (try simp only [Act.put, List.setIfInBounds_toArray, List.set_cons_zero, List.set_cons_succ])
                          go_simp
                          exact hK.out _ _ rfl (Below.refl _ _)
                        refine StepsL.cons0  (by kernel_rfl)  ?_ ?_
                        · rintro w1 hS  K hK
                          (try simp only [Act.put, List.setIfInBounds_toArray, List.set_cons_zero, List.set_cons_succ])
                          go_simp
                          exact hK.out _ _ rfl (Below.refl _ _)
                        refine StepsL.cons1 17 (some 117) (by kernel_rfl) rfl ?_ ?_
                        · rintro w1 hS _ rfl K hK
                          (try simp only [Act.put, List.setIfInBounds_toArray, List.set_cons_zero, List.set_cons_succ])
                          go_simp
                          exact hK.out _ _ rfl (Below.refl _ _)
                        refine StepsL.cons2 18 (some 118) 19 (some 119) (by kernel_rfl) rfl rfl ?_ ?_
                        · rintro w1 hS _ rfl _ rfl K hK
                          (try simp only [Act.put, List.setIfInBounds_toArray, List.set_cons_zero, List.set_cons_succ])
                          go_simp
                          exact hK.out _ _ rfl (Below.refl _ _)
                        refine StepsL.cons1 20 (some 120) (by kernel_rfl) rfl ?_ ?_
                        · rintro w1 hS _ rfl K hK
                          (try simp only [Act.put, List.setIfInBounds_toArray, List.set_cons_zero, List.set_cons_succ])
                          have hcl := hS.2.cell (rb * 5 + y) (by omega) |>.trans HC.out
                          go_simp
                          exact hK.out _ _ rfl (Below.refl _ _)
                        refine StepsL.cons2 14 (some 114) 21 (some 121) (by kernel_rfl) rfl rfl ?_ ?_
                        · rintro w1 hS _ rfl _ rfl K hK
                          (try simp only [Act.put, List.setIfInBounds_toArray, List.set_cons_zero, List.set_cons_succ])
                          go_simp
                          exact hK.out _ _ rfl (Below.refl _ _)
                        refine StepsL.cons2 6 (some 106) 22 (some 122) (by kernel_rfl) rfl rfl ?_ ?_
                        · rintro w1 hS _ rfl _ rfl K hK
                          (try simp only [Act.put, List.setIfInBounds_toArray, List.set_cons_zero, List.set_cons_succ])
                          go_simp
                          exact hK.out _ _ rfl (Below.refl _ _)
                        refine StepsL.cons1 0 (some 100) (by kernel_rfl) rfl ?_ ?_
                        · rintro w1 hS _ rfl K hK
                          (try simp only [Act.put, List.setIfInBounds_toArray, List.set_cons_zero, List.set_cons_succ])
                          go_simp
                          exact hK.out _ _ rfl (Below.refl _ _)
                        refine StepsL.cons2 1 (some 101) 24 (some 124) (by kernel_rfl) rfl rfl ?_ ?_
                        · rintro w1 hS _ rfl _ rfl K hK
                          (try simp only [Act.put, List.setIfInBounds_toArray, List.set_cons_zero, List.set_cons_succ])
                          go_simp
                          exact hK.out _ _ rfl (Below.refl _ _)
                        exact StepsL.nil
                      · have e23 : vs 23 = .int .u64 (bits .xor .u64 a (bits .and .u64 (nt b) cc)) := hV 23 (by omega)
                        have e25 : vs 25 = .pointer (some ⟨p1, n * 5 + y, none⟩) := hV 25 (by omega)
                        simp only [putl, List.foldl_cons, List.foldl_nil, Act.put, List.setIfInBounds_toArray, List.set_cons_zero, List.set_cons_succ, e23, e25]
                        simp only [List.drop_succ_cons, List.drop_zero]
                        obtain ⟨h3, b3⟩ := hS
                        obtain ⟨vv, hvv⟩ : ∃ vv, bits .xor .u64 a (bits .and .u64 (nt b) cc) = vv := ⟨_, rfl⟩
                        rw [hvv] at HV2 ⊢
                        have hcl := h3.r1.cell (n * 5 + y) hny
                        have hff := h3.r1.frozen (n * 5 + y)
                        have h4 := h3.set (n * 5 + y) vv hny
                        rw [HV2.out] at h4
                        have b4 := b3.other ⟨p1, n * 5 + y, none⟩ (.int .u64 vv) (by show p8 ≠ p1; omega)
                        clear hV e23 e25 h3 b3 h2 b2 hvv
                        go_wp2_with fail
                        go_roundg (gk - 1)
                        case measure => have := HY.out; omega
                        case rel => exact ⟨y + 1, by simp, by have := HY.out; omega, h4, b4⟩
                    · have hd5 : decide (y < 5) = false := by simp; omega
                      obtain rfl : y = 5 := by omega
                      clear hy hy5
                      go_wp2_with fail
                      go_roundg (kn - 1)
                      case measure => have := HKN.out; have := HN.out; omega
                      case rel => exact ⟨n + 1, by simp, by have := HKN.out; have := HN.out; omega, by rw [show (n + 1) * 5 = n * 5 + 5 by omega]; exact h1, b1⟩
                · have hd5 : decide (n < 5) = false := by simp; omega
                  obtain rfl : n = 5 := by omega
                  obtain ⟨Z4, hZ4⟩ : ∃ Z4, Z4 = upto (5 * 5) (chz B) Y := ⟨_, rfl⟩
                  rw [← hZ4] at h1
                  obtain ⟨a, ha⟩ : ∃ a, Z4 0 = a := ⟨_, rfl⟩
                  obtain ⟨c, hc⟩ : ∃ c, cst 24 0 i = c := ⟨_, rfl⟩
                  have HA : Hid (some (Value.int .u64 (Z4 0)) = some (.int .u64 a)) := Lib.hid (by rw [ha])
                  have HC : Hid (some (Value.int .u64 (cst 24 0 i)) = some (.int .u64 c)) := Lib.hid (by rw [hc])
                  have HR := Lib.hid (show upd Z4 0 (bits .xor .u64 a c) = prz Z (i + 1) by rw [HZ.out, ← ha, ← hc, hZ4, HBB.out]; rfl)
                  clear hn hl5 b1 hZ4 ha hc
                  go_upto_region 27 with fail
                  have h2 := h1.below (w' := wr.drew) ((Below.refl _ _).drew)
                  clear h1
                  refine region_monoT 9 (fun x => CH w p1 p2 p3 p4 Z4 x) (fun w w' => Below w.heap.size w w') (Wc27 p1 p4 i a c) [(0, some 126), (1, some 127), (2, some 128), (3, some 129), (4, some 130), (5, some 131), (6, some 132), (7, some 133), (8, some 134)] (by kernel_rfl) (by kernel_rfl) (by kernel_rfl) (by kernel_rfl) (fun _ _ h r => h.below r) (fun i1 v1 w1 w2 _ h1 r1 => Wc27_keep p1 p4 i a c i1 v1 w1 w2 h1 r1) (h2) ?_ (fun vs w' hS hV => ?_)
                  · refine StepsL.cons0  (by kernel_rfl)  ?_ ?_
                    · rintro w1 hS  K hK
                      (try simp only [Act.put, List.setIfInBounds_toArray, List.set_cons_zero, List.set_cons_succ])
                      go_simp
                      exact hK.out _ _ rfl (Below.refl _ _)
                    refine StepsL.cons1 0 (some 126) (by kernel_rfl) rfl ?_ ?_
                    · rintro w1 hS _ rfl K hK
                      (try simp only [Act.put, List.setIfInBounds_toArray, List.set_cons_zero, List.set_cons_succ])
                      go_simp
                      exact hK.out _ _ rfl (Below.refl _ _)
                    refine StepsL.cons1 1 (some 127) (by kernel_rfl) rfl ?_ ?_
                    · rintro w1 hS _ rfl K hK
                      (try simp only [Act.put, List.setIfInBounds_toArray, List.set_cons_zero, List.set_cons_succ])
                      have hcl := hS.r1.cell 0 (by omega) |>.trans HA.out
                      go_simp
                      exact hK.out _ _ rfl (Below.refl _ _)
                    refine StepsL.cons0  (by kernel_rfl)  ?_ ?_
                    · rintro w1 hS  K hK
                      (try simp only [Act.put, List.setIfInBounds_toArray, List.set_cons_zero, List.set_cons_succ])
                      go_simp
                      exact hK.out _ _ rfl (Below.refl _ _)
                    refine StepsL.cons1 3 (some 129) (by kernel_rfl) rfl ?_ ?_
                    · rintro w1 hS _ rfl K hK
                      (try simp only [Act.put, List.setIfInBounds_toArray, List.set_cons_zero, List.set_cons_succ])
                      go_simp
                      exact hK.out _ _ rfl (Below.refl _ _)
                    refine StepsL.cons1 4 (some 130) (by kernel_rfl) rfl ?_ ?_
                    · rintro w1 hS _ rfl K hK
                      (try simp only [Act.put, List.setIfInBounds_toArray, List.set_cons_zero, List.set_cons_succ])
                      have hcl := hS.r4.cell i hlt |>.trans HC.out
                      go_simp
                      exact hK.out _ _ rfl (Below.refl _ _)
                    refine StepsL.cons2 2 (some 128) 5 (some 131) (by kernel_rfl) rfl rfl ?_ ?_
                    · rintro w1 hS _ rfl _ rfl K hK
                      (try simp only [Act.put, List.setIfInBounds_toArray, List.set_cons_zero, List.set_cons_succ])
                      go_simp
                      exact hK.out _ _ rfl (Below.refl _ _)
                    refine StepsL.cons0  (by kernel_rfl)  ?_ ?_
                    · rintro w1 hS  K hK
                      (try simp only [Act.put, List.setIfInBounds_toArray, List.set_cons_zero, List.set_cons_succ])
                      go_simp
                      exact hK.out _ _ rfl (Below.refl _ _)
                    refine StepsL.cons1 7 (some 133) (by kernel_rfl) rfl ?_ ?_
                    · rintro w1 hS _ rfl K hK
                      (try simp only [Act.put, List.setIfInBounds_toArray, List.set_cons_zero, List.set_cons_succ])
                      go_simp
                      exact hK.out _ _ rfl (Below.refl _ _)
                    exact StepsL.nil
                  · have e6 : vs 6 = .int .u64 (bits .xor .u64 a c) := hV 6 (by omega)
                    have e8 : vs 8 = .pointer (some ⟨p1, 0, none⟩) := hV 8 (by omega)
                    simp only [putl, List.foldl_cons, List.foldl_nil, Act.put, List.setIfInBounds_toArray, List.set_cons_zero, List.set_cons_succ, e6, e8]
                    simp only [List.drop_succ_cons, List.drop_zero]
                    have h3 := hS
                    obtain ⟨vv, hvv⟩ : ∃ vv, bits .xor .u64 a c = vv := ⟨_, rfl⟩
                    rw [hvv] at HR ⊢
                    have hcl := h3.r1.cell 0 (by omega)
                    have hff := h3.r1.frozen 0
                    have h4 := h3.set 0 vv (by omega)
                    rw [HR.out] at h4
                    have e1 : IntKind.i64.wrap ((i : Int) + 1) = (i : Int) + 1 := IntWalk.i64_in _ (by omega)
                    clear hV e6 e8 h3 h2 hvv hS
                    go_wp2_with fail
                    go_roundg (ko - 1)
                    case measure => have := HI.out; omega
                    case rel => exact ⟨i + 1, by simp, by have := HI.out; omega, h4⟩
    · have hdn : decide (i < 24) = false := by simp; omega
      obtain rfl : i = 24 := by omega
      clear hi
      go_wp2_with (first
        | (with_reducible refine loadr47 rfl (.tmp 1) rfl p1 rfl h1.r1 ?_)
        | (with_reducible refine storer47 rfl (.tmp 2) (.tmp 135) rfl p2 _ rfl rfl h1.r2 ?_))
      exact retr47 rfl p2 rfl (h1.r2.setRow _) rfl ⟨rfl, below_setRow h1.k (by have := h1.o1; have := h1.o2; omega) _⟩
end Go.Proofs.YtgjcofneecebjaaDoor
