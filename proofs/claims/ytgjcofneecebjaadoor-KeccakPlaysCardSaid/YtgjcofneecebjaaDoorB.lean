/- The change of a state as a plain function; a word turned, walked. -/
import Derived.Test.YtgjcofneecebjaaDoorA
namespace Go.Proofs.YtgjcofneecebjaaDoor
open Go.ChangeShapes Go.WideShapes Go.ChangeAt Go.RowKit
set_option linter.unusedSimpArgs false
set_option linter.unusedVariables false

def rol (k : Nat) (a : Int) : Int := bits .or .u64 (IntKind.u64.wrap (a * 2 ^ k)) (a / 2 ^ (64 - k))
theorem low_all : ∀ n : Nat, n < 64 → bits BinOp.and IntKind.u64 (n : Int) 63 = (n : Int) := by decide +kernel
theorem rotl34s (a : Int) (n s : Nat) (hn : n + s = 64) (hs : 0 < s) (w : World) : Calls Tryd.prog 34 #[.int .u64 a, .int .i64 (n : Int)] w fun e w' => e = .returned (.int .u64 (rol n a)) ∧ w' = w := by
  have e1 := low_all n (by omega)
  have e2 : IntKind.u64.wrap (n : Int) = (n : Int) := by rw [IntKind.wrap_u64]; omega
  have e3 : (64 : Int) - (n : Int) = (s : Int) := by omega
  have e4 : IntKind.u64.wrap (s : Int) = (s : Int) := by rw [IntKind.wrap_u64]; omega
  have ER := Lib.hid (show rol n a = bits .or .u64 (IntKind.u64.wrap (a * 2 ^ n)) (a / 2 ^ s) by unfold rol; rw [show 64 - n = s by omega])
  go_enter Tryd.func34, Tryd.ntmps34
  go_wp2
  go_ret
  exact ⟨congrArg (fun v => Ending.returned (.int .u64 v)) ER.out.symm, rfl⟩
theorem rotl34 (a : Int) (n : Nat) (hn : n < 64) (w : World) : Calls Tryd.prog 34 #[.int .u64 a, .int .i64 (n : Int)] w fun e w' => e = .returned (.int .u64 (rol n a)) ∧ w' = w :=
  rotl34s a n (64 - n) (by omega) (by omega) w

/-! One round. -/
def ssum (W : Nat → Int) : Nat → (Nat → Int)
  | 0 => fun _ => 0
  | n + 1 => upd (ssum W n) (n % 5) (bits .xor .u64 (ssum W n (n % 5)) (W n))
def th (W : Nat → Int) (i : Nat) : Int := bits .xor .u64 (W i) (bits .xor .u64 (ssum W 25 ((i + 4) % 5)) (rol 1 (ssum W 25 ((i + 1) % 5))))
def upto (n : Nat) (A B : Nat → Int) : Nat → Int := fun i => if i < n then A i else B i
def tul : List Nat := [1, 3, 6, 10, 15, 21, 28, 36, 45, 55, 2, 14, 27, 41, 56, 8, 25, 43, 62, 18, 39, 61, 20, 44]
def pll : List Nat := [10, 7, 11, 17, 18, 3, 5, 16, 8, 21, 24, 4, 15, 23, 19, 13, 12, 2, 20, 14, 22, 9, 6, 1]
def col : List Int := [0x0000000000000001, 0x0000000000008082, 0x800000000000808a, 0x8000000080008000,
  0x000000000000808b, 0x0000000080000001, 0x8000000080008081, 0x8000000000008009,
  0x000000000000008a, 0x0000000000000088, 0x0000000080008009, 0x000000008000000a,
  0x000000008000808b, 0x800000000000008b, 0x8000000000008089, 0x8000000000008003,
  0x8000000000008002, 0x8000000000000080, 0x000000000000800a, 0x800000008000000a,
  0x8000000080008081, 0x8000000000008080, 0x0000000080000001, 0x8000000080008008]
def tu (i : Nat) : Nat := tul.getD i 0
def pl (i : Nat) : Nat := pll.getD i 0
def co (i : Nat) : Int := col.getD i 0
theorem tu_lt : ∀ i, tu i < 64 := by
  intro i
  rcases Nat.lt_or_ge i 24 with h | h
  · revert i; decide
  · unfold tu; rw [List.getD_eq_getElem?_getD, List.getElem?_eq_none (by simpa [tul] using h)]; decide
theorem pl_lt : ∀ i, pl i < 25 := by
  intro i
  rcases Nat.lt_or_ge i 24 with h | h
  · revert i; decide
  · unfold pl; rw [List.getD_eq_getElem?_getD, List.getElem?_eq_none (by simpa [pll] using h)]; decide
/-- Behind n of the turns: the word that is held, and the state. -/
def rp (W : Nat → Int) : Nat → Int × (Nat → Int)
  | 0 => (W 1, W)
  | n + 1 => ((rp W n).2 (pl n), upd (rp W n).2 (pl n) (rol (tu n) (rp W n).1))
def nt (a : Int) : Int := bits .xor .u64 18446744073709551615 a
/-- Row j of five, of which n have been changed. -/
def chs (V : Nat → Int) (j : Nat) : Nat → (Nat → Int)
  | 0 => V
  | n + 1 => upd (chs V j n) (5 * j + n) (bits .xor .u64 (V (5 * j + n)) (bits .and .u64 (nt (V (5 * j + (n + 1) % 5))) (V (5 * j + (n + 2) % 5))))
def chi (V : Nat → Int) : Nat → (Nat → Int)
  | 0 => V
  | j + 1 => chs (chi V j) j 5
def rnd (c : Int) (W : Nat → Int) : Nat → Int :=
  let V := chi (rp (th W) 24).2 5
  upd V 0 (bits .xor .u64 (V 0) c)
def prm (W : Nat → Int) : Nat → (Nat → Int)
  | 0 => W
  | n + 1 => rnd (co n) (prm W n)
/-- The tables. -/
structure TK (w : World) : Prop where
  c : TRow w 0 .u64 24 co
  p : TRow w 1 .i64 24 (fun i => (pl i : Int))
  t : TRow w 2 .i64 24 (fun i => (tu i : Int))
theorem TK.grown {w w' : World} {r : Option Nat} (h : TK w) (j : w.grownBy w' r) (hr : ∀ b, r = some b → 3 ≤ b) : TK w' :=
  ⟨h.c.grown j (fun e => by have := hr _ e.symm; omega), h.p.grown j (fun e => by have := hr _ e.symm; omega), h.t.grown j (fun e => by have := hr _ e.symm; omega)⟩
theorem TK.below {w w' : World} {B : Nat} (h : TK w) (j : Below B w w') (hB : 3 ≤ B) : TK w' := ⟨h.c.below j (by omega), h.p.below j (by omega), h.t.below j (by omega)⟩
theorem TK.lt {w : World} (h : TK w) : 3 ≤ w.heap.size := h.t.lt
end Go.Proofs.YtgjcofneecebjaaDoor
