/- Words and bytes as bit vectors; a word turned to the right, walked in both texts. -/
import Derived.Test.YtinmmenjlhlpmaaDoorA
namespace Go.Proofs.YtinmmenjlhlpmaaDoor
open Go.ChangeShapes Go.WideShapes Go.ChangeAt Go.RowKit
set_option linter.unusedSimpArgs false
set_option linter.unusedVariables false

def wd (A : BitVec 32) : Int := A.toNat
def bt (A : BitVec 8) : Int := A.toNat
def qd (A : BitVec 64) : Int := A.toNat
theorem wd_bd (A : BitVec 32) : 0 ≤ wd A ∧ wd A < 4294967296 := ⟨Int.natCast_nonneg _, by have := A.isLt; unfold wd; omega⟩
theorem bt_bd (A : BitVec 8) : 0 ≤ bt A ∧ bt A < 256 := ⟨Int.natCast_nonneg _, by have := A.isLt; unfold bt; omega⟩
theorem qd_bd (A : BitVec 64) : 0 ≤ qd A ∧ qd A < 18446744073709551616 := ⟨Int.natCast_nonneg _, by have := A.isLt; unfold qd; omega⟩
theorem wd_of (A : BitVec 32) : BitVec.ofInt 32 (wd A) = A := by
  unfold wd; rw [BitVec.ofInt_natCast]; simp
theorem wrap_wd (A : BitVec 32) : IntKind.u32.wrap (A.toNat : Int) = wd A := by
  rw [IntKind.wrap_u32]; have := A.isLt; unfold wd; omega
theorem wd_xor (A B : BitVec 32) : bits .xor .u32 (wd A) (wd B) = wd (A ^^^ B) := by
  simp only [bits, IntKind.bits, wd_of]; exact wrap_wd _
theorem wd_and (A B : BitVec 32) : bits .and .u32 (wd A) (wd B) = wd (A &&& B) := by
  simp only [bits, IntKind.bits, wd_of]; exact wrap_wd _
theorem wd_or (A B : BitVec 32) : bits .or .u32 (wd A) (wd B) = wd (A ||| B) := by
  simp only [bits, IntKind.bits, wd_of]; exact wrap_wd _
theorem wd_add (A B : BitVec 32) : (wd A + wd B) % 4294967296 = wd (A + B) := by
  unfold wd; rw [BitVec.toNat_add]; omega
theorem wd_shr (A : BitVec 32) (n : Nat) : wd A / 2 ^ n = wd (A >>> n) := by
  unfold wd; rw [BitVec.toNat_ushiftRight, Nat.shiftRight_eq_div_pow]; simp
theorem wd_shl (A : BitVec 32) (n : Nat) : wd A * 2 ^ n % 4294967296 = wd (A <<< n) := by
  unfold wd; rw [BitVec.toNat_shiftLeft, Nat.shiftLeft_eq]; simp
theorem wds_add (A B : BitVec 32) : IntKind.u32.wrap (wd A + wd B) = wd (A + B) := by rw [IntKind.wrap_u32]; exact wd_add A B
theorem wds_shl (A : BitVec 32) (n : Nat) : IntKind.u32.wrap (wd A * 2 ^ n) = wd (A <<< n) := by rw [IntKind.wrap_u32]; exact wd_shl A n
theorem bt_wide (A : BitVec 8) : bt A = wd (A.setWidth 32) := by
  have := A.isLt
  unfold wd bt; rw [BitVec.toNat_setWidth]; omega
theorem wd_low (A : BitVec 32) : wd A % 256 = bt (A.setWidth 8) := by
  unfold wd bt; rw [BitVec.toNat_setWidth]; simp
theorem qd_low (A : BitVec 64) : qd A % 256 = bt (A.setWidth 8) := by
  unfold qd bt; rw [BitVec.toNat_setWidth]; simp
theorem qd_shr (A : BitVec 64) (n : Nat) : qd A / 2 ^ n = qd (A >>> n) := by
  unfold qd; rw [BitVec.toNat_ushiftRight, Nat.shiftRight_eq_div_pow]; simp
theorem qd_shl (A : BitVec 64) (n : Nat) : qd A * 2 ^ n % 18446744073709551616 = qd (A <<< n) := by
  unfold qd; rw [BitVec.toNat_shiftLeft, Nat.shiftLeft_eq]; simp

def rr (n : Nat) (A : BitVec 32) : BitVec 32 := A >>> n ||| A <<< (32 - n)
theorem low_all : ∀ n : Nat, n < 32 → 0 < n → bits BinOp.and IntKind.u64 (IntKind.u64.wrap (-(n : Int))) 31 = ((32 - n : Nat) : Int) := by decide +kernel
theorem rotl21 (A : BitVec 32) (n s : Nat) (hn : 0 < n) (hs : n + s = 32) (hs1 : 0 < s) (w : World) : Calls Tryd.prog 21 #[.int .u32 (wd A), .int .i64 (-(n : Int))] w fun e w' => e = .returned (.int .u32 (wd (rr n A))) ∧ w' = w := by
  have e1 := low_all n (by omega) hn
  rw [show 32 - n = s by omega] at e1
  have e2 : IntKind.u64.wrap (32 - (s : Int)) = (n : Int) := by rw [IntKind.wrap_u64]; omega
  have e3 : 32 - (s : Int) = (n : Int) := by omega
  have er : wd (rr n A) = wd (A <<< s ||| A >>> n) := by unfold rr; rw [show 32 - n = s by omega, BitVec.or_comm]
  have ER := Lib.hid er
  have h1 := wd_shr A n
  have h2 := wd_shl A s
  have h3 := wd_or (A <<< s) (A >>> n)
  clear er
  go_enter Tryd.func21, Tryd.ntmps21
  go_wp2
  go_ret
  exact ⟨congrArg (fun v => Ending.returned (.int .u32 v)) ER.out.symm, rfl⟩
theorem right20 (A : BitVec 32) (n : Nat) (hn : 0 < n ∧ n < 32) (w : World) : Calls Tryd.prog 20 #[.int .u32 (wd A), .int .i64 n] w fun e w' => e = .returned (.int .u32 (wd (rr n A))) ∧ w' = w := by
  go_enter Tryd.func20, Tryd.ntmps20
  go_wp2_with (first | (go_at_call 21; refine (rotl21 A n (32 - n) (by omega) (by omega) (by omega) _).mono ?_; rintro e w' ⟨rfl, rfl⟩))
  go_ret
  exact ⟨rfl, rfl⟩
theorem turned18s (A : BitVec 32) (n s : Nat) (hn : 0 < n) (hs : n + s = 32) (hs1 : 0 < s) (w : World) : Calls Tryd.prog 18 #[.int .u32 (wd A), .int .i64 n] w fun e w' => e = .returned (.int .u32 (wd (rr n A))) ∧ w' = w.drew := by
  have er : wd (rr n A) = wd (A >>> n ||| A <<< s) := by unfold rr; rw [show 32 - n = s by omega]
  have ER := Lib.hid er
  clear er
  have h1 := wd_shr A n
  have h2 := wd_shl A s
  have h3 := wd_or (A >>> n) (A <<< s)
  have e3 : 32 - (n : Int) = (s : Int) := by omega
  have e4 : 0 ≤ (n : Int) := by omega
  have e5 : 0 ≤ (s : Int) := by omega
  have h4 := wds_shl A s
  have e6 : IntKind.i64.wrap (s : Int) = (s : Int) := IntWalk.i64_in _ (by omega)
  go_enter Tryd.func18, Tryd.ntmps18
  go_wp2
  go_still (by kernel_rfl)
  change Exit.then _ _ _ _ w.drew
  obtain ⟨w1, hw1⟩ : ∃ w1 : World, w.drew = w1 := ⟨_, rfl⟩
  rw [hw1]
  have HW := Lib.hid hw1
  clear hw1
  go_wp2
  go_ret
  exact ⟨congrArg (fun v => Ending.returned (.int .u32 v)) ER.out.symm, HW.out.symm⟩
theorem turned18 (A : BitVec 32) (n : Nat) (hn : 0 < n ∧ n < 32) (w : World) : Calls Tryd.prog 18 #[.int .u32 (wd A), .int .i64 n] w fun e w' => e = .returned (.int .u32 (wd (rr n A))) ∧ w' = w.drew :=
  turned18s A n (32 - n) (by omega) (by omega) (by omega) w
end Go.Proofs.YtinmmenjlhlpmaaDoor
