/- The document's change of a state is the program's. -/
import Derived.Test.YtgjcofneecebjaaDoorR2
namespace Go.Proofs.YtgjcofneecebjaaDoor
open Go.ChangeShapes Go.WideShapes Go.ChangeAt Go.RowKit
set_option linter.unusedSimpArgs false
set_option linter.unusedVariables false
def Bd (a : Int) : Prop := 0 ≤ a ∧ a < 18446744073709551616
theorem wrap_bd (z : Int) : Bd (IntKind.u64.wrap z) := by rw [IntKind.wrap_u64]; unfold Bd; omega
theorem of64 {a : Int} (h : Bd a) : ((BitVec.ofInt 64 a).toNat : Int) = a := by
  unfold Bd at h
  rw [BitVec.toNat_ofInt]; omega
theorem xor_bd (a b : Int) : Bd (bits .xor .u64 a b) := by
  simp only [bits, IntKind.bits]; exact wrap_bd _
theorem or_bd (a b : Int) : Bd (bits .or .u64 a b) := by
  simp only [bits, IntKind.bits]; exact wrap_bd _
theorem xor_zero {a : Int} (h : Bd a) : bits .xor .u64 0 a = a := by
  have e : bits .xor .u64 0 a = IntKind.u64.wrap (((0#64 ^^^ BitVec.ofInt 64 a : BitVec 64).toNat : Nat) : Int) := rfl
  rw [e, BitVec.zero_xor, IntKind.wrap_u64, of64 h]
  unfold Bd at h; omega
theorem rol_zero {a : Int} (h : Bd a) : rol 0 a = a := by
  unfold rol
  have h2 : a / 2 ^ (64 - 0) = 0 := by
    unfold Bd at h
    exact Int.ediv_eq_zero_of_lt h.1 (by have : (2 : Int) ^ (64 - 0) = 18446744073709551616 := by decide
                                         omega)
  rw [h2, show a * 2 ^ 0 = a by simp]
  have e : bits .or .u64 (IntKind.u64.wrap a) 0 = IntKind.u64.wrap (((BitVec.ofInt 64 (IntKind.u64.wrap a) ||| 0#64 : BitVec 64).toNat : Nat) : Int) := rfl
  rw [e, BitVec.or_zero, IntKind.wrap_u64, IntKind.wrap_u64]
  have h3 : a % 18446744073709551616 = a := by unfold Bd at h; omega
  rw [h3, of64 h]; exact h3
/-- The document's order of the words. -/
def ta (s : Nat) : Nat := s / 5 + 5 * (s % 5)
def Zt (W : Nat → Int) : Nat → Int := fun s => W (ta s)
theorem ta_lt {s : Nat} (h : s < 25) : ta s < 25 := by unfold ta; omega
def csn (W : Nat → Int) (x : Nat) : Int := bits .xor .u64 (bits .xor .u64 (bits .xor .u64 (bits .xor .u64 (W x) (W (x + 5))) (W (x + 10))) (W (x + 15))) (W (x + 20))
def thn (W : Nat → Int) (i : Nat) : Int := bits .xor .u64 (W i) (bits .xor .u64 (csn W ((i + 4) % 5)) (rol 1 (csn W ((i + 1) % 5))))
theorem cs_csn {W : Nat → Int} (h : ∀ i, i < 25 → Bd (W i)) (x : Nat) (hx : x < 5) : cs W x = csn W x := by
  unfold cs csn; rw [xor_zero (h x (by omega))]
theorem th_thn {W : Nat → Int} (h : ∀ i, i < 25 → Bd (W i)) (i : Nat) : th W i = thn W i := by
  unfold th thn
  rw [ssum_eq W _ (by omega), ssum_eq W _ (by omega), cs_csn h _ (by omega), cs_csn h ((i + 1) % 5) (by omega)]
def ioc (c : Int) (V : Nat → Int) (i : Nat) : Int := if i = 0 then bits .xor .u64 (V 0) c else V i
theorem rnd_thn (c : Int) {W : Nat → Int} (h : ∀ i, i < 25 → Bd (W i)) (i : Nat) (hi : i < 25) : rnd c W i = ioc c (chc (bw (thn W))) i := by
  have h2 : ∀ i, i < 25 → (rp (th W) 24).2 i = bw (thn W) i := fun i hi => by
    rw [rp_eq _ i hi]
    exact bw_congr (fun j _ => th_thn h j) i hi
  have h3 : ∀ i, i < 25 → chi (rp (th W) 24).2 5 i = chc (bw (thn W)) i := fun i hi => by
    rw [chi_eq _ i hi]; exact chc_congr h2 i hi
  unfold rnd ioc
  show upd (chi (rp (th W) 24).2 5) 0 _ i = _
  unfold upd
  by_cases h0 : i = 0
  · rw [if_pos h0, if_pos h0, h3 0 (by omega)]
  · rw [if_neg h0, if_neg h0, h3 i hi]
theorem rnd_bd (c : Int) {W : Nat → Int} (h : ∀ i, i < 25 → Bd (W i)) (i : Nat) (hi : i < 25) : Bd (rnd c W i) := by
  rw [rnd_thn c h i hi]
  unfold ioc chc
  split <;> exact xor_bd _ _
def tg (s : Nat) : Nat := s % 5 * 5 + (2 * (s / 5) + 3 * (s % 5)) % 5
def ivl : List Nat := [0, 15, 5, 20, 10, 6, 21, 11, 1, 16, 12, 2, 17, 7, 22, 18, 8, 23, 13, 3, 24, 14, 4, 19, 9]
theorem tg_inj : ∀ s, s < 25 → ∀ t, t < 25 → tg s = tg t → s = t := by decide
theorem iv_ok : ∀ k, k < 25 → tg (ivl.getD k 0) = k ∧ ivl.getD k 0 < 25 := by decide
theorem iv_tab : ∀ k, k < 25 → k ≠ 0 → tz (ivl.getD k 0) = rtl.getD (ta k) 0 ∧ ta (ivl.getD k 0) = srl.getD (ta k) 0 ∧ ta k ≠ 0 := by decide +kernel
theorem bz_at (Z : Nat → Int) : ∀ n, n ≤ 25 → ∀ s, s < n → bz Z n (tg s) = rol (tz s) (bits .xor .u64 (Z s) (dz Z (s / 5))) := by
  intro n
  induction n with
  | zero => intro _ s hs; omega
  | succ n ih =>
    intro hn s hs
    show upd (bz Z n) (tg n) (rol (tz n) (bits .xor .u64 (Z n) (dz Z (n / 5)))) (tg s) = _
    unfold upd
    by_cases e : s = n
    · subst e; rw [if_pos rfl]
    · rw [if_neg (fun h => e (tg_inj s (by omega) n (by omega) h)), ih (by omega) s (by omega)]
theorem cz_csn (W : Nat → Int) (x : Nat) (hx : x < 5) : cz (Zt W) x = csn W x := by
  unfold cz csn Zt
  have h : ∀ j, j < 5 → ta (x * 5 + j) = x + 5 * j := fun j hj => by unfold ta; omega
  rw [h 1 (by omega), h 2 (by omega), h 3 (by omega), h 4 (by omega), show ta (x * 5) = x from h 0 (by omega)]
theorem z_thn (W : Nat → Int) (s : Nat) (hs : s < 25) : bits .xor .u64 (Zt W s) (dz (Zt W) (s / 5)) = thn W (ta s) := by
  unfold dz thn
  rw [cz_csn W _ (by omega), cz_csn W _ (by omega)]
  rw [show (ta s + 4) % 5 = (s / 5 + 4) % 5 by unfold ta; omega, show (ta s + 1) % 5 = (s / 5 + 1) % 5 by unfold ta; omega]
  rfl
theorem bz_bw (W : Nat → Int) (k : Nat) (hk : k < 25) : bz (Zt W) 25 k = bw (thn W) (ta k) := by
  obtain ⟨h1, h2⟩ := iv_ok k hk
  have := bz_at (Zt W) 25 (Nat.le_refl _) (ivl.getD k 0) h2
  rw [h1] at this
  rw [this, z_thn W _ h2]
  by_cases h : k = 0
  · subst h
    rw [show ivl.getD 0 0 = 0 from rfl, show tz 0 = 0 by decide +kernel]
    exact rol_zero (show Bd (thn W (ta 0)) from xor_bd _ _)
  · obtain ⟨t1, t2, t3⟩ := iv_tab k hk h
    unfold bw
    rw [if_neg t3, t1, t2]
theorem ta_e1 : ∀ s, s < 25 → ta ((s / 5 + 1) % 5 * 5 + s % 5) = ta s / 5 * 5 + (ta s % 5 + 1) % 5 ∧ ta ((s / 5 + 2) % 5 * 5 + s % 5) = ta s / 5 * 5 + (ta s % 5 + 2) % 5 := by decide
theorem chz_chc (W : Nat → Int) (s : Nat) (hs : s < 25) : chz (bz (Zt W) 25) s = chc (bw (thn W)) (ta s) := by
  unfold chz chc
  rw [bz_bw W s hs, bz_bw W _ (by omega), bz_bw W _ (by omega)]
  rw [(ta_e1 s hs).1, (ta_e1 s hs).2]
theorem rdz_eq (c : Int) {W : Nat → Int} (h : ∀ i, i < 25 → Bd (W i)) (s : Nat) (hs : s < 25) : rdz c (Zt W) s = Zt (rnd c W) s := by
  show _ = rnd c W (ta s)
  rw [rnd_thn c h _ (ta_lt hs)]
  unfold rdz ioc
  show upd (upto 25 (chz (bz (Zt W) 25)) (Zt W)) 0 _ s = _
  unfold upd
  by_cases h0 : s = 0
  · subst h0
    rw [if_pos rfl, if_pos (show ta 0 = 0 from rfl)]
    unfold upto
    rw [if_pos (by omega), chz_chc W 0 (by omega)]; rfl
  · rw [if_neg h0, if_neg (by unfold ta; omega)]
    unfold upto
    rw [if_pos hs, chz_chc W s hs]
theorem cz_congr {Z Y : Nat → Int} (h : ∀ s, s < 25 → Z s = Y s) (x : Nat) (hx : x < 5) : cz Z x = cz Y x := by
  unfold cz; rw [h _ (by omega), h _ (by omega), h _ (by omega), h _ (by omega), h _ (by omega)]
theorem bz_congr {Z Y : Nat → Int} (h : ∀ s, s < 25 → Z s = Y s) : ∀ n, n ≤ 25 → bz Z n = bz Y n := by
  intro n
  induction n with
  | zero => intro _; rfl
  | succ n ih =>
    intro hn
    unfold bz
    rw [ih (by omega), h n (by omega)]
    unfold dz
    rw [cz_congr h _ (by omega), cz_congr h ((n / 5 + 1) % 5) (by omega)]
theorem rdz_congr (c : Int) {Z Y : Nat → Int} (h : ∀ s, s < 25 → Z s = Y s) (s : Nat) (hs : s < 25) : rdz c Z s = rdz c Y s := by
  unfold rdz
  rw [bz_congr h 25 (Nat.le_refl _)]
  show upd (upto 25 (chz (bz Y 25)) Z) 0 _ s = upd (upto 25 (chz (bz Y 25)) Y) 0 _ s
  unfold upd upto
  by_cases h0 : s = 0
  · rw [if_pos h0, if_pos h0, if_pos (by omega)]; rfl
  · rw [if_neg h0, if_neg h0, if_pos hs, if_pos hs]
theorem prm_bd {W : Nat → Int} (h : ∀ i, i < 25 → Bd (W i)) (n : Nat) : ∀ i, i < 25 → Bd (prm W n i) := by
  induction n with
  | zero => exact h
  | succ n ih => exact fun i hi => rnd_bd _ ih i hi
/-- The document's change is the program's. -/
theorem prz_eq {W : Nat → Int} (h : ∀ i, i < 25 → Bd (W i)) : ∀ n, n ≤ 24 → ∀ s, s < 25 → prz (Zt W) n s = Zt (prm W n) s := by
  intro n
  induction n with
  | zero => intro _ s _; rfl
  | succ n ih =>
    intro hn s hs
    show rdz (cst 24 0 n) (prz (Zt W) n) s = Zt (rnd (co n) (prm W n)) s
    rw [rdz_congr _ (ih (by omega)) s hs, cst_table n (by omega), rdz_eq _ (prm_bd h n) s hs]
end Go.Proofs.YtgjcofneecebjaaDoor
