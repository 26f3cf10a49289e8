/- The plain law of the layers: going forward and back multiplies by two at each layer. No program in sight. -/
import Derived.Test.YtopkmkkohmkceaaDoorC
namespace Go.Proofs.YtopkmkkohmkceaaDoor

/-- Equal modulo 3329. -/
def M (a b : Int) : Prop := ∃ k, a = b + 3329 * k
theorem M.refl (a : Int) : M a a := ⟨0, by omega⟩
theorem M.symm {a b : Int} (h : M a b) : M b a := by obtain ⟨k, h⟩ := h; exact ⟨-k, by omega⟩
theorem M.trans {a b c : Int} (h : M a b) (g : M b c) : M a c := by obtain ⟨k, h⟩ := h; obtain ⟨l, g⟩ := g; exact ⟨k + l, by omega⟩
theorem M.add {a b c d : Int} (h : M a b) (g : M c d) : M (a + c) (b + d) := by obtain ⟨k, h⟩ := h; obtain ⟨l, g⟩ := g; exact ⟨k + l, by omega⟩
theorem M.sub {a b c d : Int} (h : M a b) (g : M c d) : M (a - c) (b - d) := by obtain ⟨k, h⟩ := h; obtain ⟨l, g⟩ := g; exact ⟨k - l, by omega⟩
theorem M.mul {a b c d : Int} (h : M a b) (g : M c d) : M (a * c) (b * d) := by obtain ⟨k, h⟩ := h; obtain ⟨l, g⟩ := g; exact ⟨k * d + b * l + 3329 * k * l, by subst h g; grind⟩
theorem M.of_eq {a b : Int} (h : a = b) : M a b := h ▸ M.refl a
theorem M.emod (a : Int) : M (emod a) a := ⟨-(a / 3329), by unfold YtopkmkkohmkceaaDoor.emod; omega⟩
theorem M.eq {a b : Int} (h : M a b) : YtopkmkkohmkceaaDoor.emod a = YtopkmkkohmkceaaDoor.emod b := by obtain ⟨k, h⟩ := h; unfold YtopkmkkohmkceaaDoor.emod; omega

/-- The two roots of a block, forward and back, multiply to less one. -/
theorem rt_inv0 : ∀ j < 64, ∀ n ∈ [2, 4, 8, 16, 32, 64, 128], j < 128 / n → emod (rt (128 / n + j) * rt (256 / n - 1 - j)) = 3328 := by decide
def Wd (n : Nat) : Prop := n = 2 ∨ n = 4 ∨ n = 8 ∨ n = 16 ∨ n = 32 ∨ n = 64 ∨ n = 128
theorem rt_inv (n j : Nat) (hn : Wd n) (hj : j < 128 / n) : M (rt (128 / n + j) * rt (256 / n - 1 - j)) (-1) := by
  have hj2 : j < 64 := by rcases hn with rfl | rfl | rfl | rfl | rfl | rfl | rfl <;> omega
  have := rt_inv0 j hj2 n (by rcases hn with rfl | rfl | rfl | rfl | rfl | rfl | rfl <;> simp) hj
  refine (M.emod _).symm.trans ?_
  rw [this]
  exact ⟨1, by omega⟩

/-- Each place is the one or the other end of a butterfly. -/
theorem places (n i : Nat) (hn : Wd n) (hi : i < 256) : (∃ c q, q < n ∧ c < 128 / n ∧ i = 2 * n * c + q) ∨ (∃ c q, q < n ∧ c < 128 / n ∧ i = 2 * n * c + q + n) := by
  by_cases h : i % (2 * n) < n
  · exact .inl ⟨i / (2 * n), i % (2 * n), h, by rcases hn with rfl | rfl | rfl | rfl | rfl | rfl | rfl <;> omega, by rw [Nat.div_add_mod]⟩
  · refine .inr ⟨i / (2 * n), i % (2 * n) - n, ?_, ?_, ?_⟩
    · rcases hn with rfl | rfl | rfl | rfl | rfl | rfl | rfl <;> omega
    · rcases hn with rfl | rfl | rfl | rfl | rfl | rfl | rfl <;> omega
    · have := Nat.div_add_mod i (2 * n); omega
theorem places_lt (n c q : Nat) (hn : Wd n) (hq : q < n) (hc : c < 128 / n) : 2 * n * c + q < 256 ∧ 2 * n * c + q + n < 256 := by
  rcases hn with rfl | rfl | rfl | rfl | rfl | rfl | rfl <;> omega

/-- One is so many times the other, place by place. -/
def Sc (c : Int) (f g : Nat → Int) : Prop := ∀ i, i < 256 → M (f i) (c * g i)
theorem Sc.trans {c d : Int} {f g h : Nat → Int} (a : Sc c f g) (b : Sc d g h) : Sc (c * d) f h := fun i hi =>
  (a i hi).trans (((M.refl c).mul (b i hi)).trans (M.of_eq (by grind)))
theorem lay_sc (n : Nat) (hn : Wd n) (c : Int) (f g : Nat → Int) (h : Sc c f g) : Sc c (lay n f) (lay n g) := fun i hi => by
  rcases places n i hn hi with ⟨b, q, hq, hb, rfl⟩ | ⟨b, q, hq, hb, rfl⟩
  · obtain ⟨p1, p2⟩ := places_lt n b q hn hq hb
    rw [lay_lo n b q hq, lay_lo n b q hq]
    exact (M.emod _).trans (((h _ p1).add ((M.refl _).mul (h _ p2))).trans ((M.of_eq (by grind)).trans ((M.refl c).mul (M.emod _).symm)))
  · obtain ⟨p1, p2⟩ := places_lt n b q hn hq hb
    rw [lay_hi n b q hq, lay_hi n b q hq]
    exact (M.emod _).trans (((h _ p1).sub ((M.refl _).mul (h _ p2))).trans ((M.of_eq (by grind)).trans ((M.refl c).mul (M.emod _).symm)))
theorem ilay_sc (n : Nat) (hn : Wd n) (c : Int) (f g : Nat → Int) (h : Sc c f g) : Sc c (ilay n f) (ilay n g) := fun i hi => by
  rcases places n i hn hi with ⟨b, q, hq, hb, rfl⟩ | ⟨b, q, hq, hb, rfl⟩
  · obtain ⟨p1, p2⟩ := places_lt n b q hn hq hb
    rw [ilay_lo n b q hq, ilay_lo n b q hq]
    exact (M.emod _).trans (((h _ p1).add (h _ p2)).trans ((M.of_eq (by grind)).trans ((M.refl c).mul (M.emod _).symm)))
  · obtain ⟨p1, p2⟩ := places_lt n b q hn hq hb
    rw [ilay_hi n b q hq, ilay_hi n b q hq]
    exact (M.emod _).trans (((M.refl _).mul ((h _ p2).sub (h _ p1))).trans ((M.of_eq (by grind)).trans ((M.refl c).mul (M.emod _).symm)))
theorem back_forth (n : Nat) (hn : Wd n) (f : Nat → Int) : Sc 2 (ilay n (lay n f)) f := fun i hi => by
  rcases places n i hn hi with ⟨b, q, hq, hb, rfl⟩ | ⟨b, q, hq, hb, rfl⟩
  · rw [ilay_lo n b q hq, lay_lo n b q hq, lay_hi n b q hq]
    exact (M.emod _).trans (((M.emod _).add (M.emod _)).trans (M.of_eq (by grind)))
  · rw [ilay_hi n b q hq, lay_lo n b q hq, lay_hi n b q hq]
    obtain ⟨k, hk⟩ := rt_inv n b hn hb
    refine (M.emod _).trans (((M.refl _).mul ((M.emod _).sub (M.emod _))).trans ⟨-2 * k * f (2 * n * b + q + n), ?_⟩)
    generalize rt (128 / n + b) = z at *
    generalize rt (256 / n - 1 - b) = z' at *
    grind
theorem forth_back (n : Nat) (hn : Wd n) (f : Nat → Int) : Sc 2 (lay n (ilay n f)) f := fun i hi => by
  rcases places n i hn hi with ⟨b, q, hq, hb, rfl⟩ | ⟨b, q, hq, hb, rfl⟩
  · rw [lay_lo n b q hq, ilay_lo n b q hq, ilay_hi n b q hq]
    obtain ⟨k, hk⟩ := rt_inv n b hn hb
    refine (M.emod _).trans (((M.emod _).add ((M.refl _).mul (M.emod _))).trans ⟨k * (f (2 * n * b + q + n) - f (2 * n * b + q)), ?_⟩)
    generalize rt (128 / n + b) = z at *
    generalize rt (256 / n - 1 - b) = z' at *
    grind
  · rw [lay_hi n b q hq, ilay_lo n b q hq, ilay_hi n b q hq]
    obtain ⟨k, hk⟩ := rt_inv n b hn hb
    refine (M.emod _).trans (((M.emod _).sub ((M.refl _).mul (M.emod _))).trans ⟨-k * (f (2 * n * b + q + n) - f (2 * n * b + q)), ?_⟩)
    generalize rt (128 / n + b) = z at *
    generalize rt (256 / n - 1 - b) = z' at *
    grind

theorem wd_ok (m : Nat) (h : m < 7) : Wd (wd m) := by
  unfold Wd wd
  rcases (by omega : m = 0 ∨ m = 1 ∨ m = 2 ∨ m = 3 ∨ m = 4 ∨ m = 5 ∨ m = 6) with rfl | rfl | rfl | rfl | rfl | rfl | rfl <;> simp
theorem iwd_wd (m : Nat) (h : m < 7) : iwd m = wd (6 - m) := by
  unfold iwd wd
  rcases (by omega : m = 0 ∨ m = 1 ∨ m = 2 ∨ m = 3 ∨ m = 4 ∨ m = 5 ∨ m = 6) with rfl | rfl | rfl | rfl | rfl | rfl | rfl <;> simp
theorem Is_Ls (f : Nat → Int) (m : Nat) (h : m ≤ 7) : Sc (2 ^ m) (Is m (Ls 7 f)) (Ls (7 - m) f) := by
  induction m with
  | zero => exact fun i _ => M.of_eq (by simp [Is])
  | succ m ih =>
    have h1 := ih (by omega)
    show Sc _ (ilay (iwd m) (Is m (Ls 7 f))) _
    rw [iwd_wd m (by omega)]
    have h2 := ilay_sc _ (wd_ok (6 - m) (by omega)) _ _ _ h1
    rw [show 7 - m = (6 - m) + 1 by omega] at h2
    have h3 := h2.trans (back_forth _ (wd_ok (6 - m) (by omega)) (Ls (6 - m) f))
    rw [show 7 - (m + 1) = 6 - m by omega, Int.pow_succ]
    exact h3
theorem Ls_sc (m : Nat) (hm : m ≤ 7) (c : Int) (f g : Nat → Int) (h : Sc c f g) : Sc c (Ls m f) (Ls m g) := by
  induction m with
  | zero => exact h
  | succ m ih => exact lay_sc _ (wd_ok m (by omega)) _ _ _ (ih (by omega))
theorem Ls_Is (f : Nat → Int) (m : Nat) (h : m ≤ 7) : Sc (2 ^ m) (Ls m (Is 7 f)) (Is (7 - m) f) := by
  induction m with
  | zero => exact fun i _ => M.of_eq (by simp [Ls])
  | succ m ih =>
    have h1 := ih (by omega)
    show Sc _ (lay (wd m) (Ls m (Is 7 f))) _
    have h2 := lay_sc _ (wd_ok m (by omega)) _ _ _ h1
    rw [show 7 - m = (6 - m) + 1 by omega] at h2
    have h4 : Is (6 - m + 1) f = ilay (wd m) (Is (6 - m) f) := by
      show ilay (iwd (6 - m)) _ = _
      rw [iwd_wd (6 - m) (by omega), show 6 - (6 - m) = m by omega]
    rw [h4] at h2
    have h3 := h2.trans (forth_back _ (wd_ok m (by omega)) (Is (6 - m) f))
    rw [show 7 - (m + 1) = 6 - m by omega, Int.pow_succ]
    exact h3

/-- NTT and Inverse, as they come out of the walks. -/
def ntt (a : Nat → Int) : Nat → Int := Ls 7 fun i => emod (a i)
def inv (a : Nat → Int) : Nat → Int := fun i => emod (3303 * Is 7 (fun i => emod (a i)) i)
theorem inv_ntt (a : Nat → Int) (i : Nat) (h : i < 256) : inv (ntt a) i = emod (a i) := by
  unfold inv
  have e : (fun i => emod (ntt a i)) = Ls 7 (fun i => emod (a i)) := by
    funext i; exact emod_small _ (Ls_bd 7 _ (fun i => emod_bd _) i)
  rw [e]
  have h1 := Is_Ls (fun i => emod (a i)) 7 (by omega) i h
  have h2 : M (3303 * Is 7 (Ls 7 fun i => emod (a i)) i) (a i) := by
    refine ((M.refl 3303).mul h1).trans ?_
    refine (((M.refl 3303).mul ((M.refl (2 ^ 7)).mul (M.emod (a i)))).trans ⟨127 * a i, ?_⟩)
    omega
  exact h2.eq
theorem ntt_inv (a : Nat → Int) (i : Nat) (h : i < 256) : ntt (inv a) i = emod (a i) := by
  unfold ntt
  have e : (fun i => emod (inv a i)) = fun i => emod (3303 * Is 7 (fun i => emod (a i)) i) := by
    funext i; exact emod_emod _
  rw [e]
  have h0 : Sc 3303 (fun i => emod (3303 * Is 7 (fun i => emod (a i)) i)) (Is 7 (fun i => emod (a i))) := fun i _ => M.emod _
  have h1 := (Ls_sc 7 (by omega) _ _ _ h0).trans (Ls_Is (fun i => emod (a i)) 7 (by omega)) i h
  have h2 : M (Ls 7 (fun i => emod (3303 * Is 7 (fun i => emod (a i)) i)) i) (a i) :=
    h1.trans (((M.refl (3303 * 2 ^ 7)).mul (M.emod (a i))).trans ⟨127 * a i, by omega⟩)
  rw [← h2.eq]
  exact (emod_small _ (Ls_bd 7 _ (fun i => emod_bd _) i)).symm
end Go.Proofs.YtopkmkkohmkceaaDoor
