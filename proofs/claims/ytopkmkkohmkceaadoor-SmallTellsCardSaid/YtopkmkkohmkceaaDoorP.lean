/- The plain law of products: what NTT comes to, number by number, and that the product of two transforms is the transform of the product. No program in sight. -/
import Derived.Test.YtopkmkkohmkceaaDoorD
import Derived.Test.YtopkmkkohmkceaaDoorE
namespace Go.Proofs.YtopkmkkohmkceaaDoor

/-- The sum of the first so many. -/
def sm : Nat → (Nat → Int) → Int
  | 0, _ => 0
  | n + 1, g => sm n g + g n
theorem sm_congr {n : Nat} {f g : Nat → Int} (h : ∀ k, k < n → M (f k) (g k)) : M (sm n f) (sm n g) := by
  induction n with
  | zero => exact M.refl _
  | succ n ih => exact (ih fun k hk => h k (by omega)).add (h n (by omega))
theorem sm_add (n : Nat) (f g : Nat → Int) : sm n (fun k => f k + g k) = sm n f + sm n g := by
  induction n with
  | zero => rfl
  | succ n ih => simp only [sm, ih]; omega
theorem sm_mul (n : Nat) (c : Int) (f : Nat → Int) : sm n (fun k => c * f k) = c * sm n f := by
  induction n with
  | zero => simp [sm]
  | succ n ih => simp only [sm, ih, Int.mul_add]
theorem sm_mul_r (n : Nat) (c : Int) (f : Nat → Int) : sm n (fun k => f k * c) = sm n f * c := by
  induction n with
  | zero => simp [sm]
  | succ n ih => simp only [sm, ih, Int.add_mul]
theorem sm_double (n : Nat) (g : Nat → Int) : sm (2 * n) g = sm n (fun k => g (2 * k)) + sm n (fun k => g (2 * k + 1)) := by
  induction n with
  | zero => rfl
  | succ n ih => rw [show 2 * (n + 1) = 2 * n + 1 + 1 by omega]; simp only [sm, ih]; omega
theorem M.pow {a b : Int} (h : M a b) (k : Nat) : M (a ^ k) (b ^ k) := by
  induction k with
  | zero => exact M.of_eq (by simp)
  | succ k ih => rw [Int.pow_succ, Int.pow_succ]; exact ih.mul h

/-- The root of a block: of the whole less one; of both halves of a block its root, and that less. -/
def rho : Nat → Nat → Int
  | 0, _ => -1
  | m + 1, t => if t % 2 = 0 then rt (2 ^ m + t / 2) else -rt (2 ^ m + t / 2)
theorem rho_sq0 : ∀ m < 7, ∀ t < 2 ^ m, emod (rt (2 ^ m + t) * rt (2 ^ m + t) - rho m t) = 0 := by decide
theorem rho_sq (m t : Nat) (hm : m < 7) (ht : t < 2 ^ m) : M (rt (2 ^ m + t) ^ 2) (rho m t) := by
  have h := rho_sq0 m hm t ht
  refine ⟨(rt (2 ^ m + t) * rt (2 ^ m + t) - rho m t) / 3329, ?_⟩
  unfold YtopkmkkohmkceaaDoor.emod at h
  rw [show rt (2 ^ m + t) ^ 2 = rt (2 ^ m + t) * rt (2 ^ m + t) by grind]
  omega
theorem wd_pow (m : Nat) (h : m < 7) : 128 / wd m = 2 ^ m := by
  unfold wd
  rcases (by omega : m = 0 ∨ m = 1 ∨ m = 2 ∨ m = 3 ∨ m = 4 ∨ m = 5 ∨ m = 6) with rfl | rfl | rfl | rfl | rfl | rfl | rfl <;> simp
theorem wd_half (m : Nat) (h : m < 6) : wd m = 2 * wd (m + 1) := by
  unfold wd
  rcases (by omega : m = 0 ∨ m = 1 ∨ m = 2 ∨ m = 3 ∨ m = 4 ∨ m = 5) with rfl | rfl | rfl | rfl | rfl | rfl <;> simp
def bw (m : Nat) : Nat := 256 / 2 ^ m
theorem bw_wd (m : Nat) (h : m < 7) : bw m = 2 * wd m ∧ bw (m + 1) = wd m := by
  unfold bw wd
  rcases (by omega : m = 0 ∨ m = 1 ∨ m = 2 ∨ m = 3 ∨ m = 4 ∨ m = 5 ∨ m = 6) with rfl | rfl | rfl | rfl | rfl | rfl | rfl <;> simp

/-- What a place holds behind m layers: the sum over all that is folded into it. -/
theorem Ls_eval (f : Nat → Int) (m : Nat) (hm : m ≤ 7) : ∀ t j, t < 2 ^ m → j < bw m → M (Ls m f (bw m * t + j)) (sm (2 ^ m) fun k => f (k * bw m + j) * rho m t ^ k) := by
  induction m with
  | zero =>
    intro t j ht hj
    have : t = 0 := by omega
    subst this
    simp [sm, Ls, bw, M.refl]
  | succ m ih =>
    intro t j ht hj
    obtain ⟨b1, b2⟩ := bw_wd m (by omega)
    rw [b2] at hj ⊢
    have hw : 0 < wd m := by omega
    have hc : t / 2 < 2 ^ m := by rw [Nat.pow_succ] at ht; omega
    have hz := rho_sq m (t / 2) (by omega) hc
    have A := ih (by omega) (t / 2) j hc (by omega)
    have B := ih (by omega) (t / 2) (j + wd m) hc (by omega)
    rw [b1] at A B
    have hk : ∀ (s : Int), M (s ^ 2) (rho m (t / 2)) → ∀ (k : Nat), M (rho m (t / 2) ^ k) (s ^ (2 * k)) := fun s hs k => by
      rw [Int.pow_mul]; exact (hs.pow k).symm
    show M (lay (wd m) (Ls m f) (wd m * t + j)) _
    rw [Nat.pow_succ, Nat.mul_comm (2 ^ m) 2, sm_double]
    by_cases he : t % 2 = 0
    · have e1 : wd m * t + j = 2 * wd m * (t / 2) + j := by
        have : t = 2 * (t / 2) := by omega
        generalize t / 2 = u at *
        subst this
        rw [show wd m * (2 * u) = 2 * wd m * u by rw [Nat.mul_left_comm, Nat.mul_assoc]]
      rw [e1, lay_lo (wd m) (t / 2) j hj, wd_pow m (by omega)]
      have er : rho (m + 1) t = rt (2 ^ m + t / 2) := by simp [rho, he]
      rw [er]
      generalize rt (2 ^ m + t / 2) = z at *
      refine (M.emod _).trans (((A.add ((M.refl z).mul (show M _ _ from by rw [Nat.add_assoc]; exact B)))).trans ?_)
      rw [← sm_mul]
      refine (sm_congr fun k _ => ?_).add (sm_congr fun k _ => ?_)
      · rw [show k * (2 * wd m) = 2 * k * wd m by rw [Nat.mul_left_comm, Nat.mul_assoc]]
        exact (M.refl _).mul (hk z hz k)
      · rw [show k * (2 * wd m) + (j + wd m) = (2 * k + 1) * wd m + j by rw [Nat.add_mul, Nat.mul_left_comm, Nat.mul_assoc]; omega, Int.pow_succ]
        exact ((M.refl z).mul ((M.refl _).mul (hk z hz k))).trans (M.of_eq (by grind))
    · have e1 : wd m * t + j = 2 * wd m * (t / 2) + j + wd m := by
        have : t = 2 * (t / 2) + 1 := by omega
        generalize t / 2 = u at *
        subst this
        rw [Nat.mul_add, show wd m * (2 * u) = 2 * wd m * u by rw [Nat.mul_left_comm, Nat.mul_assoc]]; omega
      rw [e1, lay_hi (wd m) (t / 2) j hj, wd_pow m (by omega)]
      have er : rho (m + 1) t = -rt (2 ^ m + t / 2) := by simp [rho, he]
      rw [er]
      generalize rt (2 ^ m + t / 2) = z at *
      have hz' : M ((-z) ^ 2) (rho m (t / 2)) := (M.of_eq (by grind)).trans hz
      refine (M.emod _).trans (((A.sub ((M.refl z).mul (show M _ _ from by rw [Nat.add_assoc]; exact B)))).trans ?_)
      rw [show ∀ x y : Int, x - z * y = x + (-z) * y from fun x y => by grind, ← sm_mul]
      refine (sm_congr fun k _ => ?_).add (sm_congr fun k _ => ?_)
      · rw [show k * (2 * wd m) = 2 * k * wd m by rw [Nat.mul_left_comm, Nat.mul_assoc]]
        exact (M.refl _).mul (hk (-z) hz' k)
      · rw [show k * (2 * wd m) + (j + wd m) = (2 * k + 1) * wd m + j by rw [Nat.add_mul, Nat.mul_left_comm, Nat.mul_assoc]; omega, Int.pow_succ]
        exact ((M.refl (-z)).mul ((M.refl _).mul (hk (-z) hz' k))).trans (M.of_eq (by grind))

/-- The root of a pair of places, and the weight that a number has in its sum. -/
def gm (t : Nat) : Int := rho 7 t
theorem gm_times0 : ∀ t < 128, emod (gm t - emod (rt t * rt t * 17)) = 0 := by decide
theorem gm_times (t : Nat) (h : t < 128) : M (gm t) (emod (rt t * rt t * 17)) := by
  have := gm_times0 t h
  exact ⟨(gm t - emod (rt t * rt t * 17)) / 3329, by unfold YtopkmkkohmkceaaDoor.emod at *; omega⟩
/-- Powers modulo 3329, for the kernel. -/
def pw (b : Int) : Nat → Int
  | 0 => 1
  | k + 1 => emod (pw b k * b)
theorem pw_M (b : Int) (k : Nat) : M (pw b k) (b ^ k) := by
  induction k with
  | zero => exact M.of_eq (by simp [pw])
  | succ k ih => rw [Int.pow_succ]; exact (M.emod _).trans (ih.mul (M.refl _))
theorem gm_end0 : ∀ t < 128, pw (gm t) 128 = 3328 := by decide +kernel
theorem gm_end (t : Nat) (h : t < 128) : M (gm t ^ 128) (-1) := by
  refine (pw_M _ _).symm.trans ?_
  rw [gm_end0 t h]
  exact ⟨1, by omega⟩
def wt (t j p : Nat) : Int := if p % 2 = j then gm t ^ (p / 2) else 0
def ev (f : Nat → Int) (t j : Nat) : Int := sm 256 fun p => f p * wt t j p
theorem ev_congr {f g : Nat → Int} (h : ∀ i, i < 256 → M (f i) (g i)) (t j : Nat) : M (ev f t j) (ev g t j) := sm_congr fun k hk => (h k hk).mul (M.refl _)
theorem ntt_ev (a : Nat → Int) (t j : Nat) (ht : t < 128) (hj : j < 2) : M (ntt a (2 * t + j)) (ev a t j) := by
  have h := Ls_eval (fun i => emod (a i)) 7 (by omega) t j (by omega) (by unfold bw; omega)
  have e : bw 7 = 2 := rfl
  rw [e] at h
  refine h.trans ?_
  unfold ev
  rw [show 256 = 2 * 128 by rfl, sm_double, show (2 : Nat) ^ 7 = 128 by rfl]
  rcases (by omega : j = 0 ∨ j = 1) with rfl | rfl
  · have z : sm 128 (fun k => a (2 * k + 1) * wt t 0 (2 * k + 1)) = sm 128 (fun k => 0 * a k) := by
      congr 1; funext k; unfold wt; rw [if_neg (by omega)]; simp
    rw [z, sm_mul, Int.zero_mul, Int.add_zero]
    refine sm_congr fun k _ => ?_
    unfold wt; rw [if_pos (by omega), show 2 * k / 2 = k by omega, Nat.add_zero, Nat.mul_comm k 2]
    exact (M.emod _).mul (M.refl _)
  · have z : sm 128 (fun k => a (2 * k) * wt t 1 (2 * k)) = sm 128 (fun k => 0 * a k) := by
      congr 1; funext k; unfold wt; rw [if_neg (by omega)]; simp
    rw [z, sm_mul, Int.zero_mul, Int.zero_add]
    refine sm_congr fun k _ => ?_
    unfold wt; rw [if_pos (by omega), show (2 * k + 1) / 2 = k by omega, Nat.mul_comm k 2]
    exact (M.emod _).mul (M.refl _)
theorem wt_add0 (t i k : Nat) : wt t 0 (i + k) = wt t 0 i * wt t 0 k + gm t * (wt t 1 i * wt t 1 k) := by
  unfold wt
  by_cases hi : i % 2 = 0
  · by_cases hk : k % 2 = 0
    · rw [if_pos (by omega), if_pos hi, if_pos hk, if_neg (by omega), show (i + k) / 2 = i / 2 + k / 2 by omega, Int.pow_add]; simp
    · rw [if_neg (by omega), if_neg (show ¬ k % 2 = 0 by omega), if_neg (show ¬ i % 2 = 1 by omega)]; simp
  · by_cases hk : k % 2 = 0
    · rw [if_neg (by omega), if_neg hi, if_neg (show ¬ k % 2 = 1 by omega)]; simp
    · rw [if_pos (by omega), if_neg hi, if_pos (show i % 2 = 1 by omega), if_pos (show k % 2 = 1 by omega), show (i + k) / 2 = i / 2 + k / 2 + 1 by omega, Int.pow_succ, Int.pow_add]; grind
theorem wt_add1 (t i k : Nat) : wt t 1 (i + k) = wt t 0 i * wt t 1 k + wt t 1 i * wt t 0 k := by
  unfold wt
  by_cases hi : i % 2 = 0
  · by_cases hk : k % 2 = 0
    · rw [if_neg (by omega), if_neg (show ¬ k % 2 = 1 by omega), if_neg (show ¬ i % 2 = 1 by omega)]; simp
    · rw [if_pos (by omega), if_pos hi, if_pos (show k % 2 = 1 by omega), if_neg (show ¬ i % 2 = 1 by omega), show (i + k) / 2 = i / 2 + k / 2 by omega, Int.pow_add]; simp
  · by_cases hk : k % 2 = 0
    · rw [if_pos (by omega), if_neg hi, if_pos hk, if_pos (show i % 2 = 1 by omega), show (i + k) / 2 = i / 2 + k / 2 by omega, Int.pow_add]; simp
    · rw [if_neg (by omega), if_neg hi, if_neg hk]; simp
theorem wt_wrap (t j p : Nat) (ht : t < 128) : M (wt t j (p + 256)) (-wt t j p) := by
  unfold wt
  by_cases h : p % 2 = j
  · rw [if_pos (by omega), if_pos h, show (p + 256) / 2 = p / 2 + 128 by omega, Int.pow_add]
    exact ((M.refl _).mul (gm_end t ht)).trans (M.of_eq (by grind))
  · rw [if_neg (by omega), if_neg h]; exact M.of_eq (by simp)

/-- The sum over all pairs. -/
def two (a b : Nat → Int) (w : Nat → Int) : Int := sm 256 fun i => sm 256 fun k => a i * b k * w (i + k)
theorem two_0 (a b : Nat → Int) (t : Nat) : two a b (wt t 0) = ev a t 0 * ev b t 0 + gm t * (ev a t 1 * ev b t 1) := by
  unfold two ev
  have e : (fun i => sm 256 fun k => a i * b k * wt t 0 (i + k)) = fun i => (a i * wt t 0 i) * sm 256 (fun k => b k * wt t 0 k) + (gm t * (a i * wt t 1 i)) * sm 256 (fun k => b k * wt t 1 k) := by
    funext i
    rw [← sm_mul, ← sm_mul, ← sm_add]
    congr 1; funext k; rw [wt_add0]; grind
  rw [e, sm_add, sm_mul_r, sm_mul_r, sm_mul]; grind
theorem two_1 (a b : Nat → Int) (t : Nat) : two a b (wt t 1) = ev a t 0 * ev b t 1 + ev a t 1 * ev b t 0 := by
  unfold two ev
  have e : (fun i => sm 256 fun k => a i * b k * wt t 1 (i + k)) = fun i => (a i * wt t 0 i) * sm 256 (fun k => b k * wt t 1 k) + (a i * wt t 1 i) * sm 256 (fun k => b k * wt t 0 k) := by
    funext i
    rw [← sm_mul, ← sm_mul, ← sm_add]
    congr 1; funext k; rw [wt_add1]; grind
  rw [e, sm_add, sm_mul_r, sm_mul_r]

/-- A polynomial that has the sums of all pairs is what the product of both transforms was. -/
def IsProd (a b c : Nat → Int) : Prop := ∀ t j, t < 128 → j < 2 → M (ev c t j) (two a b (wt t j))
/-- The product as the code has it: of numbers brought within bounds. -/
def tm (a b : Nat → Int) : Nat → Int := tim (fun i => emod (a i)) (fun i => emod (b i))
theorem ntt_prod (a b c : Nat → Int) (h : IsProd a b c) (i : Nat) (hi : i < 256) : ntt c i = tm (ntt a) (ntt b) i := by
  have hb := Ls_bd 7 (fun i => emod (c i)) (fun i => emod_bd _) i
  have key : M (ntt c i) (tm (ntt a) (ntt b) i) := by
    obtain ⟨t, ht⟩ : ∃ t, t = i / 2 := ⟨_, rfl⟩
    have ht2 : t < 128 := by omega
    have A0 := ntt_ev a t 0 ht2 (by omega)
    have A1 := ntt_ev a t 1 ht2 (by omega)
    have B0 := ntt_ev b t 0 ht2 (by omega)
    have B1 := ntt_ev b t 1 ht2 (by omega)
    by_cases he : i % 2 = 0
    · have ei : i = 2 * t + 0 := by omega
      rw [ei]
      refine (ntt_ev c t 0 ht2 (by omega)).trans ((h t 0 ht2 (by omega)).trans ?_)
      rw [two_0]
      refine M.symm ?_
      unfold tm
      rw [Nat.add_zero, tim_lo]
      refine (M.emod _).trans ?_
      refine ((((M.emod _).trans A0).mul ((M.emod _).trans B0)).add ?_).trans (M.of_eq rfl)
      refine (((M.emod _).trans (((M.emod _).trans A1).mul ((M.emod _).trans B1))).mul (gm_times t ht2).symm).trans (M.of_eq (by grind))
    · have ei : i = 2 * t + 1 := by omega
      rw [ei]
      refine (ntt_ev c t 1 ht2 (by omega)).trans ((h t 1 ht2 (by omega)).trans ?_)
      rw [two_1]
      refine M.symm ?_
      unfold tm
      rw [tim_hi]
      refine (M.emod _).trans ?_
      exact (((M.emod _).trans A0).mul ((M.emod _).trans B1)).add (((M.emod _).trans A1).mul ((M.emod _).trans B0))
  have h1 := key.eq
  rw [emod_small (ntt c i) hb] at h1
  rw [h1]
  unfold tm tim
  split <;> exact emod_small _ (emod_bd _)
theorem prod_back (a b c : Nat → Int) (h : IsProd a b c) (i : Nat) (hi : i < 256) : inv (tm (ntt a) (ntt b)) i = emod (c i) := by
  have e : ∀ i, i < 256 → emod (tm (ntt a) (ntt b) i) = emod (ntt c i) := fun i hi => by rw [ntt_prod a b c h i hi]
  have e2 : inv (tm (ntt a) (ntt b)) i = inv (ntt c) i := by
    unfold inv
    have : Sc 1 (fun i => emod (tm (ntt a) (ntt b) i)) (fun i => emod (ntt c i)) := fun i hi => by show M (emod _) (1 * emod _); rw [e i hi]; exact M.of_eq (by omega)
    have h7 : ∀ m, m ≤ 7 → Sc 1 (Is m (fun i => emod (tm (ntt a) (ntt b) i))) (Is m (fun i => emod (ntt c i))) := by
      intro m
      induction m with
      | zero => intro _; exact this
      | succ m ih => intro hm; show Sc 1 (ilay (iwd m) _) (ilay (iwd m) _); rw [iwd_wd m (by omega)]; exact ilay_sc _ (wd_ok (6 - m) (by omega)) _ _ _ (ih (by omega))
    have h8 := h7 7 (by omega) i hi
    rw [Int.one_mul] at h8
    exact ((M.refl 3303).mul h8).eq
  rw [e2, inv_ntt c i hi]

theorem sm_single (n m : Nat) (g : Nat → Int) (h : m < n) : sm n (fun k => if k = m then g k else 0) = g m := by
  induction n with
  | zero => omega
  | succ n ih =>
    simp only [sm]
    by_cases e : n = m
    · subst e
      have z : sm n (fun k => if k = n then g k else 0) = 0 := by
        have : ∀ l, l ≤ n → sm l (fun k => if k = n then g k else 0) = 0 := by
          intro l
          induction l with
          | zero => intro _; rfl
          | succ l ih2 => intro hl; simp only [sm]; rw [ih2 (by omega), if_neg (by omega)]; rfl
        exact this n (Nat.le_refl _)
      rw [z, if_pos rfl]; omega
    · rw [ih (by omega), if_neg e]; omega
theorem sm_front (n : Nat) (g : Nat → Int) : sm (n + 1) g = g 0 + sm n (fun k => g (k + 1)) := by
  induction n with
  | zero => simp [sm]
  | succ n ih => rw [sm, ih]; simp only [sm]; omega
/-- One number at one place. -/
def one (m : Nat) (n : Int) : Nat → Int := upd (fun _ => 0) m n
theorem two_one (a : Nat → Int) (m : Nat) (n : Int) (hm : m < 256) (w : Nat → Int) : two a (one m n) w = sm 256 fun i => n * (a i * w (i + m)) := by
  unfold two
  refine congrArg (sm 256) (funext fun i => ?_)
  have e : (fun k => a i * one m n k * w (i + k)) = fun k => if k = m then n * (a i * w (i + k)) else 0 := by
    funext k; unfold one upd; split
    · grind
    · simp
  rw [e, sm_single _ _ _ hm]
def shift (a : Nat → Int) : Nat → Int := fun i => if i = 0 then -a 255 else a (i - 1)
theorem sm_front256 (g : Nat → Int) : sm 256 g = g 0 + sm 255 (fun k => g (k + 1)) := sm_front 255 g
theorem sm_back256 (g : Nat → Int) : sm 256 g = sm 255 g + g 255 := rfl
theorem prod_shift (a : Nat → Int) : IsProd a (one 1 1) (shift a) := fun t j ht hj => by
  rw [two_one a 1 1 (by omega)]
  have h1 : ev (shift a) t j = shift a 0 * wt t j 0 + sm 255 (fun k => shift a (k + 1) * wt t j (k + 1)) := sm_front256 _
  have h2 := sm_back256 (fun i => 1 * (a i * wt t j (i + 1)))
  have e : (fun k => shift a (k + 1) * wt t j (k + 1)) = fun i => 1 * (a i * wt t j (i + 1)) := by
    funext k; unfold shift; rw [if_neg (by omega), Nat.add_sub_cancel]; omega
  have hw := wt_wrap t j 0 ht
  refine (M.of_eq h1).trans (M.trans ?_ (M.of_eq h2.symm))
  rw [e]
  generalize sm 255 (fun i => 1 * (a i * wt t j (i + 1))) = s
  refine (M.of_eq (Int.add_comm _ s)).trans ((M.refl s).add ?_)
  have e2 : shift a 0 = -a 255 := rfl
  rw [e2]
  exact (M.of_eq (by grind : -a 255 * wt t j 0 = 1 * (a 255 * -wt t j 0))).trans ((M.refl 1).mul ((M.refl _).mul hw.symm))
theorem prod_scalar (a : Nat → Int) (n : Int) : IsProd a (one 0 n) (fun i => n * a i) := fun t j ht hj => by
  rw [two_one a 0 n (by omega)]
  show M (sm 256 _) (sm 256 _)
  refine sm_congr fun k _ => M.of_eq ?_
  show n * a k * wt t j k = n * (a k * wt t j k)
  grind

/-- The transform of a sum is the sum of the transforms. -/
theorem lay_add (n : Nat) (hn : Wd n) (f g h : Nat → Int) (H : ∀ i, i < 256 → M (h i) (f i + g i)) : ∀ i, i < 256 → M (lay n h i) (lay n f i + lay n g i) := fun i hi => by
  rcases places n i hn hi with ⟨b, q, hq, hb, rfl⟩ | ⟨b, q, hq, hb, rfl⟩
  · obtain ⟨p1, p2⟩ := places_lt n b q hn hq hb
    rw [lay_lo n b q hq, lay_lo n b q hq, lay_lo n b q hq]
    exact (M.emod _).trans (((H _ p1).add ((M.refl _).mul (H _ p2))).trans ((M.of_eq (by grind)).trans ((M.emod _).symm.add (M.emod _).symm)))
  · obtain ⟨p1, p2⟩ := places_lt n b q hn hq hb
    rw [lay_hi n b q hq, lay_hi n b q hq, lay_hi n b q hq]
    exact (M.emod _).trans (((H _ p1).sub ((M.refl _).mul (H _ p2))).trans ((M.of_eq (by grind)).trans ((M.emod _).symm.add (M.emod _).symm)))
theorem ntt_add (a b s : Nat → Int) (H : ∀ i, i < 256 → M (s i) (a i + b i)) (i : Nat) (hi : i < 256) : ntt s i = emod (emod (ntt a i) + emod (ntt b i)) := by
  have h7 : ∀ m, m ≤ 7 → ∀ i, i < 256 → M (Ls m (fun i => emod (s i)) i) (Ls m (fun i => emod (a i)) i + Ls m (fun i => emod (b i)) i) := by
    intro m
    induction m with
    | zero => intro _ i hi; exact (M.emod _).trans ((H i hi).trans ((M.emod _).symm.add (M.emod _).symm))
    | succ m ih => intro hm; exact lay_add _ (wd_ok m (by omega)) _ _ _ (ih (by omega))
  have h := (h7 7 (by omega) i hi).trans ((M.emod _).symm.add (M.emod _).symm)
  have h2 := h.eq
  rw [emod_small _ (Ls_bd 7 _ (fun i => emod_bd _) i)] at h2
  exact h2
theorem tm_add (c a b s : Nat → Int) (H : ∀ i, M (s i) (a i + b i)) (i : Nat) : tm c s i = emod (emod (tm c a i) + emod (tm c b i)) := by
  have hs : ∀ i, M (emod (s i)) (emod (a i) + emod (b i)) := fun i => (M.emod _).trans ((H i).trans ((M.emod _).symm.add (M.emod _).symm))
  have e : ∀ f, emod (tm c f i) = tm c f i := fun f => by unfold tm tim; split <;> exact emod_emod _
  rw [e, e]
  unfold tm tim
  split
  · refine M.eq ?_
    generalize emod (rt (i / 2) * rt (i / 2) * 17) = g
    refine (((M.refl _).mul (hs i)).add (((M.emod _).trans ((M.refl _).mul (hs (i + 1)))).mul (M.refl g))).trans (M.symm ?_)
    refine ((M.emod _).add (M.emod _)).trans ?_
    refine (((M.refl _).add ((M.emod _).mul (M.refl g))).add ((M.refl _).add ((M.emod _).mul (M.refl g)))).trans (M.of_eq (by grind))
  · refine M.eq ?_
    refine (((M.refl _).mul (hs i)).add ((M.refl _).mul (hs (i - 1)))).trans (M.symm ?_)
    exact ((M.emod _).add (M.emod _)).trans (M.of_eq (by grind))
theorem tm_comm (a b : Nat → Int) (i : Nat) : tm a b i = tm b a i := by
  unfold tm tim
  split
  · congr 1; rw [Int.mul_comm (emod (a i)), Int.mul_comm (emod (a (i + 1)))]
  · congr 1; show emod (a (i - 1)) * emod (b i) + emod (a i) * emod (b (i - 1)) = emod (b (i - 1)) * emod (a i) + emod (b i) * emod (a (i - 1)); grind
end Go.Proofs.YtopkmkkohmkceaaDoor
