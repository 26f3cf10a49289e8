/- What holds of a group of symbols stays with each act. Plain Lean, no program. -/
import Derived.Test.YtllgdlfdmmdffaaG13
namespace Go.Proofs.Ytllgdlfdmmdffaa
set_option linter.unusedSimpArgs false
set_option linter.unusedVariables false
/-- A number of a secret. -/
def Rg (many x : Int) : Prop := 0 ≤ x ∧ x < many
theorem Rg.up {a b x : Int} (h : Rg a x) (k : a ≤ b) : Rg b x := ⟨h.1, by have := h.2; omega⟩
/-- A node of the tree. -/
structure Tk (many : Int) (ins : Nat → Bool) (i : Int) (a : Int × List Int) : Prop where
  key : Rg many a.1
  ix : 0 ≤ i ∧ i < 15
  srt : a.2.Pairwise (· < ·)
  mem : ∀ x ∈ a.2, ∃ l : Nat, x = (l : Int) ∧ l < 8 ∧ ins l = true ∧ ∃ k, k < 3 ∧ i = upn l k
/-- What is so of every group. -/
structure Ok (m : Md) : Prop where
  many1 : 3 ≤ m.many
  init : Rg m.many m.init
  rs : ∀ r ∈ m.Rs, Rg m.many r.gives ∧ ∀ x ∈ r.needs, Rg m.many x
  kn : ∀ x ∈ m.Kn, Rg m.many x
  ep : ∀ x ∈ m.Ep, Rg m.many x
  up : m.Ep.Pairwise (· < ·)
  e1 : m.Ep ≠ []
  tk : ∀ i a, m.T i = some a → Tk m.many m.ins i a
  lf : ∀ l, l < 8 → m.ins l = true → ∃ k, m.T (2 * (l : Int)) = some (k, [])
  hh : ∀ l, l < 8 → m.ins l = true → ∀ i k, m.H l i = some k → (0 ≤ i ∧ i < 15) ∧ Rg m.many k
/-- How much there is behind so many acts. -/
structure Lm (n : Nat) (m : Md) : Prop where
  many : m.many ≤ 3 + 14 * n
  rs : m.Rs.length ≤ 1 + 40 * n
  kn : m.Kn.length ≤ 16 * n
  ep : m.Ep.length ≤ 1 + n
theorem upn_bd (l k : Nat) (hl : l < 8) (hk : k < 3) : 0 ≤ upn l k ∧ upn l k < 15 := by
  rcases (by omega : l = 0 ∨ l = 1 ∨ l = 2 ∨ l = 3 ∨ l = 4 ∨ l = 5 ∨ l = 6 ∨ l = 7) with rfl | rfl | rfl | rfl | rfl | rfl | rfl | rfl <;> rcases (by omega : k = 0 ∨ k = 1 ∨ k = 2) with rfl | rfl | rfl <;> decide
theorem upn_odd (l k j : Nat) (hl : l < 8) (hk : k < 3) : upn l k ≠ 2 * (j : Int) := by
  intro e
  rcases (by omega : l = 0 ∨ l = 1 ∨ l = 2 ∨ l = 3 ∨ l = 4 ∨ l = 5 ∨ l = 6 ∨ l = 7) with rfl | rfl | rfl | rfl | rfl | rfl | rfl | rfl <;> rcases (by omega : k = 0 ∨ k = 1 ∨ k = 2) with rfl | rfl | rfl <;> simp [upn, nIx] at e <;> omega
theorem upn_inj (l k k' : Nat) (hl : l < 8) (hk : k < 3) (hk' : k' < 3) (e : upn l k = upn l k') : k = k' := by
  rcases (by omega : l = 0 ∨ l = 1 ∨ l = 2 ∨ l = 3 ∨ l = 4 ∨ l = 5 ∨ l = 6 ∨ l = 7) with rfl | rfl | rfl | rfl | rfl | rfl | rfl | rfl <;> rcases (by omega : k = 0 ∨ k = 1 ∨ k = 2) with rfl | rfl | rfl <;> rcases (by omega : k' = 0 ∨ k' = 1 ∨ k' = 2) with rfl | rfl | rfl <;> revert e <;> decide
theorem blkT_some {T : Ktr} {l : Nat} : ∀ {k : Nat} {i : Int} {a : Int × List Int}, blkT T l k i = some a → T i = some a ∧ ∀ j, j < k → i ≠ upn l j := by
  intro k
  induction k with
  | zero => intro i a h; exact ⟨h, fun j hj => by omega⟩
  | succ k ih =>
    intro i a h
    simp only [blkT] at h
    by_cases e : i = upn l k
    · rw [e, upd_same] at h; cases h
    · rw [upd_other _ _ e] at h
      obtain ⟨h1, h2⟩ := ih h
      refine ⟨h1, fun j hj => ?_⟩
      by_cases e2 : j = k
      · rw [e2]; exact e
      · exact h2 j (by omega)
theorem blkT_other {T : Ktr} {l : Nat} : ∀ {k : Nat} {i : Int}, (∀ j, j < k → i ≠ upn l j) → blkT T l k i = T i := by
  intro k
  induction k with
  | zero => intro i _; rfl
  | succ k ih =>
    intro i h
    simp only [blkT]
    rw [upd_other _ _ (h k (Nat.lt_succ_self _))]
    exact ih (fun j hj => h j (by omega))
theorem cmT_some {T : Ktr} {l : Nat} {keys : Int → Option Int} : ∀ {k : Nat} {i : Int} {a : Int × List Int}, cmT T l keys k i = some a → T i = some a ∨ ∃ j key, j < k ∧ i = upn l j ∧ keys i = some key ∧ a = (key, []) := by
  intro k
  induction k with
  | zero => intro i a h; exact .inl h
  | succ k ih =>
    intro i a h
    simp only [cmT] at h
    cases hk : keys (upn l k) with
    | none =>
      rw [hk] at h
      rcases ih h with h1 | ⟨j, key, h1, h2⟩
      · exact .inl h1
      · exact .inr ⟨j, key, by omega, h2⟩
    | some key =>
      rw [hk] at h
      by_cases e : i = upn l k
      · simp only [e, upd_same] at h
        exact .inr ⟨k, key, Nat.lt_succ_self _, e, by rw [e]; exact hk, (Option.some.inj h).symm⟩
      · simp only [upd_other _ _ e] at h
        rcases ih h with h1 | ⟨j, key, h1, h2⟩
        · exact .inl h1
        · exact .inr ⟨j, key, by omega, h2⟩
theorem cmT_other {T : Ktr} {l : Nat} {keys : Int → Option Int} : ∀ {k : Nat} {i : Int}, (∀ j, j < k → i ≠ upn l j) → cmT T l keys k i = T i := by
  intro k
  induction k with
  | zero => intro i _; rfl
  | succ k ih =>
    intro i h
    simp only [cmT]
    cases hk : keys (upn l k) with
    | none => exact ih (fun j hj => h j (by omega))
    | some key =>
      simp only [upd_other _ _ (h k (Nat.lt_succ_self _))]
      exact ih (fun j hj => h j (by omega))
theorem cmH_some {H : Nat → Int → Option Int} {ins : Nat → Bool} {l : Nat} {keys : Int → Option Int} {m : Nat} : ∀ {k : Nat} {i : Int} {v : Int}, cmH H ins l keys k m i = some v → H m i = some v ∨ ∃ j, j < k ∧ i = upn l j ∧ keys i = some v := by
  intro k
  induction k with
  | zero => intro i v h; exact .inl h
  | succ k ih =>
    intro i v h
    have hi : cmH H ins l keys k m i = some v → H m i = some v ∨ ∃ j, j < k + 1 ∧ i = upn l j ∧ keys i = some v := fun h => by
      rcases ih h with h1 | ⟨j, h1, h2⟩
      · exact .inl h1
      · exact .inr ⟨j, by omega, h2⟩
    simp only [cmH] at h
    by_cases hm : ins m = true
    · rw [if_pos hm] at h
      unfold hasS at h
      by_cases e : i = upn l k
      · rw [e, upd_same] at h
        by_cases ho : ovr l k m = true
        · rw [if_pos ho] at h
          exact .inr ⟨k, Nat.lt_succ_self _, e, by rw [e]; exact h⟩
        · rw [if_neg ho] at h; cases h
      · rw [upd_other _ _ e] at h
        exact hi h
    · rw [if_neg hm] at h
      exact hi h
theorem TOk_of {many : Int} {ins : Nat → Bool} {T : Ktr} (h : ∀ i a, T i = some a → Tk many ins i a) : TOk T := fun i a ha => by
  have h1 := h i a ha
  refine ⟨?_, fun x hx => ?_⟩
  · have hsub : a.2 ⊆ (List.range 8).map (fun (n : Nat) => (n : Int)) := fun x hx => by
      obtain ⟨l, rfl, hl, _⟩ := h1.mem x hx
      exact List.mem_map.2 ⟨l, List.mem_range.2 hl, rfl⟩
    have := List.Nodup.length_le_of_subset (h1.srt.imp (fun h => by omega)) hsub
    simpa using this
  · obtain ⟨l, rfl, hl, _⟩ := h1.mem x hx
    omega
/-- A leaf's node has nobody who does not know it. -/
theorem Tk.even {many : Int} {ins : Nat → Bool} {j : Nat} {a : Int × List Int} (h : Tk many ins (2 * (j : Int)) a) : a.2 = [] := by
  cases hl : a.2 with
  | nil => rfl
  | cons x L =>
    obtain ⟨l, _, hl8, _, k, hk, e⟩ := h.mem x (by rw [hl]; simp)
    exact absurd e.symm (upn_odd l k j hl8 hk)
theorem nIx0 (q : Nat) : nIx 0 q = 2 * (q : Int) := by unfold nIx; simp
/-- How many stand for a node, more narrowly. -/
theorem res_len2 {many : Int} {ins : Nat → Bool} {T : Ktr} (h : ∀ i a, T i = some a → Tk many ins i a) : (∀ q, (res T 0 q).length ≤ 1) ∧ (∀ q, (res T 1 q).length ≤ 9) ∧ ∀ q, (res T 2 q).length ≤ 18 := by
  have hT := TOk_of h
  have h0 : ∀ q, (res T 0 q).length ≤ 1 := fun q => by
    unfold res
    cases ha : T (nIx 0 q) with
    | none => simp
    | some a =>
      have h1 := h _ _ ha
      rw [nIx0] at h1
      have := h1.even
      simp [resN, this]
  have h1 : ∀ q, (res T 1 q).length ≤ 9 := fun q => by
    unfold res
    cases ha : T (nIx (0 + 1) q) with
    | none => simp only [List.length_append]; have := h0 (2 * q); have := h0 (2 * q + 1); omega
    | some a => have := (hT _ _ ha).1; simp [resN]; omega
  refine ⟨h0, h1, fun q => ?_⟩
  unfold res
  cases ha : T (nIx (1 + 1) q) with
  | none => simp only [List.length_append]; have := h1 (2 * q); have := h1 (2 * q + 1); omega
  | some a => have := (hT _ _ ha).1; simp [resN]; omega
/-- What stands for a node has a key. -/
theorem res_key {many : Int} {ins : Nat → Bool} {T : Ktr} (h : ∀ i a, T i = some a → Tk many ins i a) (hlf : ∀ l, l < 8 → ins l = true → ∃ k, T (2 * (l : Int)) = some (k, [])) : ∀ lev q, ∀ n ∈ res T lev q, ∃ a, T n = some a := by
  have hN : ∀ i a, T i = some a → ∀ n ∈ resN i a.2, ∃ b, T n = some b := fun i a ha n hn => by
    unfold resN at hn
    rcases List.mem_cons.1 hn with rfl | hn
    · exact ⟨a, ha⟩
    · obtain ⟨x, hx, rfl⟩ := List.mem_map.1 hn
      obtain ⟨l, rfl, hl, hi, _⟩ := (h i a ha).mem x hx
      obtain ⟨k, hk⟩ := hlf l hl hi
      exact ⟨_, hk⟩
  intro lev
  induction lev with
  | zero =>
    intro q n hn
    unfold res at hn
    cases ha : T (nIx 0 q) with
    | none => rw [ha] at hn; cases hn
    | some a => rw [ha] at hn; exact hN _ _ ha n hn
  | succ lev ih =>
    intro q n hn
    unfold res at hn
    cases ha : T (nIx (lev + 1) q) with
    | none =>
      rw [ha] at hn
      rcases List.mem_append.1 hn with hn | hn
      · exact ih _ n hn
      · exact ih _ n hn
    | some a => rw [ha] at hn; exact hN _ _ ha n hn
/-- What is so of a path on its way. -/
structure Pk (l : Nat) (s0 : Pm) (k : Nat) (b : Nat) (s : Pm) : Prop where
  many : s0.many ≤ s.many ∧ s.many ≤ s0.many + 2 * k
  last : Rg s.many s.last
  rs : ∀ r ∈ s.Rs, Rg s.many r.gives ∧ ∀ x ∈ r.needs, Rg s.many x
  len : s.Rs.length ≤ s0.Rs.length + b
  keys : ∀ i v, s.keys i = some v → Rg s.many v ∧ ∃ j, j < k ∧ i = upn l j
theorem Pk.step {many : Int} {ins : Nat → Bool} {T : Ktr} (h : ∀ i a, T i = some a → Tk many ins i a) (hlf : ∀ l, l < 8 → ins l = true → ∃ k, T (2 * (l : Int)) = some (k, [])) {l k b b' : Nat} {s0 s : Pm} (h0 : many ≤ s0.many) (h00 : 0 ≤ s0.many) (p : Pk l s0 k b s) (hb : (res T k (sib (l / 2 ^ k))).length + 2 + b ≤ b') : Pk l s0 (k + 1) b' (pthS T l k s) := by
  have hm := p.many
  unfold pthS
  by_cases he : res T k (sib (l / 2 ^ k)) = []
  · rw [if_pos he]
    exact ⟨⟨hm.1, by have := hm.2; omega⟩, p.last, p.rs, by have := p.len; omega, fun i v hv => by
      obtain ⟨h1, j, h2, h3⟩ := p.keys i v hv
      exact ⟨h1, j, by omega, h3⟩⟩
  · rw [if_neg he]
    have hkey := res_key h hlf k (sib (l / 2 ^ k))
    refine ⟨⟨by (try simp only); omega, by (try simp only); omega⟩, ⟨by (try simp only); omega, by (try simp only); omega⟩, fun r hr => ?_, ?_, fun i v hv => ?_⟩
    · simp only [List.mem_append, List.mem_singleton] at hr
      rcases hr with ((hr | hr) | hr) | hr
      · obtain ⟨q1, q2⟩ := p.rs r hr
        exact ⟨q1.up (by (try simp only); omega), fun x hx => (q2 x hx).up (by (try simp only); omega)⟩
      · subst hr
        exact ⟨⟨by (try simp only); omega, by (try simp only); omega⟩, fun x hx => by simp at hx; rw [hx]; exact p.last.up (by (try simp only); omega)⟩
      · unfold tellR at hr
        obtain ⟨n, hn, rfl⟩ := List.mem_map.1 hr
        refine ⟨⟨by (try simp only); omega, by (try simp only); omega⟩, fun x hx => ?_⟩
        simp at hx
        obtain ⟨a, ha⟩ := hkey n hn
        rw [hx]
        unfold keyOfT
        rw [ha]
        exact (h n a ha).key.up (by (try simp only); omega)
      · subst hr
        exact ⟨⟨by (try simp only); omega, by (try simp only); omega⟩, fun x hx => by simp at hx; rw [hx]; exact ⟨by (try simp only); omega, by (try simp only); omega⟩⟩
    · simp only [List.length_append, List.length_cons, List.length_nil, tellR, List.length_map]
      have := p.len
      omega
    · simp only at hv
      by_cases e : i = upn l k
      · rw [e, upd_same] at hv
        injection hv with hv
        exact ⟨⟨by (try simp only); omega, by (try simp only); omega⟩, k, Nat.lt_succ_self _, e⟩
      · rw [upd_other _ _ e] at hv
        obtain ⟨h1, j, h2, h3⟩ := p.keys i v hv
        exact ⟨h1.up (by (try simp only); omega), j, by omega, h3⟩
end Go.Proofs.Ytllgdlfdmmdffaa
namespace Go.Proofs.Ytllgdlfdmmdffaa
set_option linter.unusedSimpArgs false
set_option linter.unusedVariables false
theorem Tk.up {a b : Int} {ins ins' : Nat → Bool} {i : Int} {v : Int × List Int} (h : Tk a ins i v) (k : a ≤ b) (hi : ∀ l : Nat, l < 8 → (l : Int) ∈ v.2 → ins l = true → ins' l = true) : Tk b ins' i v :=
  ⟨h.key.up k, h.ix, h.srt, fun x hx => by
    obtain ⟨l, rfl, h1, h2, h3⟩ := h.mem x hx
    exact ⟨l, rfl, h1, hi l h1 hx h2, h3⟩⟩
theorem psM_pk {m : Md} (K : Ok m) (l : Nat) : Pk l (ps0 m) 3 34 (psM m l) := by
  have hR := res_len2 K.tk
  have h1 := K.many1
  have p0 : Pk l (ps0 m) 0 0 (ps0 m) := by
    refine ⟨⟨Int.le_refl _, by simp⟩, ⟨by show 0 ≤ m.many; omega, by show m.many < m.many + 2; omega⟩, fun r hr => ?_, Nat.le_refl _, fun i v hv => by simp [ps0] at hv⟩
    have hr : r ∈ m.Rs ++ [⟨[m.many], m.many + 1⟩] := hr
    rcases List.mem_append.1 hr with hr | hr
    · obtain ⟨q1, q2⟩ := K.rs r hr
      exact ⟨q1.up (show m.many ≤ m.many + 2 by omega), fun x hx => (q2 x hx).up (show m.many ≤ m.many + 2 by omega)⟩
    · simp at hr
      subst hr
      exact ⟨⟨by show 0 ≤ m.many + 1; omega, by show m.many + 1 < m.many + 2; omega⟩, fun x hx => by simp at hx; rw [hx]; exact ⟨by show 0 ≤ m.many; omega, by show m.many < m.many + 2; omega⟩⟩
  have hm2 : m.many ≤ (ps0 m).many := by show m.many ≤ m.many + 2; omega
  have h00 : 0 ≤ (ps0 m).many := by show 0 ≤ m.many + 2; omega
  have q0 := hR.1 (sib (l / 2 ^ 0))
  have q1 := hR.2.1 (sib (l / 2 ^ 1))
  have q2 := hR.2.2 (sib (l / 2 ^ 2))
  have p1 := p0.step (b' := 3) K.tk K.lf hm2 h00 (by omega)
  have p2 := p1.step (b' := 14) K.tk K.lf hm2 h00 (by show (res m.T 1 (sib (l / 2 ^ 1))).length + 2 + 3 ≤ 14; omega)
  exact p2.step (b' := 34) K.tk K.lf hm2 h00 (by show (res m.T 2 (sib (l / 2 ^ 2))).length + 2 + 14 ≤ 34; omega)
theorem one_some {i j key v : Int} (h : one i key j = some v) : j = i ∧ v = key := by
  unfold one at h
  by_cases e : j = i
  · rw [e, upd_same] at h; exact ⟨e, (Option.some.inj h).symm⟩
  · rw [upd_other _ _ e] at h; cases h
theorem comM_ok {m : Md} (K : Ok m) (l : Nat) (hl : l < 8) (hi : m.ins l = true) (wel : Int) (hw : wel < m.many) : Ok (comM m l wel) := by
  have p := psM_pk K l
  have h1 := K.many1
  have hS : m.many + 2 ≤ (psM m l).many := p.many.1
  have hup : ∀ x, Rg m.many x → Rg ((psM m l).many + 4) x := fun x h => h.up (by omega)
  refine ⟨by show 3 ≤ (psM m l).many + 4; omega, ⟨by show 0 ≤ (psM m l).many + 3; omega, by show (psM m l).many + 3 < (psM m l).many + 4; omega⟩, fun r hr => ?_, fun x hx => hup x (K.kn x hx), fun x hx => ?_, ?_, by simp [comM], fun i a ha => ?_, fun j hj hji => ?_, fun j hj hji i v hv => ?_⟩
  · show Rg ((psM m l).many + 4) r.gives ∧ ∀ x ∈ r.needs, Rg ((psM m l).many + 4) x
    have hS0 : ∀ z, 0 ≤ z → z < 4 → Rg ((psM m l).many + 4) ((psM m l).many + z) := fun z a b => ⟨by omega, by omega⟩
    simp only [comM, List.mem_append, List.mem_cons, List.not_mem_nil, or_false] at hr
    rcases hr with ((hr | hr | hr) | hr) | hr | hr
    · obtain ⟨q1, q2⟩ := p.rs r hr
      exact ⟨q1.up (by omega), fun x hx => (q2 x hx).up (by omega)⟩
    · subst hr
      exact ⟨by simpa using hS0 0 (by omega) (by omega), fun x hx => by simp at hx; rw [hx]; exact p.last.up (by omega)⟩
    · subst hr
      refine ⟨hS0 1 (by omega) (by omega), fun x hx => ?_⟩
      simp at hx
      rcases hx with rfl | rfl
      · exact hup _ K.init
      · simpa using hS0 0 (by omega) (by omega)
    · by_cases hw0 : 0 ≤ wel
      · rw [if_pos hw0] at hr
        simp at hr
        subst hr
        exact ⟨hS0 1 (by omega) (by omega), fun x hx => by simp at hx; rw [hx]; exact ⟨hw0, by omega⟩⟩
      · rw [if_neg hw0] at hr; cases hr
    · subst hr
      exact ⟨hS0 2 (by omega) (by omega), fun x hx => by simp at hx; rw [hx]; exact hS0 1 (by omega) (by omega)⟩
    · subst hr
      exact ⟨hS0 3 (by omega) (by omega), fun x hx => by simp at hx; rw [hx]; exact hS0 2 (by omega) (by omega)⟩
  · show Rg ((psM m l).many + 4) x
    have hx : x ∈ m.Ep ++ [(psM m l).many + 2] := hx
    rcases List.mem_append.1 hx with hx | hx
    · exact hup x (K.ep x hx)
    · simp at hx; rw [hx]; exact ⟨by omega, by omega⟩
  · show (m.Ep ++ [(psM m l).many + 2]).Pairwise (· < ·)
    rw [List.pairwise_append]
    refine ⟨K.up, by simp, fun a ha b hb => ?_⟩
    simp at hb
    have := (K.ep a ha).2
    omega
  · show Tk ((psM m l).many + 4) m.ins i a
    have ha : cmT (upd (blkT m.T l 3) (2 * (l : Int)) (some (m.many + 1, []))) l (psM m l).keys 3 i = some a := ha
    rcases cmT_some ha with h2 | ⟨j, key, hj, rfl, hk, rfl⟩
    · by_cases e : i = 2 * (l : Int)
      · rw [e, upd_same] at h2
        have := Option.some.inj h2
        subst this
        exact ⟨⟨by show 0 ≤ m.many + 1; omega, by show m.many + 1 < (psM m l).many + 4; omega⟩, by omega, by simp, by simp⟩
      · rw [upd_other _ _ e] at h2
        obtain ⟨h3, _⟩ := blkT_some h2
        exact (K.tk i a h3).up (by omega) (fun _ _ _ h => h)
    · obtain ⟨h3, _⟩ := p.keys _ _ hk
      exact ⟨h3.up (by omega), upn_bd l j hl hj, by simp, by simp⟩
  · have hji : m.ins j = true := hji
    show ∃ k, cmT (upd (blkT m.T l 3) (2 * (l : Int)) (some (m.many + 1, []))) l (psM m l).keys 3 (2 * (j : Int)) = some (k, [])
    rw [cmT_other (fun a ha => fun e => upn_odd l a j hl ha e.symm)]
    by_cases e : j = l
    · subst e
      exact ⟨_, upd_same _ _ _⟩
    · rw [upd_other _ _ (by omega), blkT_other (fun a ha => fun e => upn_odd l a j hl ha e.symm)]
      exact K.lf j hj hji
  · have hji : m.ins j = true := hji
    have hv : cmH (setL m.H l (one (2 * (l : Int)) (m.many + 1))) m.ins l (psM m l).keys 3 j i = some v := hv
    show (0 ≤ i ∧ i < 15) ∧ Rg ((psM m l).many + 4) v
    rcases cmH_some hv with h2 | ⟨a, ha, rfl, hk⟩
    · unfold setL at h2
      by_cases e : j = l
      · rw [if_pos e] at h2
        obtain ⟨rfl, rfl⟩ := one_some h2
        exact ⟨by omega, by omega, by omega⟩
      · rw [if_neg e] at h2
        obtain ⟨q1, q2⟩ := K.hh j hj hji i v h2
        exact ⟨q1, q2.up (by omega)⟩
    · obtain ⟨h3, _⟩ := p.keys _ _ hk
      exact ⟨upn_bd l a hl ha, h3.up (by omega)⟩
theorem comM_lm {m : Md} (K : Ok m) (l : Nat) (wel : Int) : (comM m l wel).many ≤ m.many + 12 ∧ (comM m l wel).Rs.length ≤ m.Rs.length + 40 ∧ (comM m l wel).Kn = m.Kn ∧ (comM m l wel).Ep.length = m.Ep.length + 1 := by
  have p := psM_pk K l
  have h2 : (psM m l).many ≤ m.many + 2 + 2 * (3 : Nat) := p.many.2
  have h3 : (psM m l).Rs.length ≤ (m.Rs ++ [(⟨[m.many], m.many + 1⟩ : Rl)]).length + 34 := p.len
  refine ⟨by show (psM m l).many + 4 ≤ _; omega, ?_, rfl, by simp [comM]⟩
  simp only [comM, List.length_append, List.length_cons, List.length_nil] at h3 ⊢
  have : (if 0 ≤ wel then [(⟨[wel], (psM m l).many + 1⟩ : Rl)] else []).length ≤ 1 := by split <;> simp
  omega
/-- A leaf's key, where the leaf is nowhere else. -/
theorem entM_ok {m : Md} (K : Ok m) (l : Nat) (hl : l < 8) (key : Int) (hk : Rg m.many key) : Ok (entM m l key) := by
  refine ⟨K.many1, K.init, K.rs, K.kn, K.ep, K.up, K.e1, fun i a ha => ?_, fun j hj hji => ?_, fun j hj hji i v hv => ?_⟩
  · have ha : upd m.T (2 * (l : Int)) (some (key, [])) i = some a := ha
    show Tk m.many (setL m.ins l true) i a
    by_cases e : i = 2 * (l : Int)
    · rw [e, upd_same] at ha
      have := Option.some.inj ha
      subst this
      exact ⟨hk, by omega, by simp, by simp⟩
    · rw [upd_other _ _ e] at ha
      refine (K.tk i a ha).up (Int.le_refl _) (fun j _ _ h => ?_)
      unfold setL
      split
      · rfl
      · exact h
  · have hji : setL m.ins l true j = true := hji
    show ∃ k, upd m.T (2 * (l : Int)) (some (key, [])) (2 * (j : Int)) = some (k, [])
    by_cases e : j = l
    · subst e; exact ⟨_, upd_same _ _ _⟩
    · rw [upd_other _ _ (by omega)]
      refine K.lf j hj ?_
      simpa [setL, e] using hji
  · have hji : setL m.ins l true j = true := hji
    have hv : setL m.H l (one (2 * (l : Int)) key) j i = some v := hv
    unfold setL at hv hji
    by_cases e : j = l
    · rw [if_pos e] at hv
      obtain ⟨rfl, rfl⟩ := one_some hv
      exact ⟨by omega, hk⟩
    · rw [if_neg e] at hv hji
      exact K.hh j hj hji i v hv
theorem many_ok {m : Md} (K : Ok m) (d : Int) (hd : 0 ≤ d) : Ok { m with many := m.many + d } := by
  have u : ∀ x, Rg m.many x → Rg (m.many + d) x := fun x h => h.up (by omega)
  exact ⟨by have := K.many1; show 3 ≤ m.many + d; omega, u _ K.init, fun r hr => ⟨u _ (K.rs r hr).1, fun x hx => u _ ((K.rs r hr).2 x hx)⟩, fun x hx => u _ (K.kn x hx), fun x hx => u _ (K.ep x hx), K.up, K.e1,
    fun i a ha => (K.tk i a ha).up (show m.many ≤ m.many + d by omega) (fun _ _ _ h => h), K.lf, fun j hj hji i v hv => ⟨(K.hh j hj hji i v hv).1, u _ (K.hh j hj hji i v hv).2⟩⟩
theorem blkM_ok {m : Md} (K : Ok m) (l : Nat) (hl : l < 8) : Ok (blkM m l) := by
  refine ⟨K.many1, K.init, K.rs, K.kn, K.ep, K.up, K.e1, fun i a ha => K.tk i a (blkT_some ha).1, fun j hj hji => ?_, K.hh⟩
  show ∃ k, blkT m.T l 3 (2 * (j : Int)) = some (k, [])
  rw [blkT_other (fun a ha => fun e => upn_odd l a j hl ha e.symm)]
  exact K.lf j hj hji
theorem remM_ok {m : Md} (K : Ok m) (l : Nat) (hl : l < 8) : Ok (remM m l) := by
  refine ⟨K.many1, K.init, K.rs, K.kn, K.ep, K.up, K.e1, fun i a ha => ?_, fun j hj hji => ?_, fun j hj hji i v hv => ?_⟩
  · have ha : upd (blkT m.T l 3) (2 * (l : Int)) none i = some a := ha
    show Tk m.many (setL m.ins l false) i a
    by_cases e : i = 2 * (l : Int)
    · rw [e, upd_same] at ha; cases ha
    · rw [upd_other _ _ e] at ha
      obtain ⟨h1, h2⟩ := blkT_some ha
      refine (K.tk i a h1).up (Int.le_refl _) (fun j _ hx h => ?_)
      unfold setL
      split
      · rename_i e2
        subst e2
        obtain ⟨j2, e3, _, _, k, hk, e4⟩ := (K.tk i a h1).mem _ hx
        have : j2 = j := by omega
        subst this
        exact absurd e4 (h2 k hk)
      · exact h
  · have hji : setL m.ins l false j = true := hji
    show ∃ k, upd (blkT m.T l 3) (2 * (l : Int)) none (2 * (j : Int)) = some (k, [])
    have e : j ≠ l := fun e => by subst e; simp [setL] at hji
    rw [upd_other _ _ (by omega), blkT_other (fun a ha => fun e => upn_odd l a j hl ha e.symm)]
    refine K.lf j hj ?_
    simpa [setL, e] using hji
  · have hji : setL m.ins l false j = true := hji
    have e : j ≠ l := fun e => by subst e; simp [setL] at hji
    have hv : setL m.H l (fun _ => none) j i = some v := hv
    simp only [setL, if_neg e] at hv hji
    exact K.hh j hj hji i v hv
theorem insL_mem {L : List Int} {l : Nat} {x : Int} : x ∈ insL L l ↔ x ∈ L ∨ x = (l : Int) := by
  unfold insL
  rw [List.mem_mergeSort]
  simp
theorem insL_srt {L : List Int} {l : Nat} (h : L.Pairwise (· < ·)) (hn : (l : Int) ∉ L) : (insL L l).Pairwise (· < ·) := by
  have tr : ∀ a b c : Int, decide (a ≤ b) = true → decide (b ≤ c) = true → decide (a ≤ c) = true := fun a b c h1 h2 => by simp at *; omega
  have tot : ∀ a b : Int, (decide (a ≤ b) || decide (b ≤ a)) = true := fun a b => by simp; omega
  have h1 := List.pairwise_mergeSort tr tot (L ++ [(l : Int)])
  have h2 : (insL L l).Nodup := by
    unfold insL
    refine (List.mergeSort_perm _ _).nodup_iff.2 ?_
    rw [List.nodup_append]
    refine ⟨h.imp (fun h => by omega), by simp, fun a ha b hb e => ?_⟩
    simp at hb
    exact hn (by rw [← hb, ← e]; exact ha)
  exact (h1.and h2).imp (fun {a b} h => by have := h.1; have := h.2; simp at *; omega)
theorem addT_some {many : Int} {ins : Nat → Bool} {T : Ktr} {l : Nat} (hl : l < 8) (hi : ins l = true) (h : ∀ i a, T i = some a → Tk many ins i a ∧ (l : Int) ∉ a.2) : ∀ k, k ≤ 3 → ∀ i a, addT T l k i = some a → Tk many ins i a ∧ ((∀ j, j < k → i ≠ upn l j) → (l : Int) ∉ a.2) := by
  intro k
  induction k with
  | zero => intro _ i a ha; exact ⟨(h i a ha).1, fun _ => (h i a ha).2⟩
  | succ k ih =>
    intro hk i a ha
    simp only [addT] at ha
    have hold : addT T l k i = some a → Tk many ins i a ∧ ((∀ j, j < k + 1 → i ≠ upn l j) → (l : Int) ∉ a.2) := fun ha => by
      obtain ⟨h1, h2⟩ := ih (by omega) i a ha
      exact ⟨h1, fun hj => h2 (fun j hj2 => hj j (by omega))⟩
    cases hb : addT T l k (upn l k) with
    | none => rw [hb] at ha; exact hold ha
    | some b =>
      rw [hb] at ha
      by_cases e : i = upn l k
      · simp only [e, upd_same] at ha
        have ha := Option.some.inj ha
        obtain ⟨q1, q2⟩ := ih (by omega) _ _ hb
        have hnl : (l : Int) ∉ b.2 := q2 (fun j hj e2 => by
          have := upn_inj l k j hl (by omega) (by omega) e2
          omega)
        rw [← ha]
        refine ⟨⟨q1.key, by rw [e]; exact q1.ix, insL_srt q1.srt hnl, fun x hx => ?_⟩, fun hj => absurd e (hj k (by omega))⟩
        rcases insL_mem.1 hx with hx | rfl
        · obtain ⟨j, h1, h2, h3, h4⟩ := q1.mem x hx
          exact ⟨j, h1, h2, h3, by rw [e]; exact h4⟩
        · exact ⟨l, rfl, hl, hi, k, by omega, e⟩
      · simp only [upd_other _ _ e] at ha
        exact hold ha
theorem addT_even {T : Ktr} {l : Nat} (hl : l < 8) : ∀ k, k ≤ 3 → ∀ j : Nat, addT T l k (2 * (j : Int)) = T (2 * (j : Int)) := by
  intro k
  induction k with
  | zero => intro _ j; rfl
  | succ k ih =>
    intro hk j
    simp only [addT]
    have hne : (2 * (j : Int)) ≠ upn l k := fun e => upn_odd l k j hl (by omega) e.symm
    cases hb : addT T l k (upn l k) with
    | none => exact ih (by omega) j
    | some b => simp only [upd_other _ _ hne]; exact ih (by omega) j
theorem addM_ok {m : Md} (K : Ok m) (l : Nat) (hl : l < 8) (hni : m.ins l = false) : Ok (addM m l) := by
  have K1 := many_ok K 2 (by omega)
  have K2 := entM_ok K1 l hl m.many ⟨by have := K.many1; omega, by show m.many < m.many + 2; omega⟩
  have hil : (entM { m with many := m.many + 2 } l m.many).ins l = true := by simp [entM, setL]
  have hnl : ∀ i a, (entM { m with many := m.many + 2 } l m.many).T i = some a → Tk (m.many + 2) (entM { m with many := m.many + 2 } l m.many).ins i a ∧ (l : Int) ∉ a.2 := fun i a ha => by
    refine ⟨K2.tk i a ha, fun hx => ?_⟩
    have ha : upd m.T (2 * (l : Int)) (some (m.many, [])) i = some a := ha
    by_cases e : i = 2 * (l : Int)
    · rw [e, upd_same] at ha
      have := Option.some.inj ha
      subst this
      simp at hx
    · rw [upd_other _ _ e] at ha
      obtain ⟨j, e1, _, e2, _⟩ := (K.tk i a ha).mem _ hx
      have : j = l := by omega
      subst this
      rw [hni] at e2; cases e2
  refine ⟨K2.many1, K2.init, K2.rs, K2.kn, K2.ep, K2.up, K2.e1, fun i a ha => ?_, fun j hj hji => ?_, K2.hh⟩
  · exact (addT_some hl hil hnl 3 (Nat.le_refl _) i a ha).1
  · show ∃ k, addT (entM { m with many := m.many + 2 } l m.many).T l 3 (2 * (j : Int)) = some (k, [])
    rw [addT_even hl 3 (Nat.le_refl _) j]
    exact K2.lf j hj hji
theorem adK_mem {L : List Int} {x y : Int} : y ∈ adK L x ↔ y ∈ L ∨ y = x := by
  unfold adK
  split
  · rename_i h
    exact ⟨.inl, fun h2 => h2.elim id (fun e => by rw [e]; exact h)⟩
  · simp
theorem fold_mem {A L : List Int} {y : Int} : y ∈ A.foldl adK L ↔ y ∈ L ∨ y ∈ A := by
  induction A generalizing L with
  | nil => simp
  | cons a A ih =>
    simp only [List.foldl_cons, List.mem_cons]
    rw [ih, adK_mem]
    exact ⟨fun h => h.elim (fun h => h.elim .inl (fun h => .inr (.inl h))) (fun h => .inr (.inr h)), fun h => h.elim (fun h => .inl (.inl h)) (fun h => h.elim (fun h => .inl (.inr h)) .inr)⟩
theorem revM_ok {m : Md} (K : Ok m) (l : Nat) (hl : l < 8) (hi : m.ins l = true) : Ok (revM m l) := by
  refine ⟨K.many1, K.init, K.rs, fun x hx => ?_, K.ep, K.up, K.e1, K.tk, K.lf, K.hh⟩
  have hx : x ∈ (allH (m.H l) ++ [m.Ep.getLastD 0]).foldl adK m.Kn := hx
  show Rg m.many x
  rcases fold_mem.1 hx with hx | hx
  · exact K.kn x hx
  · rcases List.mem_append.1 hx with hx | hx
    · unfold allH at hx
      obtain ⟨i, _, he⟩ := List.mem_filterMap.1 hx
      exact (K.hh l hl hi _ _ he).2
    · simp at hx
      obtain ⟨e, he⟩ := List.getLast?_isSome.2 K.e1 |> Option.isSome_iff_exists.1
      rw [hx, he]
      exact K.ep e (List.mem_of_getLast? he)
theorem isL_out {x : Int} (h : isL x = true) : x.toNat < 8 ∧ ((x.toNat : Nat) : Int) = x := by
  unfold isL at h
  simp at h
  exact ⟨by omega, by omega⟩
/-- All stays with an act that may be done. -/
theorem actM_ok {m : Md} (K : Ok m) (a : Ac) (hc : canM m a = true) : Ok (actM m a) := by
  have h1 := K.many1
  unfold canM at hc
  simp only [Bool.and_eq_true] at hc
  obtain ⟨⟨hL, hin⟩, hk⟩ := hc
  have hl := (isL_out hL).1
  unfold actM
  by_cases k5 : a.kind = 5
  · rw [if_pos k5]; exact revM_ok K _ hl hin
  rw [if_neg k5]
  by_cases k2 : a.kind = 2
  · rw [if_pos k2]
    rw [if_neg (by omega), if_neg k5, if_pos k2] at hk
    simp only [Bool.and_eq_true] at hk
    have ho := (isL_out hk.1).1
    have hno : m.ins a.other.toNat = false := by simpa using hk.2
    refine comM_ok (addM_ok K _ ho hno) _ hl ?_ _ (by show m.many + 1 < m.many + 2; omega)
    show setL m.ins a.other.toNat true a.leaf.toNat = true
    unfold setL
    split
    · rfl
    · exact hin
  rw [if_neg k2]
  by_cases k3 : a.kind = 3
  · rw [if_pos k3]
    rw [if_neg (by omega), if_neg k5, if_neg k2, if_pos (.inl k3)] at hk
    simp only [Bool.and_eq_true] at hk
    have ho := (isL_out hk.1.1).1
    have K1 : Ok { blkM m a.other.toNat with many := m.many + 1 } := many_ok (blkM_ok K _ ho) 1 (by omega)
    refine comM_ok (entM_ok K1 _ ho m.many ⟨by omega, by show m.many < m.many + 1; omega⟩) _ hl ?_ _ (by show -1 < m.many + 1; omega)
    show setL m.ins a.other.toNat true a.leaf.toNat = true
    unfold setL
    split
    · rfl
    · exact hin
  rw [if_neg k3]
  by_cases k4 : a.kind = 4
  · rw [if_pos k4]
    rw [if_neg (by omega), if_neg k5, if_neg k2, if_pos (.inr k4)] at hk
    simp only [Bool.and_eq_true, decide_eq_true_eq] at hk
    have ho := (isL_out hk.1.1).1
    refine comM_ok (remM_ok K _ ho) _ hl ?_ _ (by show -1 < m.many; omega)
    show setL m.ins a.other.toNat false a.leaf.toNat = true
    unfold setL
    rw [if_neg (fun e => hk.2 (by have := (isL_out hL).2; have := (isL_out hk.1.1).2; omega))]
    exact hin
  rw [if_neg k4]
  exact comM_ok K _ hl hin _ (by omega)
/-- How an act counts. -/
theorem actM_fx {m : Md} (K : Ok m) (a : Ac) (hc : canM m a = true) : (actM m a).many ≤ m.many + 14 ∧ (actM m a).Rs.length ≤ m.Rs.length + 40 ∧ (actM m a).Kn.length ≤ m.Kn.length + 16 ∧
    (actM m a).Ep.length = m.Ep.length + (if a.kind = 5 then 0 else 1) ∧
    ∀ j : Nat, (actM m a).ins j = if a.kind = 2 ∧ (j : Int) = a.other then true else if a.kind = 4 ∧ (j : Int) = a.other then false else m.ins j := by
  have h1 := K.many1
  unfold canM at hc
  simp only [Bool.and_eq_true] at hc
  obtain ⟨⟨hL, hin⟩, hk⟩ := hc
  have hl := (isL_out hL).1
  unfold actM
  by_cases k5 : a.kind = 5
  · rw [if_pos k5, if_pos k5]
    refine ⟨by show m.many ≤ _; omega, by show m.Rs.length ≤ _; omega, ?_, rfl, fun j => ?_⟩
    · show ((allH (m.H a.leaf.toNat) ++ [m.Ep.getLastD 0]).foldl adK m.Kn).length ≤ _
      have q1 := fold_len (allH (m.H a.leaf.toNat) ++ [m.Ep.getLastD 0]) m.Kn
      have q2 : (allH (m.H a.leaf.toNat)).length ≤ 15 := by unfold allH; exact Nat.le_trans (List.length_filterMap_le _ _) (by simp)
      simp only [List.length_append, List.length_cons, List.length_nil] at q1
      omega
    · rw [if_neg (by omega), if_neg (by omega)]; rfl
  rw [if_neg k5, if_neg k5]
  by_cases k2 : a.kind = 2
  · rw [if_pos k2]
    rw [if_neg (by omega), if_neg k5, if_pos k2] at hk
    simp only [Bool.and_eq_true] at hk
    have ho := (isL_out hk.1).1
    have ho2 := (isL_out hk.1).2
    have hno : m.ins a.other.toNat = false := by simpa using hk.2
    obtain ⟨q1, q2, q3, q4⟩ := comM_lm (addM_ok K _ ho hno) a.leaf.toNat (m.many + 1)
    refine ⟨by have e : (addM m a.other.toNat).many = m.many + 2 := rfl; omega, q2, by rw [q3]; show m.Kn.length ≤ _; omega, q4, fun j => ?_⟩
    show setL m.ins a.other.toNat true j = _
    unfold setL
    by_cases e : j = a.other.toNat
    · rw [if_pos e, if_pos ⟨k2, by omega⟩]
    · rw [if_neg e, if_neg (by omega), if_neg (by omega)]
  rw [if_neg k2]
  by_cases k3 : a.kind = 3
  · rw [if_pos k3]
    rw [if_neg (by omega), if_neg k5, if_neg k2, if_pos (.inl k3)] at hk
    simp only [Bool.and_eq_true] at hk
    have ho := (isL_out hk.1.1).1
    have K1 : Ok { blkM m a.other.toNat with many := m.many + 1 } := many_ok (blkM_ok K _ ho) 1 (by omega)
    obtain ⟨q1, q2, q3, q4⟩ := comM_lm (entM_ok K1 _ ho m.many ⟨by omega, by show m.many < m.many + 1; omega⟩) a.leaf.toNat (-1)
    refine ⟨by have e : (entM { blkM m a.other.toNat with many := m.many + 1 } a.other.toNat m.many).many = m.many + 1 := rfl; omega, q2, by rw [q3]; show m.Kn.length ≤ _; omega, q4, fun j => ?_⟩
    show setL m.ins a.other.toNat true j = _
    rw [if_neg (by omega), if_neg (by omega)]
    unfold setL
    by_cases e : j = a.other.toNat
    · rw [if_pos e, e]; exact hk.1.2.symm
    · rw [if_neg e]
  rw [if_neg k3]
  by_cases k4 : a.kind = 4
  · rw [if_pos k4]
    rw [if_neg (by omega), if_neg k5, if_neg k2, if_pos (.inr k4)] at hk
    simp only [Bool.and_eq_true, decide_eq_true_eq] at hk
    have ho := (isL_out hk.1.1).1
    have ho2 := (isL_out hk.1.1).2
    obtain ⟨q1, q2, q3, q4⟩ := comM_lm (remM_ok K _ ho) a.leaf.toNat (-1)
    refine ⟨by have e : (remM m a.other.toNat).many = m.many := rfl; omega, q2, by rw [q3]; show m.Kn.length ≤ _; omega, q4, fun j => ?_⟩
    show setL m.ins a.other.toNat false j = _
    unfold setL
    by_cases e : j = a.other.toNat
    · rw [if_pos e, if_neg (by omega), if_pos ⟨k4, by omega⟩]
    · rw [if_neg e, if_neg (by omega), if_neg (by omega)]
  rw [if_neg k4]
  obtain ⟨q1, q2, q3, q4⟩ := comM_lm K a.leaf.toNat (-1)
  refine ⟨by omega, q2, by rw [q3]; omega, q4, fun j => ?_⟩
  rw [if_neg (by omega), if_neg (by omega)]
  rfl
theorem actM_lm {m : Md} (K : Ok m) {n : Nat} (L : Lm n m) (a : Ac) (hc : canM m a = true) : Lm (n + 1) (actM m a) := by
  obtain ⟨h1, h2, h3, h4, _⟩ := actM_fx K a hc
  have q1 := L.many
  have q2 := L.rs
  have q3 := L.kn
  have q4 := L.ep
  refine ⟨by push_cast; omega, by omega, by omega, ?_⟩
  split at h4 <;> omega
theorem staM_ok : Ok staM := by
  refine ⟨by decide, ⟨by decide, by decide⟩, fun r hr => ?_, fun x hx => by simp [staM] at hx, fun x hx => ?_, by simp [staM], by simp [staM], fun i a ha => ?_, fun l hl hi => ?_, fun l hl hi i k hk => ?_⟩
  · simp [staM] at hr
    subst hr
    exact ⟨⟨by decide, by decide⟩, fun x hx => by simp at hx; subst hx; exact ⟨by decide, by decide⟩⟩
  · simp [staM] at hx
    subst hx
    exact ⟨by decide, by decide⟩
  · have ha : upd (fun _ => none) 0 (some (0, [])) i = some a := ha
    by_cases e : i = 0
    · rw [e, upd_same] at ha
      have := Option.some.inj ha
      subst this
      exact ⟨⟨by decide, by decide⟩, by omega, by simp, by simp⟩
    · rw [upd_other _ _ e] at ha; cases ha
  · have hi : setL (fun _ => false) 0 true l = true := hi
    have e : l = 0 := by
      by_cases e : l = 0
      · exact e
      · simp [setL, e] at hi
    subst e
    exact ⟨0, rfl⟩
  · have hi : setL (fun _ => false) 0 true l = true := hi
    have e : l = 0 := by
      by_cases e : l = 0
      · exact e
      · simp [setL, e] at hi
    subst e
    have hk : one 0 0 i = some k := hk
    obtain ⟨rfl, rfl⟩ := one_some hk
    exact ⟨by omega, by decide, by decide⟩
theorem staM_lm : Lm 0 staM := ⟨by decide, by decide, by decide, by decide⟩
theorem plyM_app (l1 l2 : List Ac) : ∀ m, plyM m (l1 ++ l2) = (plyM m l1).bind fun m' => plyM m' l2 := by
  induction l1 with
  | nil => intro m; rfl
  | cons a l1 ih =>
    intro m
    simp only [List.cons_append, plyM]
    by_cases h : canM m a = true
    · rw [if_pos h, if_pos h]; exact ih _
    · rw [if_neg h, if_neg h]; rfl
/-- Behind the first acts. -/
theorem plyM_ok : ∀ (l : List Ac) (m m' : Md) (n : Nat), Ok m → Lm n m → plyM m l = some m' → Ok m' ∧ Lm (n + l.length) m' := by
  intro l
  induction l with
  | nil => intro m m' n K L h; simp only [plyM] at h; obtain rfl := Option.some.inj h; exact ⟨K, L⟩
  | cons a l ih =>
    intro m m' n K L h
    simp only [plyM] at h
    by_cases hc : canM m a = true
    · rw [if_pos hc] at h
      have := ih _ _ _ (actM_ok K a hc) (actM_lm K L a hc) h
      rw [List.length_cons, show n + (l.length + 1) = n + 1 + l.length by omega]
      exact this
    · rw [if_neg hc] at h; cases h
/-- One act more. -/
theorem plyM_step {l : List Ac} {m mi : Md} {i : Nat} {a : Ac} (h : plyM m (l.take i) = some mi) (ha : l[i]? = some a) : plyM m (l.take (i + 1)) = if canM mi a = true then some (actM mi a) else none := by
  rw [List.take_add_one, ha, plyM_app, h]
  simp only [Option.bind_some, Option.toList_some, plyM]
theorem plyM_none {l : List Ac} {m mi : Md} {i : Nat} {a : Ac} (h : plyM m (l.take i) = some mi) (ha : l[i]? = some a) (hc : canM mi a = false) : plyM m l = none := by
  have h1 := plyM_app (l.take (i + 1)) (l.drop (i + 1)) m
  rw [List.take_append_drop, plyM_step h ha, if_neg (by rw [hc]; simp)] at h1
  exact h1
end Go.Proofs.Ytllgdlfdmmdffaa
