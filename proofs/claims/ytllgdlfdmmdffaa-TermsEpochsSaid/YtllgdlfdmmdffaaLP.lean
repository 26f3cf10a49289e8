/- What is found is the least that is closed; its steps tell it. Plain Lean, no program. -/
import Derived.Test.YtllgdlfdmmdffaaI
namespace Go.Proofs.Ytllgdlfdmmdffaa
set_option linter.unusedVariables false
def rl (Rs : List Rl) (i : Nat) : Rl := Rs.getD i default
theorem rl_at {Rs : List Rl} {i : Nat} {r : Rl} (h : Rs[i]? = some r) : rl Rs i = r := by simp [rl, h]
theorem rl_mem {Rs : List Rl} {i : Nat} (h : i < Rs.length) : rl Rs i ∈ Rs := by
  rw [rl, List.getD_eq_getElem?_getD, List.getElem?_eq_getElem h]
  exact List.getElem_mem _
def rep (Rs : List Rl) (B : List Bool) (L : List Int) : List Bool := L.foldl (fun B s => mark B (rl Rs s.toNat).gives) B
structure Trc (Rs : List Rl) (B0 : List Bool) (st : St) : Prop where
  fin : rep Rs B0 st.2 = st.1
  each : ∀ (k : Nat) s, st.2[k]? = some s → ∃ i : Nat, s = i ∧ i < Rs.length ∧ has (rep Rs B0 (st.2.take k)) (rl Rs i).gives = false ∧ (rl Rs i).needs.all (has (rep Rs B0 (st.2.take k))) = true
theorem Trc.doR {Rs : List Rl} {B0 : List Bool} {st : St} (h : Trc Rs B0 st) {i : Nat} (hi : i < Rs.length) : Trc Rs B0 (doR st i (rl Rs i)) := by
  unfold Ytllgdlfdmmdffaa.doR
  split
  · rename_i hc
    simp only [Bool.and_eq_true, Bool.not_eq_true'] at hc
    refine ⟨?_, fun k s hk => ?_⟩
    · show rep Rs B0 (st.2 ++ [(i : Int)]) = mark st.1 (rl Rs i).gives
      rw [rep, List.foldl_append]
      show mark (rep Rs B0 st.2) _ = _
      rw [h.fin]; simp
    · rcases Nat.lt_or_ge k st.2.length with hk2 | hk2
      · rw [List.getElem?_append_left hk2] at hk
        obtain ⟨j, h1, h2, h3, h4⟩ := h.each k s hk
        refine ⟨j, h1, h2, ?_, ?_⟩
        · rw [List.take_append_of_le_length (Nat.le_of_lt hk2)]; exact h3
        · rw [List.take_append_of_le_length (Nat.le_of_lt hk2)]; exact h4
      · have hk3 : k = st.2.length := by
          have := (List.getElem?_eq_some_iff.1 hk).1
          simp at this; omega
        subst hk3
        simp at hk
        refine ⟨i, hk.symm, hi, ?_, ?_⟩
        · rw [List.take_left, h.fin]; exact hc.1
        · rw [List.take_left, h.fin]; exact hc.2
  · exact h
theorem Trc.rndN {Rs : List Rl} {B0 : List Bool} {st : St} (h : Trc Rs B0 st) : ∀ k, k ≤ Rs.length → Trc Rs B0 (rndN Rs st k)
  | 0, _ => h
  | k + 1, hk => (Trc.rndN h k (by omega)).doR (i := k) (by omega)
theorem Trc.fix {Rs : List Rl} {B0 : List Bool} : ∀ (f : Nat) (st : St), Trc Rs B0 st → Trc Rs B0 (fix Rs f st)
  | 0, st, h => h
  | f + 1, st, h => by
    rw [Ytllgdlfdmmdffaa.fix]
    have h1 : Trc Rs B0 (rnd Rs st) := Trc.rndN h _ (Nat.le_refl _)
    split
    · exact h1
    · exact Trc.fix f _ h1
theorem trc_fin (n : Nat) (Ks : List Int) (Rs : List Rl) : Trc Rs (marks Ks n) (fin n Ks Rs) :=
  Trc.fix _ _ ⟨rfl, fun k s h => by simp at h⟩
/-- Closed under rules. -/
def Clsd (Rs : List Rl) (B : List Bool) : Prop := ∀ r ∈ Rs, r.needs.all (has B) = true → has B r.gives = true
theorem doR_len_lt {st : St} {i : Nat} {r : Rl} (h : (doR st i r).2.length = st.2.length) : doR st i r = st ∧ (r.needs.all (has st.1) = true → has st.1 r.gives = true) := by
  unfold doR at h ⊢
  split
  · rename_i hc
    rw [if_pos hc] at h
    simp at h
  · rename_i hc
    refine ⟨rfl, fun hn => ?_⟩
    cases hg : has st.1 r.gives with
    | true => rfl
    | false => exact absurd (by simp [hg, hn] at hc ⊢) hc
theorem rndN_same {Rs : List Rl} {st : St} : ∀ k, k ≤ Rs.length → (rndN Rs st k).2.length = st.2.length → rndN Rs st k = st ∧ ∀ i, i < k → ((rl Rs i).needs.all (has st.1) = true → has st.1 (rl Rs i).gives = true)
  | 0, _, _ => ⟨rfl, fun i h => by omega⟩
  | k + 1, hk, h => by
    have h1 := rndN_len Rs st k
    have h2 : (rndN Rs st k).2.length ≤ (rndN Rs st (k + 1)).2.length := doR_len _ _ _
    obtain ⟨h3, h4⟩ := rndN_same (Rs := Rs) (st := st) k (by omega) (by omega)
    have h0 : rndN Rs st (k + 1) = doR (rndN Rs st k) k (rl Rs k) := rfl
    have h5 : (doR (rndN Rs st k) k (rl Rs k)).2.length = (rndN Rs st k).2.length := by
      rw [← h0]; omega
    obtain ⟨h6, h7⟩ := doR_len_lt h5
    refine ⟨h6.trans h3, fun i hi => ?_⟩
    rcases Nat.lt_or_ge i k with g | g
    · exact h4 i g
    · obtain rfl : i = k := by omega
      rw [h3] at h7
      exact h7
theorem rnd_same {Rs : List Rl} {st : St} (h : (rnd Rs st).2.length = st.2.length) : rnd Rs st = st ∧ Clsd Rs st.1 := by
  obtain ⟨h1, h2⟩ := rndN_same Rs.length (Nat.le_refl _) h
  refine ⟨h1, fun r hr => ?_⟩
  obtain ⟨i, hi⟩ := List.mem_iff_getElem?.1 hr
  have := h2 i (List.getElem?_eq_some_iff.1 hi).1
  rwa [rl_at hi] at this
theorem fix_closed {n : Nat} {Rs : List Rl} (hg : ∀ r ∈ Rs, ∃ k : Nat, r.gives = k ∧ k < n) : ∀ (f : Nat) (st : St), st.1.length = n → falses st.1 < f → Clsd Rs (fix Rs f st).1
  | 0, st, _, h => by omega
  | f + 1, st, hl, h => by
    rw [fix]
    split
    · rename_i he
      obtain ⟨h1, h2⟩ := rnd_same he
      rw [h1]; exact h2
    · rename_i he
      obtain ⟨h1, h2⟩ := rndN_sum hl hg Rs.length (Nat.le_refl _)
      change (rnd Rs st).1.length = n at h1
      change falses (rnd Rs st).1 + (rnd Rs st).2.length = _ at h2
      have h3 := rndN_len Rs st Rs.length
      change _ ≤ (rnd Rs st).2.length at h3
      exact fix_closed hg f _ h1 (by omega)
theorem fin_closed {n : Nat} {Ks : List Int} {Rs : List Rl} (h : Fits n Ks Rs) : Clsd Rs (fin n Ks Rs).1 := by
  refine fix_closed h.gs (n + 1) _ (marks_length Ks n) ?_
  have := falses_le (marks Ks n)
  rw [marks_length] at this
  show falses (marks Ks n) < n + 1
  omega
/-- Nothing less. -/
def Leq (A B : List Bool) : Prop := ∀ z, has A z = true → has B z = true
theorem has_mark {B : List Bool} {k : Nat} (hk : k < B.length) (z : Int) : has (mark B k) z = (decide (z.toNat = k) || has B z) := by
  unfold has mark
  simp only [Int.toNat_natCast, List.getD_eq_getElem?_getD, List.getElem?_set]
  by_cases h : k = z.toNat
  · subst h; simp [hk]
  · rw [if_neg h]
    have : ¬ z.toNat = k := fun e => h e.symm
    simp [this]
theorem Leq.mark_ {A B : List Bool} (h : Leq A B) {z : Int} (hz : has B z = true) : Leq (mark A z) B := fun y hy => by
  unfold has mark at hy
  simp only [List.getD_eq_getElem?_getD, List.getElem?_set] at hy
  split at hy
  · rename_i e
    unfold has at hz ⊢
    rw [← e]; exact hz
  · exact h y (by unfold has; rw [List.getD_eq_getElem?_getD]; exact hy)
theorem leq_mark (A : List Bool) (z : Int) : Leq A (mark A z) := fun y hy => by
  have hl : y.toNat < A.length := by
    unfold has at hy
    rcases Nat.lt_or_ge y.toNat A.length with h | h
    · exact h
    · rw [List.getD_eq_getElem?_getD, List.getElem?_eq_none h] at hy; cases hy
  unfold has mark at *
  simp only [List.getD_eq_getElem?_getD, List.getElem?_set] at *
  split
  · rename_i e; rw [if_pos (by omega)]; rfl
  · exact hy
theorem Leq.trans {A B C : List Bool} (h : Leq A B) (k : Leq B C) : Leq A C := fun z hz => k z (h z hz)
theorem foldl_leq : ∀ (L : List Int) (A : List Bool), Leq A (L.foldl mark A)
  | [], A => fun _ h => h
  | x :: L, A => (leq_mark A x).trans (foldl_leq L _)
theorem leq_foldl {B : List Bool} : ∀ (L : List Int) (A : List Bool), Leq A B → (∀ x ∈ L, has B x = true) → Leq (L.foldl mark A) B
  | [], A, h, _ => h
  | x :: L, A, h, hx => leq_foldl L _ (h.mark_ (hx x (by simp))) fun y hy => hx y (by simp [hy])
theorem has_none (n : Nat) (z : Int) : has (List.replicate n false) z = false := by
  unfold has
  rw [List.getD_eq_getElem?_getD, List.getElem?_replicate]
  split <;> rfl
theorem marks_leq {n : Nat} {Ks : List Int} {B : List Bool} (h : ∀ x ∈ Ks, has B x = true) : Leq (marks Ks n) B := leq_foldl _ _ (fun z hz => by rw [has_none] at hz; cases hz) h
theorem foldl_length : ∀ (L : List Int) (A : List Bool), (L.foldl mark A).length = A.length
  | [], _ => rfl
  | x :: L, A => by rw [List.foldl_cons, foldl_length, mark_length]
theorem foldl_has : ∀ (L : List Int) (A : List Bool), (∀ x ∈ L, ∃ k : Nat, x = k ∧ k < A.length) → ∀ x ∈ L, has (L.foldl mark A) x = true
  | [], A, _, x, hx => by cases hx
  | y :: L, A, h, x, hx => by
    rcases List.mem_cons.1 hx with rfl | hx
    · obtain ⟨k, rfl, hk⟩ := h x (by simp)
      exact foldl_leq L _ _ (by rw [has_mark hk]; simp)
    · exact foldl_has L _ (fun z hz => by rw [mark_length]; exact h z (by simp [hz])) x hx
theorem marks_has {n : Nat} {Ks : List Int} (h : ∀ x ∈ Ks, ∃ k : Nat, x = k ∧ k < n) : ∀ x ∈ Ks, has (marks Ks n) x = true := foldl_has Ks _ (by simpa using h)
theorem doR_leq {st : St} {i : Nat} {r : Rl} : Leq st.1 (doR st i r).1 := by
  unfold doR; split
  · exact leq_mark _ _
  · exact fun _ h => h
theorem rndN_leq (Rs : List Rl) (st : St) : ∀ k, Leq st.1 (rndN Rs st k).1
  | 0 => fun _ h => h
  | k + 1 => (rndN_leq Rs st k).trans doR_leq
theorem fix_leq (Rs : List Rl) : ∀ (f : Nat) (st : St), Leq st.1 (fix Rs f st).1
  | 0, st => fun _ h => h
  | f + 1, st => by
    rw [fix]
    split
    · exact rndN_leq Rs st _
    · exact (rndN_leq Rs st _).trans (fix_leq Rs f _)
theorem fin_has {n : Nat} {Ks : List Int} {Rs : List Rl} (h : Fits n Ks Rs) : ∀ x ∈ Ks, has (fin n Ks Rs).1 x = true := fun x hx => fix_leq Rs _ (marks Ks n, []) x (marks_has h.ks x hx)
theorem doR_least {B : List Bool} {Rs : List Rl} (hB : Clsd Rs B) {st : St} (h : Leq st.1 B) {i : Nat} {r : Rl} (hr : r ∈ Rs) : Leq (doR st i r).1 B := by
  unfold doR; split
  · rename_i hc
    simp only [Bool.and_eq_true, List.all_eq_true] at hc
    exact h.mark_ (hB r hr (by rw [List.all_eq_true]; exact fun x hx => h x (hc.2 x hx)))
  · exact h
theorem rndN_least {B : List Bool} {Rs : List Rl} (hB : Clsd Rs B) {st : St} (h : Leq st.1 B) : ∀ k, k ≤ Rs.length → Leq (rndN Rs st k).1 B
  | 0, _ => h
  | k + 1, hk => doR_least hB (rndN_least hB h k (by omega)) (rl_mem (by omega))
theorem fix_least {B : List Bool} {Rs : List Rl} (hB : Clsd Rs B) : ∀ (f : Nat) (st : St), Leq st.1 B → Leq (fix Rs f st).1 B
  | 0, st, h => h
  | f + 1, st, h => by
    rw [fix]
    split
    · exact rndN_least hB h _ (Nat.le_refl _)
    · exact fix_least hB f _ (rndN_least hB h _ (Nat.le_refl _))
theorem fin_least {n : Nat} {Ks : List Int} {Rs : List Rl} {B : List Bool} (hB : Clsd Rs B) (hK : ∀ x ∈ Ks, has B x = true) : Leq (fin n Ks Rs).1 B := fix_least hB _ _ (marks_leq hK)
theorem leq_antisymm {A B : List Bool} (hl : A.length = B.length) (h : Leq A B) (k : Leq B A) : A = B := by
  refine List.ext_getElem hl fun i h1 h2 => ?_
  have e1 : has A (i : Int) = A[i] := has_at (List.getElem?_eq_getElem h1)
  have e2 : has B (i : Int) = B[i] := has_at (List.getElem?_eq_getElem h2)
  rw [← e1, ← e2]
  cases ha : has A i with
  | true => exact (h _ ha).symm
  | false =>
    cases hb : has B i with
    | true => rw [k _ hb] at ha; cases ha
    | false => rfl
/-- What is found, known as well, finds nothing more. -/
theorem fin_again {n : Nat} {Ks Ms : List Int} {Rs : List Rl} (h : Fits n Ks Rs) (h2 : Fits n (Ks ++ Ms) Rs) (hM : ∀ x ∈ Ms, has (fin n Ks Rs).1 x = true) : (fin n (Ks ++ Ms) Rs).1 = (fin n Ks Rs).1 := by
  refine leq_antisymm (by rw [(fin_sum h).1, (fin_sum h2).1]) (fin_least (fin_closed h) fun x hx => ?_) (fin_least (fin_closed h2) fun x hx => fin_has h2 x (by simp [hx]))
  rcases List.mem_append.1 hx with hx | hx
  · exact fin_has h x hx
  · exact hM x hx
/-- With more that is known, and more rules, nothing less. -/
theorem fin_more {n : Nat} {Ks Ms : List Int} {Rs Qs : List Rl} (h2 : Fits n (Ks ++ Ms) (Rs ++ Qs)) : Leq (fin n Ks Rs).1 (fin n (Ks ++ Ms) (Rs ++ Qs)).1 :=
  fin_least (fun r hr => fin_closed h2 r (by simp [hr])) fun x hx => fin_has h2 x (by simp [hx])
end Go.Proofs.Ytllgdlfdmmdffaa
