/- The plain law of a vault: what is kept. -/
import Derived.Test.YtjabkfccfecmgaaX
namespace Go.Proofs.Ytjabkfccfecmgaa
open Go.ChangeShapes Go.WideShapes Go.ChangeAt Go.RowKit
set_option linter.unusedSimpArgs false
set_option linter.unusedVariables false
/-- A disk of a vault that keeps B, with the number C. -/
structure Kp (n C : Nat) (B : List Byte) (S : Nat → Sct) : Prop where
  len : B.length ≤ (n - 2) / 2 * 512
  zero : C = 0 → S 0 = zs ∧ S 1 = zs ∧ B = []
  head : 0 < C → S (C % 2) = hd C B.length
  other : 0 < C → S (1 - C % 2) = zs ∨ ∃ l, l ≤ (n - 2) / 2 * 512 ∧ 0 < C - 1 ∧ S (1 - C % 2) = hd (C - 1) l
  data : 0 < C → ∀ j, j < nP B.length → S (2 + C % 2 * ((n - 2) / 2) + j) = padd (chk B j)
/-- A step that does no harm to what is kept. -/
def Harm (n C : Nat) : Ac → Prop
  | .sy => True
  | .wr i D => (C = 0 ∧ (2 ≤ i ∨ D = [])) ∨ (0 < C ∧ ((i = 1 - C % 2 ∧ D = []) ∨ (2 + (1 - C % 2) * ((n - 2) / 2) ≤ i ∧ i < 2 + (1 - C % 2) * ((n - 2) / 2) + (n - 2) / 2)))
theorem nP_le {n l : Nat} (h : l ≤ (n - 2) / 2 * 512) : nP l ≤ (n - 2) / 2 := by unfold nP; omega
theorem par2 (C : Nat) : C % 2 = 0 ∨ C % 2 = 1 := by omega
theorem padd_nil : padd [] = zs := padd_rep (k := 0) (by omega)
section
variable {n C : Nat} {B D : List Byte} {S : Nat → Sct}
theorem Kp.one (h : Kp n C B S) {a : Ac} (ha : Harm n C a) : Kp n C B (app1 S a) := by
  cases a with
  | sy => exact h
  | wr i D =>
    show Kp n C B (updS S i (padd D))
    have hl := nP_le h.len
    rcases ha with ⟨h0, h1⟩ | ⟨h0, h1⟩
    · have z := h.zero h0
      refine ⟨h.len, fun _ => ?_, fun e => by omega, fun e => by omega, fun e => by omega⟩
      rcases h1 with h1 | rfl
      · exact ⟨by unfold updS; rw [if_neg (by omega)]; exact z.1, by unfold updS; rw [if_neg (by omega)]; exact z.2.1, z.2.2⟩
      · rw [padd_nil]
        exact ⟨by unfold updS; split; rfl; exact z.1, by unfold updS; split; rfl; exact z.2.1, z.2.2⟩
    · have hne : i ≠ C % 2 := by rcases h1 with ⟨rfl, _⟩ | ⟨h1, _⟩ <;> omega
      refine ⟨h.len, fun e => by omega, fun e => ?_, fun e => ?_, fun e j hj => ?_⟩
      · unfold updS; rw [if_neg (Ne.symm hne)]; exact h.head e
      · by_cases hi : i = 1 - C % 2
        · left
          rcases h1 with ⟨_, rfl⟩ | ⟨h1, _⟩
          · unfold updS; rw [if_pos hi.symm, padd_nil]
          · omega
        · have : updS S i (padd D) (1 - C % 2) = S (1 - C % 2) := by unfold updS; rw [if_neg (Ne.symm hi)]
          rw [this]; exact h.other e
      · have : updS S i (padd D) (2 + C % 2 * ((n - 2) / 2) + j) = S (2 + C % 2 * ((n - 2) / 2) + j) := by
          unfold updS
          rw [if_neg ?_]
          rcases par2 C with e2 | e2 <;> rw [e2] at h1 ⊢ <;> rcases h1 with ⟨h1, _⟩ | ⟨h1, h2⟩ <;> omega
        rw [this]; exact h.data e j hj
theorem Kp.all (h : Kp n C B S) {L : List Ac} (hL : ∀ a ∈ L, Harm n C a) : Kp n C B (app S L) := by
  induction L generalizing S with
  | nil => exact h
  | cons a L ih => exact ih (h.one (hL a (by simp))) fun x hx => hL x (by simp [hx])
theorem layA_harm {p : Nat} (h : 0 < C → p = 1 - C % 2) (hD : D.length ≤ (n - 2) / 2 * 512) : ∀ a ∈ layA (2 + p * ((n - 2) / 2)) D, Harm n C a := by
  intro a ha
  obtain ⟨j, hj, rfl⟩ := List.mem_map.1 ha
  rw [List.mem_range] at hj
  have := nP_le hD
  by_cases h0 : C = 0
  · exact .inl ⟨h0, .inl (by omega)⟩
  · refine .inr ⟨by omega, .inr ?_⟩
    rw [← h (by omega)]
    omega
theorem eraseA_harm {p : Nat} (h : 0 < C → p = 1 - C % 2) : ∀ a ∈ eraseA n p, Harm n C a := by
  intro a ha
  unfold eraseA at ha
  simp only [List.mem_append, List.mem_cons, List.mem_singleton, List.not_mem_nil, or_false] at ha
  rcases ha with ((e | e) | ha) | e
  · subst e
    by_cases h0 : C = 0
    · exact .inl ⟨h0, .inr rfl⟩
    · exact .inr ⟨by omega, .inl ⟨h (by omega), rfl⟩⟩
  · subst e; trivial
  · exact layA_harm h (by simp) a ha
  · subst e; trivial
/-- Put's steps ahead of its head, and those behind. -/
theorem putS_eq (n c : Nat) (D : List Byte) : putS n c D = (layA (2 + c % 2 * ((n - 2) / 2)) D ++ [.sy]) ++ .wr (c % 2) (hd c D.length) :: (.sy :: eraseA n (1 - c % 2)) := by
  unfold putS putA; simp
theorem Kp.turn (h : Kp n C B S) (hD : D.length ≤ (n - 2) / 2 * 512) : Kp n (C + 1) D (app1 (app S (layA (2 + (C + 1) % 2 * ((n - 2) / 2)) D ++ [.sy])) (.wr ((C + 1) % 2) (hd (C + 1) D.length))) := by
  have e0 : app S (layA (2 + (C + 1) % 2 * ((n - 2) / 2)) D ++ [.sy]) = app S (layA (2 + (C + 1) % 2 * ((n - 2) / 2)) D) := by rw [app_app]; rfl
  rw [e0]
  show Kp n (C + 1) D (updS _ _ _)
  have hq : 1 - (C + 1) % 2 = C % 2 := by omega
  refine ⟨hD, fun e => by omega, fun _ => ?_, fun _ => ?_, fun _ j hj => ?_⟩
  · unfold updS; rw [if_pos rfl]; exact padd_512 (hd_len _ _)
  · rw [hq, Nat.add_sub_cancel]
    have : updS (app S (layA (2 + (C + 1) % 2 * ((n - 2) / 2)) D)) ((C + 1) % 2) (padd (hd (C + 1) D.length)) (C % 2) = S (C % 2) := by
      unfold updS
      rw [if_neg (by omega), app_lay, if_neg (by omega)]
    rw [this]
    by_cases h0 : C = 0
    · left; rw [h0]; exact (h.zero h0).1
    · right; exact ⟨B.length, h.len, by omega, h.head (by omega)⟩
  · have : updS (app S (layA (2 + (C + 1) % 2 * ((n - 2) / 2)) D)) ((C + 1) % 2) (padd (hd (C + 1) D.length)) (2 + (C + 1) % 2 * ((n - 2) / 2) + j) = app S (layA (2 + (C + 1) % 2 * ((n - 2) / 2)) D) (2 + (C + 1) % 2 * ((n - 2) / 2) + j) := by
      unfold updS
      rw [if_neg (by omega)]
    rw [this, app_lay, if_pos (by omega), Nat.add_sub_cancel_left]
theorem Kp.put (h : Kp n C B S) (hD : D.length ≤ (n - 2) / 2 * 512) : Kp n (C + 1) D (app S (putS n (C + 1) D)) := by
  rw [putS_eq, app_app, app_cons]
  refine (h.turn hD).all fun a ha => ?_
  rcases List.mem_cons.1 ha with rfl | ha
  · trivial
  · exact eraseA_harm (fun _ => rfl) a ha
theorem Kp.puts (h : Kp n C B S) (hD : D.length ≤ (n - 2) / 2 * 512) (k : Nat) : Kp n C B (app S ((putS n (C + 1) D).take k)) ∨ Kp n (C + 1) D (app S ((putS n (C + 1) D).take k)) := by
  rw [putS_eq, List.take_append]
  by_cases hk : k ≤ (layA (2 + (C + 1) % 2 * ((n - 2) / 2)) D ++ [Ac.sy]).length
  · left
    rw [Nat.sub_eq_zero_of_le hk, List.take_zero, List.append_nil]
    refine h.all fun a ha => ?_
    have ha := List.mem_of_mem_take ha
    rcases List.mem_append.1 ha with ha | ha
    · exact layA_harm (fun _ => by omega) hD a ha
    · rw [List.mem_singleton] at ha; subst ha; trivial
  · right
    rw [List.take_of_length_le (by omega), show k - (layA (2 + (C + 1) % 2 * ((n - 2) / 2)) D ++ [Ac.sy]).length = (k - (layA (2 + (C + 1) % 2 * ((n - 2) / 2)) D ++ [Ac.sy]).length - 1) + 1 by omega, List.take_succ_cons, app_app, app_cons]
    refine (h.turn hD).all fun a ha => ?_
    have ha := List.mem_of_mem_take ha
    rcases List.mem_cons.1 ha with rfl | ha
    · trivial
    · exact eraseA_harm (fun _ => rfl) a ha
/-- What a head says. -/
def Hw (n : Nat) (p : Nat) (T : Sct) (c l : Nat) : Prop := (c = 0 ∧ l = 0 ∧ T = zs) ∨ (0 < c ∧ c < 4611686018427387904 ∧ c % 2 = p ∧ l ≤ (n - 2) / 2 * 512 ∧ T = hd c l)
theorem hd_take (c l : Nat) : (hd c l).take 16 = h16 c l := by
  unfold hd
  rw [List.take_append_of_le_length (by rw [h16_len]; exact Nat.le_refl _), List.take_of_length_le (by rw [h16_len]; exact Nat.le_refl _)]
theorem hd_zs (c l : Nat) : hd c l ≠ zs := fun e => by
  have h1 : zs[0]? = some 83#8 := e ▸ (show (hd c l)[0]? = some 83#8 from rfl)
  have h2 : zs[0]? = some 0#8 := by unfold zs; rw [List.getElem?_replicate, if_pos (by decide)]
  rw [h1] at h2
  injection h2 with h2
  exact absurd h2 (by decide)
/-- The two heads of a vault's disk. -/
theorem Kp.heads (h : Kp n C B S) (hC : C < 4611686018427387904) : ∃ cs ls : Nat → Nat, (∀ p, p < 2 → Hw n p (S p) (cs p) (ls p)) ∧ (cs 0 = 0 ∨ cs 1 = 0 ∨ cs 0 = cs 1 + 1 ∨ cs 1 = cs 0 + 1) ∧ topC cs = C ∧ topL cs ls = B.length ∧
    ∀ p, p < 2 → ((cs p < C ∨ cs p = 0) ↔ (C = 0 ∨ p = 1 - C % 2)) := by
  by_cases h0 : C = 0
  · obtain ⟨z0, z1, z2⟩ := h.zero h0
    refine ⟨fun _ => 0, fun _ => 0, fun p hp => .inl ⟨rfl, rfl, ?_⟩, .inl rfl, ?_, ?_, fun p _ => ?_⟩
    · have : p = 0 ∨ p = 1 := by omega
      rcases this with rfl | rfl
      · exact z0
      · exact z1
    · rw [h0]; rfl
    · rw [z2]; rfl
    · simp [h0]
  · have hp : 0 < C := by omega
    obtain ⟨c2, l2, hw, hc2⟩ : ∃ c2 l2, Hw n (1 - C % 2) (S (1 - C % 2)) c2 l2 ∧ (c2 = 0 ∨ c2 + 1 = C) := by
      rcases h.other hp with e | ⟨l, h1, h2, h3⟩
      · exact ⟨0, 0, .inl ⟨rfl, rfl, e⟩, .inl rfl⟩
      · exact ⟨C - 1, l, .inr ⟨h2, by omega, by omega, h1, h3⟩, .inr (by omega)⟩
    refine ⟨fun p => if p = C % 2 then C else c2, fun p => if p = C % 2 then B.length else l2, fun p hp2 => ?_, ?_, ?_, ?_, fun p hp2 => ?_⟩
    · show Hw n p (S p) (if p = C % 2 then C else c2) (if p = C % 2 then B.length else l2)
      by_cases e : p = C % 2
      · rw [if_pos e, if_pos e, e]
        exact .inr ⟨hp, hC, rfl, h.len, h.head hp⟩
      · rw [if_neg e, if_neg e, show p = 1 - C % 2 by omega]
        exact hw
    · rcases par2 C with e | e <;> rw [e] <;> simp <;> omega
    · unfold topC
      rcases par2 C with e | e <;> rw [e] <;> simp <;> omega
    · unfold topL
      rcases par2 C with e | e <;> rw [e] <;> simp <;> omega
    · show ((if p = C % 2 then C else c2) < C ∨ (if p = C % 2 then C else c2) = 0) ↔ _
      by_cases e : p = C % 2
      · rw [if_pos e]; omega
      · rw [if_neg e]; omega
theorem img_get {F : Nat → Sct} : ∀ (k : Nat), (∀ j, j < k → (F j).length = 512) → ∀ i, i < k * 512 → (img F k)[i]? = (F (i / 512))[i % 512]? := by
  intro k
  induction k with
  | zero => intro _ i hi; omega
  | succ k ih =>
    intro hF i hi
    rw [img_succ]
    have hl := img_len (n := k) (S := F) (fun j hj => hF j (by omega)) k (Nat.le_refl _)
    rcases Nat.lt_or_ge i (k * 512) with h | h
    · rw [List.getElem?_append_left (by omega)]; exact ih (fun j hj => hF j (by omega)) i h
    · rw [List.getElem?_append_right (by omega), hl, show i / 512 = k by omega, show i - k * 512 = i % 512 by omega]
theorem padd_chk {B : List Byte} {i : Nat} (hi : i < B.length) : (padd (chk B (i / 512)))[i % 512]? = B[i]? := by
  have hc : i % 512 < (chk B (i / 512)).length := by rw [chk_len]; unfold pl; omega
  unfold padd
  rw [List.getElem?_append_left hc]
  unfold chk
  rw [List.getElem?_take, if_pos (by omega), List.getElem?_drop, show 512 * (i / 512) + i % 512 = i by omega]
/-- What lies there is what was laid. -/
theorem img_chk (B : List Byte) {F : Nat → Sct} (hF : ∀ j, j < nP B.length → F j = padd (chk B j)) : (img F (nP B.length)).take B.length = B := by
  have hFl : ∀ j, j < nP B.length → (F j).length = 512 := fun j hj => by rw [hF j hj]; exact padd_len (chk_le _ _)
  have hl := img_len (n := nP B.length) hFl _ (Nat.le_refl _)
  apply List.ext_getElem?
  intro i
  rw [List.getElem?_take]
  split
  · rename_i h
    rw [img_get _ hFl i (by unfold nP; omega), hF _ (by unfold nP; omega)]
    exact padd_chk h
  · rename_i h
    rw [List.getElem?_eq_none (by omega)]
theorem Kp.kept {d : DS} (h : Kp n C B d.S) (hW : d.W = []) : keptB n d C B.length = B := by
  unfold keptB
  by_cases h0 : C = 0
  · rw [(h.zero h0).2.2]; rfl
  · refine img_chk B fun j hj => ?_
    rw [hW]
    exact h.data (by omega) j hj
/-- The whole disk. -/
theorem vst_Kp (hB : B.length ≤ (n - 2) / 2 * 512) (h0 : C = 0 → B = []) (hS : ∀ k, k < n → S k = vst n C B k) (hn : 4 ≤ n) : Kp n C B S := by
  have hl := nP_le hB
  have hv : 0 < C → vst n C B = fun k => if k = C % 2 then hd C B.length else if 2 + C % 2 * ((n - 2) / 2) ≤ k ∧ k < 2 + C % 2 * ((n - 2) / 2) + nP B.length then padd (chk B (k - (2 + C % 2 * ((n - 2) / 2)))) else zs := fun e => by
    funext k; unfold vst; rw [if_neg (by omega)]
  refine ⟨hB, fun e => ⟨?_, ?_, h0 e⟩, fun e => ?_, fun e => .inl ?_, fun e j hj => ?_⟩
  · rw [hS 0 (by omega)]; unfold vst; rw [if_pos e]
  · rw [hS 1 (by omega)]; unfold vst; rw [if_pos e]
  · rw [hS _ (by omega), hv e]; simp
  · rw [hS _ (by omega), hv e]
    show (if 1 - C % 2 = C % 2 then _ else _) = _
    rw [if_neg (by omega), if_neg (by omega)]
  · have := place_le (n := n) (p := C % 2) hn (by omega)
    rw [hS _ (by omega), hv e]
    show (if 2 + C % 2 * ((n - 2) / 2) + j = C % 2 then _ else _) = _
    rw [if_neg (by omega), if_pos (by omega), Nat.add_sub_cancel_left]
theorem vst_put (hB : B.length ≤ (n - 2) / 2 * 512) (hD : D.length ≤ (n - 2) / 2 * 512) (hS : ∀ k, k < n → S k = vst n C B k) : ∀ k, k < n → app S (putS n (C + 1) D) k = vst n (C + 1) D k := by
  intro k hk
  have h1 := nP_le hB
  have h2 := nP_le hD
  rw [app_put, hS k hk]
  unfold vst
  rw [if_neg (show ¬ C + 1 = 0 by omega)]
  rcases par2 C with e | e
  · rw [e, show (C + 1) % 2 = 1 by omega]
    simp only [Nat.sub_self, Nat.zero_mul, Nat.one_mul, Nat.add_zero]
    repeat' split
    all_goals first
      | rfl
      | omega
  · rw [e, show (C + 1) % 2 = 0 by omega]
    simp only [Nat.sub_zero, Nat.zero_mul, Nat.one_mul, Nat.add_zero]
    repeat' split
    all_goals first
      | rfl
      | omega
theorem vst_erase (hB : B.length ≤ (n - 2) / 2 * 512) {p : Nat} (hp : C = 0 ∨ p = 1 - C % 2) (hp2 : p < 2) (k : Nat) : app S (eraseA n p) k = S k ∨ (app S (eraseA n p) k = zs ∧ vst n C B k = zs) := by
  have h1 := nP_le hB
  rw [app_erase]
  split
  · rename_i h
    right
    refine ⟨rfl, ?_⟩
    unfold vst
    rcases hp with h0 | h0
    · rw [if_pos h0]
    · by_cases h00 : C = 0
      · rw [if_pos h00]
      · rw [if_neg h00]
        rcases par2 C with e | e
        · rw [e] at h0 ⊢; subst h0
          simp only [Nat.sub_zero, Nat.zero_mul, Nat.one_mul, Nat.add_zero] at h ⊢
          repeat' split
          all_goals first
            | rfl
            | omega
        · rw [e] at h0 ⊢; subst h0
          simp only [Nat.sub_self, Nat.zero_mul, Nat.one_mul, Nat.add_zero] at h ⊢
          repeat' split
          all_goals first
            | rfl
            | omega
  · exact .inl rfl
end
end Go.Proofs.Ytjabkfccfecmgaa
