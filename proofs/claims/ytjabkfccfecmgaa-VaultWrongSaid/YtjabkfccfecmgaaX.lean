/- The plain law of a vault: what steps leave. -/
import Derived.Test.YtjabkfccfecmgaaW
namespace Go.Proofs.Ytjabkfccfecmgaa
open Go.ChangeShapes Go.WideShapes Go.ChangeAt Go.RowKit
set_option linter.unusedSimpArgs false
set_option linter.unusedVariables false
def app1 (S : Nat → Sct) : Ac → Nat → Sct
  | .wr i B => updS S i (padd B)
  | .sy => S
def app (S : Nat → Sct) (L : List Ac) : Nat → Sct := L.foldl app1 S
def Va (n : Nat) : Ac → Prop
  | .wr i B => i < n ∧ B.length ≤ 512
  | .sy => True
theorem app_cons (S : Nat → Sct) (a : Ac) (L : List Ac) : app S (a :: L) = app (app1 S a) L := rfl
theorem app_app (S : Nat → Sct) (L1 L2 : List Ac) : app S (L1 ++ L2) = app (app S L1) L2 := by simp [app, List.foldl_append]
theorem act_ok {n : Nat} {d : DS} {a : Ac} (hd : d.down = false) (hf : -1 ≤ d.fuse) (hv : Va n a) :
    ((act n d a).1 ≠ 0 ∧ (act n d a).2 = ⟨fin d.S d.W, [], -1, true⟩ ∧ d.fuse = 0) ∨
    ((act n d a).1 = 0 ∧ (act n d a).2.down = false ∧ fin (act n d a).2.S (act n d a).2.W = app1 (fin d.S d.W) a ∧ (d.fuse = -1 → (act n d a).2.fuse = -1) ∧ -1 ≤ (act n d a).2.fuse) := by
  cases a with
  | sy =>
    right
    have e : act n d .sy = (0, synced d) := by show (if d.down = true then ((201 : Int), d) else (0, synced d)) = _; rw [hd]; rfl
    rw [e]
    exact ⟨rfl, hd, rfl, fun h => h, hf⟩
  | wr i B =>
    obtain ⟨h1, h2⟩ := hv
    have hm : Mayc n d (i : Int) = 0 := by unfold Mayc; rw [hd]; simp; omega
    have e : act n d (.wr i B) = if d.fuse = 0 then (201, crashed d d.W.length) else (0, { d with W := d.W ++ [((i : Int).toNat, padd B)], fuse := if 0 < d.fuse then d.fuse - 1 else d.fuse }) := by
      show wrote n d i B = _
      unfold wrote
      rw [hm, if_neg (by decide), if_neg (by omega)]
    rw [e]
    by_cases hz : d.fuse = 0
    · left
      rw [if_pos hz]
      refine ⟨(by show (201 : Int) ≠ 0; decide), ?_, hz⟩
      show crashed d d.W.length = _
      unfold crashed
      rw [hd]
      simp
    · right
      rw [if_neg hz]
      refine ⟨rfl, hd, ?_, fun h => ?_, ?_⟩
      · show fin d.S (d.W ++ [((i : Int).toNat, padd B)]) = _
        rw [fin_snoc]; rfl
      · show (if 0 < d.fuse then d.fuse - 1 else d.fuse) = -1
        rw [if_neg (by omega)]; exact h
      · show -1 ≤ (if 0 < d.fuse then d.fuse - 1 else d.fuse)
        split <;> omega
theorem run_law (n : Nat) : ∀ (L : List Ac) (d : DS), d.down = false → -1 ≤ d.fuse → (∀ a ∈ L, Va n a) →
    ((runA n d L).1 = true ∧ (∃ k, (runA n d L).2 = ⟨app (fin d.S d.W) (L.take k), [], -1, true⟩) ∧ d.fuse ≠ -1) ∨
    ((runA n d L).1 = false ∧ (runA n d L).2.down = false ∧ fin (runA n d L).2.S (runA n d L).2.W = app (fin d.S d.W) L ∧ (d.fuse = -1 → (runA n d L).2.fuse = -1) ∧ -1 ≤ (runA n d L).2.fuse) := by
  intro L
  induction L with
  | nil => intro d hd hf _; exact .inr ⟨rfl, hd, rfl, fun h => h, hf⟩
  | cons a L ih =>
    intro d hd hf hv
    rw [runA_cons]
    rcases act_ok hd hf (hv a (by simp)) with ⟨h1, h2, h3⟩ | ⟨h1, h2, h3, h4, h5⟩
    · left
      rw [if_pos h1]
      exact ⟨rfl, ⟨0, h2⟩, by omega⟩
    · rw [if_neg (by simpa using h1)]
      rcases ih (act n d a).2 h2 h5 (fun x hx => hv x (by simp [hx])) with ⟨g1, ⟨k, g2⟩, g3⟩ | ⟨g1, g2, g3, g4, g5⟩
      · left
        refine ⟨g1, ⟨k + 1, ?_⟩, fun e => g3 (h4 e)⟩
        rw [g2, h3]; rfl
      · right
        exact ⟨g1, g2, by rw [g3, h3]; rfl, fun e => g4 (h4 e), g5⟩
theorem runA_app (n : Nat) : ∀ (L1 L2 : List Ac) (d : DS), runA n d (L1 ++ L2) = if (runA n d L1).1 = true then runA n d L1 else runA n (runA n d L1).2 L2 := by
  intro L1
  induction L1 with
  | nil => intro L2 d; rfl
  | cons a L ih =>
    intro L2 d
    rw [List.cons_append, runA_cons, runA_cons]
    by_cases h : (act n d a).1 ≠ 0
    · rw [if_pos h, if_pos h, if_pos rfl]
    · rw [if_neg h, if_neg h, ih]
/-- Behind a Sync nothing waits. -/
theorem run_sync {n : Nat} {d : DS} {L : List Ac} (h : (runA n d (L ++ [.sy])).1 = false) : (runA n d (L ++ [.sy])).2.W = [] := by
  rw [runA_app] at h ⊢
  split at h
  · rename_i h1; rw [h] at h1; cases h1
  · rename_i h1
    rw [if_neg h1]
    rw [runA_cons] at h ⊢
    by_cases h2 : (act n (runA n d L).2 .sy).1 ≠ 0
    · rw [if_pos h2] at h; cases h
    · rw [if_neg h2]
      show (act n (runA n d L).2 .sy).2.W = []
      have : act n (runA n d L).2 .sy = if (runA n d L).2.down = true then ((201 : Int), (runA n d L).2) else (0, synced (runA n d L).2) := rfl
      rw [this] at h2 ⊢
      split
      · rename_i h3; rw [if_pos h3] at h2; simp at h2
      · rfl
/-- What Open erases. -/
def ers (n : Nat) (cs : Nat → Nat) (C p : Nat) : List Ac := if cs p < C ∨ cs p = 0 then eraseA n p else []
theorem er_ers (n : Nat) (cs : Nat → Nat) (C p : Nat) (d : DS) : er n cs C d p = runA n d (ers n cs C p) := by
  unfold er ers
  split <;> rfl
theorem er2_ers (n : Nat) (cs : Nat → Nat) (C : Nat) (d : DS) : er2 n cs C d = runA n d (ers n cs C 0 ++ ers n cs C 1) := by
  unfold er2
  rw [runA_app, er_ers, er_ers]
theorem ers_sync (n : Nat) (cs : Nat → Nat) (C p : Nat) : ers n cs C p = [] ∨ ∃ L, ers n cs C p = L ++ [.sy] := by
  unfold ers
  split
  · exact .inr ⟨_, rfl⟩
  · exact .inl rfl
theorem er2_W {n : Nat} {cs : Nat → Nat} {C : Nat} {d : DS} (hW : d.W = []) (h : (er2 n cs C d).1 = false) : (er2 n cs C d).2.W = [] := by
  rw [er2_ers] at h ⊢
  rcases ers_sync n cs C 1 with e | ⟨L, e⟩
  · rw [e, List.append_nil] at h ⊢
    rcases ers_sync n cs C 0 with e | ⟨L, e⟩
    · rw [e]; exact hW
    · rw [e] at h ⊢; exact run_sync h
  · rw [e, ← List.append_assoc] at h ⊢; exact run_sync h
theorem chk_le (D : List Byte) (j : Nat) : (chk D j).length ≤ 512 := by rw [chk_len]; unfold pl; omega
theorem layA_va {n at_ : Nat} {D : List Byte} (h : at_ + nP D.length ≤ n) : ∀ a ∈ layA at_ D, Va n a := by
  intro a ha
  obtain ⟨j, hj, rfl⟩ := List.mem_map.1 ha
  rw [List.mem_range] at hj
  exact ⟨by omega, chk_le _ _⟩
theorem nP_room (sc : Nat) : nP (sc * 512) = sc := by unfold nP; omega
theorem place_le {n p : Nat} (hn : 4 ≤ n) (hp : p < 2) : 2 + p * ((n - 2) / 2) + (n - 2) / 2 ≤ n := by
  have : p = 0 ∨ p = 1 := by omega
  rcases this with rfl | rfl <;> omega
theorem eraseA_va {n p : Nat} (hn : 4 ≤ n) (hp : p < 2) : ∀ a ∈ eraseA n p, Va n a := by
  intro a ha
  unfold eraseA at ha
  simp only [List.mem_append, List.mem_cons, List.mem_singleton, List.not_mem_nil, or_false] at ha
  rcases ha with ((e | e) | ha) | e
  all_goals first
    | (subst e; exact ⟨by omega, by simp⟩)
    | (subst e; trivial)
    | exact layA_va (by rw [List.length_replicate, nP_room]; exact place_le hn hp) a ha
theorem putA_va {n c : Nat} {D : List Byte} (hn : 4 ≤ n) (hD : D.length ≤ (n - 2) / 2 * 512) : ∀ a ∈ putA n c D, Va n a := by
  intro a ha
  unfold putA at ha
  simp only [List.mem_append, List.mem_cons, List.mem_singleton, List.not_mem_nil, or_false] at ha
  have hp : c % 2 < 2 := by omega
  rcases ha with ha | rfl | rfl | rfl
  · refine layA_va ?_ a ha
    have := place_le hn hp
    have : nP D.length ≤ (n - 2) / 2 := by unfold nP; omega
    omega
  · trivial
  · exact ⟨by omega, by rw [hd_len]; exact Nat.le_refl _⟩
  · trivial
theorem putS_va {n c : Nat} {D : List Byte} (hn : 4 ≤ n) (hD : D.length ≤ (n - 2) / 2 * 512) : ∀ a ∈ putS n c D, Va n a := by
  intro a ha
  unfold putS at ha
  rcases List.mem_append.1 ha with ha | ha
  · exact putA_va hn hD a ha
  · exact eraseA_va hn (by omega) a ha
theorem ers_va {n : Nat} {cs : Nat → Nat} {C p : Nat} (hn : 4 ≤ n) (hp : p < 2) : ∀ a ∈ ers n cs C p, Va n a := by
  intro a ha
  unfold ers at ha
  split at ha
  · exact eraseA_va hn hp a ha
  · cases ha
/-- Where laid bytes lie. -/
theorem app_lay (at_ : Nat) (D : List Byte) (S : Nat → Sct) (k : Nat) : app S (layA at_ D) k = if at_ ≤ k ∧ k < at_ + nP D.length then padd (chk D (k - at_)) else S k := by
  unfold layA
  generalize nP D.length = m
  induction m with
  | zero => rw [if_neg (by omega)]; rfl
  | succ m ih =>
    rw [List.range_succ, List.map_append, app_app]
    show (updS (app S ((List.range m).map fun j => Ac.wr (at_ + j) (chk D j))) (at_ + m) (padd (chk D m))) k = _
    unfold updS
    by_cases h : k = at_ + m
    · rw [if_pos h, if_pos (by omega), h, Nat.add_sub_cancel_left]
    · rw [if_neg h, ih]
      by_cases h2 : at_ ≤ k ∧ k < at_ + m
      · rw [if_pos h2, if_pos (by omega)]
      · rw [if_neg h2, if_neg (by omega)]
theorem padd_rep {k : Nat} (h : k ≤ 512) : padd (List.replicate k 0#8) = zs := by
  unfold padd zs
  rw [List.length_replicate, List.replicate_append_replicate, show k + (512 - k) = 512 by omega]
theorem chk_rep (k j : Nat) : chk (List.replicate k 0#8) j = List.replicate (pl k j) 0#8 := by
  unfold chk
  rw [List.drop_replicate, List.take_replicate]; rfl
theorem app_erase (n p : Nat) (S : Nat → Sct) (k : Nat) : app S (eraseA n p) k = if k = p ∨ (2 + p * ((n - 2) / 2) ≤ k ∧ k < 2 + p * ((n - 2) / 2) + (n - 2) / 2) then zs else S k := by
  unfold eraseA
  rw [app_app, app_app]
  show app (updS S p (padd [])) (layA _ _) k = _
  rw [app_lay, List.length_replicate, nP_room]
  by_cases h : 2 + p * ((n - 2) / 2) ≤ k ∧ k < 2 + p * ((n - 2) / 2) + (n - 2) / 2
  · rw [if_pos h, if_pos (.inr h), chk_rep, padd_rep (by unfold pl; omega)]
  · rw [if_neg h]
    unfold updS
    by_cases h2 : k = p
    · rw [if_pos h2, if_pos (.inl h2)]; rfl
    · rw [if_neg h2, if_neg (by rintro (e | e); exact h2 e; exact h e)]
theorem padd_512 {D : Sct} (h : D.length = 512) : padd D = D := by unfold padd; rw [h]; simp
theorem app_put (n c : Nat) (D : List Byte) (S : Nat → Sct) (k : Nat) : app S (putS n c D) k =
    if k = 1 - c % 2 ∨ (2 + (1 - c % 2) * ((n - 2) / 2) ≤ k ∧ k < 2 + (1 - c % 2) * ((n - 2) / 2) + (n - 2) / 2) then zs
    else if k = c % 2 then hd c D.length else if 2 + c % 2 * ((n - 2) / 2) ≤ k ∧ k < 2 + c % 2 * ((n - 2) / 2) + nP D.length then padd (chk D (k - (2 + c % 2 * ((n - 2) / 2)))) else S k := by
  unfold putS putA
  rw [app_app, app_erase, app_app]
  split
  · rfl
  · show updS (app S (layA (2 + c % 2 * ((n - 2) / 2)) D)) (c % 2) (padd (hd c D.length)) k = _
    unfold updS
    split
    · exact padd_512 (hd_len _ _)
    · rw [app_lay]
/-- The disk of a vault that keeps D with the number C, and of which all else is 0. -/
def vst (n C : Nat) (D : List Byte) (k : Nat) : Sct :=
  if C = 0 then zs else if k = C % 2 then hd C D.length else if 2 + C % 2 * ((n - 2) / 2) ≤ k ∧ k < 2 + C % 2 * ((n - 2) / 2) + nP D.length then padd (chk D (k - (2 + C % 2 * ((n - 2) / 2)))) else zs
end Go.Proofs.Ytjabkfccfecmgaa
