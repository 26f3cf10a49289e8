/- A party in general: all that a leaf has is known. -/
import Derived.Test.YtllgdlfdmmdffaaG7
namespace Go.Proofs.Ytllgdlfdmmdffaa
open Go.ChangeShapes Go.WideShapes Go.ChangeAt Go.RowKit Go.MapKept Go.ChangeMaps Go.Maps
set_option linter.unusedSimpArgs false
set_option linter.unusedVariables false
structure S6g (w0 : World) (A : Value) (n : Nat) (M : List Int) (L : Nat → Bool) (w : World) : Prop where
  bl : Below w0.heap.size w0 w
  ow : L 16 = false → w.ownsRow w0.heap.size 3 1 A n (M.map (Value.int .i64))
theorem S6g.step {w0 w : World} {A : Value} {n : Nat} {M : List Int} {L : Nat → Bool} (h : S6g w0 A n M L w) (i : Nat) (hi : i ≠ 16) : S6g w0 A n M (fun j => j == i || L j) w :=
  ⟨h.bl, fun e => h.ow (by simp at e; exact e.2)⟩
theorem S6g.alloc {w0 w : World} {A : Value} {n : Nat} {M : List Int} {L : Nat → Bool} {i : Nat} (h : S6g w0 A n M L w) (hi : i ≠ 16) (o : Obj) : S6g w0 A n M (fun j => j == i || L j) (w.alloc o) :=
  ⟨h.bl.alloc h.bl.size o, fun e => (h.ow (by simp at e; exact e.2)).alloc o⟩
theorem S6g.app {w0 w w' : World} {A : Value} {n : Nat} {M : List Int} {L : Nat → Bool} (h : S6g w0 A n M L w) (hg : w.grownBy w' A.ownBlock) (hL : ∀ b, A.ownBlock = some b → w0.heap.size ≤ b) : S6g w0 A n M (fun j => j == 16 || L j) w' :=
  ⟨h.bl.grown hg h.bl.size hL, fun e => by simp at e⟩
def V34g (p l c k B n : Nat) (A : Value) (ad : Addr) (x : Int) (M : List Int) : Nat → Value → World → Prop
  | 0, v, w => v = A
  | 1, v, w => v = .pointer (some ⟨p, 0, none⟩)
  | 2, v, w => v = .pointer (some ⟨p, 0, none⟩)
  | 3, v, w => v = .pointer (some ⟨p, 0, none⟩)
  | 4, v, w => v = .pointer (some ⟨p, 3, none⟩)
  | 5, v, w => v = .slice (some ad) l c
  | 6, v, w => v = .pointer (some ⟨p, 0, none⟩)
  | 7, v, w => v = .pointer (some ⟨p, 0, none⟩)
  | 8, v, w => v = .pointer (some ⟨p, 0, none⟩)
  | 9, v, w => v = .pointer (some ⟨p, 3, none⟩)
  | 10, v, w => v = .slice (some ad) l c
  | 11, v, w => v = .int .i64 (l : Nat)
  | 12, v, w => v = .int .i64 (k : Nat)
  | 13, v, w => v = .pointer (some (ad.add k))
  | 14, v, w => v = .int .i64 x
  | 15, v, w => ∃ q, v = .slice (some ⟨q, 0, none⟩) 1 1 ∧ w.heap[q]? = some (.cells #[.int .i64 x] 3 (0, 0)) ∧ A.ownBlock ≠ some q
  | 16, v, w => ∃ g cap, v = .slice (some ⟨g, 0, none⟩) (n + 1) cap ∧ w.ownsRow B 3 1 v (n + 1) ((M ++ [x]).map (Value.int .i64))
  | 17, v, w => v = .int .i64 ((n + 1 : Nat) : Int)
  | 18, v, w => v = .int .i64 0
  | _, _, _ => True
theorem V34g_keep (p l c k B n : Nat) (A : Value) (ad : Addr) (x : Int) (M : List Int) (k1 i1 : Nat) (v : Value) (w w' : World) (hk : k1 ≠ i1) (h : V34g p l c k B n A ad x M i1 v w) (r : R6 A k1 w w') : V34g p l c k B n A ad x M i1 v w' := by
  rcases i1 with _ | _ | _ | _ | _ | _ | _ | _ | _ | _ | _ | _ | _ | _ | _ | _ | _ | _ | _ | _
  · exact h
  · exact h
  · exact h
  · exact h
  · exact h
  · exact h
  · exact h
  · exact h
  · exact h
  · exact h
  · exact h
  · exact h
  · exact h
  · exact h
  · exact h
  · obtain ⟨q, h1, h2, h3⟩ := h
    refine ⟨q, h1, ?_, h3⟩
    by_cases e : k1 = 16
    · exact ((r.1 e).block q (Array.getElem?_eq_some_iff.1 h2).1 (fun x => h3 x.symm)).trans h2
    · exact ((r.2 e).block q (Array.getElem?_eq_some_iff.1 h2).1).trans h2
  · obtain ⟨g, cap, h1, h2⟩ := h
    exact ⟨g, cap, h1, (KC.of (r.2 hk)).own h2⟩
  · exact h
  · exact h
  · trivial
section
variable {w0 w : World} {p t h : Nat} {m : Md} {c : Nat → Value} {mb : Nat → Nat} {e : Int}
theorem adK_any (L : List Int) (x : Int) (q : Bool) (h : (L.any fun y => decide (x = y)) = q) : adK L x = if q = true then L else L ++ [x] := by
  unfold adK
  cases q with
  | true =>
    obtain ⟨y, hy, e⟩ := List.any_eq_true.1 h
    have e : x = y := by simpa using e
    rw [if_pos (by rw [e]; exact hy), if_pos rfl]
  | false =>
    rw [if_neg (fun hx => by
      have : (L.any fun y => decide (x = y)) = true := List.any_eq_true.2 ⟨x, hx, by simp⟩
      rw [h] at this; cases this), if_neg (by simp)]
theorem adK_len (L : List Int) (x : Int) : (adK L x).length ≤ L.length + 1 := by
  unfold adK
  split <;> simp
theorem fold_len (A L : List Int) : (A.foldl adK L).length ≤ L.length + A.length := by
  induction A generalizing L with
  | nil => simp
  | cons a A ih =>
    have h1 := ih (adK L a)
    have h2 := adK_len L a
    simp only [List.foldl_cons, List.length_cons]
    omega
set_option maxRecDepth 20000 in
set_option maxHeartbeats 16000000 in
theorem reveal34g (hG : Gp w0 w p m t h c mb) (l : Nat) (hl : l < 8) (hi : m.ins l = true) (hF : FOk (m.H l)) (hE : m.Ep.getLast? = some e) (hEl : m.Ep.length ≤ 1000) (hKl : m.Kn.length ≤ 1000000) :
    Calls Try.prog 34 #[.pointer (some ⟨p, 0, none⟩), .int .i64 (l : Int)] w (Eg w0 p (revM m l) t h) := by
  obtain ⟨i0, hin, hz0, hz1, hz2⟩ := info_parts info3
  have hP := hG.P
  have c13 := (hP.pc.cell 13 (by decide)).trans (congrArg some hP.ch)
  have lk := has_leaf hG l hl hi
  have hIm := (hG.ha.bs l hl hi).2.2.2
  obtain ⟨mm, hmm⟩ : ∃ mm, mm = mb l := ⟨_, rfl⟩
  rw [← hmm] at lk hIm
  have HMM := Lib.hid hmm
  have H43 := keys43 (some mm) w
  have H42 := sortedg w mm (m.H l) hIm hF
  obtain ⟨SL, hSL⟩ : ∃ SL, SL = keysF (m.H l) := ⟨_, rfl⟩
  rw [← hSL] at H42
  have HSL := Lib.hid hSL
  have HSN0 := Lib.hid (show SL.length ≤ 15 by rw [hSL]; exact keysF_len _)
  have HEX := Lib.hid (show m.Ep.getLastD 0 = e by rw [List.getLastD_eq_getLast?, hE]; rfl)
  have kA : Below w.heap.size w (w.alloc (.cells #[.map (some mm)] 66)) := (Below.refl _ w).alloc (Nat.le_refl _) _
  have HP := Lib.hid (And.intro hP (And.intro hG kA))
  have HE := Lib.hid (And.intro hE (And.intro hEl (And.intro hKl (And.intro HSN0.out (And.intro hl hi)))))
  clear hP hG hIm hE hEl hKl kA hl hi hmm hSL hF
  go_enter Try.func34, Try.ntmps34
  go_wp2_with (first
    | (go_at_call 43; (with_reducible refine H43.mono ?_); rintro e1 w1 ⟨rfl, rfl⟩)
    | (go_at_call 42; (with_reducible refine H42.mono ?_); rintro e1 w2 ⟨sv, rfl, hs2, b2⟩; obtain ⟨sa, sc, rfl⟩ := row_form hs2; obtain ⟨sn, hsn⟩ : ∃ sn, sn = SL.length := ⟨_, rfl⟩; have HS2 := Lib.hid (And.intro hs2 (below_then HP.out.2.2 b2)); have HSN := Lib.hid (And.intro hsn HSN0.out); rw [← hsn] at HS2 ⊢; clear hs2 b2 H42 H43 hsn))
  clear c13 lk
  go_loopg [4, 18] sn (fun gk v4 v18 wr => ∃ (k : Nat) (M : List Int), v18 = .int .i64 k ∧ k + gk = sn ∧ (M.length = k ∧ M = (SL.take k).map (fun i => (m.H l i).getD 0)) ∧ Ro w2.heap.size wr v4 M ∧ Below w2.heap.size w2 wr)
  case atStart => exact ⟨0, [], rfl, by omega, ⟨rfl, rfl⟩, ro_nil _ _, Below.refl _ _⟩
  case round =>
    obtain ⟨k, M, rfl, hkg, hMk, hown, hkb⟩ := hrel
    have HG := Lib.hid (And.intro hkg hMk)
    have BW := Lib.hid (below_then HS2.out.2 hkb)
    obtain ⟨a4, c4, rfl⟩ := row_form hown
    obtain ⟨n, hn⟩ : ∃ n, n = M.length := ⟨_, rfl⟩
    unfold Ro at hown
    rw [← hn] at hown ⊢
    have HN := Lib.hid hn
    have hn4 : n ≤ 500 := by have := HSN.out; have := HE.out.2.2.2.1; omega
    clear hn hMk
    by_cases h1 : k < sn
    · have d1 : decide ((k : Int) < (sn : Int)) = true := by simp; omega
      have d2 : decide (k < sn) = true := by simp; omega
      have q0 : (0 : Int) ≤ (k : Int) := by omega
      have q1 : (k : Int) < (sn : Int) := by omega
      obtain ⟨y, hy⟩ : ∃ y, SL[k]? = some y := ⟨_, List.getElem?_eq_getElem (by rw [← HSN.out.1]; exact h1)⟩
      have hsr := ro_below HS2.out.1 (KC.of hkb)
      obtain ⟨sd, rfl, hcs0⟩ := ro_cell (by unfold Ro at hsr; rw [← HSN.out.1] at hsr; exact hsr) hy
      have Gr := HP.out.2.1.below BW.out
      have c13r := (Gr.P.pc.cell 13 (by decide)).trans (congrArg some Gr.P.ch)
      have lk1 := has_leaf Gr l HE.out.2.2.2.2.1 HE.out.2.2.2.2.2
      have lk2 := in_look (Gr.ha.bs l HE.out.2.2.2.2.1 HE.out.2.2.2.2.2).2.2.2 y
      rw [← HMM.out] at lk1 lk2
      obtain ⟨z, hz⟩ : ∃ z, z = (m.H l y).getD 0 := ⟨_, rfl⟩
      rw [← hz] at lk2
      have HZ := Lib.hid hz
      have HTK := Lib.hid (show SL.take (k + 1) = SL.take k ++ [y] by rw [List.take_add_one, hy]; rfl)
      clear hz
      have hbs := hkb.size
      have HY := Lib.hid (And.intro hkb h1)
      have HOW := Lib.hid hown
      clear hkg Gr hy hsr hkb h1 hown
      go_wp2_with (first
        | (at_builtin; refine wpList_append_own _ rfl _ _ 22 rfl w2.heap.size 3 i0 (.int .i64 0) 1 8 Try.underlying22 hin hz0 hz1 hz2 rfl (by decide) _ _ _ rfl (HOW.out.alloc _) ⟨wr.heap.size, 0, none⟩ 1 1 [.int .i64 z] rfl rfl ?c1 ?c2 ?c3 ?c4 ?c5 ?_; (case c1 => exact cell_one_new _ _ _); (case c2 => simp [Value.oneCell']); (case c3 => unfold maxLen; omega); (case c4 => omega); (case c5 => simp; omega); intro v' w4 o4 g4 _))
      have hkb4 : Below w2.heap.size w2 w4 := (HY.out.1.alloc hbs _).grown g4 (by simp; omega) (fun q hq => (HOW.out.lt q hq).1)
      go_roundg (gk - 1)
      case measure => have := HG.out; have := HY.out.2; omega
      case rel => exact ⟨k + 1, M ++ [z], by have h2 := HY.out.2; have h3 := HSN.out; have h5 := HE.out.2.2.2.1; rw [IntWalk.wrap64_in _ (by omega)]; push_cast; rfl, by have := HG.out; have := HY.out.2; omega, ⟨by simp; have := HG.out.2.1; omega, by rw [HTK.out, HZ.out, HG.out.2.2]; simp⟩, by unfold Ro; rw [List.length_append, List.map_append, ← HN.out]; exact o4, hkb4⟩
    · have d1 : decide ((k : Int) < (sn : Int)) = false := by simp; omega
      have d2 : decide (k < sn) = false := by simp; omega
      have HMF := Lib.hid (show M = allH (m.H l) by rw [allH_keys, ← HSL.out, HG.out.2.2, List.take_of_length_le (by have := HSN.out.1; omega)])
      clear hkg
      obtain ⟨eg, ec, ek, hce, hel, hegl, hecell⟩ := last_cell (HP.out.1.below HS2.out.2).e HE.out.1
      obtain ⟨el, hel2⟩ : ∃ el, el = m.Ep.length := ⟨_, rfl⟩
      rw [← hel2] at hel hce
      obtain ⟨ad, had⟩ : ∃ ad : Addr, ad = ⟨eg, 0, none⟩ := ⟨_, rfl⟩
      have hadb : (ad.add ek).block < w2.heap.size := by rw [add_block, had]; exact hegl
      rw [← had] at hce hecell
      have HPE := Lib.hid (show p < w2.heap.size ∧ w2.cell? ⟨p, 3, none⟩ = some (.slice (some ad) el ec) from ⟨(HP.out.1.below HS2.out.2).pc.lt, ((HP.out.1.below HS2.out.2).pc.cell 3 (by decide)).trans (congrArg some hce)⟩)
      have HPX := Lib.hid (And.intro hadb hecell)
      have q0 : (0 : Int) ≤ (ek : Int) := by omega
      have q1 : (ek : Int) < (el : Int) := by omega
      have hel3 : el ≤ 1000 := by rw [hel2]; exact HE.out.2.1
      have e12 : IntKind.i64.wrap ((el : Int) - 1) = (ek : Int) := by rw [show (el : Int) - 1 = (ek : Int) by omega]; exact IntWalk.i64_in _ (by omega)
      obtain ⟨A, hA⟩ : ∃ A, A = Value.slice a4 n c4 := ⟨_, rfl⟩
      have hoA : wr.ownsRow w2.heap.size 3 1 A n (M.map (Value.int .i64)) := by rw [hA]; exact hown
      clear hce hel hegl hecell had hadb hel2 hown BW
      go_upto_region 6 with (fail)
      rw [← hA]
      have HAQ := Lib.hid hA
      clear hA h1
      refine region_monoN (S6g w2 A n M) (R6 A) (V34g p el ec ek w2.heap.size n A ad e M) [(0, some 34), (1, some 35), (2, some 36), (3, some 37), (4, some 38), (5, some 39), (6, some 40), (7, some 41), (8, some 42), (9, some 43), (10, some 44), (11, some 45), (12, some 46), (13, some 47), (14, some 48), (15, some 49), (16, some 50), (17, some 51), (18, some 52)] (by kernel_rfl) (by kernel_rfl) (by kernel_rfl) (fun k1 i1 v1 w1 w2 hk1 h1 r1 => V34g_keep p el ec ek _ n _ ad e M k1 i1 v1 w1 w2 hk1 h1 r1) (⟨hkb.drew, fun _ => hoA⟩) ?_ (fun vs w' L hS hLL hV => ?_)
      · refine StepsN.cons0  (by kernel_rfl)  ?_ ?_
        · rintro L hC hL w1 hS  K hK
          (try simp only [Act.put, List.setIfInBounds_toArray, List.set_cons_zero, List.set_cons_succ])
          go_simp
          exact hK.out _ _ rfl ⟨hS.step _ (by decide), R6.below (by decide) (Below.refl _ _)⟩
        refine StepsN.cons0  (by kernel_rfl)  ?_ ?_
        · rintro L hC hL w1 hS  K hK
          (try simp only [Act.put, List.setIfInBounds_toArray, List.set_cons_zero, List.set_cons_succ])
          go_simp
          exact hK.out _ _ rfl ⟨hS.step _ (by decide), R6.below (by decide) (Below.refl _ _)⟩
        refine StepsN.cons1 1 (some 35) (by kernel_rfl) rfl ?_ ?_
        · rintro L hC hL w1 hS _ rfl K hK
          (try simp only [Act.put, List.setIfInBounds_toArray, List.set_cons_zero, List.set_cons_succ])
          go_simp
          exact hK.out _ _ rfl ⟨hS.step _ (by decide), R6.below (by decide) (Below.refl _ _)⟩
        refine StepsN.cons1 2 (some 36) (by kernel_rfl) rfl ?_ ?_
        · rintro L hC hL w1 hS _ rfl K hK
          (try simp only [Act.put, List.setIfInBounds_toArray, List.set_cons_zero, List.set_cons_succ])
          go_simp
          exact hK.out _ _ rfl ⟨hS.step _ (by decide), R6.below (by decide) (Below.refl _ _)⟩
        refine StepsN.cons1 3 (some 37) (by kernel_rfl) rfl ?_ ?_
        · rintro L hC hL w1 hS _ rfl K hK
          (try simp only [Act.put, List.setIfInBounds_toArray, List.set_cons_zero, List.set_cons_succ])
          go_simp
          exact hK.out _ _ rfl ⟨hS.step _ (by decide), R6.below (by decide) (Below.refl _ _)⟩
        refine StepsN.cons1 4 (some 38) (by kernel_rfl) rfl ?_ ?_
        · rintro L hC hL w1 hS _ rfl K hK
          (try simp only [Act.put, List.setIfInBounds_toArray, List.set_cons_zero, List.set_cons_succ])
          have hcE := (hS.bl.cell (p := ⟨p, 3, none⟩) HPE.out.1).trans HPE.out.2
          go_simp
          exact hK.out _ _ rfl ⟨hS.step _ (by decide), R6.below (by decide) (Below.refl _ _)⟩
        refine StepsN.cons0  (by kernel_rfl)  ?_ ?_
        · rintro L hC hL w1 hS  K hK
          (try simp only [Act.put, List.setIfInBounds_toArray, List.set_cons_zero, List.set_cons_succ])
          go_simp
          exact hK.out _ _ rfl ⟨hS.step _ (by decide), R6.below (by decide) (Below.refl _ _)⟩
        refine StepsN.cons1 6 (some 40) (by kernel_rfl) rfl ?_ ?_
        · rintro L hC hL w1 hS _ rfl K hK
          (try simp only [Act.put, List.setIfInBounds_toArray, List.set_cons_zero, List.set_cons_succ])
          go_simp
          exact hK.out _ _ rfl ⟨hS.step _ (by decide), R6.below (by decide) (Below.refl _ _)⟩
        refine StepsN.cons1 7 (some 41) (by kernel_rfl) rfl ?_ ?_
        · rintro L hC hL w1 hS _ rfl K hK
          (try simp only [Act.put, List.setIfInBounds_toArray, List.set_cons_zero, List.set_cons_succ])
          go_simp
          exact hK.out _ _ rfl ⟨hS.step _ (by decide), R6.below (by decide) (Below.refl _ _)⟩
        refine StepsN.cons1 8 (some 42) (by kernel_rfl) rfl ?_ ?_
        · rintro L hC hL w1 hS _ rfl K hK
          (try simp only [Act.put, List.setIfInBounds_toArray, List.set_cons_zero, List.set_cons_succ])
          go_simp
          exact hK.out _ _ rfl ⟨hS.step _ (by decide), R6.below (by decide) (Below.refl _ _)⟩
        refine StepsN.cons1 9 (some 43) (by kernel_rfl) rfl ?_ ?_
        · rintro L hC hL w1 hS _ rfl K hK
          (try simp only [Act.put, List.setIfInBounds_toArray, List.set_cons_zero, List.set_cons_succ])
          have hcE := (hS.bl.cell (p := ⟨p, 3, none⟩) HPE.out.1).trans HPE.out.2
          go_simp
          exact hK.out _ _ rfl ⟨hS.step _ (by decide), R6.below (by decide) (Below.refl _ _)⟩
        refine StepsN.cons1 10 (some 44) (by kernel_rfl) rfl ?_ ?_
        · rintro L hC hL w1 hS _ rfl K hK
          (try simp only [Act.put, List.setIfInBounds_toArray, List.set_cons_zero, List.set_cons_succ])
          go_simp
          exact hK.out _ _ rfl ⟨hS.step _ (by decide), R6.below (by decide) (Below.refl _ _)⟩
        refine StepsN.cons1 11 (some 45) (by kernel_rfl) rfl ?_ ?_
        · rintro L hC hL w1 hS _ rfl K hK
          (try simp only [Act.put, List.setIfInBounds_toArray, List.set_cons_zero, List.set_cons_succ])
          go_simp
          first | exact hK.out _ _ rfl ⟨hS.step _ (by decide), R6.below (by decide) (Below.refl _ _)⟩ | exact hK.out _ _ (congrArg (Value.int .i64) e12) ⟨hS.step _ (by decide), R6.below (by decide) (Below.refl _ _)⟩
        refine StepsN.cons2 5 (some 39) 12 (some 46) (by kernel_rfl) rfl rfl ?_ ?_
        · rintro L hC hL w1 hS _ rfl _ rfl K hK
          (try simp only [Act.put, List.setIfInBounds_toArray, List.set_cons_zero, List.set_cons_succ])
          go_simp
          exact hK.out _ _ rfl ⟨hS.step _ (by decide), R6.below (by decide) (Below.refl _ _)⟩
        refine StepsN.cons1 13 (some 47) (by kernel_rfl) rfl ?_ ?_
        · rintro L hC hL w1 hS _ rfl K hK
          (try simp only [Act.put, List.setIfInBounds_toArray, List.set_cons_zero, List.set_cons_succ])
          have hcX := (hS.bl.cell (p := ad.add ek) HPX.out.1).trans HPX.out.2
          go_simp
          exact hK.out _ _ rfl ⟨hS.step _ (by decide), R6.below (by decide) (Below.refl _ _)⟩
        refine StepsN.cons1 14 (some 48) (by kernel_rfl) rfl ?_ ?_
        · rintro L hC hL w1 hS _ rfl K hK
          (try simp only [Act.put, List.setIfInBounds_toArray, List.set_cons_zero, List.set_cons_succ])
          have h15 : L 15 = false := hL
          have h16 := hC.no h15 (j := 16) rfl (by kernel_rfl)
          go_simp
          exact hK.out _ _ ⟨w1.heap.size, rfl, heap_alloc_new w1 _, fun e => by have := ((hS.ow h16).lt _ e).2; omega⟩ ⟨hS.alloc (by decide) _, R6.below (by decide) ((Below.refl _ _).alloc (Nat.le_refl _) _)⟩
        refine StepsN.cons2 0 (some 34) 15 (some 49) (by kernel_rfl) rfl rfl ?_ ?_
        · rintro L hC hL w1 hS _ e0 _ ⟨q15, rfl, h15, n15⟩ K hK
          (try simp only [Act.put, List.setIfInBounds_toArray, List.set_cons_zero, List.set_cons_succ])
          rw [if_pos (by rfl)]
          have h16 : L 16 = false := hL
          refine wp_append_lies w1 (.tmp 34) (.tmp 49) 22 rfl w2.heap.size 3 i0 (.int .i64 0) 1 8 Try.underlying22 hin hz0 hz1 hz2 rfl (by decide) A n (M.map (Value.int .i64)) e0 (hS.ow h16) ⟨q15, 0, none⟩ 1 1 [.int .i64 e] rfl rfl (one_at h15) (by simp [Value.oneCell']) (by omega) (by unfold maxLen; omega) (by omega) hS.bl.size _ rfl ?_
          intro g cap w3 own3 gr3 at3 lt3
          exact hK.out _ _ ⟨g, cap, rfl, by rw [List.map_append]; exact own3⟩ ⟨hS.app gr3 (fun b hb => ((hS.ow h16).lt b hb).1), R6.app gr3⟩
        refine StepsN.cons1 16 (some 50) (by kernel_rfl) rfl ?_ ?_
        · rintro L hC hL w1 hS _ ⟨g16, c16, rfl, o16⟩ K hK
          (try simp only [Act.put, List.setIfInBounds_toArray, List.set_cons_zero, List.set_cons_succ])
          go_simp
          exact hK.out _ _ rfl ⟨hS.step _ (by decide), R6.below (by decide) (Below.refl _ _)⟩
        refine StepsN.cons0  (by kernel_rfl)  ?_ ?_
        · rintro L hC hL w1 hS  K hK
          (try simp only [Act.put, List.setIfInBounds_toArray, List.set_cons_zero, List.set_cons_succ])
          go_simp
          exact hK.out _ _ rfl ⟨hS.step _ (by decide), R6.below (by decide) (Below.refl _ _)⟩
        exact StepsN.nil
      obtain ⟨gq, cq, hv16, ho16⟩ := hV 16 (by decide)
      have hv17 : vs 17 = .int .i64 ((n + 1 : Nat) : Int) := hV 17 (by decide)
      have hv18 : vs 18 = .int .i64 0 := hV 18 (by decide)
      have HQ := Lib.hid (And.intro hS.bl ho16)
      have HV16 := Lib.hid (val_block hv16)
      have ho16b := ho16
      rw [hv16] at ho16b
      obtain ⟨aq, cq2, hvq, hlq, hiq⟩ := own_ilz (L := M ++ [e]) ho16b
      obtain ⟨nn, hnn⟩ : ∃ nn, nn = n + 1 := ⟨_, rfl⟩
      simp only [putl, List.foldl_cons, List.foldl_nil, Act.put, List.setIfInBounds_toArray, List.set_cons_zero, List.set_cons_succ]
      rw [hv16, hv17, hv18]
      injection hvq with hq1 hq2 hq3
      subst hq1
      rw [← hnn]
      have HIQ := Lib.hid hiq
      have HNN := Lib.hid (And.intro hnn hlq)
      clear hV hS hv16 hv17 hv18 ho16 ho16b hlq hq2 hq3 hiq hnn e12
      go_wp2_with fail
      have hbw9 := below_then HS2.out.2 HQ.out.1
      have hgq : gq < w'.heap.size := (HQ.out.2.lt gq HV16.out).2
      have hgq2 : w2.heap.size ≤ gq := (HQ.out.2.lt gq HV16.out).1
      have HP9 := Lib.hid (show Gp w0 w' p m t h c mb ∧ (c 2).ownBlock ≠ some gq ∧ gq < w'.heap.size from ⟨HP.out.2.1.below hbw9, (fun e => by have := (HP.out.1.k.lt gq e).2; have := HS2.out.2.size; omega), hgq⟩)
      have HG2 := Lib.hid hgq2
      obtain ⟨wz, hwz⟩ : ∃ wz, wz = w' := ⟨_, rfl⟩
      rw [← hwz] at HP9 HIQ ⊢
      clear hbw9 hgq hgq2 hwz HQ
      go_loopg [52] nn (fun gk v52 wr => ∃ (k : Nat) (c' : Nat → Value) (KK : List Int), v52 = .int .i64 k ∧ k + gk = nn ∧ Gp w0 wr p { m with Kn := KK } t h c' mb ∧ (c' 2).ownBlock ≠ some gq ∧ wr.heap[gq]? = wz.heap[gq]? ∧ gq < wr.heap.size ∧ (KK.length ≤ m.Kn.length + k ∧ KK = ((M ++ [e]).take k).foldl adK m.Kn))
      case atStart => exact ⟨0, c, m.Kn, rfl, by omega, HP9.out.1, HP9.out.2.1, rfl, HP9.out.2.2, Nat.le_refl _, rfl⟩
      case round =>
        obtain ⟨k, c', KK, rfl, hkg, hGk, hne, hsame, hglt, hlen⟩ := hrel
        have HG := Lib.hid (And.intro hkg hlen.1)
        have HKK := Lib.hid hlen.2
        by_cases h2 : k < nn
        · have d1 : decide ((k : Int) < (nn : Int)) = true := by simp; omega
          have d2 : decide (k < nn) = true := by simp; omega
          obtain ⟨x, hx⟩ : ∃ x, (M ++ [e])[k]? = some x := ⟨_, List.getElem?_eq_getElem (by have := HNN.out; omega)⟩
          have HTX := Lib.hid (show (M ++ [e]).take (k + 1) = (M ++ [e]).take k ++ [x] by rw [List.take_add_one, hx]; rfl)
          have hcx : wr.cell? ((⟨gq, 0, none⟩ : Addr).add k) = some (.int .i64 x) := (World.cell?_of_block (by rw [add_block]; exact hsame)).trans (HIQ.out.cells _ rfl k x hx).2
          rw [add_zero_mid] at hcx
          have hPk := hGk.P
          have cK := hPk.pc.cell 2 (by decide)
          obtain ⟨a2, n2, c2, hc2, hn2, hi2⟩ : ∃ a2 n2 c2, c' 2 = .slice a2 n2 c2 ∧ n2 = KK.length ∧ Ilz wr.heap.size wr a2 KK := by
            obtain ⟨a, cq5, h5, h6, h7⟩ := own_ilz hPk.k
            exact ⟨a, KK.length, cq5, h5, rfl, h7⟩
          rw [hc2] at cK
          have hn2b : n2 ≤ 1000501 := by have h7 := HE.out.2.2.1; have h8 := HNN.out.1; omega
          have H44 := contains44 x a2 n2 c2 _ KK wr hn2 (by omega) hi2
          have hok := hPk.k
          rw [hc2, ← hn2] at hok
          have hbs : w0.heap.size ≤ wr.heap.size := hPk.bl.size
          have HPK := Lib.hid (And.intro hPk (And.intro hGk (And.intro hne (And.intro hsame (And.intro hglt (And.intro hc2 (And.intro hn2 h2)))))))
          have q0 : (0 : Int) ≤ (k : Int) := by omega
          have q1 : (k : Int) < (nn : Int) := by omega
          clear hPk hGk hne hsame hglt hlen hkg hx hc2 hi2 hn2 h2
          obtain ⟨q, hq⟩ : ∃ q, (KK.any fun y => decide (x = y)) = q := ⟨_, rfl⟩
          rw [hq] at H44
          have HAD := Lib.hid (adK_any KK x q hq)
          clear hq
          cases q with
          | true =>
            go_wp2_with (go_at_call 44; (with_reducible refine H44.mono ?_); rintro e9 w9 ⟨rfl, hw9⟩; obtain rfl : wr = w9 := hw9.symm)
            go_roundg (gk - 1)
            case measure => have := HG.out.1; have := HPK.out.2.2.2.2.2.2.2; omega
            case rel =>
              exact ⟨k + 1, c', KK, by have := HNN.out; have h2 := HPK.out.2.2.2.2.2.2.2; rw [IntWalk.wrap64_in _ (by omega)]; push_cast; rfl, by have := HG.out.1; have := HPK.out.2.2.2.2.2.2.2; omega, HPK.out.2.1, HPK.out.2.2.1, HPK.out.2.2.2.1, HPK.out.2.2.2.2.1, by have := HG.out.2; omega, by have h9 := HAD.out; rw [if_pos (by trivial)] at h9; rw [HTX.out, List.foldl_append, ← HKK.out]; exact h9.symm⟩
          | false =>
            go_wp2_with (first
              | (go_at_call 44; (with_reducible refine H44.mono ?_); rintro e9 w9 ⟨rfl, hw9⟩; obtain rfl : wr = w9 := hw9.symm)
              | (at_builtin; refine wpList_append_lies _ rfl (.tmp 69) (.tmp 71) 22 rfl w0.heap.size 3 i0 (.int .i64 0) 1 8 Try.underlying22 hin hz0 hz1 hz2 rfl (by decide) (.slice a2 n2 c2) n2 (KK.map (Value.int .i64)) rfl (hok.alloc _) ⟨wr.heap.size, 0, none⟩ 1 1 [.int .i64 x] rfl rfl ?d1 ?d2 ?d3 ?d4 ?d5 ?d6 _ rfl ?_; (case d1 => exact cell_one_new _ _ _); (case d2 => simp [Value.oneCell']); (case d3 => omega); (case d4 => unfold maxLen; omega); (case d5 => omega); (case d6 => simp <;> omega); intro g cap2 w5 own5 gr5 at5 lt5; obtain ⟨hq1, hq2, hm5, hp5⟩ := HPK.out.1.factsK' HPK.out.2.2.2.2.2.1 HPK.out.2.2.2.2.2.2.1 own5 gr5 at5; have hkn5 := kn_known (cap2 := cap2) HPK.out.1 HPK.out.2.2.2.2.2.1 gr5 at5; have HP5 := Lib.hid (And.intro (HPK.out.2.1.keep hp5 hm5 hkn5) (And.intro gr5 (And.intro at5 lt5))); clear own5 gr5 at5 lt5 hm5 hp5 hkn5))
            have hP5 := HP5.out.1
            have hne5 : (Value.slice a2 n2 c2).ownBlock ≠ some gq := by have := HPK.out.2.2.1; rwa [HPK.out.2.2.2.2.2.1] at this
            have hng : g ≠ gq := fun e9 => by
              rcases HP5.out.2.2.1 with h9 | h9
              · exact hne5 (by rw [h9, e9])
              · have := HPK.out.2.2.2.2.1; simp at h9; omega
            have hpq : gq ≠ p := by have := HG2.out; have := HPE.out.1; omega
            have hs5 : (w5.setCell ⟨p, 2, none⟩ (.slice (some ⟨g, 0, none⟩) (n2 + 1) cap2)).heap[gq]? = wz.heap[gq]? :=
              (heap_setCell_other w5 ⟨p, 2, none⟩ gq _ hpq).trans ((HP5.out.2.1.block gq (by have := HPK.out.2.2.2.2.1; simp; omega) (fun e8 => hne5 e8.symm)).trans ((Below.heap_alloc _ _ _ HPK.out.2.2.2.2.1).trans HPK.out.2.2.2.1))
            have hl5 : gq < (w5.setCell ⟨p, 2, none⟩ (.slice (some ⟨g, 0, none⟩) (n2 + 1) cap2)).heap.size := by
              have h8 := HP5.out.2.1.size
              have h9 := HPK.out.2.2.2.2.1
              simp at h8 ⊢
              omega
            have HREL := Lib.hid (And.intro hP5 (And.intro hng (And.intro hs5 hl5)))
            clear hP5 hne5 hng hpq hs5 hl5
            go_roundg (gk - 1)
            case measure => have := HG.out.1; have := HPK.out.2.2.2.2.2.2.2; omega
            case rel =>
              exact ⟨k + 1, _, KK ++ [x], by have := HNN.out; have h2 := HPK.out.2.2.2.2.2.2.2; rw [IntWalk.wrap64_in _ (by omega)]; push_cast; rfl, by have := HG.out.1; have := HPK.out.2.2.2.2.2.2.2; omega, HREL.out.1, fun e8 => HREL.out.2.1 (by injection e8), HREL.out.2.2.1, HREL.out.2.2.2, by rw [List.length_append]; have := HG.out.2; simp; omega, by have h9 := HAD.out; rw [if_neg (by simp)] at h9; rw [HTX.out, List.foldl_append, ← HKK.out]; exact h9.symm⟩
        · have d1 : decide ((k : Int) < (nn : Int)) = false := by simp; omega
          have d2 : decide (k < nn) = false := by simp; omega
          clear hkg
          go_wp2_with fail
          go_end0
          have hK2 := HKK.out
          rw [List.take_of_length_le (by rw [List.length_append]; have h1 := HNN.out; have h2 := HG.out; have h3 := HN.out; simp; omega), HMF.out, ← HEX.out] at hK2
          rw [hK2] at hGk
          exact ⟨rfl, c', mb, hGk⟩
end
end Go.Proofs.Ytllgdlfdmmdffaa
