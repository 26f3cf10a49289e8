/- The document's Crash, Sync, Read, Image. -/
import Derived.Test.YtklndocfgbbegaaS
namespace Go.Proofs.Ytklndocfgbbegaa
open Go.ChangeShapes Go.WideShapes Go.ChangeAt Go.RowKit
set_option linter.unusedSimpArgs false
set_option linter.unusedVariables false
section
variable {w : World} {gt n : Nat} {d : DS}
theorem rcrash31 (hD : Rf w gt n d) (z : Int) : Calls Try.prog 31 #[.pointer (some ⟨gt, 0, none⟩), .int .i64 z] w fun e w' => e = .returned (.tuple #[]) ∧ Rf w' gt n (crashed d z) ∧ Ft (XR gt w) w w' := by
  have c3 := hD.c3
  have HS := Lib.hid (rlast35 w gt n d hD z)
  unfold crashed
  cases hd : d.down with
  | true =>
    rw [hd] at c3
    go_enter Try.func31, Try.ntmps31
    go_wp2_with fail
    exact bodyPost_ret (results_none rfl _ _ _) rfl ⟨rfl, hD, Ft.refl _ _⟩
  | false =>
    rw [hd] at c3
    go_enter Try.func31, Try.ntmps31
    go_wp2_with (first | (go_at_call 35; (with_reducible refine HS.out.mono ?_); rintro e w2 ⟨rfl, hD2, hF2⟩; have c2 := hD2.c2; have c3' := hD2.c3; have f2 := hD2.frozen 2; have f3 := hD2.frozen 3))
    go_end0
    have hD3 : Rf (w2.setCell ⟨gt, 2, none⟩ (.int .i64 (-1))) gt n { S := fin d.S (d.W.take z.toNat), W := [], fuse := -1, down := d.down } := hD2.set23 2 _ _ rfl rfl (by show -1 ≤ (-1 : Int) ∧ (-1 : Int) < _; omega) (fun _ _ => rfl)
    have hD4 : Rf ((w2.setCell ⟨gt, 2, none⟩ (.int .i64 (-1))).setCell ⟨gt, 3, none⟩ (.bool true)) gt n { S := fin d.S (d.W.take z.toNat), W := [], fuse := -1, down := true } := hD3.set23 3 _ _ rfl rfl (by show -1 ≤ (-1 : Int) ∧ (-1 : Int) < _; omega) (fun _ _ => rfl)
    exact ⟨rfl, by simpa using hD4, (hF2.setCell _ _ (.inl rfl)).setCell _ _ (.inl rfl)⟩
theorem rsync29 (hD : Rf w gt n d) (hd : d.down = false) : Calls Try.prog 29 #[.pointer (some ⟨gt, 0, none⟩)] w fun e w' => e = .returned (.int .i64 0) ∧ Rf w' gt n { d with S := fin d.S d.W, W := [] } ∧ Ft (XR gt w) w w' := by
  have c3 := hD.c3
  obtain ⟨La, Lc, Wa, Wc, e0, e1⟩ := hD.slots
  rw [hd] at c3
  have HS := Lib.hid (rlast35 w gt n d hD d.W.length)
  go_enter Try.func29, Try.ntmps29
  go_wp2_with (first | (go_at_call 35; (with_reducible refine HS.out.mono ?_); rintro e w2 ⟨rfl, hD2, hF2⟩))
  go_ret
  rw [Int.toNat_natCast, List.take_of_length_le (Nat.le_refl _)] at hD2
  exact ⟨rfl, hD2, hF2⟩
theorem rsync29n (hD : Rf w gt n d) (hd : d.down = true) : Calls Try.prog 29 #[.pointer (some ⟨gt, 0, none⟩)] w fun e w' => e = .returned (.int .i64 201) ∧ w' = w := by
  have c3 := hD.c3
  rw [hd] at c3
  go_enter Try.func29, Try.ntmps29
  go_wp2_with fail
  go_ret
  exact ⟨rfl, rfl⟩
theorem Sl.byt {v : Value} {D : Sct} (h : Sl gt w v D) : ∃ k c, v = .slice (some ⟨k, 0, none⟩) 512 c ∧ D.length = 512 ∧ k < w.heap.size ∧ Byt w gt (some ⟨k, 0, none⟩) D := by
  obtain ⟨k, c, e, hD, hg, ht, hr⟩ := h
  refine ⟨k, c, e, hD, ht.lt, (fun h => by cases h), fun a ha => ?_⟩
  injection ha with ha
  subst ha
  exact ⟨ht.lt, by show k ≠ gt; omega, fun j x hx => by rw [Addr.add_mid]; exact hr j _ (by rw [List.getElem?_map, hx]; rfl)⟩
set_option maxRecDepth 4000 in
set_option maxHeartbeats 4000000 in
theorem rread33 (hD : Rf w gt n d) (i : Nat) (hi : i < n) (hd : d.down = false) (hW : d.W.length ≤ 1000000) :
    Calls Try.prog 33 #[.pointer (some ⟨gt, 0, none⟩), .int .i64 i] w fun e w' => ∃ v, e = .returned (.tuple #[v, .int .i64 0]) ∧ Own w' w.heap.size v 512 (look (d.S i) d.W i) ∧ Below w.heap.size w w' := by
  have c3 := hD.c3
  rw [hd] at c3
  obtain ⟨lb, lc, kb, cb, e0, e1, hsl⟩ := hD.sec i hi
  obtain ⟨La, Lc, Wa, Wc, _, e2⟩ := hD.slots
  have z1 : (0 : Int) ≤ (i : Int) := by omega
  have z2 : (i : Int) < (n : Int) := by omega
  have d1 : decide ((i : Int) < 0) = false := by simp
  have d2 : decide ((i : Int) ≥ (n : Int)) = false := by simp; omega
  have d3 : decide (n ≤ i) = false := by simp; omega
  have hgl := hD.lt
  go_enter Try.func33, Try.ntmps33
  go_wp2_with fail
  go_loopg [6, 7] d.W.length (fun gk v6 v7 wr => ∃ k : Nat, v7 = .int .i64 k ∧ k + gk = d.W.length ∧ Sl gt w v6 (look (d.S i) (d.W.take k) i) ∧ wr = w)
  case atStart => exact ⟨0, rfl, by omega, hsl, rfl⟩
  case round =>
    obtain ⟨k, rfl, hk, hs, rfl⟩ := hrel
    have HK := Lib.hid hk
    by_cases hkl : k < d.W.length
    · have d4 : decide (k < d.W.length) = true := by simp; omega
      have q0 : (0 : Int) ≤ (k : Int) := by omega
      have q1 : (k : Int) < (d.W.length : Int) := by omega
      obtain ⟨p, hp⟩ : ∃ p, d.W[k]? = some p := ⟨d.W[k]'hkl, List.getElem?_eq_getElem hkl⟩
      obtain ⟨wb, wc', kb2, cb2, f1, f2, f3, hsl2⟩ := hD.wait k p hp
      have eT : look (d.S i) (d.W.take (k + 1)) i = if p.1 = i then p.2 else look (d.S i) (d.W.take k) i := by
        rw [List.take_add_one, hp]
        exact look_snoc _ _ _ _
      have HT := Lib.hid eT
      clear hk hp eT e2
      by_cases hpi : p.1 = i
      · have d5 : ((p.1 : Int) == (i : Int)) = true := by simp; omega
        go_wp2_with fail
        go_roundg (gk - 1)
        case measure => have := HK.out; omega
        case rel => exact ⟨k + 1, by simp, by have := HK.out; omega, by rw [HT.out, if_pos hpi]; exact hsl2, rfl⟩
      · have d5 : ((p.1 : Int) == (i : Int)) = false := by simp; omega
        go_wp2_with fail
        go_roundg (gk - 1)
        case measure => have := HK.out; omega
        case rel => exact ⟨k + 1, by simp, by have := HK.out; omega, by rw [HT.out, if_neg hpi]; exact hs, rfl⟩
    · have d4 : decide (k < d.W.length) = false := by simp; omega
      obtain ⟨kb3, cb3, rfl, hlen, hkl3, hb⟩ := hs.byt
      rw [List.take_of_length_le (by omega)] at hb hlen
      obtain ⟨T, hT⟩ : ∃ T, T = look (d.S i) d.W i := ⟨_, rfl⟩
      rw [← hT] at hb hlen
      have HT := Lib.hid hT
      have HL := Lib.hid hlen.symm
      clear hk hs hsl hT hlen
      go_wp2_with (first
        | (at_builtin; refine app_own rfl (.tmp 57) (.tmp 58) rfl wr.heap.size (.slice (some ⟨wr.heap.size, 0, none⟩) 0 0) 0 [] rfl (own_new wr) gt (some ⟨kb3, 0, none⟩) 512 cb3 T rfl HL.out (hb.alloc _) ?q1 ?q2 ?_; (case q1 => omega); (case q2 => simp); intro v4 w4 o4 g4; have b4 := own_below (own_new wr) ((Below.refl _ wr).alloc (Nat.le_refl _) _) g4; clear g4))
      refine bodyPost_ret (results_tmp2 rfl _ _ _) rfl ?_
      exact ⟨_, rfl, by rw [← HT.out]; simpa using o4, b4⟩
theorem rread33n (hD : Rf w gt n d) (z : Int) (hm : Mayc n d z ≠ 0) :
    Calls Try.prog 33 #[.pointer (some ⟨gt, 0, none⟩), .int .i64 z] w fun e w' => e = .returned (.tuple #[.slice none 0 0, .int .i64 (Mayc n d z)]) ∧ w' = w := by
  have c3 := hD.c3
  obtain ⟨La, Lc, Wa, Wc, e0, e1⟩ := hD.slots
  obtain ⟨mm, hmm⟩ : ∃ mm, Mayc n d z = mm := ⟨_, rfl⟩
  rw [hmm] at hm ⊢
  unfold Mayc at hmm
  go_enter Try.func33, Try.ntmps33
  cases hd : d.down with
  | true =>
    rw [hd] at c3 hmm
    simp only [if_true] at hmm
    subst hmm
    go_wp2_with fail
    exact bodyPost_ret (results_tmp2 rfl _ _ _) rfl ⟨rfl, rfl⟩
  | false =>
    rw [hd] at c3 hmm
    simp only [Bool.false_eq_true, if_false] at hmm
    by_cases h1 : z < 0
    · have d1 : decide (z < 0) = true := by simp; omega
      rw [if_pos (.inl h1)] at hmm
      subst hmm
      go_wp2_with fail
      exact bodyPost_ret (results_tmp2 rfl _ _ _) rfl ⟨rfl, rfl⟩
    · have d1 : decide (z < 0) = false := by simp; omega
      by_cases h2 : (n : Int) ≤ z
      · have d2 : decide (z ≥ (n : Int)) = true := by simp; omega
        have d3 : decide ((n : Int) ≤ z) = true := by simp; omega
        rw [if_pos (.inr h2)] at hmm
        subst hmm
        go_wp2_with fail
        exact bodyPost_ret (results_tmp2 rfl _ _ _) rfl ⟨rfl, rfl⟩
      · rw [if_neg (by omega)] at hmm
        exact absurd hmm.symm hm
set_option maxRecDepth 4000 in
set_option maxHeartbeats 4000000 in
theorem rimage23 (hD : Rf w gt n d) (hn : n ≤ 4096) (hlen : ∀ i, i < n → (d.S i).length = 512) :
    Calls Try.prog 23 #[.pointer (some ⟨gt, 0, none⟩)] w fun e w' => ∃ v, e = .returned v ∧ Own w' w.heap.size v (n * 512) (img d.S n) ∧ Below w.heap.size w w' := by
  obtain ⟨La, Lc, Wa, Wc, e0, e1⟩ := hD.slots
  have hgl := hD.lt
  go_enter Try.func23, Try.ntmps23
  go_wp2_with fail
  go_loopg [3, 4] n (fun gk v v4 wr => ∃ (j : Nat), v4 = .int .i64 j ∧ j + gk = n ∧ Own wr w.heap.size v (j * 512) (img d.S j) ∧ Below w.heap.size w wr)
  case atStart => exact ⟨0, rfl, by omega, World.ownsRow_nil _ _ _ _, Below.refl _ _⟩
  case round =>
    obtain ⟨j, rfl, hj, ho, hb⟩ := hrel
    have hDr := hD.below hb
    have HJ := Lib.hid hj
    by_cases hjn : j < n
    · have d1 : decide (j < n) = true := by simp; omega
      have z1 : (0 : Int) ≤ (j : Int) := by omega
      have z2 : (j : Int) < (n : Int) := by omega
      obtain ⟨lb, lc, kb, cb, f0, f1, hsl⟩ := hDr.sec j hjn
      obtain ⟨kb3, cb3, e3, hl3, hkl3, hb3⟩ := hsl.byt
      injection e3 with e4 _ e5
      injection e4 with e4
      injection e4 with e4
      subst e4
      subst e5
      have HL := Lib.hid hl3.symm
      obtain ⟨a3, c3, rfl⟩ := row_form ho
      have hsz := hb.size
      obtain ⟨T, hT⟩ : ∃ T, T = img d.S j := ⟨_, rfl⟩
      rw [← hT] at ho
      clear hj e0 e1 hl3 hsl
      go_wp2_with (first
        | (at_builtin; refine app_own rfl (.tmp 14) (.tmp 21) rfl w.heap.size (.slice a3 (j * 512) c3) (j * 512) T rfl ho gt (some ⟨kb, 0, none⟩) 512 cb (d.S j) rfl HL.out hb3 ?q1 ?q2 ?_; (case q1 => omega); (case q2 => exact hsz); intro v4 w4 o4 g4; have b4 := own_below ho hb g4; clear g4 ho))
      go_roundg (gk - 1)
      case measure => have := HJ.out; omega
      case rel => exact ⟨j + 1, by simp, by have := HJ.out; omega, by rw [img_succ, ← hT, show (j + 1) * 512 = j * 512 + 512 by omega]; exact o4, b4⟩
    · have hd : decide (j < n) = false := by simp; omega
      obtain ⟨La', Lc', Wa', Wc', e0', e1'⟩ := hDr.slots
      obtain rfl : j = n := by omega
      clear hj e0 e1
      go_wp2_with fail
      go_ret
      exact ⟨_, rfl, ho, hb⟩
end
end Go.Proofs.Ytklndocfgbbegaa
