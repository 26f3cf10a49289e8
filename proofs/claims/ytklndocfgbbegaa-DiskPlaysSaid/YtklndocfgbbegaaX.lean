/- A call, of the program's disk and of the document's. -/
import Derived.Test.YtklndocfgbbegaaW
namespace Go.Proofs.Ytklndocfgbbegaa
open Go.ChangeShapes Go.WideShapes Go.ChangeAt Go.RowKit
set_option linter.unusedSimpArgs false
set_option linter.unusedVariables false
def Rd (z : Int) : Prop := z ≠ 0 ∧ z ≠ 1 ∧ z ≠ 2 ∧ z ≠ 3 ∧ z ≠ 4 ∧ z ≠ 5
/-- What a call answers, and what it leaves. -/
def stepD (n : Nat) (d : DS) (z I : Int) (B : Sct) : Int × Sct × DS :=
  if z = 0 ∨ z = 1 then ((wrote n d I B).1, [], (wrote n d I B).2)
  else if z = 2 then (if d.down then (201, [], d) else (0, [], { d with S := fin d.S d.W, W := [] }))
  else if z = 3 then (0, [], { d with fuse := if I < -1 then -1 else I })
  else if z = 4 then (0, [], crashed d I)
  else if z = 5 then (0, [], { d with down := false })
  else if Mayc n d I = 0 then (0, look (d.S I.toNat) d.W I.toNat, d) else (Mayc n d I, [], d)
/-- The text of an answer. -/
def Tx (z : Int) (w : World) (v : Value) (T : Sct) : Prop := (v = .slice none 0 0 ∧ T = []) ∨ (Rd z ∧ ∃ q c, v = .slice (some ⟨q, 0, none⟩) 512 c ∧ T.length = 512 ∧ w.rangeAt q 0 (T.map c8))
theorem Tx.below {z : Int} {w w' : World} {v : Value} {T : Sct} (h : Tx z w v T) (j : Rd z → Below w.heap.size w w') : Tx z w' v T := by
  rcases h with h | ⟨hz, q, c, e, hT, hr⟩
  · exact .inl h
  · refine .inr ⟨hz, q, c, e, hT, fun i u hu => ?_⟩
    have := hr i u hu
    exact (World.cell?_of_block (a := ⟨q, _, none⟩) ((j hz).block q (World.block_lt_of_cell? w _ this))).trans this
theorem Tx.conv {z : Int} {w : World} {v : Value} {T : Sct} (h : Tx z w v T) : (convert 28 9 v).run Try.prog w = .ok (.string (strOf T)) w := by
  rcases h with ⟨rfl, rfl⟩ | ⟨_, q, c, rfl, hT, hr⟩
  · exact convnone 0 w
  · exact conv_bys hT.symm ⟨(fun e => by cases e), fun a ha j x hx => by
      injection ha with ha
      subst ha
      rw [Addr.add_mid]
      exact hr j _ (by rw [List.getElem?_map, hx]; rfl)⟩
theorem mayc_in {n : Nat} {d : DS} {I : Int} (h : Mayc n d I = 0) : d.down = false ∧ 0 ≤ I ∧ I < n := by
  unfold Mayc at h
  split at h
  · omega
  · rename_i h9
    refine ⟨by simpa using h9, ?_⟩
    split at h <;> omega
section
variable {A : Nat → Prop} {w : World} {g b n : Nat} {d : DS}
set_option maxRecDepth 4000 in
set_option maxHeartbeats 4000000 in
theorem does21 (hD : Dk A w g b n d) (hA : ∀ k, w.heap.size ≤ k → A k) (what I z : Int) (ao : Option Addr) (m c : Nat) (B : Sct) (hm : m = B.length) (hB : Byg g w ao B) (hW : d.W.length ≤ 1000000) (hI : I < 9223372036854775808) (hz : bits BinOp.and IntKind.i64 what 7 = z) :
    Calls Try.prog 21 #[.pointer (some ⟨g, 0, none⟩), .agg #[.int .i64 what, .int .i64 I, .slice ao m c]] w fun e w' => ∃ v, e = .returned (.tuple #[v, .int .i64 (stepD n d z I B).1]) ∧ Tx z w' v (stepD n d z I B).2.1 ∧ Dk A w' g b n (stepD n d z I B).2.2 ∧ Frm A g b w w' := by
  obtain ⟨x, hx⟩ : ∃ x, w.alloc (.cells #[.int .i64 what, .int .i64 I, .slice ao m c] 35) = x := ⟨_, rfl⟩
  have hbx : Below w.heap.size w x := by rw [← hx]; exact (Below.refl _ _).alloc (Nat.le_refl _) _
  have hDx := hD.below hbx
  have hBx := hB.below hbx
  have hsx := hbx.size
  have HX := Lib.hid hx
  have hAx : ∀ k, x.heap.size ≤ k → A k := fun k hk => hA k (Nat.le_trans hsx hk)
  have F0 : Frm A g b w x := Frm.of_below hbx
  have HM := Lib.hid hm
  by_cases h0 : z = 0
  · subst h0
    have eS : stepD n d 0 I B = ((wrote n d I B).1, [], (wrote n d I B).2) := if_pos (by omega)
    rw [eS]
    have HC := Lib.hid (write10 A x g b n d hDx hAx I ao m c B hm hBx hW)
    clear hm hx
    go_enter Try.func21, Try.ntmps21
    go_wp2_with (first | (go_at_call 10; rw [HX.out]; (with_reducible refine HC.out.mono ?_); rintro e w3 ⟨rfl, hD3, hF3⟩))
    first | go_ret | skip
    exact bodyPost_ret (results_tmp2 rfl _ _ _) rfl ⟨_, rfl, .inl ⟨rfl, rfl⟩, hD3, F0.trans hF3⟩
  by_cases h1 : z = 1
  · subst h1
    have eS : stepD n d 1 I B = ((wrote n d I B).1, [], (wrote n d I B).2) := if_pos (by omega)
    rw [eS]
    have HC := Lib.hid (write10 A x g b n d hDx hAx I ao m c B hm hBx hW)
    clear hm hx
    go_enter Try.func21, Try.ntmps21
    go_wp2_with (first | (go_at_call 10; rw [HX.out]; (with_reducible refine HC.out.mono ?_); rintro e w3 ⟨rfl, hD3, hF3⟩))
    first | go_ret | skip
    exact bodyPost_ret (results_tmp2 rfl _ _ _) rfl ⟨_, rfl, .inl ⟨rfl, rfl⟩, hD3, F0.trans hF3⟩
  by_cases h2 : z = 2
  · subst h2
    cases hdn : d.down with
    | true =>
      have eS : stepD n d 2 I B = (201, [], d) := by unfold stepD; rw [if_neg (by omega), if_pos rfl, if_pos hdn]
      rw [eS]
      have HC := Lib.hid (sync14n A x g b n d hDx hdn)
      clear hm hx
      go_enter Try.func21, Try.ntmps21
      go_wp2_with (first | (go_at_call 14; rw [HX.out]; (with_reducible refine HC.out.mono ?_); rintro e w3 ⟨rfl, rfl⟩))
      first | go_ret | skip
      exact bodyPost_ret (results_tmp2 rfl _ _ _) rfl ⟨_, rfl, .inl ⟨rfl, rfl⟩, hDx, F0⟩
    | false =>
      have eS : stepD n d 2 I B = (0, [], { d with S := fin d.S d.W, W := [] }) := by unfold stepD; rw [if_neg (by omega), if_pos rfl, if_neg (by rw [hdn]; simp)]
      rw [eS]
      have HC := Lib.hid (sync14 A x g b n d hDx hAx hdn)
      clear hm hx
      go_enter Try.func21, Try.ntmps21
      go_wp2_with (first | (go_at_call 14; rw [HX.out]; (with_reducible refine HC.out.mono ?_); rintro e w3 ⟨rfl, hD3, hF3⟩))
      first | go_ret | skip
      exact bodyPost_ret (results_tmp2 rfl _ _ _) rfl ⟨_, rfl, .inl ⟨rfl, rfl⟩, by simpa [hdn] using hD3, F0.trans hF3⟩
  by_cases h3 : z = 3
  · subst h3
    have eS : stepD n d 3 I B = (0, [], { d with fuse := if I < -1 then -1 else I }) := by unfold stepD; rw [if_neg (by omega), if_neg (by omega), if_pos rfl]
    obtain ⟨fu, hfu⟩ : ∃ fu, (if I < -1 then -1 else I) = fu := ⟨_, rfl⟩
    have HA9 := arm9 hDx I hI
    rw [hfu] at eS HA9
    rw [eS]
    clear eS hfu
    have HC := Lib.hid (HA9)
    clear hm hx
    go_enter Try.func21, Try.ntmps21
    go_wp2_with (first | (go_at_call 9; rw [HX.out]; (with_reducible refine HC.out.mono ?_); rintro e w3 ⟨rfl, hD3, hF3⟩))
    first | go_ret | skip
    exact bodyPost_ret (results_tmp2 rfl _ _ _) rfl ⟨_, rfl, .inl ⟨rfl, rfl⟩, hD3, F0.trans hF3⟩
  by_cases h4 : z = 4
  · subst h4
    have eS : stepD n d 4 I B = (0, [], crashed d I) := by unfold stepD; rw [if_neg (by omega), if_neg (by omega), if_neg (by omega), if_pos rfl]
    rw [eS]
    have HC := Lib.hid (crash16 A x g b n d hDx hAx I)
    clear hm hx
    go_enter Try.func21, Try.ntmps21
    go_wp2_with (first | (go_at_call 16; rw [HX.out]; (with_reducible refine HC.out.mono ?_); rintro e w3 ⟨rfl, hD3, hF3⟩))
    first | go_ret | skip
    exact bodyPost_ret (results_tmp2 rfl _ _ _) rfl ⟨_, rfl, .inl ⟨rfl, rfl⟩, hD3, F0.trans hF3⟩
  by_cases h5 : z = 5
  · subst h5
    have eS : stepD n d 5 I B = (0, [], { d with down := false }) := by unfold stepD; rw [if_neg (by omega), if_neg (by omega), if_neg (by omega), if_neg (by omega), if_pos rfl]
    rw [eS]
    have HC := Lib.hid (up12 hDx)
    clear hm hx
    go_enter Try.func21, Try.ntmps21
    go_wp2_with (first | (go_at_call 12; rw [HX.out]; (with_reducible refine HC.out.mono ?_); rintro e w3 ⟨rfl, hD3, hF3⟩))
    first | go_ret | skip
    exact bodyPost_ret (results_tmp2 rfl _ _ _) rfl ⟨_, rfl, .inl ⟨rfl, rfl⟩, hD3, F0.trans hF3⟩
  have eS : stepD n d z I B = if Mayc n d I = 0 then (0, look (d.S I.toNat) d.W I.toNat, d) else (Mayc n d I, [], d) := by unfold stepD; rw [if_neg (by omega), if_neg (by omega), if_neg (by omega), if_neg (by omega), if_neg (by omega)]
  have hR : Rd z := ⟨h0, h1, h2, h3, h4, h5⟩
  have z0 : (z == 0) = false := by simpa using h0
  have z1 : (z == 1) = false := by simpa using h1
  have z2 : (z == 2) = false := by simpa using h2
  have z3 : (z == 3) = false := by simpa using h3
  have z4 : (z == 4) = false := by simpa using h4
  have z5 : (z == 5) = false := by simpa using h5
  have HR := Lib.hid hR
  clear h0 h1 h2 h3 h4 h5 hR
  by_cases hmay : Mayc n d I = 0
  · rw [eS, if_pos hmay]
    obtain ⟨hdn, hi1, hi2⟩ := mayc_in hmay
    obtain ⟨k, rfl⟩ := nat_of hi1
    rw [Int.toNat_natCast]
    clear eS hmay
    have HC := Lib.hid (read15 A x g b n d hDx k (by omega) hdn hW)
    clear hm hx
    have hlk : (look (d.S k) d.W k).length = 512 := len_look _ _ _ (hD.sec.len k (by omega)) (fun p hp => (hD.wl p hp).2)
    go_enter Try.func21, Try.ntmps21
    go_wp2_with (first | (go_at_call 15; rw [HX.out]; (with_reducible refine HC.out.mono ?_); rintro e w3 ⟨q, rfl, hq1, hq2, hr, hF3⟩))
    first | go_ret | skip
    exact bodyPost_ret (results_tmp2 rfl _ _ _) rfl ⟨_, rfl, .inr ⟨HR.out, q, 512, rfl, hlk, hr⟩, hDx.below hF3, F0.trans (Frm.of_below hF3)⟩
  · rw [eS, if_neg hmay]
    clear eS
    have HC := Lib.hid (read15n A x g b n d hDx I hmay)
    clear hm hx
    go_enter Try.func21, Try.ntmps21
    go_wp2_with (first | (go_at_call 15; rw [HX.out]; (with_reducible refine HC.out.mono ?_); rintro e w3 ⟨rfl, hF3⟩))
    first | go_ret | skip
    exact bodyPost_ret (results_tmp2 rfl _ _ _) rfl ⟨_, rfl, .inl ⟨rfl, rfl⟩, hDx.below hF3, F0.trans (Frm.of_below hF3)⟩
set_option maxRecDepth 4000 in
set_option maxHeartbeats 4000000 in
theorem twin22 (hD : Rf w g n d) (what I z : Int) (ao : Option Addr) (m c : Nat) (B : Sct) (hm : m = B.length) (hB : Byg g w ao B) (hW : d.W.length ≤ 1000000) (hn9 : n ≤ 1000000) (hI : I < 9223372036854775808) (hz : bits BinOp.and IntKind.i64 what 7 = z) :
    Calls Try.prog 22 #[.pointer (some ⟨g, 0, none⟩), .agg #[.int .i64 what, .int .i64 I, .slice ao m c]] w fun e w' => ∃ v, e = .returned (.tuple #[v, .int .i64 (stepD n d z I B).1]) ∧ Tx z w' v (stepD n d z I B).2.1 ∧ Rf w' g n (stepD n d z I B).2.2 ∧ Ft (XR g w) w w' ∧ (Rd z → Below w.heap.size w w') := by
  obtain ⟨x, hx⟩ : ∃ x, w.alloc (.cells #[.int .i64 what, .int .i64 I, .slice ao m c] 35) = x := ⟨_, rfl⟩
  have hbx : Below w.heap.size w x := by rw [← hx]; exact (Below.refl _ _).alloc (Nat.le_refl _) _
  have hDx := hD.below hbx
  have hBx := hB.below hbx
  have hsx := hbx.size
  have HX := Lib.hid hx
  have F0 : Ft (XR g w) w x := Ft.of_below hbx
  have HM := Lib.hid hm
  by_cases h0 : z = 0
  · subst h0
    have NR : ¬ Rd 0 := fun h => by have := h.1; omega
    have eS : stepD n d 0 I B = ((wrote n d I B).1, [], (wrote n d I B).2) := if_pos (by omega)
    rw [eS]
    have HC := Lib.hid (rwrite28 x g n d hDx I ao m c B hm hBx hW hn9)
    clear hm hx
    go_enter Try.func22, Try.ntmps22
    go_wp2_with (first | (go_at_call 28; rw [HX.out]; (with_reducible refine HC.out.mono ?_); rintro e w3 ⟨rfl, hD3, hF3⟩))
    first | go_ret | skip
    exact bodyPost_ret (results_tmp2 rfl _ _ _) rfl ⟨_, rfl, .inl ⟨rfl, rfl⟩, hD3, F0.trans hF3, (fun h => absurd h NR)⟩
  by_cases h1 : z = 1
  · subst h1
    have NR : ¬ Rd 1 := fun h => by have := h.2.1; omega
    have eS : stepD n d 1 I B = ((wrote n d I B).1, [], (wrote n d I B).2) := if_pos (by omega)
    rw [eS]
    have HC := Lib.hid (rwrite28 x g n d hDx I ao m c B hm hBx hW hn9)
    clear hm hx
    go_enter Try.func22, Try.ntmps22
    go_wp2_with (first | (go_at_call 28; rw [HX.out]; (with_reducible refine HC.out.mono ?_); rintro e w3 ⟨rfl, hD3, hF3⟩))
    first | go_ret | skip
    exact bodyPost_ret (results_tmp2 rfl _ _ _) rfl ⟨_, rfl, .inl ⟨rfl, rfl⟩, hD3, F0.trans hF3, (fun h => absurd h NR)⟩
  by_cases h2 : z = 2
  · subst h2
    have NR : ¬ Rd 2 := fun h => by have := h.2.2.1; omega
    cases hdn : d.down with
    | true =>
      have eS : stepD n d 2 I B = (201, [], d) := by unfold stepD; rw [if_neg (by omega), if_pos rfl, if_pos hdn]
      rw [eS]
      have HC := Lib.hid (rsync29n hDx hdn)
      clear hm hx
      go_enter Try.func22, Try.ntmps22
      go_wp2_with (first | (go_at_call 29; rw [HX.out]; (with_reducible refine HC.out.mono ?_); rintro e w3 ⟨rfl, rfl⟩))
      first | go_ret | skip
      exact bodyPost_ret (results_tmp2 rfl _ _ _) rfl ⟨_, rfl, .inl ⟨rfl, rfl⟩, hDx, F0, (fun h => absurd h NR)⟩
    | false =>
      have eS : stepD n d 2 I B = (0, [], { d with S := fin d.S d.W, W := [] }) := by unfold stepD; rw [if_neg (by omega), if_pos rfl, if_neg (by rw [hdn]; simp)]
      rw [eS]
      have HC := Lib.hid (rsync29 hDx hdn)
      clear hm hx
      go_enter Try.func22, Try.ntmps22
      go_wp2_with (first | (go_at_call 29; rw [HX.out]; (with_reducible refine HC.out.mono ?_); rintro e w3 ⟨rfl, hD3, hF3⟩))
      first | go_ret | skip
      exact bodyPost_ret (results_tmp2 rfl _ _ _) rfl ⟨_, rfl, .inl ⟨rfl, rfl⟩, by simpa [hdn] using hD3, F0.trans hF3, (fun h => absurd h NR)⟩
  by_cases h3 : z = 3
  · subst h3
    have NR : ¬ Rd 3 := fun h => by have := h.2.2.2.1; omega
    have eS : stepD n d 3 I B = (0, [], { d with fuse := if I < -1 then -1 else I }) := by unfold stepD; rw [if_neg (by omega), if_neg (by omega), if_pos rfl]
    obtain ⟨fu, hfu⟩ : ∃ fu, (if I < -1 then -1 else I) = fu := ⟨_, rfl⟩
    have HA9 := rarm30 hDx I hI
    rw [hfu] at eS HA9
    rw [eS]
    clear eS hfu
    have HC := Lib.hid (HA9)
    clear hm hx
    go_enter Try.func22, Try.ntmps22
    go_wp2_with (first | (go_at_call 30; rw [HX.out]; (with_reducible refine HC.out.mono ?_); rintro e w3 ⟨rfl, hD3, hF3⟩))
    first | go_ret | skip
    exact bodyPost_ret (results_tmp2 rfl _ _ _) rfl ⟨_, rfl, .inl ⟨rfl, rfl⟩, hD3, F0.trans hF3, (fun h => absurd h NR)⟩
  by_cases h4 : z = 4
  · subst h4
    have NR : ¬ Rd 4 := fun h => by have := h.2.2.2.2.1; omega
    have eS : stepD n d 4 I B = (0, [], crashed d I) := by unfold stepD; rw [if_neg (by omega), if_neg (by omega), if_neg (by omega), if_pos rfl]
    rw [eS]
    have HC := Lib.hid (rcrash31 hDx I)
    clear hm hx
    go_enter Try.func22, Try.ntmps22
    go_wp2_with (first | (go_at_call 31; rw [HX.out]; (with_reducible refine HC.out.mono ?_); rintro e w3 ⟨rfl, hD3, hF3⟩))
    first | go_ret | skip
    exact bodyPost_ret (results_tmp2 rfl _ _ _) rfl ⟨_, rfl, .inl ⟨rfl, rfl⟩, hD3, F0.trans hF3, (fun h => absurd h NR)⟩
  by_cases h5 : z = 5
  · subst h5
    have NR : ¬ Rd 5 := fun h => by have := h.2.2.2.2.2; omega
    have eS : stepD n d 5 I B = (0, [], { d with down := false }) := by unfold stepD; rw [if_neg (by omega), if_neg (by omega), if_neg (by omega), if_neg (by omega), if_pos rfl]
    rw [eS]
    have HC := Lib.hid (rup32 hDx)
    clear hm hx
    go_enter Try.func22, Try.ntmps22
    go_wp2_with (first | (go_at_call 32; rw [HX.out]; (with_reducible refine HC.out.mono ?_); rintro e w3 ⟨rfl, hD3, hF3⟩))
    first | go_ret | skip
    exact bodyPost_ret (results_tmp2 rfl _ _ _) rfl ⟨_, rfl, .inl ⟨rfl, rfl⟩, hD3, F0.trans hF3, (fun h => absurd h NR)⟩
  have eS : stepD n d z I B = if Mayc n d I = 0 then (0, look (d.S I.toNat) d.W I.toNat, d) else (Mayc n d I, [], d) := by unfold stepD; rw [if_neg (by omega), if_neg (by omega), if_neg (by omega), if_neg (by omega), if_neg (by omega)]
  have hR : Rd z := ⟨h0, h1, h2, h3, h4, h5⟩
  have z0 : (z == 0) = false := by simpa using h0
  have z1 : (z == 1) = false := by simpa using h1
  have z2 : (z == 2) = false := by simpa using h2
  have z3 : (z == 3) = false := by simpa using h3
  have z4 : (z == 4) = false := by simpa using h4
  have z5 : (z == 5) = false := by simpa using h5
  have HR := Lib.hid hR
  clear h0 h1 h2 h3 h4 h5 hR
  by_cases hmay : Mayc n d I = 0
  · rw [eS, if_pos hmay]
    obtain ⟨hdn, hi1, hi2⟩ := mayc_in hmay
    obtain ⟨k, rfl⟩ := nat_of hi1
    rw [Int.toNat_natCast]
    clear eS hmay
    have HC := Lib.hid (rread33 hDx k (by omega) hdn hW)
    clear hm hx
    obtain ⟨_, _, _, _, _, _, hsl⟩ := hD.sec k (by omega)
    have hlk : (look (d.S k) d.W k).length = 512 := len_look _ _ _ (by obtain ⟨_, _, _, h9, _⟩ := hsl; exact h9) (fun p hp => (hD.wl p hp).2)
    go_enter Try.func22, Try.ntmps22
    go_wp2_with (first | (go_at_call 33; rw [HX.out]; (with_reducible refine HC.out.mono ?_); rintro e w3 ⟨v3, rfl, ho3, hF3⟩))
    first | go_ret | skip
    obtain ⟨q, c3, rfl, hq1, hq2, hq3, -⟩ := row_pos ho3 (by omega)
    exact bodyPost_ret (results_tmp2 rfl _ _ _) rfl ⟨_, rfl, .inr ⟨HR.out, q, c3, rfl, hlk, fun i u hu => by rw [Nat.zero_add]; exact hq3 i u hu⟩, hDx.below hF3, F0.trans (Ft.of_below hF3), fun _ => hbx.trans (hF3.mono hsx)⟩
  · rw [eS, if_neg hmay]
    clear eS
    have HC := Lib.hid (rread33n hDx I hmay)
    clear hm hx
    go_enter Try.func22, Try.ntmps22
    go_wp2_with (first | (go_at_call 33; rw [HX.out]; (with_reducible refine HC.out.mono ?_); rintro e w3 ⟨rfl, rfl⟩))
    first | go_ret | skip
    exact bodyPost_ret (results_tmp2 rfl _ _ _) rfl ⟨_, rfl, .inl ⟨rfl, rfl⟩, hDx, F0, fun _ => hbx⟩
end
end Go.Proofs.Ytklndocfgbbegaa
