/- A party in general: what stands for a spot. -/
import Derived.Test.YtllgdlfdmmdffaaG3
namespace Go.Proofs.Ytllgdlfdmmdffaa
open Go.ChangeShapes Go.WideShapes Go.ChangeAt Go.RowKit Go.MapKept Go.ChangeMaps
set_option linter.unusedSimpArgs false
set_option linter.unusedVariables false
theorem ro_news {base n c : Nat} {w : World} {ao : Option Addr} {L : List Int} (h : w.ownsRow base 3 1 (.slice ao n c) n (L.map (Value.int .i64))) : (ao = none → n = 0) ∧ ∀ ad, ao = some ad → ∀ j u, (L.map (Value.int .i64))[j]? = some u → w.cell? (ad.add j) = some u := by
  refine ⟨fun e => ?_, fun ad ha j u hu => ?_⟩
  · rcases h.2 with ⟨_, e2⟩ | ⟨g, cap, cur, e3, _⟩
    · exact e2
    · injection e3 with e3; rw [e] at e3; cases e3
  · rw [List.getElem?_map] at hu
    cases hy : L[j]? with
    | none => rw [hy] at hu; cases hu
    | some y =>
      rw [hy] at hu
      obtain ⟨ad2, e1, e2⟩ := ro_cell h hy
      rw [ha] at e1
      injection e1 with e1
      subst e1
      rw [e2]; simpa using hu
/-- What resolve leaves. -/
def Rs2 (W : World) (L : List Int) (e : Ending) (w' : World) : Prop := ∃ v, e = .returned v ∧ Ro W.heap.size w' v L ∧ Below W.heap.size W w'
/-- What is asked of who does not know a key. -/
def TOk (T : Ktr) : Prop := ∀ i a, T i = some a → a.2.length ≤ 8 ∧ ∀ x ∈ a.2, (0 : Int) ≤ x ∧ x < 8
theorem res_len (T : Ktr) (h : TOk T) : ∀ l q, (res T l q).length ≤ 9 * 2 ^ l := by
  intro l
  induction l with
  | zero =>
    intro q
    unfold res
    split
    · rename_i a ha
      have := (h _ a ha).1
      simp [resN]; omega
    · simp
  | succ l ih =>
    intro q
    unfold res
    split
    · rename_i a ha
      have := (h _ a ha).1
      have h9 : 1 ≤ 2 ^ (l + 1) := Nat.one_le_two_pow
      simp [resN]; omega
    · have h1 := ih (2 * q)
      have h2 := ih (2 * q + 1)
      rw [List.length_append, Nat.pow_succ]
      omega
section
variable {w0 : World} {p t h : Nat} {m : Md} {c : Nat → Value} {mb : Nat → Nat}
set_option maxRecDepth 20000 in
set_option maxHeartbeats 8000000 in
/-- A node with a key. -/
theorem resolve_hit {a b l q : Nat} (hs : Sp a b l q) {W : World} (G : Gp w0 W p m t h c mb) (z : Int) (sv : Value) (L : List Int) (ho : W.ownsRow w0.heap.size 3 1 sv L.length (L.map (Value.int .i64))) (hl : L.length ≤ 8) (hL8 : ∀ x ∈ L, (0 : Int) ≤ x ∧ x < 8)
    (hrun : (Instr.lookup 51 (.map (some t)) (.int .i64 (((2 * q + 1) * 2 ^ l - 1 : Nat) : Int)) true).run Try.prog W = .ok (.tuple #[.agg #[.int .i64 z, sv], .bool true]) W) :
    Calls Try.prog 62 #[.pointer (some ⟨p, 0, none⟩), .complex .f64 a b] W (Rs2 W (resN (nIx l q) L)) := by
  obtain ⟨i0, hin, hz0, hz1, hz2⟩ := info_parts info3
  have HI := Lib.hid (index_yes hs)
  obtain ⟨i, hi⟩ : ∃ i : Int, i = (((2 * q + 1) * 2 ^ l - 1 : Nat) : Int) := ⟨_, rfl⟩
  rw [← hi] at HI hrun
  have h12 := G.P.pc.cell 12 (by decide)
  rw [G.P.ct] at h12
  have hz := zero65
  obtain ⟨ao, c1, rfl⟩ := row_form ho
  obtain ⟨n, hn⟩ : ∃ n, n = L.length := ⟨_, rfl⟩
  rw [← hn] at ho hrun hl
  have HN := Lib.hid (And.intro hn hl)
  have HL8 := Lib.hid hL8
  have HIX := Lib.hid (show i = nIx l q from hi)
  have HO := Lib.hid ho
  obtain ⟨W1, hW1⟩ : ∃ W1, W.alloc (.cells #[.int .i64 z, .slice ao n c1] 65) = W1 := ⟨_, rfl⟩
  obtain ⟨q6, hq6⟩ : ∃ q6, q6 = W.heap.size := ⟨_, rfl⟩
  have b1 : Below W.heap.size W W1 := by rw [← hW1]; exact (Below.refl _ W).alloc (Nat.le_refl _) _
  have h6 : W1.heap[q6]? = some (.cells #[.int .i64 z, .slice ao n c1] 65 (0, 0)) := by rw [← hW1, hq6]; exact heap_alloc_new W _
  have HB1 := Lib.hid (And.intro b1 (And.intro h6 hq6))
  clear hi G ho hn hl hL8 b1 h6
  go_enter Try.func62, Try.ntmps62
  go_upto_region 4 with (first
    | (go_at_call 46; (with_reducible refine (HI.out _).mono ?_); rintro e w' ⟨rfl, rfl⟩))
  rw [← hq6]
  clear hW1 hq6 h12 hrun
  obtain ⟨W2, hW2⟩ : ∃ W2, W1.alloc (.cells #[.int .i64 i] 3) = W2 := ⟨_, rfl⟩
  obtain ⟨q8, hq8⟩ : ∃ q8, q8 = W1.heap.size := ⟨_, rfl⟩
  have b2 : Below W1.heap.size W1 W2 := by rw [← hW2]; exact (Below.refl _ W1).alloc (Nat.le_refl _) _
  have r8 : Ro W.heap.size W2 (.slice (some ⟨q8, 0, none⟩) 1 1) [i] := by rw [← hW2, hq8]; exact ro_one W1 i HB1.out.1.size
  have h6 := (b2.block q6 (Array.getElem?_eq_some_iff.1 HB1.out.2.1).1).trans HB1.out.2.1
  have k61 : W2.cell? ⟨q6, 1, none⟩ = some (.slice ao n c1) := by rw [cell_of_row _ _ _ _ _ _ h6]; rfl
  have HB2 := Lib.hid (And.intro (below_then HB1.out.1 b2) r8)
  clear b2 r8 h6
  go_upto_region 5 with fail
  rw [← hq8]
  clear hq8
  go_wp2_with fail
  go_loopg [8, 10, 28] n (fun gk v8 v10 v28 wr => ∃ (j : Nat) (M : List Int), v28 = .int .i64 j ∧ j + gk = n ∧ Ro W.heap.size wr v8 M ∧ (M.length = j + 1 ∧ M = i :: (L.take j).map (fun y => 2 * y)) ∧ Below W.heap.size W wr)
  case atStart => exact ⟨0, [i], rfl, by omega, HB2.out.2, ⟨rfl, rfl⟩, HB2.out.1⟩
  case round =>
    obtain ⟨j, M, rfl, hjg, hr, hM, hb⟩ := hrel
    have HG := Lib.hid hjg
    by_cases hjn : j < n
    · have d1 : decide (j < n) = true := by simp; omega
      have d2 : decide ((j : Int) < (n : Int)) = true := by simp; omega
      have d3 : (0 : Int) ≤ (j : Int) := by omega
      have d4 : (j : Int) < (n : Int) := by omega
      obtain ⟨y, hy⟩ : ∃ y, L[j]? = some y := ⟨_, List.getElem?_eq_getElem (by rw [← HN.out.1]; exact hjn)⟩
      obtain ⟨ad, rfl, hc⟩ := ro_cell ((KC.of hb).own HO.out) hy
      have hy8 := HL8.out y (List.mem_of_getElem? hy)
      obtain ⟨z2, hz2'⟩ : ∃ z2, IntKind.i64.wrap (2 * y) = z2 := ⟨_, rfl⟩
      have HZ2 := Lib.hid (show z2 = 2 * y by rw [← hz2']; exact IntWalk.i64_in _ (by omega))
      have HTK := Lib.hid (show L.take (j + 1) = L.take j ++ [y] by rw [List.take_add_one, hy]; rfl)
      clear hy8
      have hz3 : wrap64 (2 * y) = z2 := by rw [← IntWalk.i64_left]; exact hz2'
      obtain ⟨a8, c8, rfl⟩ := row_form hr
      obtain ⟨m8, hm8⟩ : ∃ m8, m8 = M.length := ⟨_, rfl⟩
      unfold Ro at hr
      rw [← hm8] at hr
      have HR := Lib.hid (And.intro hr (And.intro hm8 (And.intro hM (And.intro hb hjn))))
      have hbs := hb.size
      have hm8b : m8 ≤ 502 := by rw [hm8, hM.1]; have := HN.out.2; omega
      rw [← hm8]
      clear hjg hr hM hb hm8 hy hjn
      go_wp2_with (first
        | (at_builtin; refine wpList_append_lies _ rfl (.tmp 32) (.tmp 35) 22 rfl W.heap.size 3 i0 (.int .i64 0) 1 8 Try.underlying22 hin hz0 hz1 hz2 rfl (by decide) (.slice a8 m8 c8) m8 (M.map (Value.int .i64)) rfl (HR.out.1.alloc _) ⟨wr.heap.size, 0, none⟩ 1 1 [.int .i64 z2] rfl rfl ?d1 ?d2 ?d3 ?d4 ?d5 ?d6 _ rfl ?_; (case d1 => exact cell_one_new _ _ _); (case d2 => simp [Value.oneCell']); (case d3 => omega); (case d4 => unfold maxLen; omega); (case d5 => omega); (case d6 => simp <;> omega); intro g cap2 w2 own2 gr2 at2 lt2; have HF := Lib.hid (And.intro own2 gr2); clear own2 gr2 at2 lt2))
      go_roundg (gk - 1)
      case measure => have := HG.out; have := HR.out.2.2.2.2; omega
      case rel =>
        refine ⟨j + 1, M ++ [z2], by have h1 := HN.out.2; have h2 := HR.out.2.2.2.2; rw [IntWalk.wrap64_in _ (by omega)]; push_cast; rfl, by have := HG.out; have := HR.out.2.2.2.2; omega, ?_, ⟨by simp [HR.out.2.2.1.1], by rw [HTK.out, HZ2.out, HR.out.2.2.1.2]; simp⟩, ?_⟩
        · unfold Ro
          rw [List.length_append, List.map_append, ← HR.out.2.1]
          exact HF.out.1
        · refine (HR.out.2.2.2.1.alloc HR.out.2.2.2.1.size _).grown HF.out.2 (by simp; omega) (fun k e => ?_)
          rcases HR.out.1.2 with ⟨e2, _⟩ | ⟨g2, cap, cur, e2, hb2, _⟩
          · rw [e2] at e; cases e
          · rw [e2] at e; injection e with e; rw [← e]; exact hb2
    · have d1 : decide (j < n) = false := by simp; omega
      have d2 : decide ((j : Int) < (n : Int)) = false := by simp; omega
      have d3 : ¬ (j : Int) < (n : Int) := by omega
      have HE := Lib.hid (And.intro hr (And.intro hM hb))
      clear hjg hr hM hb
      go_wp2_with fail
      go_ret
      have hM2 := HE.out.2.1.2
      rw [List.take_of_length_le (by have := HN.out.1; have := HG.out; omega), HIX.out] at hM2
      have h9 := HE.out.1
      rw [hM2] at h9
      exact ⟨_, rfl, h9, HE.out.2.2⟩
set_option maxRecDepth 20000 in
set_option maxHeartbeats 8000000 in
theorem resolve62g (hT : TOk m.T) : ∀ (l : Nat) (a b q : Nat), Sp a b l q → l ≤ 3 → ∀ (W : World), Gp w0 W p m t h c mb → Calls Try.prog 62 #[.pointer (some ⟨p, 0, none⟩), .complex .f64 a b] W (Rs2 W (res m.T l q)) := by
  intro l
  induction l with
  | zero =>
    intro a b q hs hl W G
    obtain ⟨es, cl, h1, h2, h3⟩ := G.tr
    rcases mp_look (T := 51) Try.underlying51 h1 h2 h3 (zero65 W) (((2 * q + 1) * 2 ^ 0 - 1 : Nat) : Int) with ⟨⟨z, L⟩, v, hm, ⟨sv, rfl, ho⟩, hrun⟩ | ⟨hm, hrun⟩
    · have hr := hrun true
      have e : res m.T 0 q = resN (nIx 0 q) L := by unfold res; rw [show m.T (nIx 0 q) = some (z, L) from hm]
      rw [e]
      exact resolve_hit hs G z sv L ho.1 (hT _ _ hm).1 (hT _ _ hm).2 hr
    · have e0 : res m.T 0 q = [] := by unfold res; rw [show m.T (nIx 0 q) = none from hm]
      rw [e0]
      have hlk := hrun true
      have HI := Lib.hid (index_yes hs)
      obtain ⟨i, hi⟩ : ∃ i : Int, i = (((2 * q + 1) * 2 ^ 0 - 1 : Nat) : Int) := ⟨_, rfl⟩
      rw [← hi] at HI hlk
      have he := eq00 hs.re
      have hz := zero65
      have h12 := G.P.pc.cell 12 (by decide)
      rw [G.P.ct] at h12
      clear hi hs h1 h2 h3 hrun G e0 hm hT
      go_enter Try.func62, Try.ntmps62
      go_wp2_with (go_at_call 46; (with_reducible refine (HI.out _).mono ?_); rintro e w' ⟨rfl, rfl⟩)
      go_ret
      exact ⟨_, rfl, ro_nil _ _, (Below.refl _ W).alloc (Nat.le_refl _) _⟩
  | succ l ih =>
    intro a b q hs hl W G
    obtain ⟨es, cl, h1, h2, h3⟩ := G.tr
    rcases mp_look (T := 51) Try.underlying51 h1 h2 h3 (zero65 W) (((2 * q + 1) * 2 ^ (l + 1) - 1 : Nat) : Int) with ⟨⟨z, L⟩, v, hm, ⟨sv, rfl, ho⟩, hrun⟩ | ⟨hm, hrun⟩
    · have hr := hrun true
      have e : res m.T (l + 1) q = resN (nIx (l + 1) q) L := by unfold res; rw [show m.T (nIx (l + 1) q) = some (z, L) from hm]
      rw [e]
      exact resolve_hit hs G z sv L ho.1 (hT _ _ hm).1 (hT _ _ hm).2 hr
    · have e0 : res m.T (l + 1) q = res m.T l (2 * q) ++ res m.T l (2 * q + 1) := by rw [res]; rw [show m.T (nIx (l + 1) q) = none from hm]
      rw [e0]
      have hlk := hrun true
      obtain ⟨i0, hin, hz0, hz1, hz2⟩ := info_parts info3
      have HI := Lib.hid (index_yes hs)
      obtain ⟨i, hi⟩ : ∃ i : Int, i = (((2 * q + 1) * 2 ^ (l + 1) - 1 : Nat) : Int) := ⟨_, rfl⟩
      rw [← hi] at HI hlk
      have he := eq00 hs.re
      have he : (FloatKind.f64.format.order a 0 == some .eq) = false := by rw [he]; simp
      have hz := zero65
      have h12 := G.P.pc.cell 12 (by decide)
      rw [G.P.ct] at h12
      obtain ⟨c1, d1, s1, o1⟩ := down_yes false hs (by omega)
      obtain ⟨c2, d2, s2, o2⟩ := down_yes true hs (by omega)
      have O1 := Lib.hid o1
      have O2 := Lib.hid o2
      have IH1 := Lib.hid (fun (X : World) (k : Below W.heap.size W X) => ih c1 d1 (2 * q) s1 (by omega) X (G.below k))
      have IH2 := Lib.hid (fun (X : World) (k : Below W.heap.size W X) => ih c2 d2 (2 * q + 1) s2 (by omega) X (G.below k))
      have RL1 := Lib.hid (res_len m.T hT l (2 * q))
      have RL2 := Lib.hid (res_len m.T hT l (2 * q + 1))
      generalize res m.T l (2 * q) = L2 at IH1 RL1 ⊢
      generalize res m.T l (2 * q + 1) = L3 at IH2 RL2 ⊢
      have K0 := Lib.hid ((Below.refl _ W).alloc (Nat.le_refl _) (.cells #[.int .i64 0, .slice none 0 0] 65))
      have hbd3 : 9 * 2 ^ l ≤ 72 := by
        have : 2 ^ l ≤ 2 ^ 3 := Nat.pow_le_pow_right (by omega) (by omega)
        omega
      have HBD := Lib.hid hbd3
      clear hi hs ih s1 s2 o1 o2 h1 h2 h3 hrun G hbd3 e0 hm hT
      go_enter Try.func62, Try.ntmps62
      go_upto_region 13 with (first
        | (go_at_call 46; (with_reducible refine (HI.out _).mono ?_); rintro e w' ⟨rfl, rfl⟩))
      generalize W.alloc (.cells #[.int .i64 0, .slice none 0 0] 65) = W1 at K0 ⊢
      have hA := O1.out W1
      have hB := IH1.out W1 K0.out
      have HBB := Lib.hid (fun x => O2.out x)
      go_wp2_with (first
        | (go_at_call 69; (with_reducible refine hA.mono ?_); rintro e w' ⟨rfl, rfl⟩)
        | (go_at_call 62; (with_reducible refine hB.mono ?_); rintro e w2 ⟨v2, rfl, o2, b2⟩; obtain ⟨a2, cc2, rfl⟩ := row_form o2; obtain ⟨n2, hn2⟩ : ∃ n2, n2 = L2.length := ⟨_, rfl⟩; have K2 := Lib.hid (And.intro (below_then K0.out b2) (And.intro (And.intro b2 o2) (And.intro hn2 RL1.out))); rw [← hn2]; clear hA hB o2 b2 hn2)
        | (go_at_call 69; (with_reducible refine (HBB.out _).mono ?_); rintro e w' ⟨rfl, rfl⟩)
        | (go_at_call 62; (with_reducible refine (IH2.out _ K2.out.1).mono ?_); rintro e w3 ⟨v3, rfl, o3, b3⟩; obtain ⟨a3, cc3, rfl⟩ := row_form o3; obtain ⟨n3, hn3⟩ : ∃ n3, n3 = L3.length := ⟨_, rfl⟩; have K3 := Lib.hid (And.intro b3 (And.intro o3 (And.intro hn3 RL2.out))); rw [← hn3]; clear o3 b3 hn3)
        | (at_builtin; refine wpList_app_any rfl (.tmp 45) (.tmp 49) 22 rfl W.heap.size 3 i0 (.int .i64 0) 1 8 Try.underlying22 hin hz0 hz1 hz2 rfl (by decide) (.slice a2 n2 cc2) n2 (L2.map (Value.int .i64)) rfl ?r1 a3 n3 cc3 (L3.map (Value.int .i64)) rfl ?r2 ?r3 ?r4 ?r5 ?r6 ?r7 ?r8 ?_; (case r1 => rw [K2.out.2.2.1]; exact own_le ((KC.of K3.out.1).own K2.out.2.1.2) K0.out.size); (case r2 => rw [List.length_map, K3.out.2.2.1, Nat.mul_one]); (case r3 => rw [K3.out.2.2.1]; exact (ro_news K3.out.2.1).1); (case r4 => exact (ro_news K3.out.2.1).2); (case r5 => exact ivs_one L3); (case r6 => have := K2.out.2.2; have := K3.out.2.2; have := HBD.out; unfold maxLen; omega); (case r7 => have := K2.out.2.2; have := K3.out.2.2; have := HBD.out; omega); (case r8 => have := K2.out.1.size; have := K3.out.1.size; omega); intro v9 w9 o9 g9; have HF := Lib.hid (And.intro o9 g9); clear o9 g9))
      go_ret
      refine ⟨v9, rfl, ?_, ?_⟩
      · unfold Ro
        rw [List.length_append, List.map_append, ← K2.out.2.2.1, ← K3.out.2.2.1]
        exact HF.out.1
      · refine (below_then K2.out.1 K3.out.1).grown HF.out.2 (below_then K2.out.1 K3.out.1).size (fun k e => ?_)
        rcases K2.out.2.1.2.2 with ⟨e2, _⟩ | ⟨g2, cap, cur, e2, hb2, _⟩
        · injection e2 with e2; rw [e2] at e; cases e
        · injection e2 with e2; rw [e2] at e; injection e with e; rw [← e]; have := K0.out.size; show _ ≤ g2; omega
end
end Go.Proofs.Ytllgdlfdmmdffaa
