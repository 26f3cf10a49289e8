/- A head is put; a step is done; all are. -/
import Derived.Test.YtjabkfccfecmgaaS
namespace Go.Proofs.Ytjabkfccfecmgaa
open Go.ChangeShapes Go.WideShapes Go.ChangeAt Go.RowKit
set_option linter.unusedSimpArgs false
set_option linter.unusedVariables false
def V26 (B g vb c l i : Nat) : Nat → Value → World → Prop
  | 0, v, w => v = .pointer (some ⟨vb, 0, none⟩)
  | 1, v, w => v = .pointer (some ⟨vb, 0, none⟩)
  | 2, v, w => v = .pointer (some ⟨vb, 0, none⟩)
  | 3, v, w => v = .pointer (some ⟨g, 0, none⟩)
  | 4, v, w => v = .int .i64 (i : Nat)
  | 5, v, w => v = .agg #[.int .i64 (c : Nat), .int .i64 (l : Nat)]
  | 6, v, w => ∃ ao cap, v = .slice ao 512 cap ∧ Own w B (.slice ao 512 cap) 512 (hd c l)
  | _, _, _ => True
theorem V26_keep (B g vb c l i : Nat) (i1 : Nat) (v : Value) (w w' : World) (h : V26 B g vb c l i i1 v w) (r : (fun w w' => Below w.heap.size w w') w w') : V26 B g vb c l i i1 v w' := by
  rcases i1 with _ | _ | _ | _ | _ | _ | _ | _
  · exact h
  · exact h
  · exact h
  · exact h
  · exact h
  · exact h
  · exact (let ⟨ao, cap, e, o⟩ := h; ⟨ao, cap, e, o.kept (row := none) ⟨r.os, r.tape, r.output, r.size, fun q hq _ => r.block q hq⟩ (by cases hq : (Value.slice ao 512 cap).ownBlock with | none => exact .inl rfl | some q => exact .inr (by simp))⟩)
  · trivial
section
variable {A : Nat → Prop} {w w' : World} {g b n k : Nat} {d : DS}
set_option maxRecDepth 20000 in
set_option maxHeartbeats 4000000 in
theorem put26 (hD : Dk A w g b n d) (hA : ∀ k, w.heap.size ≤ k → A k) (hW : d.W.length ≤ 1000000) (i c l xv vb xp xh : Nat) (hc : c < 2 ^ 63) (hl : l < 2 ^ 24)
    (hg : g < w.heap.size) (h1 : w.cell? ⟨xv, 0, none⟩ = some (.pointer (some ⟨vb, 0, none⟩))) (h2 : w.cell? ⟨vb, 0, none⟩ = some (.pointer (some ⟨g, 0, none⟩))) (h3 : w.cell? ⟨xp, 0, none⟩ = some (.int .i64 (i : Int))) (h4 : w.cell? ⟨xh, 0, none⟩ = some (.int .i64 (c : Int))) (h5 : w.cell? ⟨xh, 1, none⟩ = some (.int .i64 (l : Int))) :
    Calls Try.prog 26 #[.pointer (some ⟨xv, 0, none⟩), .pointer (some ⟨xp, 0, none⟩), .pointer (some ⟨xh, 0, none⟩)] w (Stp A g b n d (.wr i (hd c l)) w) := by
  obtain ⟨w8, hw8⟩ : ∃ w8, w8 = w := ⟨_, rfl⟩
  rw [← hw8] at h1 h2 h3 h4 h5
  have KEY := Lib.hid (show ∀ W, Below w8.heap.size w8 W → W.cell? ⟨xv, 0, none⟩ = some (.pointer (some ⟨vb, 0, none⟩)) ∧ W.cell? ⟨vb, 0, none⟩ = some (.pointer (some ⟨g, 0, none⟩)) ∧ W.cell? ⟨xp, 0, none⟩ = some (.int .i64 (i : Int)) ∧ W.cell? ⟨xh, 0, none⟩ = some (.int .i64 (c : Int)) ∧ W.cell? ⟨xh, 1, none⟩ = some (.int .i64 (l : Int)) from fun W b =>
    ⟨cell_below h1 b, cell_below h2 b, cell_below h3 b, cell_below h4 b, cell_below h5 b⟩)
  have HL := Lib.hid (And.intro hc hl)
  have HD := Lib.hid (And.intro hD (And.intro hA (And.intro hW hg)))
  have HW := Lib.hid hw8
  rw [← hw8]
  clear h1 h2 h3 h4 h5 hc hl hD hA hW hg hw8
  go_enter Try.func26, Try.ntmps26
  go_upto_region 1 with fail
  refine region_monoT 7 (fun w1 => Below w8.heap.size w8 w1) (fun w w' => Below w.heap.size w w') (V26 w8.heap.size g vb c l i) [(0, some 4), (1, some 5), (2, some 6), (3, some 7), (4, some 8), (5, some 9), (6, some 10)] (by kernel_rfl) (by kernel_rfl) (by kernel_rfl) (by kernel_rfl) (fun _ _ h r => below_then h r) (fun i1 v1 w1 w2 _ h1 r1 => V26_keep w8.heap.size g vb c l i i1 v1 w1 w2 h1 r1) ((Below.refl _ w8).drew) ?_ (fun vs WQ hS hV => ?_)
  · refine StepsL.cons0  (by kernel_rfl)  ?_ ?_
    · rintro w1 hS  K hK
      (try simp only [Act.put, List.setIfInBounds_toArray, List.set_cons_zero, List.set_cons_succ])
      have hk := KEY.out _ hS
      have hx := hk.1
      go_simp
      exact hK.out _ _ rfl (Below.refl _ _)
    refine StepsL.cons1 0 (some 4) (by kernel_rfl) rfl ?_ ?_
    · rintro w1 hS _ rfl K hK
      (try simp only [Act.put, List.setIfInBounds_toArray, List.set_cons_zero, List.set_cons_succ])
      go_simp
      exact hK.out _ _ rfl (Below.refl _ _)
    refine StepsL.cons1 1 (some 5) (by kernel_rfl) rfl ?_ ?_
    · rintro w1 hS _ rfl K hK
      (try simp only [Act.put, List.setIfInBounds_toArray, List.set_cons_zero, List.set_cons_succ])
      go_simp
      exact hK.out _ _ rfl (Below.refl _ _)
    refine StepsL.cons1 2 (some 6) (by kernel_rfl) rfl ?_ ?_
    · rintro w1 hS _ rfl K hK
      (try simp only [Act.put, List.setIfInBounds_toArray, List.set_cons_zero, List.set_cons_succ])
      have hk := KEY.out _ hS
      have hx := hk.2.1
      go_simp
      exact hK.out _ _ rfl (Below.refl _ _)
    refine StepsL.cons0  (by kernel_rfl)  ?_ ?_
    · rintro w1 hS  K hK
      (try simp only [Act.put, List.setIfInBounds_toArray, List.set_cons_zero, List.set_cons_succ])
      have hk := KEY.out _ hS
      have hx := hk.2.2.1
      go_simp
      exact hK.out _ _ rfl (Below.refl _ _)
    refine StepsL.cons0  (by kernel_rfl)  ?_ ?_
    · rintro w1 hS  K hK
      (try simp only [Act.put, List.setIfInBounds_toArray, List.set_cons_zero, List.set_cons_succ])
      have hk := KEY.out _ hS
      have hx := hk.2.2.2.1
      have hy := hk.2.2.2.2
      go_simp
      exact hK.out _ _ rfl (Below.refl _ _)
    refine StepsL.cons1 5 (some 9) (by kernel_rfl) rfl ?_ ?_
    · rintro w1 hS _ rfl K hK
      (try simp only [Act.put, List.setIfInBounds_toArray, List.set_cons_zero, List.set_cons_succ])
      have HC := bytes28 c l HL.out.1 HL.out.2 w1
      go_simp
      go_at_call 28
      (with_reducible refine HC.mono ?_)
      rintro e w2 ⟨a2, c2, rfl, o2, b2⟩
      exact hK.out _ _ ⟨a2, c2, rfl, own_mono o2 hS.size⟩ b2
    exact StepsL.nil
  obtain ⟨a6, c6, hv, ho⟩ := hV 6 (by decide)
  have hv3 : vs 3 = .pointer (some ⟨g, 0, none⟩) := hV 3 (by decide)
  have hv4 : vs 4 = .int .i64 (i : Nat) := hV 4 (by decide)
  have bS : Below w8.heap.size w8 WQ := hS
  have HB := Lib.hid bS
  have hD2 : Dk A WQ g b n d := HD.out.1.below (by rw [← HW.out]; exact bS)
  have H := write10 A WQ g b n d hD2 (fun k hk => HD.out.2.1 k (by have := bS.size; rw [← HW.out]; omega)) i a6 512 c6 (hd c l) (by rw [hd_len]) (by
    obtain ⟨ao, cap, e, _, _, hb⟩ := own_byt (g := g) ho (by rw [HW.out]; exact HD.out.2.2.2)
    injection e with e1 _ e3
    subst e1
    exact ⟨hb.nil, fun a ha j x hx => ⟨(hb.cells a ha).2.1, (hb.cells a ha).2.2 j x hx⟩⟩) HD.out.2.2.1
  simp only [putl, List.foldl_cons, List.foldl_nil, Act.put, List.setIfInBounds_toArray, List.set_cons_zero, List.set_cons_succ, List.drop_succ_cons, List.drop_zero]
  rw [hv, hv3, hv4]
  clear hV hS hv hv3 hv4 ho hD2 bS
  go_wp2_with (first
    | (go_at_call 27; (with_reducible refine H.mono ?_); rintro e w2 ⟨rfl, d1, f1⟩; have HR := Lib.hid (And.intro d1 f1); clear d1 f1 H))
  go_ret
  exact ⟨rfl, HR.out.1, (Frm.of_below HB.out).trans HR.out.2⟩
theorem eg25 : ∀ args w, (callFunc 25 args).run Try.prog w = .ok (.enter 25 args) w := enters_of Try.func25 (by kernel_rfl) rfl
theorem eg26 : ∀ args w, (callFunc 26 args).run Try.prog w = .ok (.enter 26 args) w := enters_of Try.func26 (by kernel_rfl) rfl
theorem eg34 : ∀ args w, (callFunc 34 args).run Try.prog w = .ok (.enter 34 args) w := enters_of Try.func34 (by kernel_rfl) rfl
theorem eg35 : ∀ args w, (callFunc 35 args).run Try.prog w = .ok (.enter 35 args) w := enters_of Try.func35 (by kernel_rfl) rfl
theorem eg40 : ∀ args w, (callFunc 40 args).run Try.prog w = .ok (.enter 40 args) w := enters_of Try.func40 (by kernel_rfl) rfl
theorem step34 (hD : Dk A w g b n d) (hA : ∀ k, w.heap.size ≤ k → A k) (hW : d.W.length ≤ 1000000) {v : Value} {a : Ac} (hf : Fs A g b w v a) :
    Calls Try.prog 34 #[v] w fun e w' => e = .returned (.bool (decide ((act n d a).1 ≠ 0))) ∧ Dk A w' g b n (act n d a).2 ∧ Frm A g b w w' := by
  have hgl := hD.lt
  obtain ⟨z, hz⟩ : ∃ z, (act n d a).1 = z := ⟨_, rfl⟩
  cases a with
  | sy =>
    obtain rfl := hf
    have H := sync25 hD hA
    unfold Stp at H
    rw [hz] at H
    rw [hz]
    clear hD hA hW
    have e25 := eg25
    go_enter Try.func34, Try.ntmps34
    go_wp2_with (first
      | (go_at_fn 25; (with_reducible refine H.mono ?_); rintro e w1 ⟨rfl, d1, f1⟩; have HR := Lib.hid (And.intro d1 f1); clear d1 f1 H))
    go_ret
    exact ⟨by by_cases h : z = 0 <;> simp [h], HR.out⟩
  | wr i B =>
    rcases hf with ⟨xd, xt, xp, ao, c, rfl, h2, h3, h4, h5, h6, h7, h8⟩ | ⟨rfl, xd, xi, rfl, h2, h3, h4, h5⟩ | ⟨c, l, xv, vb, xp, xh, rfl, rfl, h3, h4, h5, h6, h7, h8, h9, h10, h11, h12⟩
    · have H := lay40 hD hA hW i B xd xt xp ao B.length c rfl h5 h6 h7 h8.byg
      unfold Stp at H
      rw [hz] at H
      rw [hz]
      clear h2 h3 h4 h5 h6 h7 h8 hD hA hW
      have e40 := eg40
      go_enter Try.func34, Try.ntmps34
      go_wp2_with (first
        | (go_at_fn 40; (with_reducible refine H.mono ?_); rintro e w1 ⟨rfl, d1, f1⟩; have HR := Lib.hid (And.intro d1 f1); clear d1 f1 H))
      go_ret
      exact ⟨by by_cases h : z = 0 <;> simp [h], HR.out⟩
    · have H := erase35 hD hA hW i xd xi h4 h5
      unfold Stp at H
      rw [hz] at H
      rw [hz]
      clear h2 h3 h4 h5 hD hA hW
      have e35 := eg35
      go_enter Try.func34, Try.ntmps34
      go_wp2_with (first
        | (go_at_fn 35; (with_reducible refine H.mono ?_); rintro e w1 ⟨rfl, d1, f1⟩; have HR := Lib.hid (And.intro d1 f1); clear d1 f1 H))
      go_ret
      exact ⟨by by_cases h : z = 0 <;> simp [h], HR.out⟩
    · have H := put26 hD hA hW i c l xv vb xp xh h3.1 h3.2 hgl h8 h9 h10 h11 h12
      unfold Stp at H
      rw [hz] at H
      rw [hz]
      clear h3 h4 h5 h6 h7 h8 h9 h10 h11 h12 hD hA hW
      have e26 := eg26
      go_enter Try.func34, Try.ntmps34
      go_wp2_with (first
        | (go_at_fn 26; (with_reducible refine H.mono ?_); rintro e w1 ⟨rfl, d1, f1⟩; have HR := Lib.hid (And.intro d1 f1); clear d1 f1 H))
      go_ret
      exact ⟨by by_cases h : z = 0 <;> simp [h], HR.out⟩
/-- All steps, until one fails. -/
def runA (n : Nat) : DS → List Ac → Bool × DS
  | d, [] => (false, d)
  | d, a :: l => if (act n d a).1 ≠ 0 then (true, (act n d a).2) else runA n (act n d a).2 l
theorem act_W (n : Nat) (d : DS) (a : Ac) : (act n d a).2.W.length ≤ d.W.length + 1 := by
  cases a with
  | sy =>
    by_cases h : d.down = true
    · show (if d.down = true then ((201 : Int), d) else (0, synced d)).2.W.length ≤ _
      rw [if_pos h]; exact Nat.le_succ _
    · show (if d.down = true then ((201 : Int), d) else (0, synced d)).2.W.length ≤ _
      rw [if_neg h]; exact Nat.zero_le _
  | wr i B =>
    show (wrote n d i B).2.W.length ≤ _
    unfold wrote
    split
    · simp
    · split
      · simp
      · split
        · unfold crashed; split <;> simp
        · simp
/-- A list of steps that a disk leaves alone. -/
structure Fl (A : Nat → Prop) (g b : Nat) (w : World) (so : Option Addr) (L : List Ac) : Prop where
  nil : so = none → L = []
  cells : ∀ ad, so = some ad → ∀ (j : Nat) a, L[j]? = some a → Ok A g b w ad.block ∧ ∃ v, w.cell? (ad.add j) = some v ∧ Fs A g b w v a
theorem Fl.frm {so : Option Addr} {L : List Ac} (h : Fl A g b w so L) (f : Frm A g b w w') : Fl A g b w' so L :=
  ⟨h.nil, fun ad ha j a hj => by
    obtain ⟨h1, v, h2, h3⟩ := h.cells ad ha j a hj
    exact ⟨h1.frm f, v, (World.cell?_of_block (by rw [add_block]; exact h1.keep f)).trans h2, h3.frm f⟩⟩
theorem Fl.some_ {so : Option Addr} {L : List Ac} (h : Fl A g b w so L) (hl : 0 < L.length) : ∃ a, so = some a := by
  cases so with
  | none => rw [h.nil rfl] at hl; simp at hl
  | some a => exact ⟨a, rfl⟩
set_option maxRecDepth 20000 in
set_option maxHeartbeats 4000000 in
theorem index44 (hD : Dk A w g b n d) (hA : ∀ k, w.heap.size ≤ k → A k) {so : Option Addr} {L : List Ac} (hL : Fl A g b w so L) (m c : Nat) (hm : m = L.length) (hm2 : m ≤ 1000) (hW : d.W.length ≤ 1000) :
    Calls Try.prog 44 #[.slice so m c, .func (.func 34) #[] #[]] w fun e w' => (∃ z : Int, e = .returned (.int .i64 z) ∧ (-1 ≤ z) ∧ (0 ≤ z ↔ (runA n d L).1 = true)) ∧ Dk A w' g b n (runA n d L).2 ∧ Frm A g b w w' := by
  have HM := Lib.hid hm
  have HD := Lib.hid (And.intro hD (And.intro hA (And.intro hL hW)))
  clear hm hD hA hL hW
  have e34 := eg34
  go_enter Try.func44, Try.ntmps44
  go_wp2_with fail
  go_loopg [5, 8] m (fun gk v5 v8 wr => ∃ (i : Nat) (di : DS), v8 = .int .i64 i ∧ i + gk = m ∧ Dk A wr g b n di ∧ Frm A g b w wr ∧ runA n d L = runA n di (L.drop i) ∧ di.W.length ≤ d.W.length + i)
  case atStart => exact ⟨0, d, rfl, by omega, HD.out.1, Frm.refl _ _ _ _, rfl, by omega⟩
  case round =>
    obtain ⟨i, di, rfl, hig, hd, hf, hr, hw⟩ := hrel
    have HIG := Lib.hid (And.intro hig (And.intro hd (And.intro hf (And.intro hr hw))))
    by_cases h1 : i < m
    · have z1 : decide ((i : Int) < (m : Int)) = true := by simp; omega
      have e1 : IntKind.i64.wrap ((i : Int) + 1) = (i : Int) + 1 := IntWalk.i64_in _ (by omega)
      have q0 : (0 : Int) ≤ (i : Int) := by omega
      have q1 : (i : Int) < (m : Int) := by omega
      obtain ⟨ad, rfl⟩ := HD.out.2.2.1.some_ (by have := HM.out; omega)
      obtain ⟨a, ha⟩ : ∃ a, L[i]? = some a := ⟨_, List.getElem?_eq_getElem (by rw [← HM.out]; exact h1)⟩
      obtain ⟨-, v, hcv, hfv⟩ := (HD.out.2.2.1.frm hf).cells ad rfl i a ha
      have H := step34 hd (fun k hk => HD.out.2.1 k (by have := hf.size; omega)) (by have := HD.out.2.2.2; omega) hfv
      have hdrop : L.drop i = a :: L.drop (i + 1) := by
        rw [List.getElem?_eq_some_iff] at ha
        obtain ⟨hl, ha⟩ := ha
        rw [List.drop_eq_getElem_cons hl, ha]
      rw [hdrop] at hr
      have hrun : runA n di (a :: L.drop (i + 1)) = if (act n di a).1 ≠ 0 then (true, (act n di a).2) else runA n (act n di a).2 (L.drop (i + 1)) := rfl
      rw [hrun] at hr
      have hwl := act_W n di a
      by_cases hz : (act n di a).1 = 0
      · rw [if_neg (by simp [hz])] at hr
        rw [show decide ((act n di a).1 ≠ 0) = false from by simp [hz]] at H
        have HS := Lib.hid (And.intro hr hwl)
        clear hig ha hdrop hr hrun hwl hz hd hw hfv
        go_wp2_with (first
          | (go_at_fn 34; (with_reducible refine H.mono ?_); rintro e w1 ⟨rfl, d1, f1⟩; have HR := Lib.hid (And.intro d1 f1); clear d1 f1 H))
        go_roundg (gk - 1)
        case measure => have := HIG.out.1; omega
        case rel => exact ⟨i + 1, _, by simp, by have := HIG.out.1; omega, HR.out.1, HIG.out.2.2.1.trans HR.out.2, HS.out.1, by have := HS.out.2; have := HIG.out.2.2.2.2; omega⟩
      · rw [if_pos hz] at hr
        rw [show decide ((act n di a).1 ≠ 0) = true from by simp [hz]] at H
        have HS := Lib.hid hr
        clear hig ha hdrop hr hrun hwl hz hd hw hfv
        go_wp2_with (first
          | (go_at_fn 34; (with_reducible refine H.mono ?_); rintro e w1 ⟨rfl, d1, f1⟩; have HR := Lib.hid (And.intro d1 f1); clear d1 f1 H))
        go_ret
        exact ⟨⟨(i : Int), rfl, by omega, by rw [HS.out]; simp⟩, by rw [HS.out]; exact HR.out.1, HIG.out.2.2.1.trans HR.out.2⟩
    · have z1 : decide ((i : Int) < (m : Int)) = false := by simp; omega
      obtain rfl : i = m := by omega
      have e : L.drop i = [] := List.drop_of_length_le (by rw [← HM.out]; exact Nat.le_refl _)
      have hr2 : runA n d L = (false, di) := by rw [hr, e]; rfl
      have HS := Lib.hid hr2
      clear hig hr hr2 e hd hw
      go_wp2_with fail
      go_ret
      exact ⟨⟨-1, rfl, by omega, by rw [HS.out]; simp⟩, by rw [HS.out]; exact HIG.out.2.1, HIG.out.2.2.1⟩
theorem all20 (hD : Dk A w g b n d) (hA : ∀ k, w.heap.size ≤ k → A k) {so : Option Addr} {L : List Ac} (hL : Fl A g b w so L) (m c : Nat) (hm : m = L.length) (hm2 : m ≤ 1000) (hW : d.W.length ≤ 1000) :
    Calls Try.prog 20 #[.slice so m c] w fun e w' => e = .returned (.bool (!(runA n d L).1)) ∧ Dk A w' g b n (runA n d L).2 ∧ Frm A g b w w' := by
  have H44 := index44 hD hA hL m c hm hm2 hW
  clear hD hA hL hm hW
  obtain ⟨r, hr⟩ : ∃ r, runA n d L = r := ⟨_, rfl⟩
  rw [hr] at H44 ⊢
  clear hr
  obtain ⟨rb, rd⟩ := r
  have H33 : Calls Try.prog 33 #[.slice so m c, .func (.func 34) #[] #[]] w fun e w' => e = .returned (.bool rb) ∧ Dk A w' g b n rd ∧ Frm A g b w w' := by
    go_enter Try.func33, Try.ntmps33
    go_wp2_with (first
      | (go_at_call 44; (with_reducible refine H44.mono ?_); rintro e w1 ⟨⟨z, rfl, z1, z2⟩, d1, f1⟩; have HR := Lib.hid (And.intro d1 (And.intro f1 (And.intro z1 z2))); clear d1 f1 z1 z2 H44))
    go_ret
    refine ⟨?_, HR.out.1, HR.out.2.1⟩
    have := HR.out.2.2.2
    congr 2
    cases rb <;> simp at this ⊢ <;> omega
  clear H44
  go_enter Try.func20, Try.ntmps20
  go_wp2_with (first
    | (go_at_call 33; (with_reducible refine H33.mono ?_); rintro e w1 ⟨rfl, d1, f1⟩; have HR := Lib.hid (And.intro d1 f1); clear d1 f1 H33))
  go_ret
  exact ⟨rfl, HR.out⟩
end
end Go.Proofs.Ytjabkfccfecmgaa
