/- Whether two answers are the same; whether arguments are too great. -/
import Derived.Test.YtllgdlfdmmdffaaK
namespace Go.Proofs.Ytllgdlfdmmdffaa
open Go.ChangeShapes Go.WideShapes Go.ChangeAt Go.RowKit
set_option linter.unusedSimpArgs false
set_option linter.unusedVariables false

set_option maxRecDepth 20000 in
set_option maxHeartbeats 4000000 in
theorem same9 (ao bo : Option Addr) (n m ca cb : Nat) (A B : List Bool) (w : World) (hn : n = A.length) (hm : m = B.length) (n47 : n ≤ 9223372036854775807) (m47 : m ≤ 9223372036854775807) (hA : Bz w ao A) (hB : Bz w bo B) :
    Calls Try.prog 9 #[.slice ao n ca, .slice bo m cb] w fun e w' => e = .returned (.bool (decide (A = B))) ∧ Below w.heap.size w w' := by
  have HN := Lib.hid hn
  have HM := Lib.hid hm
  clear hn hm
  by_cases hnm : n = m
  · subst hnm
    obtain ⟨res, hres⟩ : ∃ res, decide (A = B) = res := ⟨_, rfl⟩
    have HRES := Lib.hid hres
    rw [hres]
    clear hres
    go_enter Try.func9, Try.ntmps9
    go_wp2_with fail
    go_loopg [5] n (fun gk v5 wr => ∃ i : Nat, v5 = .int .i64 i ∧ i + gk = n ∧ Below w.heap.size w wr ∧ Hid (∀ j, j < i → A[j]? = B[j]?))
    case atStart => exact ⟨0, rfl, by omega, Below.refl _ _, Lib.hid (fun j hj => absurd hj (Nat.not_lt_zero _))⟩
    case round =>
      obtain ⟨i, rfl, hig, hb, hall⟩ := hrel
      have HIG := Lib.hid hig
      by_cases h1 : i < n
      · have d1 : decide ((i : Int) < (n : Int)) = true := by simp; omega
        obtain ⟨a, rfl⟩ : ∃ a, ao = some a := by
          cases ao with
          | none => have := HN.out; rw [hA.nil rfl] at this; simp at this; omega
          | some a => exact ⟨a, rfl⟩
        obtain ⟨b, rfl⟩ : ∃ b, bo = some b := by
          cases bo with
          | none => have := HM.out; rw [hB.nil rfl] at this; simp at this; omega
          | some b => exact ⟨b, rfl⟩
        obtain ⟨x, hx⟩ : ∃ x, A[i]? = some x := ⟨A[i]'(by rw [← HN.out]; exact h1), List.getElem?_eq_getElem _⟩
        obtain ⟨y, hy⟩ : ∃ y, B[i]? = some y := ⟨B[i]'(by rw [← HM.out]; exact h1), List.getElem?_eq_getElem _⟩
        have hcx : wr.cell? (a.add i) = some (.bool x) := ((hA.below hb).cells a rfl).2 i x hx
        have hcy : wr.cell? (b.add i) = some (.bool y) := ((hB.below hb).cells b rfl).2 i y hy
        have HX := Lib.hid (And.intro hx hy)
        have q0 : (0 : Int) ≤ (i : Int) := by omega
        have q1 : (i : Int) < (n : Int) := by omega
        have q2 : ((i : Int)).toNat = i := by omega
        clear hig hx hy
        obtain ⟨q, hq⟩ : ∃ q, (x != y) = q := ⟨_, rfl⟩
        have HQ := Lib.hid hq
        go_upto_region 6 with (fail)
        go_still (by kernel_rfl)
        change Exit.then _ _ _ _ wr.drew
        have bd := Lib.hid (hb.drew)
        clear hb hcx hcy hq
        generalize wr.drew = wd at bd ⊢
        cases x <;> cases y
        · go_wp2_with fail
          go_roundg (gk - 1)
          case measure => have := HIG.out; omega
          case rel =>
            refine ⟨i + 1, by simp, by have := HIG.out; omega, bd.out, Lib.hid fun j hj => ?_⟩
            by_cases e : j = i
            · subst e; rw [HX.out.1, HX.out.2]
            · exact hall.out j (by omega)
        · go_wp2_with fail
          go_ret
          exact ⟨by rw [← HRES.out, decide_eq_false (fun e : A = B => by have h := HX.out; rw [e] at h; have h2 := h.1.symm.trans h.2; cases h2)]; rfl, bd.out⟩
        · go_wp2_with fail
          go_ret
          exact ⟨by rw [← HRES.out, decide_eq_false (fun e : A = B => by have h := HX.out; rw [e] at h; have h2 := h.1.symm.trans h.2; cases h2)]; rfl, bd.out⟩
        · go_wp2_with fail
          go_roundg (gk - 1)
          case measure => have := HIG.out; omega
          case rel =>
            refine ⟨i + 1, by simp, by have := HIG.out; omega, bd.out, Lib.hid fun j hj => ?_⟩
            by_cases e : j = i
            · subst e; rw [HX.out.1, HX.out.2]
            · exact hall.out j (by omega)
      · have d1 : decide ((i : Int) < (n : Int)) = false := by simp; omega
        obtain rfl : i = n := by omega
        have HE := Lib.hid (show A = B by
          apply List.ext_getElem?
          intro j
          rcases Nat.lt_or_ge j i with h | h
          · exact hall.out j h
          · rw [List.getElem?_eq_none (by rw [← HN.out]; exact h), List.getElem?_eq_none (by rw [← HM.out]; exact h)])
        clear hig
        go_wp2_with fail
        go_ret
        exact ⟨by rw [← HRES.out, HE.out]; simp, hb⟩
  · have d0 : ((n : Int) != (m : Int)) = true := by simp; omega
    have d1 : decide ((n : Int) = (m : Int)) = false := by simp; omega
    have HE := Lib.hid (show decide (A = B) = false by
      simp only [decide_eq_false_iff_not]
      intro e
      exact hnm (by rw [HN.out, HM.out, e]))
    obtain ⟨res, hres⟩ : ∃ res, decide (A = B) = res := ⟨_, rfl⟩
    rw [hres]
    have HRES := Lib.hid hres
    clear hres
    go_enter Try.func9, Try.ntmps9
    go_wp2_with fail
    go_ret
    exact ⟨by rw [← HRES.out, HE.out]; rfl, Below.refl _ _⟩

set_option maxRecDepth 20000 in
set_option maxHeartbeats 4000000 in
theorem same12 (ao bo : Option Addr) (n m ca cb : Nat) (A B : List Int) (w : World) (hn : n = A.length) (hm : m = B.length) (n47 : n ≤ 9223372036854775807) (m47 : m ≤ 9223372036854775807) (hA : Ilz w.heap.size w ao A) (hB : Ilz w.heap.size w bo B) :
    Calls Try.prog 12 #[.slice ao n ca, .slice bo m cb] w fun e w' => e = .returned (.bool (decide (A = B))) ∧ Below w.heap.size w w' := by
  have HN := Lib.hid hn
  have HM := Lib.hid hm
  clear hn hm
  by_cases hnm : n = m
  · subst hnm
    obtain ⟨res, hres⟩ : ∃ res, decide (A = B) = res := ⟨_, rfl⟩
    have HRES := Lib.hid hres
    rw [hres]
    clear hres
    go_enter Try.func12, Try.ntmps12
    go_wp2_with fail
    go_loopg [5] n (fun gk v5 wr => ∃ i : Nat, v5 = .int .i64 i ∧ i + gk = n ∧ Below w.heap.size w wr ∧ Hid (∀ j, j < i → A[j]? = B[j]?))
    case atStart => exact ⟨0, rfl, by omega, Below.refl _ _, Lib.hid (fun j hj => absurd hj (Nat.not_lt_zero _))⟩
    case round =>
      obtain ⟨i, rfl, hig, hb, hall⟩ := hrel
      have HIG := Lib.hid hig
      by_cases h1 : i < n
      · have d1 : decide ((i : Int) < (n : Int)) = true := by simp; omega
        obtain ⟨a, rfl⟩ : ∃ a, ao = some a := by
          cases ao with
          | none => have := HN.out; rw [hA.nil rfl] at this; simp at this; omega
          | some a => exact ⟨a, rfl⟩
        obtain ⟨b, rfl⟩ : ∃ b, bo = some b := by
          cases bo with
          | none => have := HM.out; rw [hB.nil rfl] at this; simp at this; omega
          | some b => exact ⟨b, rfl⟩
        obtain ⟨x, hx⟩ : ∃ x, A[i]? = some x := ⟨A[i]'(by rw [← HN.out]; exact h1), List.getElem?_eq_getElem _⟩
        obtain ⟨y, hy⟩ : ∃ y, B[i]? = some y := ⟨B[i]'(by rw [← HM.out]; exact h1), List.getElem?_eq_getElem _⟩
        have hcx : wr.cell? (a.add i) = some (.int .i64 x) := ((hA.below hb (Nat.le_refl _)).cells a rfl i x hx).2
        have hcy : wr.cell? (b.add i) = some (.int .i64 y) := ((hB.below hb (Nat.le_refl _)).cells b rfl i y hy).2
        have HX := Lib.hid (And.intro hx hy)
        have q0 : (0 : Int) ≤ (i : Int) := by omega
        have q1 : (i : Int) < (n : Int) := by omega
        have q2 : ((i : Int)).toNat = i := by omega
        clear hig hx hy
        obtain ⟨q, hq⟩ : ∃ q, (x != y) = q := ⟨_, rfl⟩
        have HQ := Lib.hid hq
        go_upto_region 6 with (fail)
        go_still (by kernel_rfl)
        change Exit.then _ _ _ _ wr.drew
        have bd := Lib.hid (hb.drew)
        clear hb hcx hcy hq
        generalize wr.drew = wd at bd ⊢
        cases q with
        | false =>
          have hxy : x = y := by have := HQ.out; simpa using this
          subst hxy
          go_wp2_with fail
          go_roundg (gk - 1)
          case measure => have := HIG.out; omega
          case rel =>
            refine ⟨i + 1, by simp, by have := HIG.out; omega, bd.out, Lib.hid fun j hj => ?_⟩
            by_cases e : j = i
            · subst e; rw [HX.out.1, HX.out.2]
            · exact hall.out j (by omega)
        | true =>
          have hxy : x ≠ y := by have := HQ.out; simpa using this
          go_wp2_with fail
          go_ret
          exact ⟨by rw [← HRES.out, decide_eq_false (fun e : A = B => by have h := HX.out; rw [e] at h; have h2 := h.1.symm.trans h.2; injection h2 with h2; exact hxy h2)]; rfl, bd.out⟩
      · have d1 : decide ((i : Int) < (n : Int)) = false := by simp; omega
        obtain rfl : i = n := by omega
        have HE := Lib.hid (show A = B by
          apply List.ext_getElem?
          intro j
          rcases Nat.lt_or_ge j i with h | h
          · exact hall.out j h
          · rw [List.getElem?_eq_none (by rw [← HN.out]; exact h), List.getElem?_eq_none (by rw [← HM.out]; exact h)])
        clear hig
        go_wp2_with fail
        go_ret
        exact ⟨by rw [← HRES.out, HE.out]; simp, hb⟩
  · have d0 : ((n : Int) != (m : Int)) = true := by simp; omega
    have d1 : decide ((n : Int) = (m : Int)) = false := by simp; omega
    have HE := Lib.hid (show decide (A = B) = false by
      simp only [decide_eq_false_iff_not]
      intro e
      exact hnm (by rw [HN.out, HM.out, e]))
    obtain ⟨res, hres⟩ : ∃ res, decide (A = B) = res := ⟨_, rfl⟩
    rw [hres]
    have HRES := Lib.hid hres
    clear hres
    go_enter Try.func12, Try.ntmps12
    go_wp2_with fail
    go_ret
    exact ⟨by rw [← HRES.out, HE.out]; rfl, Below.refl _ _⟩

def Gr (w : World) (n m : Nat) (e : Ending) (w' : World) : Prop := ∃ r, e = .returned (.bool r) ∧ Below w.heap.size w w' ∧ (r = false → n < 3000 ∧ m < 3000)
set_option maxRecDepth 20000 in
set_option maxHeartbeats 4000000 in
/-- Too great; if not, there are few of both. -/
theorem great8 (many : Int) (ao lo : Option Addr) (n m c lc k : Nat) (Ks : List Int) (Rs : List Rl) (w : World) (hn : n = Ks.length) (hm : m = Rs.length) (n47 : n ≤ 9223372036854775807) (m47 : m ≤ 9223372036854775807)
    (hR : Rlz k w lo Rs) (hk : k ≤ w.heap.size) :
    Calls Try.prog 8 #[.int .i64 many, .slice ao n c, .slice lo m lc] w (Gr w n m) := by
  have HN := Lib.hid hn
  have HM := Lib.hid hm
  clear hn hm
  go_enter Try.func8, Try.ntmps8
  go_wp2_with fail
  go_loopg [7, 8] m (fun gk v7 v8 wr => ∃ (i t : Nat), v7 = .int .i64 t ∧ v8 = .int .i64 i ∧ i + gk = m ∧ n + i ≤ t ∧ t ≤ 9223372036854775807 ∧ wr = w)
  case atStart => exact ⟨0, n, rfl, rfl, by omega, by omega, by omega, rfl⟩
  case round =>
    obtain ⟨i, t, rfl, rfl, hig, hti, htb, rfl⟩ := hrel
    have HIG := Lib.hid (And.intro hig (And.intro hti htb))
    by_cases h1 : i < m
    · have d1 : decide ((i : Int) < (m : Int)) = true := by simp; omega
      by_cases h2 : t < 3000
      · have d2 : decide ((t : Int) < 3000) = true := by simp; omega
        obtain ⟨a, rfl⟩ := hR.some_ (by have := HM.out; omega)
        obtain ⟨r, hx⟩ : ∃ r, Rs[i]? = some r := ⟨Rs[i]'(by rw [← HM.out]; exact h1), List.getElem?_eq_getElem _⟩
        obtain ⟨-, ⟨ro, rc, hrc, hc0, hIn⟩, hc1⟩ := hR.cells a rfl i r hx
        have hnl := hR.lens r (List.mem_of_getElem? hx)
        obtain ⟨pb, po, hpa, hc2, hc3⟩ := row2 hc0 hc1
        obtain ⟨nn, hnn⟩ : ∃ nn, r.needs.length = nn := ⟨_, rfl⟩
        rw [hnn] at hc2 hnl
        have q0 : (0 : Int) ≤ (i : Int) := by omega
        have q1 : (i : Int) < (m : Int) := by omega
        have e1 : IntKind.i64.wrap ((t : Int) + 1) = (t : Int) + 1 := IntWalk.i64_in _ (by omega)
        clear hig hx hc0 hc1 hnn hrc hIn hc3 hti htb
        by_cases h3 : (nn : Int) ≤ 3000
        · have e3 : ¬ (3000 : Int) < (nn : Int) := by omega
          have e2 : IntKind.i64.wrap ((t : Int) + 1 + (nn : Int)) = (t : Int) + 1 + (nn : Int) := IntWalk.i64_in _ (by omega)
          go_wp2_with fail
          go_roundg (gk - 1)
          case measure => have := HIG.out.1; omega
          case rel => exact ⟨i + 1, t + 1 + nn, by simp, by simp, by have := HIG.out.1; omega, by have := HIG.out.2.1; omega, by omega, rfl⟩
        · have e3 : (3000 : Int) < (nn : Int) := by omega
          have e2 : IntKind.i64.wrap ((t : Int) + 1 + 3000) = (t : Int) + 1 + 3000 := IntWalk.i64_in _ (by omega)
          go_wp2_with fail
          go_roundg (gk - 1)
          case measure => have := HIG.out.1; omega
          case rel => exact ⟨i + 1, t + 1 + 3000, by simp, by simp, by have := HIG.out.1; omega, by have := HIG.out.2.1; omega, by omega, rfl⟩
      · have d2 : decide ((t : Int) < 3000) = false := by simp; omega
        have d3 : decide ((3000 : Int) ≤ (t : Int)) = true := by simp; omega
        clear hti htb hig
        go_wp2_with fail
        go_ret
        exact ⟨true, rfl, Below.refl _ _, fun e => by cases e⟩
    · have d1 : decide ((i : Int) < (m : Int)) = false := by simp; omega
      obtain rfl : i = m := by omega
      by_cases h2 : t < 3000
      · have d3 : decide ((3000 : Int) ≤ (t : Int)) = false := by simp; omega
        have hb : n < 3000 ∧ i < 3000 := by omega
        have HB := Lib.hid hb
        clear hb hig hti htb h2
        go_wp2_with fail
        all_goals (go_ret; exact ⟨_, rfl, Below.refl _ _, fun _ => HB.out⟩)
      · have d3 : decide ((3000 : Int) ≤ (t : Int)) = true := by simp; omega
        clear hig hti htb
        go_wp2_with fail
        all_goals (go_ret; exact ⟨true, rfl, Below.refl _ _, fun e => by cases e⟩)
end Go.Proofs.Ytllgdlfdmmdffaa
