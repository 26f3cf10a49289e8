/- KeccakPlays, walked. -/
import Derived.Test.YtgjcofneecebjaaDoorI
import Derived.Deep.DeepCutAuto
namespace Go.Proofs.YtgjcofneecebjaaDoor
open Go.ChangeShapes Go.WideShapes Go.ChangeAt Go.RowKit
set_option linter.unusedSimpArgs false
set_option linter.unusedVariables false
/-- Each of the two sponges ahead of a Read or behind it. -/
def P3x (w0 : World) (rt : Nat) (en : Int) (g h : Nat) (s : St) (gv : Bool) (s1 : St) (gv1 : Bool) (lo : Option Addr) (Os : List Opn) (b c : Bool) (w : World) : Prop :=
  P3 w0 rt en g h (cond b s1 s) (cond b gv1 gv) (cond c s1 s) (cond c gv1 gv) lo Os w
section
variable {w0 w w' : World} {rt g h : Nat} {en : Int} {s s1 : St} {gv gv1 b c : Bool} {lo : Option Addr} {Os : List Opn} {X : List (BitVec 8)}
theorem P3x.ops (p : P3x w0 rt en g h s gv s1 gv1 lo Os b c w) : Opl w0.heap.size w lo Os := P3.ox p
theorem cl14 (p : P3x w0 rt en g h s gv s1 gv1 lo Os b c w) (hb : b = false) (ok : Okk rt s gv) (h8 : 8 ≤ rt) (hrt : rt ≤ 192) (he : 0 ≤ en ∧ en < 256) (z : Int) (hX : nxt rt en s gv z = (X, s1, gv1)) :
    Calls Tryd.prog 14 #[.pointer (some ⟨g, 0, none⟩), .int .i64 z] w fun e w' => ∃ ao c', e = .returned (.slice ao X.length c') ∧ Y2 w' g h ao X ∧ P3x w0 rt en g h s gv s1 gv1 lo Os true c w' ∧ w.grownBy w' (some g) := by
  subst hb
  have := rd14 p ok h8 hrt he z
  simp only [cond_false] at this
  rw [hX] at this
  exact this
theorem cl15 (p : P3x w0 rt en g h s gv s1 gv1 lo Os b c w) (hc : c = false) (ok : Okk rt s gv) (h8 : 8 ≤ rt) (hrt : rt ≤ 192) (he : 0 ≤ en ∧ en < 256) (z : Int) (hX : nxt rt en s gv z = (X, s1, gv1)) :
    Calls Tryd.prog 15 #[.pointer (some ⟨h, 0, none⟩), .int .i64 z] w fun e w' => ∃ ao c', e = .returned (.slice ao X.length c') ∧ Y2 w' g h ao X ∧ P3x w0 rt en g h s gv s1 gv1 lo Os b true w' ∧ w.grownBy w' (some h) := by
  subst hc
  have := rd15 p ok h8 hrt he z
  simp only [cond_false] at this
  rw [hX] at this
  exact this
end
def V3a (g h n lc i : Nat) (a : Addr) (z : Int) (X : List (BitVec 8)) : Nat → Value → World → Prop
  | 0, v, w => v = .pointer (some ⟨g, 0, none⟩)
  | 1, v, w => v = .slice (some a) n lc
  | 2, v, w => v = .int .i64 (i : Int)
  | 3, v, w => v = .pointer (some (a.add (i * 3)))
  | 4, v, w => v = .pointer (some ⟨(a.add (i * 3)).block, (a.add (i * 3)).off + 2, none⟩)
  | 5, v, w => v = .int .i64 z
  | 6, v, w => ∃ ao c, v = .slice ao X.length c ∧ Y2 w g h ao X
  | 7, v, w => v = .string (strOf X)
  | 8, v, w => v = .pointer (some ⟨h, 0, none⟩)
  | 9, v, w => v = .slice (some a) n lc
  | 10, v, w => v = .int .i64 (i : Int)
  | 11, v, w => v = .pointer (some (a.add (i * 3)))
  | 12, v, w => v = .pointer (some ⟨(a.add (i * 3)).block, (a.add (i * 3)).off + 2, none⟩)
  | 13, v, w => v = .int .i64 z
  | 14, v, w => ∃ ao c, v = .slice ao X.length c ∧ Y2 w g h ao X
  | 15, v, w => v = .string (strOf X)
  | 16, v, w => v = .bool false
  | _, _, _ => True
theorem V3a_keep (g h n lc i : Nat) (a : Addr) (z : Int) (X : List (BitVec 8)) (i1 : Nat) (v : Value) (w w' : World) (h1 : V3a g h n lc i a z X i1 v w) (r : (fun w w' => Rel2 g h w w') w w') : V3a g h n lc i a z X i1 v w' := by
  rcases i1 with _ | _ | _ | _ | _ | _ | _ | _ | _ | _ | _ | _ | _ | _ | _ | _ | _ | _
  · exact h1
  · exact h1
  · exact h1
  · exact h1
  · exact h1
  · exact h1
  · exact (let ⟨a, c, e, y⟩ := h1; ⟨a, c, e, y.keep r⟩)
  · exact h1
  · exact h1
  · exact h1
  · exact h1
  · exact h1
  · exact h1
  · exact h1
  · exact (let ⟨a, c, e, y⟩ := h1; ⟨a, c, e, y.keep r⟩)
  · exact h1
  · exact h1
  · trivial
def V3b (g h : Nat) (X : List (BitVec 8)) : Nat → Value → World → Prop
  | 0, v, w => v = .bool true
  | 1, v, w => v = .bool true
  | 2, v, w => v = .pointer (some ⟨g, 0, none⟩)
  | 3, v, w => ∃ ao c, v = .slice ao X.length c ∧ Y2 w g h ao X
  | 4, v, w => v = .string (strOf X)
  | 5, v, w => v = .pointer (some ⟨h, 0, none⟩)
  | 6, v, w => ∃ ao c, v = .slice ao X.length c ∧ Y2 w g h ao X
  | 7, v, w => v = .string (strOf X)
  | 8, v, w => v = .bool true
  | 9, v, w => v = .bool true
  | 10, v, w => v = .bool true
  | _, _, _ => True
theorem V3b_keep (g h : Nat) (X : List (BitVec 8)) (i1 : Nat) (v : Value) (w w' : World) (h1 : V3b g h X i1 v w) (r : (fun w w' => Rel2 g h w w') w w') : V3b g h X i1 v w' := by
  rcases i1 with _ | _ | _ | _ | _ | _ | _ | _ | _ | _ | _ | _
  · exact h1
  · exact h1
  · exact h1
  · exact (let ⟨a, c, e, y⟩ := h1; ⟨a, c, e, y.keep r⟩)
  · exact h1
  · exact h1
  · exact (let ⟨a, c, e, y⟩ := h1; ⟨a, c, e, y.keep r⟩)
  · exact h1
  · exact h1
  · exact h1
  · exact h1
  · trivial
set_option maxRecDepth 20000 in
set_option maxHeartbeats 4000000 in
theorem plays3 (Os : List Opn) (lo : Option Addr) (n lc : Nat) (r0 en : Int) (w : World) (hn : n = Os.length) (hL : Opl w.heap.size w lo Os) (hK : TK w) (he : 0 ≤ en ∧ en < 256) :
    Calls Tryd.prog 3 #[.int .i64 r0, .int .u8 en, .slice lo n lc] w fun r w' => r = .returned (.bool true) ∧ Below w.heap.size w w' := by
  have h0 := hK.lt
  have HL := Lib.hid hn
  clear hn
  by_cases hb : r0 < 8 ∨ 192 < r0 ∨ (0 ≤ r0 ∧ r0 % 8 ≠ 0)
  · have N9 : Hid (∀ w, Calls Tryd.prog 9 #[.int .i64 r0, .int .u8 en] w fun e w' => e = .returned (.pointer none) ∧ w' = w) := Lib.hid (fun w => new9n r0 en w hb)
    have N10 : Hid (∀ w, Calls Tryd.prog 10 #[.int .i64 r0, .int .u8 en] w fun e w' => e = .returned (.pointer none) ∧ w' = w) := Lib.hid (fun w => new10n r0 en w hb)
    clear hb
    go_enter Tryd.func3, Tryd.ntmps3
    go_wp2_with (first
      | (go_at_call 8; (with_reducible refine (head8 _ hK).mono ?_); rintro e w1 ⟨rfl, b1⟩)
      | (go_at_call 9; (with_reducible refine (N9.out _).mono ?_); rintro e w2 ⟨rfl, rfl⟩)
      | (go_at_call 10; (with_reducible refine (N10.out _).mono ?_); rintro e w3 ⟨rfl, rfl⟩))
    go_ret
    exact ⟨rfl, b1⟩
  obtain ⟨rt, rfl⟩ : ∃ rt : Nat, r0 = rt := ⟨r0.toNat, by omega⟩
  have h8 : 8 ≤ rt := by omega
  have hrt : rt ≤ 192 := by omega
  have hmod : rt % 8 = 0 := by omega
  clear hb
  have N9 : Hid (∀ w, Calls Tryd.prog 9 #[.int .i64 (rt : Int), .int .u8 en] w fun e w' => ∃ g, e = .returned (.pointer (some ⟨g, 0, none⟩)) ∧ w.heap.size ≤ g ∧ Spg w' g rt en st0.1 st0.2 false ∧ Below w.heap.size w w') := Lib.hid (fun w => new9 rt en w h8 hrt hmod)
  have N10 : Hid (∀ w, Calls Tryd.prog 10 #[.int .i64 (rt : Int), .int .u8 en] w fun e w' => ∃ g, e = .returned (.pointer (some ⟨g, 0, none⟩)) ∧ w.heap.size ≤ g ∧ Spr w' g rt en (Zt st0.1) st0.2 false ∧ Below w.heap.size w w') := Lib.hid (fun w => new10 rt en w h8 hrt hmod)
  clear hmod
  go_enter Tryd.func3, Tryd.ntmps3
  by_cases hn50 : 50 < n
  · have hd50 : decide ((n : Int) > 50) = true := by simp; omega
    go_wp2_with (first
      | (go_at_call 8; (with_reducible refine (head8 _ hK).mono ?_); rintro e w1 ⟨rfl, b1⟩)
      | (go_at_call 9; (with_reducible refine (N9.out _).mono ?_); rintro e w2 ⟨g, rfl, hg, hs, b2⟩)
      | (go_at_call 10; (with_reducible refine (N10.out _).mono ?_); rintro e w3 ⟨h, rfl, hh, hs2, b3⟩))
    go_ret
    exact ⟨rfl, b1.trans ((b2.mono b1.size).trans (b3.mono (Nat.le_trans b1.size b2.size)))⟩
  · have hd50 : decide ((n : Int) > 50) = false := by simp; omega
    go_wp2_with (first
      | (go_at_call 8; (with_reducible refine (head8 _ hK).mono ?_); rintro e w1 ⟨rfl, b1⟩)
      | (go_at_call 9; (with_reducible refine (N9.out _).mono ?_); rintro e w2 ⟨g, rfl, hg, hs, b2⟩)
      | (go_at_call 10; (with_reducible refine (N10.out _).mono ?_); rintro e w3 ⟨h, rfl, hh, hs2, b3⟩))
    have p0 : P3 w rt en g h st0 false st0 false lo Os w3 := by
      have s1 := b1.size
      have s2 := b2.size
      have hgl := hs.lt
      exact ⟨hs.below b3 hgl, hs2, ((hK.below b1 h0).below b2 (by omega)).below b3 (by omega), ((hL.below b1 (Nat.le_refl _)).below b2 s1).below b3 (by omega), b1.trans ((b2.mono s1).trans (b3.mono (by omega))), by omega, by omega, by omega, h0⟩
    have OK0 : Okk rt st0 false := ⟨Nat.zero_le _, fun _ => by show 0 < rt; omega, fun i _ => by show Bd 0; unfold Bd; omega⟩
    clear hs hs2 b1 b2 b3 hg hh hL hK
    obtain ⟨s0, hs0⟩ : ∃ s0, s0 = st0 := ⟨_, rfl⟩
    rw [← hs0] at p0 OK0
    clear hs0
    go_loopg [10] n (fun k v wr => ∃ (i : Nat) (s : St) (gv : Bool), v = .int .i64 i ∧ i + k = n ∧ Okk rt s gv ∧ P3 w rt en g h s gv s gv lo Os wr)
    case atStart => exact ⟨0, s0, false, rfl, by omega, OK0, p0⟩
    case round =>
      clear p0 OK0 N9 N10
      obtain ⟨i, s, gv, rfl, hi, ok, p⟩ := hrel
      have OK := Lib.hid ok
      clear ok
      have q0 : (0 : Int) ≤ (i : Int) := by omega
      by_cases hin : i < n
      · obtain ⟨a, rfl⟩ : ∃ a, lo = some a := by
          cases lo with
          | none => have e1 := p.ox.nil rfl; have := HL.out; rw [e1] at this; simp at this; omega
          | some a => exact ⟨a, rfl⟩
        obtain ⟨o, hD⟩ : ∃ o, Os[i]? = some o := ⟨Os[i]'(by rw [← HL.out]; exact hin), List.getElem?_eq_getElem _⟩
        have HD := Lib.hid hD
        obtain ⟨-, hcl⟩ := p.ox.cells a rfl
        obtain ⟨hc0, ⟨ao, c, hDc, hc1, hold⟩, hc2, bw, bN⟩ := hcl i o hD
        have hc1 : wr.cell? ⟨(a.add (i * 3)).block, (a.add (i * 3)).off + 1, none⟩ = some (.slice ao o.D.length c) := hc1
        have hc2 : wr.cell? ⟨(a.add (i * 3)).block, (a.add (i * 3)).off + 2, none⟩ = some (.int .i64 o.N) := hc2
        clear hcl hD
        have q1 : (i : Int) < (n : Int) := by omega
        have hd : decide (i < n) = true := by simp; omega
        obtain ⟨m, hm⟩ : ∃ m, o.D.length = m := ⟨_, rfl⟩
        have HM := Lib.hid hm
        rw [hm] at hc1 hDc
        clear hm
        obtain ⟨xb, hxb⟩ : ∃ x, decide ((m : Int) > 5000) = x := ⟨_, rfl⟩
        have GA : Hid (∀ w, Calls Tryd.prog 11 #[.slice ao m c] w fun e w' => e = .returned (.bool xb) ∧ w' = w) := Lib.hid (fun w => hxb ▸ great11 ao m c w)
        have HXB := Lib.hid hxb
        clear hxb
        have HI := Lib.hid hi
        clear hi
        obtain ⟨ko, hko⟩ : ∃ ko, ko = gk := ⟨_, rfl⟩
        have HKO := Lib.hid hko
        clear hko
        cases xb with
        | true =>
          go_wp2_with (first | (go_at_call 11; (with_reducible refine (GA.out _).mono ?_); rintro e w4 ⟨rfl, rfl⟩))
          go_ret
          exact ⟨rfl, p.k⟩
        | false =>
        have hm5 : m ≤ 5000 := by have := HXB.out; simp at this; omega
        by_cases hN : 1000 < o.N ∧ o.N ≤ 65536
        · have hd1 : decide (o.N > 1000) = true := by simp; omega
          have hd2 : decide (o.N ≤ 65536) = true := by simp; omega
          go_wp2_with (first | (go_at_call 11; (with_reducible refine (GA.out _).mono ?_); rintro e w4 ⟨rfl, rfl⟩))
          go_ret
          exact ⟨rfl, p.k⟩
        have hcase : decide (o.N > 1000) = false ∨ (decide (o.N > 1000) = true ∧ decide (o.N ≤ 65536) = false) := by
          by_cases h1 : 1000 < o.N
          · right; simp; omega
          · left; simp; omega
        clear hN
        rcases hcase with hd1 | ⟨hd1, hd2⟩
        all_goals
          obtain ⟨ev, hev⟩ : ∃ ev, (bits BinOp.and IntKind.i64 o.what 1 == 0) = ev := ⟨_, rfl⟩
          cases ev with
          | true =>
            have hW : Hid (∀ x, P3 w rt en g h s gv s gv (some a) Os x → Olz w.heap.size x ao o.D → Calls Tryd.prog 12 #[.pointer (some ⟨g, 0, none⟩), .slice ao m c] x fun e w' => e = .returned (.tuple #[]) ∧ P3 w rt en g h (wrt rt s gv o.D) gv s gv (some a) Os w') := Lib.hid (fun x px hx => wr12 px OK.out h8 hrt ao m c o.D HM.out.symm hm5 hx)
            have hX : Hid (∀ x ao c, P3 w rt en g h (wrt rt s gv o.D) gv s gv (some a) Os x → Olz w.heap.size x ao o.D → Calls Tryd.prog 13 #[.pointer (some ⟨h, 0, none⟩), .slice ao m c] x fun e w' => e = .returned (.tuple #[]) ∧ P3 w rt en g h (wrt rt s gv o.D) gv (wrt rt s gv o.D) gv (some a) Os w') := Lib.hid (fun x ao c px hx => wr13 px OK.out h8 hrt ao m c o.D HM.out.symm hm5 hx)
            have ok5 := OK.out.wrt h8 o.D
            have OK5 := Lib.hid ok5
            clear ok5
            go_wp2_with (first
              | (go_at_call 11; (with_reducible refine (GA.out _).mono ?_); rintro e w4 ⟨rfl, rfl⟩)
              | (go_at_call 12; (with_reducible refine (hW.out _ p hold).mono ?_); rintro e w5 ⟨rfl, p5⟩; obtain ⟨-, ⟨ao2, c2, -, hc5, hold5⟩, -⟩ := (p5.ox.cells a rfl).2 i o HD.out; rw [HM.out] at hc5; have hc5 : w5.cell? ⟨(a.add (i * 3)).block, (a.add (i * 3)).off + 1, none⟩ = some (.slice ao2 m c2) := hc5)
              | (go_at_call 13; (with_reducible refine (hX.out _ _ _ p5 hold5).mono ?_); rintro e w6 ⟨rfl, p6⟩))
            go_roundg (ko - 1)
            case measure => have := HKO.out; have := HI.out; omega
            case rel => exact ⟨i + 1, wrt rt s gv o.D, gv, by simp, by have := HKO.out; have := HI.out; omega, OK5.out, p6⟩
          | false =>
            go_upto_region 14 with (first | (go_at_call 11; (with_reducible refine (GA.out _).mono ?_); rintro e w4 ⟨rfl, rfl⟩))
            obtain ⟨X, s1, gv1, hX⟩ : ∃ X s1 gv1, nxt rt en s gv o.N = (X, s1, gv1) := ⟨_, _, _, rfl⟩
            have ok1 := OK.out.nxt h8 en o.N
            rw [hX] at ok1
            have OK1 := Lib.hid ok1
            have HX := Lib.hid hX
            have p7 : P3x w rt en g h s gv s1 gv1 (some a) Os false false w4.drew := P3.below p ((Below.refl _ _).drew)
            clear ok1 hX p hold hc0 hc1 hc2
            refine region_monoN (fun L x => P3x w rt en g h s gv s1 gv1 (some a) Os (L 6) (L 14) x) (fun w w' => Rel2 g h w w') (V3a g h n lc i a o.N X) [(0, some 87), (1, some 88), (2, some 89), (3, some 90), (4, some 91), (5, some 92), (6, some 93), (7, some 94), (8, some 95), (9, some 96), (10, some 97), (11, some 98), (12, some 99), (13, some 100), (14, some 101), (15, some 102), (16, some 103)] (by kernel_rfl) (by kernel_rfl) (by kernel_rfl) (fun i1 v1 w1 w2 h1 r1 => V3a_keep g h n lc i a o.N X i1 v1 w1 w2 h1 r1) (p7) ?_ (fun vs w' L hS hLL hV => ?_)
            · refine StepsN.cons0  (by kernel_rfl)  ?_ ?_
              · rintro L hL w1 hS  K hK
                (try simp only [Act.put, List.setIfInBounds_toArray, List.set_cons_zero, List.set_cons_succ])
                go_simp
                exact hK.out _ _ rfl ⟨hS, Rel2.refl _ _ _⟩
              refine StepsN.cons0  (by kernel_rfl)  ?_ ?_
              · rintro L hL w1 hS  K hK
                (try simp only [Act.put, List.setIfInBounds_toArray, List.set_cons_zero, List.set_cons_succ])
                go_simp
                exact hK.out _ _ rfl ⟨hS, Rel2.refl _ _ _⟩
              refine StepsN.cons0  (by kernel_rfl)  ?_ ?_
              · rintro L hL w1 hS  K hK
                (try simp only [Act.put, List.setIfInBounds_toArray, List.set_cons_zero, List.set_cons_succ])
                go_simp
                exact hK.out _ _ rfl ⟨hS, Rel2.refl _ _ _⟩
              refine StepsN.cons2 1 (some 88) 2 (some 89) (by kernel_rfl) rfl rfl ?_ ?_
              · rintro L hL w1 hS _ rfl _ rfl K hK
                (try simp only [Act.put, List.setIfInBounds_toArray, List.set_cons_zero, List.set_cons_succ])
                go_simp
                exact hK.out _ _ rfl ⟨hS, Rel2.refl _ _ _⟩
              refine StepsN.cons1 3 (some 90) (by kernel_rfl) rfl ?_ ?_
              · rintro L hL w1 hS _ rfl K hK
                (try simp only [Act.put, List.setIfInBounds_toArray, List.set_cons_zero, List.set_cons_succ])
                go_simp
                exact hK.out _ _ rfl ⟨hS, Rel2.refl _ _ _⟩
              refine StepsN.cons1 4 (some 91) (by kernel_rfl) rfl ?_ ?_
              · rintro L hL w1 hS _ rfl K hK
                (try simp only [Act.put, List.setIfInBounds_toArray, List.set_cons_zero, List.set_cons_succ])
                have hc2 := (hS.ops.cells a rfl).2 i o HD.out
                obtain ⟨-, -, hc2, -, -⟩ := hc2
                have hc2 : w1.cell? ⟨(a.add (i * 3)).block, (a.add (i * 3)).off + 2, none⟩ = some (.int .i64 o.N) := hc2
                go_simp
                exact hK.out _ _ rfl ⟨hS, Rel2.refl _ _ _⟩
              refine StepsN.cons2 0 (some 87) 5 (some 92) (by kernel_rfl) rfl rfl ?_ ?_
              · rintro L hL w1 hS _ rfl _ rfl K hK
                (try simp only [Act.put, List.setIfInBounds_toArray, List.set_cons_zero, List.set_cons_succ])
                go_simp
                go_at_call 14
                refine (cl14 hS hL OK.out h8 hrt he o.N HX.out).mono ?_
                rintro r w2 ⟨b2, c2, rfl, y2, p2, j2⟩
                exact hK.out _ _ ⟨_, _, rfl, y2⟩ ⟨p2, Rel2.g j2⟩
              refine StepsN.cons1 6 (some 93) (by kernel_rfl) rfl ?_ ?_
              · rintro L hL w1 hS _ ⟨b6, c6, rfl, y6⟩ K hK
                (try simp only [Act.put, List.setIfInBounds_toArray, List.set_cons_zero, List.set_cons_succ])
                have hcv := conv_any (c := c6) (n := X.length) rfl y6.byt
                go_simp
                exact hK.out _ _ rfl ⟨hS, Rel2.refl _ _ _⟩
              refine StepsN.cons0  (by kernel_rfl)  ?_ ?_
              · rintro L hL w1 hS  K hK
                (try simp only [Act.put, List.setIfInBounds_toArray, List.set_cons_zero, List.set_cons_succ])
                go_simp
                exact hK.out _ _ rfl ⟨hS, Rel2.refl _ _ _⟩
              refine StepsN.cons0  (by kernel_rfl)  ?_ ?_
              · rintro L hL w1 hS  K hK
                (try simp only [Act.put, List.setIfInBounds_toArray, List.set_cons_zero, List.set_cons_succ])
                go_simp
                exact hK.out _ _ rfl ⟨hS, Rel2.refl _ _ _⟩
              refine StepsN.cons0  (by kernel_rfl)  ?_ ?_
              · rintro L hL w1 hS  K hK
                (try simp only [Act.put, List.setIfInBounds_toArray, List.set_cons_zero, List.set_cons_succ])
                go_simp
                exact hK.out _ _ rfl ⟨hS, Rel2.refl _ _ _⟩
              refine StepsN.cons2 9 (some 96) 10 (some 97) (by kernel_rfl) rfl rfl ?_ ?_
              · rintro L hL w1 hS _ rfl _ rfl K hK
                (try simp only [Act.put, List.setIfInBounds_toArray, List.set_cons_zero, List.set_cons_succ])
                go_simp
                exact hK.out _ _ rfl ⟨hS, Rel2.refl _ _ _⟩
              refine StepsN.cons1 11 (some 98) (by kernel_rfl) rfl ?_ ?_
              · rintro L hL w1 hS _ rfl K hK
                (try simp only [Act.put, List.setIfInBounds_toArray, List.set_cons_zero, List.set_cons_succ])
                go_simp
                exact hK.out _ _ rfl ⟨hS, Rel2.refl _ _ _⟩
              refine StepsN.cons1 12 (some 99) (by kernel_rfl) rfl ?_ ?_
              · rintro L hL w1 hS _ rfl K hK
                (try simp only [Act.put, List.setIfInBounds_toArray, List.set_cons_zero, List.set_cons_succ])
                have hc2 := (hS.ops.cells a rfl).2 i o HD.out
                obtain ⟨-, -, hc2, -, -⟩ := hc2
                have hc2 : w1.cell? ⟨(a.add (i * 3)).block, (a.add (i * 3)).off + 2, none⟩ = some (.int .i64 o.N) := hc2
                go_simp
                exact hK.out _ _ rfl ⟨hS, Rel2.refl _ _ _⟩
              refine StepsN.cons2 8 (some 95) 13 (some 100) (by kernel_rfl) rfl rfl ?_ ?_
              · rintro L hL w1 hS _ rfl _ rfl K hK
                (try simp only [Act.put, List.setIfInBounds_toArray, List.set_cons_zero, List.set_cons_succ])
                go_simp
                go_at_call 15
                refine (cl15 hS hL OK.out h8 hrt he o.N HX.out).mono ?_
                rintro r w2 ⟨b2, c2, rfl, y2, p2, j2⟩
                exact hK.out _ _ ⟨_, _, rfl, y2⟩ ⟨p2, Rel2.h j2⟩
              refine StepsN.cons1 14 (some 101) (by kernel_rfl) rfl ?_ ?_
              · rintro L hL w1 hS _ ⟨b14, c14, rfl, y14⟩ K hK
                (try simp only [Act.put, List.setIfInBounds_toArray, List.set_cons_zero, List.set_cons_succ])
                have hcv := conv_any (c := c14) (n := X.length) rfl y14.byt
                go_simp
                exact hK.out _ _ rfl ⟨hS, Rel2.refl _ _ _⟩
              refine StepsN.cons2 7 (some 94) 15 (some 102) (by kernel_rfl) rfl rfl ?_ ?_
              · rintro L hL w1 hS _ rfl _ rfl K hK
                (try simp only [Act.put, List.setIfInBounds_toArray, List.set_cons_zero, List.set_cons_succ])
                go_simp
                exact hK.out _ _ rfl ⟨hS, Rel2.refl _ _ _⟩
              exact StepsN.nil
            · have e16 : vs 16 = .bool false := hV 16 (by simp)
              have e6 : L 6 = true := hLL 6 (by simp)
              have e14 : L 14 = true := hLL 14 (by simp)
              have p8 : P3x w rt en g h s gv s1 gv1 (some a) Os true true w' := by
                have := hS
                simp only [e6, e14] at this
                exact this
              have p9 : P3 w rt en g h s1 gv1 s1 gv1 (some a) Os w' := p8
              simp only [putl, List.foldl_cons, List.foldl_nil, Act.put, List.setIfInBounds_toArray, List.set_cons_zero, List.set_cons_succ, e16]
              clear hV e16 hS hLL p8 p7
              go_wp2_with fail
              go_roundg (ko - 1)
              case measure => have := HKO.out; have := HI.out; omega
              case rel => exact ⟨i + 1, s1, gv1, by simp, by have := HKO.out; have := HI.out; omega, OK1.out, p9⟩
      · have hd : decide (i < n) = false := by simp; omega
        obtain ⟨X, s1, gv1, hX⟩ : ∃ X s1 gv1, nxt rt en s gv 8 = (X, s1, gv1) := ⟨_, _, _, rfl⟩
        have HX := Lib.hid hX
        have p7 : P3x w rt en g h s gv s1 gv1 lo Os false false wr.drew := P3.below p ((Below.refl _ _).drew)
        clear hX p
        go_upto_region 16 with fail
        refine region_monoN (fun L x => P3x w rt en g h s gv s1 gv1 lo Os (L 3) (L 6) x) (fun w w' => Rel2 g h w w') (V3b g h X) [(0, some 104), (1, some 105), (2, some 106), (3, some 107), (4, some 108), (5, some 109), (6, some 110), (7, some 111), (8, some 112), (9, some 113), (10, some 6)] (by kernel_rfl) (by kernel_rfl) (by kernel_rfl) (fun i1 v1 w1 w2 h1 r1 => V3b_keep g h X i1 v1 w1 w2 h1 r1) (p7) ?_ (fun vs w' L hS hLL hV => ?_)
        · refine StepsN.cons0  (by kernel_rfl)  ?_ ?_
          · rintro L hL w1 hS  K hK
            (try simp only [Act.put, List.setIfInBounds_toArray, List.set_cons_zero, List.set_cons_succ])
            go_simp
            exact hK.out _ _ rfl ⟨hS, Rel2.refl _ _ _⟩
          refine StepsN.cons1 0 (some 104) (by kernel_rfl) rfl ?_ ?_
          · rintro L hL w1 hS _ rfl K hK
            (try simp only [Act.put, List.setIfInBounds_toArray, List.set_cons_zero, List.set_cons_succ])
            go_simp
            exact hK.out _ _ rfl ⟨hS, Rel2.refl _ _ _⟩
          refine StepsN.cons1 1 (some 105) (by kernel_rfl) rfl ?_ ?_
          · rintro L hL w1 hS _ rfl K hK
            (try simp only [Act.put, List.setIfInBounds_toArray, List.set_cons_zero, List.set_cons_succ])
            go_simp
            exact hK.out _ _ rfl ⟨hS, Rel2.refl _ _ _⟩
          refine StepsN.cons2 1 (some 105) 2 (some 106) (by kernel_rfl) rfl rfl ?_ ?_
          · rintro L hL w1 hS _ rfl _ rfl K hK
            (try simp only [Act.put, List.setIfInBounds_toArray, List.set_cons_zero, List.set_cons_succ])
            go_simp
            go_at_call 14
            refine (cl14 hS hL OK.out h8 hrt he 8 HX.out).mono ?_
            rintro r w2 ⟨b2, c2, rfl, y2, p2, j2⟩
            exact hK.out _ _ ⟨_, _, rfl, y2⟩ ⟨p2, Rel2.g j2⟩
          refine StepsN.cons2 1 (some 105) 3 (some 107) (by kernel_rfl) rfl rfl ?_ ?_
          · rintro L hL w1 hS _ rfl _ ⟨b3, c3, rfl, y3⟩ K hK
            (try simp only [Act.put, List.setIfInBounds_toArray, List.set_cons_zero, List.set_cons_succ])
            have hcv := conv_any (c := c3) (n := X.length) rfl y3.byt
            go_simp
            exact hK.out _ _ rfl ⟨hS, Rel2.refl _ _ _⟩
          refine StepsN.cons1 1 (some 105) (by kernel_rfl) rfl ?_ ?_
          · rintro L hL w1 hS _ rfl K hK
            (try simp only [Act.put, List.setIfInBounds_toArray, List.set_cons_zero, List.set_cons_succ])
            go_simp
            exact hK.out _ _ rfl ⟨hS, Rel2.refl _ _ _⟩
          refine StepsN.cons2 1 (some 105) 5 (some 109) (by kernel_rfl) rfl rfl ?_ ?_
          · rintro L hL w1 hS _ rfl _ rfl K hK
            (try simp only [Act.put, List.setIfInBounds_toArray, List.set_cons_zero, List.set_cons_succ])
            go_simp
            go_at_call 15
            refine (cl15 hS hL OK.out h8 hrt he 8 HX.out).mono ?_
            rintro r w2 ⟨b2, c2, rfl, y2, p2, j2⟩
            exact hK.out _ _ ⟨_, _, rfl, y2⟩ ⟨p2, Rel2.h j2⟩
          refine StepsN.cons2 1 (some 105) 6 (some 110) (by kernel_rfl) rfl rfl ?_ ?_
          · rintro L hL w1 hS _ rfl _ ⟨b6, c6, rfl, y6⟩ K hK
            (try simp only [Act.put, List.setIfInBounds_toArray, List.set_cons_zero, List.set_cons_succ])
            have hcv := conv_any (c := c6) (n := X.length) rfl y6.byt
            go_simp
            exact hK.out _ _ rfl ⟨hS, Rel2.refl _ _ _⟩
          refine StepsN.cons3 1 (some 105) 4 (some 108) 7 (some 111) (by kernel_rfl) rfl rfl rfl ?_ ?_
          · rintro L hL w1 hS _ rfl _ rfl _ rfl K hK
            (try simp only [Act.put, List.setIfInBounds_toArray, List.set_cons_zero, List.set_cons_succ])
            go_simp
            exact hK.out _ _ rfl ⟨hS, Rel2.refl _ _ _⟩
          refine StepsN.cons2 1 (some 105) 8 (some 112) (by kernel_rfl) rfl rfl ?_ ?_
          · rintro L hL w1 hS _ rfl _ rfl K hK
            (try simp only [Act.put, List.setIfInBounds_toArray, List.set_cons_zero, List.set_cons_succ])
            go_simp
            exact hK.out _ _ rfl ⟨hS, Rel2.refl _ _ _⟩
          refine StepsN.cons1 9 (some 113) (by kernel_rfl) rfl ?_ ?_
          · rintro L hL w1 hS _ rfl K hK
            (try simp only [Act.put, List.setIfInBounds_toArray, List.set_cons_zero, List.set_cons_succ])
            go_simp
            exact hK.out _ _ rfl ⟨hS, Rel2.refl _ _ _⟩
          exact StepsN.nil
        · have e10 : vs 10 = .bool true := hV 10 (by simp)
          have k9 : Below w.heap.size w w' := P3.k hS
          simp only [putl, List.foldl_cons, List.foldl_nil, Act.put, List.setIfInBounds_toArray, List.set_cons_zero, List.set_cons_succ, e10]
          clear hV e10 hS hLL p7
          go_wp2_with fail
          go_ret
          exact ⟨rfl, k9⟩
end Go.Proofs.YtgjcofneecebjaaDoor
