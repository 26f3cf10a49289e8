/- Sha2Sums, walked. -/
import Derived.Test.YtinmmenjlhlpmaaDoorS10
import Derived.Test.YtinmmenjlhlpmaaDoorL5
import Derived.Laws.OwnMore
namespace Go.Proofs.YtinmmenjlhlpmaaDoor
open Go.ChangeShapes Go.WideShapes Go.ChangeAt Go.RowKit
set_option linter.unusedSimpArgs false
set_option linter.unusedVariables false
/-- An own slice of any bytes. -/
def Any (w : World) (base : Nat) (v : Value) (n : Nat) (xs : List Value) : Prop := w.ownsRow base 5 1 v n xs ∧ ∀ u ∈ xs, ∃ y, u = .int .u8 y
theorem any_of {w : World} {base n : Nat} {v : Value} {T : List (BitVec 8)} (h : Own w base v n T) : Any w base v n (T.map c8) :=
  ⟨h, fun u hu => by obtain ⟨x, _, rfl⟩ := List.mem_map.1 hu; exact ⟨_, rfl⟩⟩
theorem Any.stored {w : World} {base g n c : Nat} {xs : List Value} (h : Any w base (.slice (some ⟨g, 0, none⟩) n c) n xs) (j : Nat) (y : Int) :
    Any (w.setCell ⟨g, j, none⟩ (.int .u8 y)) base (.slice (some ⟨g, 0, none⟩) n c) n (xs.set j (.int .u8 y)) ∧ w.grownBy (w.setCell ⟨g, j, none⟩ (.int .u8 y)) (some g) := by
  obtain ⟨h1, h2⟩ := h.1.stored j (.int .u8 y)
  refine ⟨⟨h1, fun u hu => ?_⟩, h2⟩
  rcases List.mem_or_eq_of_mem_set hu with hu | hu
  · exact h.2 u hu
  · exact ⟨y, hu⟩
theorem Any.cell {w : World} {base g n c : Nat} {xs : List Value} (h : Any w base (.slice (some ⟨g, 0, none⟩) n c) n xs) (j : Nat) (hj : j < n) : ∃ y, w.cell? ⟨g, j, none⟩ = some (.int .u8 y) := by
  have hx : j < xs.length := by have := h.1.1; omega
  rw [h.1.cellAt j (by omega), List.getElem?_eq_getElem hx]
  obtain ⟨y, hy⟩ := h.2 _ (List.getElem_mem hx)
  exact ⟨y, by rw [hy]⟩
theorem Any.form {w : World} {base n : Nat} {v : Value} {xs : List Value} (h : Any w base v n xs) : ∃ ao c, v = .slice ao n c ∧ n ≤ c ∧ (0 < n → ∃ g, ao = some ⟨g, 0, none⟩) := by
  rcases h.1.2 with ⟨rfl, rfl⟩ | ⟨b, cap, cur, rfl, hb, hh, hnc, hrest⟩
  · exact ⟨none, 0, rfl, Nat.le_refl _, by omega⟩
  · exact ⟨_, _, rfl, hnc, fun _ => ⟨b, rfl⟩⟩
def V3a (B : List (BitVec 8)) (bo : Option Addr) (m bc : Nat) : Nat → Value → World → Prop
  | 0, v, w => v = .bool true
  | 1, v, w => v = .bool true
  | 2, v, w => ∃ ad c, v = .slice (some ad) 32 c ∧ Byt w 0 (some ad) (dig B)
  | 3, v, w => v = .string (strOf (dig B))
  | 4, v, w => v = .slice bo m bc
  | 5, v, w => ∃ ad c, v = .slice (some ad) 32 c ∧ Byt w 0 (some ad) (dig B)
  | 6, v, w => v = .string (strOf (dig B))
  | 7, v, w => v = .bool true
  | 8, v, w => v = .bool true
  | 9, v, w => v = .bool true
  | _, _, _ => True
theorem V3a_keep (B : List (BitVec 8)) (bo : Option Addr) (m bc : Nat) (i1 : Nat) (v : Value) (w w' : World) (h : V3a B bo m bc i1 v w) (r : (fun w w' => Below w.heap.size w w') w w') : V3a B bo m bc i1 v w' := by
  rcases i1 with _ | _ | _ | _ | _ | _ | _ | _ | _ | _ | _
  · exact h
  · exact h
  · exact (let ⟨a, c, e, y⟩ := h; ⟨a, c, e, y.below r⟩)
  · exact h
  · exact h
  · exact (let ⟨a, c, e, y⟩ := h; ⟨a, c, e, y.below r⟩)
  · exact h
  · exact h
  · exact h
  · exact h
  · trivial
set_option maxHeartbeats 4000000 in
theorem sums3 (B : List (BitVec 8)) (bo : Option Addr) (m bc : Nat) (w : World) (hm : m = B.length) (hB : Old w.heap.size w bo B) (hK : TK w) :
    Calls Tryd.prog 3 #[.slice bo m bc] w fun r w' => r = .returned (.bool true) ∧ Below w.heap.size w w' := by
  have h0 := tk_lt hK
  have HL := Lib.hid hm
  clear hm
  obtain ⟨x, hx⟩ : ∃ x, decide ((m : Int) > 20000) = x := ⟨_, rfl⟩
  have GA : Hid (∀ w, Calls Tryd.prog 8 #[.slice bo m bc] w fun e w' => e = .returned (.bool x) ∧ w' = w) := Lib.hid (fun w => hx ▸ great8 bo m bc w)
  have HX := Lib.hid hx
  clear hx
  go_enter Tryd.func3, Tryd.ntmps3
  cases x with
  | true =>
    go_wp2_with (first | (go_at_call 7; (with_reducible refine (head7 _ hK).mono ?_); rintro e w1 ⟨rfl, b1⟩) | (go_at_call 8; (with_reducible refine (GA.out _).mono ?_); rintro e w1 ⟨rfl, rfl⟩))
    go_ret
    exact ⟨rfl, b1⟩
  | false =>
    have hm2 : m ≤ 20000 := by have := HX.out; simp at this; omega
    go_wp2_with (first
      | (go_at_call 7; (with_reducible refine (head7 _ hK).mono ?_); rintro e w1 ⟨rfl, b1⟩)
      | (go_at_call 8; (with_reducible refine (GA.out _).mono ?_); rintro e w1 ⟨rfl, rfl⟩)
      | (at_builtin; refine app_own rfl (.tmp 11) (.tmp 12) rfl w1.heap.size (.slice (some ⟨w1.heap.size, 0, none⟩) 0 0) 0 [] rfl (own_new w1) w1.heap.size bo m bc B rfl ?q1 ?q2 ?q3 ?q4 ?_; (case q1 => exact HL.out); (case q2 => exact ((hB.below b1 (Nat.le_refl _)).alloc _).byt b1.size); (case q3 => omega); (case q4 => simp); intro v2 w2 o2 g2; have k2 : Below w1.heap.size w1 w2 := own_below (own_new w1) ((Below.refl _ _).alloc (Nat.le_refl _) _) g2; obtain ⟨ao2, c2, rfl, hc2, hf2⟩ := (any_of o2).form)
      | (go_at_call 9; (with_reducible refine (sum9 ([] ++ B) _ 0 _ _ _ ?m0 ?m1 ?m2 ?m3).mono ?_); (case m0 => have := HL.out; simp; omega); (case m1 => omega); (case m2 => obtain ⟨_, _, ez, _, _, y2⟩ := own_byt (g := 0) o2 (by have := b1.size; omega); injection ez with e1 _ e3; subst e1; exact y2); (case m3 => exact (hK.below b1 h0).below k2 (by have := b1.size; omega)); rintro r w3 ⟨vx, rfl, o3, b3⟩; obtain ⟨adx, cx, rfl, -, -, -⟩ := own_str o3 (by have := b1.size; have := k2.size; omega) (by omega)))
    have hlt2 := o2.lt
    have a3 : Any w3 w1.heap.size (.slice ao2 (0 + m) c2) (0 + m) (([] ++ B).map c8) := any_of (own_keep o2 b3)
    rw [Nat.zero_add] at a3 hlt2 hc2 hf2
    rw [List.nil_append] at o3
    have pk3 : Below w.heap.size w w3 := b1.trans ((k2.trans (b3.mono k2.size)).mono b1.size)
    have pb3 : Old w.heap.size w3 bo B := hB.below pk3 (Nat.le_refl _)
    have hs1 := b1.size
    obtain ⟨base, hbase⟩ : ∃ base, base = w2.heap.size := ⟨_, rfl⟩
    rw [← hbase] at o3 hlt2
    have hbase0 : 0 < base := by have := k2.size; have := b1.size; omega
    obtain ⟨xs, hxs⟩ : ∃ xs, xs = ([] ++ B).map c8 := ⟨_, rfl⟩
    rw [← hxs] at a3
    clear hxs hbase o2 g2 k2 b3 hK hB
    go_loopg [6] m (fun k v wr => ∃ (i : Nat) (xs : List Value), v = .int .i64 i ∧ i + k = m ∧ Any wr w1.heap.size (.slice ao2 m c2) m xs ∧ Own wr base (.slice (some adx) 32 cx) 32 (dig B) ∧ Old w.heap.size wr bo B ∧ Below w.heap.size w wr)
    case atStart => exact ⟨0, xs, rfl, by omega, a3, o3, pb3, pk3⟩
    case round =>
      clear a3 o3 pb3 pk3
      obtain ⟨i, xs, rfl, hi, a4, o4, pb4, pk4⟩ := hrel
      by_cases hlt : i < m
      · obtain ⟨g, rfl⟩ := hf2 (by omega)
        obtain ⟨y, hy⟩ := a4.cell i hlt
        have hz := a4.1.frozenAt i
        have hg := hlt2 g rfl
        obtain ⟨a5, g5⟩ := a4.stored i (IntKind.u8.wrap (y + 1))
        have o5 := ownsRow_setCell_below o4 (a := ⟨g, i, none⟩) hg.2 (.int .u8 (IntKind.u8.wrap (y + 1)))
        have pb5 := pb4.grown g5 (fun b e => by injection e with e; omega)
        have pk5 := pk4.grown g5 pk4.size (fun b e => by injection e with e; omega)
        have q1 : (0 : Int) ≤ (i : Int) := by omega
        have q2 : (i : Int) < (m : Int) := by omega
        have HI := Lib.hid hi
        clear a4 g5 o4 pb4 pk4 hi
        go_wp2_with fail
        go_roundg (gk - 1)
        case measure => have := HI.out; omega
        case rel => exact ⟨i + 1, _, by simp, by have := HI.out; omega, a5, o5, pb5, pk5⟩
      · have hd3 : decide (i < m) = false := by simp; omega
        go_upto_region 10 with fail
        obtain ⟨_, _, ez, -, -, y4⟩ := own_byt (g := 0) o4 hbase0
        obtain ⟨rfl, rfl⟩ : some adx = _ ∧ cx = _ := by injection ez with e1 _ e3; exact ⟨e1, e3⟩
        have px := y4.below (w' := wr.drew) ((Below.refl _ _).drew)
        have pb := pb4.below (w' := wr.drew) ((Below.refl wr.heap.size wr).drew) pk4.size
        have pk := pk4.trans (((Below.refl wr.heap.size wr).drew).mono pk4.size)
        clear a4 o4 pb4 pk4 hi y4 ez
        refine region_monoL (fun x => Old w.heap.size x bo B ∧ Byt x 0 (some adx) (dig B) ∧ Below w.heap.size w x) (fun w w' => Below w.heap.size w w') (V3a B bo m bc) [(0, some 28), (1, some 29), (2, some 30), (3, some 31), (4, some 32), (5, some 33), (6, some 34), (7, some 35), (8, some 36), (9, some 2)] (by kernel_rfl) (by kernel_rfl) (by kernel_rfl) (fun _ _ h r => ⟨h.1.below r h.1.size, h.2.1.below r, h.2.2.trans (r.mono h.1.size)⟩) (fun i1 v1 w1 w2 _ h1 r1 => V3a_keep B bo m bc i1 v1 w1 w2 h1 r1) (⟨pb, px, pk⟩) ?_ (fun vs w' hS hV => ?_)
        · refine StepsL.cons0  (by kernel_rfl)  ?_ ?_
          · rintro w1 hS  K hK
            (try simp only [Act.put, List.setIfInBounds_toArray, List.set_cons_zero, List.set_cons_succ])
            go_simp
            exact hK.out _ _ rfl (Below.refl _ _)
          refine StepsL.cons1 0 (some 28) (by kernel_rfl) rfl ?_ ?_
          · rintro w1 hS _ rfl K hK
            (try simp only [Act.put, List.setIfInBounds_toArray, List.set_cons_zero, List.set_cons_succ])
            go_simp
            exact hK.out _ _ rfl (Below.refl _ _)
          refine StepsL.cons1 1 (some 29) (by kernel_rfl) rfl ?_ ?_
          · rintro w1 hS _ rfl K hK
            (try simp only [Act.put, List.setIfInBounds_toArray, List.set_cons_zero, List.set_cons_succ])
            go_simp
            exact hK.out _ _ ⟨_, _, rfl, hS.2.1⟩ (Below.refl _ _)
          refine StepsL.cons2 1 (some 29) 2 (some 30) (by kernel_rfl) rfl rfl ?_ ?_
          · rintro w1 hS _ rfl _ ⟨a2, c2, rfl, y2⟩ K hK
            (try simp only [Act.put, List.setIfInBounds_toArray, List.set_cons_zero, List.set_cons_succ])
            have hcv := conv_byt (c := c2) (n := 32) (dig_length B).symm y2
            go_simp
            exact hK.out _ _ rfl (Below.refl _ _)
          refine StepsL.cons1 1 (some 29) (by kernel_rfl) rfl ?_ ?_
          · rintro w1 hS _ rfl K hK
            (try simp only [Act.put, List.setIfInBounds_toArray, List.set_cons_zero, List.set_cons_succ])
            go_simp
            exact hK.out _ _ rfl (Below.refl _ _)
          refine StepsL.cons2 1 (some 29) 4 (some 32) (by kernel_rfl) rfl rfl ?_ ?_
          · rintro w1 hS _ rfl _ rfl K hK
            (try simp only [Act.put, List.setIfInBounds_toArray, List.set_cons_zero, List.set_cons_succ])
            go_simp
            go_at_call 10
            refine (rsum10 B _ w.heap.size _ _ _ HL.out (by omega) (hS.1.byt (Nat.le_refl _)) (by have := hS.1.size; omega)).mono ?_
            rintro r w2 ⟨v2, rfl, o2, b2⟩
            obtain ⟨ad2, c2, rfl, -, e2, y2⟩ := own_str o2 (by have := hS.1.size; omega) (by omega)
            exact hK.out _ _ ⟨_, _, rfl, y2⟩ b2
          refine StepsL.cons2 1 (some 29) 5 (some 33) (by kernel_rfl) rfl rfl ?_ ?_
          · rintro w1 hS _ rfl _ ⟨a5, c5, rfl, y5⟩ K hK
            (try simp only [Act.put, List.setIfInBounds_toArray, List.set_cons_zero, List.set_cons_succ])
            have hcv := conv_byt (c := c5) (n := 32) (dig_length B).symm y5
            go_simp
            exact hK.out _ _ rfl (Below.refl _ _)
          refine StepsL.cons3 1 (some 29) 3 (some 31) 6 (some 34) (by kernel_rfl) rfl rfl rfl ?_ ?_
          · rintro w1 hS _ rfl _ rfl _ rfl K hK
            (try simp only [Act.put, List.setIfInBounds_toArray, List.set_cons_zero, List.set_cons_succ])
            go_simp
            exact hK.out _ _ rfl (Below.refl _ _)
          refine StepsL.cons2 1 (some 29) 7 (some 35) (by kernel_rfl) rfl rfl ?_ ?_
          · rintro w1 hS _ rfl _ rfl K hK
            (try simp only [Act.put, List.setIfInBounds_toArray, List.set_cons_zero, List.set_cons_succ])
            go_simp
            exact hK.out _ _ rfl (Below.refl _ _)
          refine StepsL.cons1 8 (some 36) (by kernel_rfl) rfl ?_ ?_
          · rintro w1 hS _ rfl K hK
            (try simp only [Act.put, List.setIfInBounds_toArray, List.set_cons_zero, List.set_cons_succ])
            go_simp
            exact hK.out _ _ rfl (Below.refl _ _)
          exact StepsL.nil
        · have e9 : vs 9 = .bool true := hV 9 (by simp)
          simp only [putl, List.foldl_cons, List.foldl_nil, Act.put, List.setIfInBounds_toArray, List.set_cons_zero, List.set_cons_succ, e9]
          go_wp2_with fail
          go_ret
          exact ⟨rfl, hS.2.2⟩
end Go.Proofs.YtinmmenjlhlpmaaDoor
