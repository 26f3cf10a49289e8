/- A new sponge; bytes given out: walked. -/
import Derived.Test.YtgjcofneecebjaaDoorD
import Derived.Deep.OwnRows
namespace Go.Proofs.YtgjcofneecebjaaDoor
open Go.ChangeShapes Go.WideShapes Go.ChangeAt Go.RowKit
set_option linter.unusedSimpArgs false
set_option linter.unusedVariables false
theorem zero45 (w : World) : (zeroValue 45).run Tryd.prog w = .ok (.agg (#[Value.int .i64 0, .int .u8 0] ++ (arr .u64 25 (fun _ => 0) ++ #[Value.int .i64 0, .bool false]))) w := by kernel_rfl
theorem low7 : ∀ n : Nat, n < 193 → bits BinOp.and IntKind.i64 (n : Int) 7 = ((n % 8 : Nat) : Int) := by decide +kernel
theorem new9 (rt : Nat) (en : Int) (w : World) (h8 : 8 ≤ rt) (h192 : rt ≤ 192) (hm : rt % 8 = 0) :
    Calls Tryd.prog 9 #[.int .i64 rt, .int .u8 en] w fun e w' => ∃ g, e = .returned (.pointer (some ⟨g, 0, none⟩)) ∧ w.heap.size ≤ g ∧ Spg w' g rt en (fun _ => 0) 0 false ∧ Below w.heap.size w w' := by
  have hz := zero45
  have e1 := low7 rt (by omega)
  rw [hm] at e1
  have d1 : decide ((rt : Int) < 8) = false := by simp; omega
  have d2 : decide ((rt : Int) > 192) = false := by simp; omega
  go_enter Tryd.func9, Tryd.ntmps9
  go_wp2_with fail
  go_ret
  refine ⟨_, rfl, Nat.le_refl _, ⟨?_⟩, (Below.refl _ _).alloc (Nat.le_refl _) _⟩
  rw [heap_alloc_new]
theorem byteOf (a : Int) : bt (BitVec.ofInt 8 a) = IntKind.u8.wrap a := by
  unfold bt; rw [BitVec.toNat_ofInt, IntKind.wrap_u8]; omega
theorem getD_snoc (l : List (BitVec 8)) (x : BitVec 8) (i : Nat) : (l ++ [x]).getD i 0 = if i = l.length then x else l.getD i 0 := by
  simp only [List.getD_eq_getElem?_getD]
  rcases Nat.lt_trichotomy i l.length with h | h | h
  · rw [List.getElem?_append_left h, if_neg (by omega)]
  · subst h; simp
  · rw [List.getElem?_eq_none (by simp; omega), if_neg (by omega), List.getElem?_eq_none (by omega)]
theorem gives_length (rt : Nat) (s : St) (n : Nat) : (gives rt s n).1.length = n := by
  induction n with
  | zero => rfl
  | succ n ih => unfold gives; simp [ih]
theorem gives_le {rt : Nat} {s : St} (h0 : 0 < rt) (h : s.2 ≤ rt) (n : Nat) : (gives rt s n).2.2 ≤ rt := by
  induction n with
  | zero => exact h
  | succ n ih => have := trn_lt h0 ih; unfold gives; exact this
theorem made5 (n : Nat) : madeCells #[Value.int .u8 0] n = arr .u8 n (fun _ => 0) := by
  apply Array.toList_inj.1
  rw [toList_madeCells_one]
  simp [arr, List.map_const']
theorem own_of {w : World} {bo n : Nat} {l : List (BitVec 8)} (r : Row w bo 5 .u8 n (fun i => bt (l.getD i 0)) #[]) (hl : l.length = n) (hm : n ≤ maxLen) {base : Nat} (hb : base ≤ bo) : Own w base (.slice (some ⟨bo, 0, none⟩) n n) n l := by
  refine ⟨by simp [hl], .inr ⟨bo, n, _, rfl, hb, r.at_, Nat.le_refl _, hm, by simp [arr_size], ?_⟩⟩
  rw [List.take_of_length_le (by simp [arr])]
  apply List.ext_getElem?
  intro i
  simp only [Array.append_empty, arr, List.toList_toArray, List.getElem?_map]
  rcases Nat.lt_or_ge i n with h | h
  · rw [List.getElem?_range h, List.getElem?_eq_getElem (by omega)]
    simp [c8, List.getD_eq_getElem?_getD, List.getElem?_eq_getElem (show i < l.length by omega)]
  · rw [List.getElem?_eq_none (by simpa using h), List.getElem?_eq_none (by omega)]; rfl
def Vtr (g t1 rt : Nat) (bb : Bool) : Nat → Value → World → Prop
  | 0, v, w => v = .pointer (some ⟨g, 0, none⟩)
  | 1, v, w => v = .pointer (some ⟨g, 0, none⟩)
  | 2, v, w => v = .pointer (some ⟨g, 0, none⟩)
  | 3, v, w => v = .pointer (some ⟨g, 27, none⟩)
  | 4, v, w => v = .int .i64 t1
  | 5, v, w => v = .pointer (some ⟨g, 0, none⟩)
  | 6, v, w => v = .pointer (some ⟨g, 0, none⟩)
  | 7, v, w => v = .pointer (some ⟨g, 0, none⟩)
  | 8, v, w => v = .int .i64 rt
  | 9, v, w => v = .bool bb
  | _, _, _ => True
theorem Vtr_keep (g t1 rt : Nat) (bb : Bool) (i1 : Nat) (v : Value) (w w' : World) (h : Vtr g t1 rt bb i1 v w) (r : (fun w w' => Below w.heap.size w w') w w') : Vtr g t1 rt bb i1 v w' := by
  rcases i1 with _ | _ | _ | _ | _ | _ | _ | _ | _ | _ | _
  · exact h
  · exact h
  · exact h
  · exact h
  · exact h
  · exact h
  · exact h
  · exact h
  · exact h
  · exact h
  · trivial
def Vr4 (g t : Nat) (en : Int) : Nat → Value → World → Prop
  | 0, v, w => v = .pointer (some ⟨g, 0, none⟩)
  | 1, v, w => v = .pointer (some ⟨g, 0, none⟩)
  | 2, v, w => v = .pointer (some ⟨g, 0, none⟩)
  | 3, v, w => v = .pointer (some ⟨g, 27, none⟩)
  | 4, v, w => v = .int .i64 t
  | 5, v, w => v = .pointer (some ⟨g, 0, none⟩)
  | 6, v, w => v = .pointer (some ⟨g, 0, none⟩)
  | 7, v, w => v = .pointer (some ⟨g, 1, none⟩)
  | 8, v, w => v = .int .u8 en
  | _, _, _ => True
theorem Vr4_keep (g t : Nat) (en : Int) (i1 : Nat) (v : Value) (w w' : World) (h : Vr4 g t en i1 v w) (r : (fun w w' => Below w.heap.size w w') w w') : Vr4 g t en i1 v w' := by
  rcases i1 with _ | _ | _ | _ | _ | _ | _ | _ | _ | _
  · exact h
  · exact h
  · exact h
  · exact h
  · exact h
  · exact h
  · exact h
  · exact h
  · exact h
  · trivial
def Vr13 (g bo n k t q r8 s : Nat) (a m c : Int) : Nat → Value → World → Prop
  | 0, v, w => v = .slice (some ⟨bo, 0, none⟩) n n
  | 1, v, w => v = .int .i64 k
  | 2, v, w => v = .pointer (some ⟨g, 0, none⟩)
  | 3, v, w => v = .pointer (some ⟨g, 0, none⟩)
  | 4, v, w => v = .pointer (some ⟨g, 0, none⟩)
  | 5, v, w => v = .pointer (some ⟨g, 27, none⟩)
  | 6, v, w => v = .int .i64 t
  | 7, v, w => v = .int .i64 q
  | 8, v, w => v = .pointer (some ⟨g, 0, none⟩)
  | 9, v, w => v = .pointer (some ⟨g, 2, none⟩)
  | 10, v, w => v = .pointer (some ⟨g, 2 + q, none⟩)
  | 11, v, w => v = .int .u64 a
  | 12, v, w => v = .pointer (some ⟨g, 0, none⟩)
  | 13, v, w => v = .pointer (some ⟨g, 0, none⟩)
  | 14, v, w => v = .pointer (some ⟨g, 27, none⟩)
  | 15, v, w => v = .int .i64 t
  | 16, v, w => v = .int .i64 r8
  | 17, v, w => v = .int .i64 s
  | 18, v, w => v = .int .u64 m
  | 19, v, w => v = .int .u8 c
  | 20, v, w => v = .pointer (some ⟨bo, k, none⟩)
  | _, _, _ => True
theorem Vr13_keep (g bo n k t q r8 s : Nat) (a m c : Int) (i1 : Nat) (v : Value) (w w' : World) (h : Vr13 g bo n k t q r8 s a m c i1 v w) (r : (fun w w' => Below w.heap.size w w') w w') : Vr13 g bo n k t q r8 s a m c i1 v w' := by
  rcases i1 with _ | _ | _ | _ | _ | _ | _ | _ | _ | _ | _ | _ | _ | _ | _ | _ | _ | _ | _ | _ | _ | _
  · exact h
  · exact h
  · exact h
  · exact h
  · exact h
  · exact h
  · exact h
  · exact h
  · exact h
  · exact h
  · exact h
  · exact h
  · exact h
  · exact h
  · exact h
  · exact h
  · exact h
  · exact h
  · exact h
  · exact h
  · exact h
  · trivial
set_option maxRecDepth 20000 in
set_option maxHeartbeats 4000000 in
theorem read14 (g rt : Nat) (en : Int) (s : St) (gv : Bool) (n : Nat) (w : World) (hS : Spg w g rt en s.1 s.2 gv) (hs : s.2 ≤ rt) (hs' : gv = false → s.2 < rt) (h8 : 8 ≤ rt) (hrt : rt ≤ 192) (hn : n ≤ 65536) (he : 0 ≤ en ∧ en < 256) (hK : TK w) (hg : 3 ≤ g) :
    Calls Tryd.prog 14 #[.pointer (some ⟨g, 0, none⟩), .int .i64 n] w fun e w' => ∃ b, e = .returned (.slice (some ⟨b, 0, none⟩) n n) ∧ Own w' w.heap.size (.slice (some ⟨b, 0, none⟩) n n) n (gives rt (if gv then s else pad rt en s) n).1 ∧
      Spg w' g rt en (gives rt (if gv then s else pad rt en s) n).2.1 (gives rt (if gv then s else pad rt en s) n).2.2 true ∧ w.grownBy w' (some g) := by
  have HK := Lib.hid (fun (x : World) (j : w.grownBy x (some g)) => hK.grown j (fun b e => by injection e with e; omega))
  have hgl := hS.lt
  have hmk := run_make_row' (P := Tryd.prog) 29 5 (.int .u8 0) 1 Tryd.underlying29 (by kernel_rfl) rfl .i64 .i64 n (by omega) (by omega)
  rw [made5] at hmk
  obtain ⟨s0, hs0⟩ : ∃ s0, s0 = if gv then s else pad rt en s := ⟨_, rfl⟩
  rw [← hs0]
  have HS0 := Lib.hid hs0
  have d1 : decide ((n : Int) < 0) = false := by simp
  have d2 : decide ((n : Int) > 65536) = false := by simp; omega
  have hc28 := hS.gives
  go_enter Tryd.func14, Tryd.ntmps14
  go_upto_if 17 with fail
  go_cut [] (fun wc => Spg wc g rt en s0.1 s0.2 true ∧ w.grownBy wc (some g))
  case first =>
    cases gv with
    | true =>
      go_wp2_with fail
      go_meet
      rw [HS0.out]
      exact ⟨hS, World.grownBy.refl _ _⟩
    | false =>
      obtain ⟨W, t⟩ := s
      have ht := hs' rfl
      have hW1 : Spg w g rt en W t false := hS
      clear hS hs0 hs
      have h2 := hW1.drew
      have g2 := grown_below (World.grownBy.refl w (some g)) ((Below.refl w.heap.size w).drew)
      have kk := HK.out _ g2
      clear hK
      go_upto_region 4 with fail
      refine region_monoT 9 (fun x => Spg x g rt en W t false ∧ TK x ∧ w.grownBy x (some g)) (fun w w' => Below w.heap.size w w') (Vr4 g t en) [(0, some 18), (1, some 19), (2, some 20), (3, some 21), (4, some 22), (5, some 23), (6, some 24), (7, some 25), (8, some 26)] (by kernel_rfl) (by kernel_rfl) (by kernel_rfl) (by kernel_rfl) (fun _ _ h r => ⟨h.1.below r h.1.lt, h.2.1.below r h.2.1.lt, grown_below h.2.2 r⟩) (fun i1 v1 w1 w2 _ h1 r1 => Vr4_keep g t en i1 v1 w1 w2 h1 r1) (⟨h2, kk, g2⟩) ?_ (fun vs w' hS hV => ?_)
      · refine StepsL.cons0  (by kernel_rfl)  ?_ ?_
        · rintro w1 hS  K hK
          (try simp only [Act.put, List.setIfInBounds_toArray, List.set_cons_zero, List.set_cons_succ])
          go_simp
          exact hK.out _ _ rfl (Below.refl _ _)
        refine StepsL.cons0  (by kernel_rfl)  ?_ ?_
        · rintro w1 hS  K hK
          (try simp only [Act.put, List.setIfInBounds_toArray, List.set_cons_zero, List.set_cons_succ])
          go_simp
          exact hK.out _ _ rfl (Below.refl _ _)
        refine StepsL.cons1 1 (some 19) (by kernel_rfl) rfl ?_ ?_
        · rintro w1 hS _ rfl K hK
          (try simp only [Act.put, List.setIfInBounds_toArray, List.set_cons_zero, List.set_cons_succ])
          go_simp
          exact hK.out _ _ rfl (Below.refl _ _)
        refine StepsL.cons1 2 (some 20) (by kernel_rfl) rfl ?_ ?_
        · rintro w1 hS _ rfl K hK
          (try simp only [Act.put, List.setIfInBounds_toArray, List.set_cons_zero, List.set_cons_succ])
          go_simp
          exact hK.out _ _ rfl (Below.refl _ _)
        refine StepsL.cons1 3 (some 21) (by kernel_rfl) rfl ?_ ?_
        · rintro w1 hS _ rfl K hK
          (try simp only [Act.put, List.setIfInBounds_toArray, List.set_cons_zero, List.set_cons_succ])
          have hcl := hS.1.at27
          go_simp
          exact hK.out _ _ rfl (Below.refl _ _)
        refine StepsL.cons0  (by kernel_rfl)  ?_ ?_
        · rintro w1 hS  K hK
          (try simp only [Act.put, List.setIfInBounds_toArray, List.set_cons_zero, List.set_cons_succ])
          go_simp
          exact hK.out _ _ rfl (Below.refl _ _)
        refine StepsL.cons1 5 (some 23) (by kernel_rfl) rfl ?_ ?_
        · rintro w1 hS _ rfl K hK
          (try simp only [Act.put, List.setIfInBounds_toArray, List.set_cons_zero, List.set_cons_succ])
          go_simp
          exact hK.out _ _ rfl (Below.refl _ _)
        refine StepsL.cons1 6 (some 24) (by kernel_rfl) rfl ?_ ?_
        · rintro w1 hS _ rfl K hK
          (try simp only [Act.put, List.setIfInBounds_toArray, List.set_cons_zero, List.set_cons_succ])
          go_simp
          exact hK.out _ _ rfl (Below.refl _ _)
        refine StepsL.cons1 7 (some 25) (by kernel_rfl) rfl ?_ ?_
        · rintro w1 hS _ rfl K hK
          (try simp only [Act.put, List.setIfInBounds_toArray, List.set_cons_zero, List.set_cons_succ])
          have hcl := hS.1.end_
          go_simp
          exact hK.out _ _ rfl (Below.refl _ _)
        exact StepsL.nil
      · have e0 : vs 0 = .pointer (some ⟨g, 0, none⟩) := hV 0 (by omega)
        have e4 : vs 4 = .int .i64 t := hV 4 (by omega)
        have e8 : vs 8 = .int .u8 en := hV 8 (by omega)
        simp only [putl, List.foldl_cons, List.foldl_nil, Act.put, List.setIfInBounds_toArray, List.set_cons_zero, List.set_cons_succ, e0, e4, e8]
        simp only [List.drop_succ_cons, List.drop_zero]
        obtain ⟨h3, k3, g3⟩ := hS
        have hr1 : IntKind.i64.wrap ((rt : Int) - 1) = ((rt - 1 : Nat) : Int) := by rw [IntWalk.i64_in _ (by omega)]; omega
        obtain ⟨rm, hrm⟩ : ∃ rm, rm = rt - 1 := ⟨_, rfl⟩
        rw [← hrm] at hr1
        have hrm200 : rm < 200 := by omega
        have HRM := Lib.hid hrm
        clear hV e0 e4 e8 h2 g2 kk hrm hW1
        go_wp2_with (first
          | (go_at_call 24; (with_reducible refine (lay24 g t rt en t false W en _ h3 ?l1 he).mono ?_); (case l1 => omega); rintro e w4 ⟨rfl, h4, g4⟩; have hc0 := h4.rate; have g5 := grown_trans g3 g4; clear h3)
          | (go_at_call 24; (with_reducible refine (lay24 g rm rt en t false (layf W t en) 128 _ h4 hrm200 (by omega)).mono ?_); rintro e w5 ⟨rfl, h5, g6⟩; have g7 := grown_trans g5 g6; have k7 := HK.out _ g7)
          | (go_at_call 25; (with_reducible refine (turn25 g t rt en false true _ _ h5 k7 hg).mono ?_); rintro e w6 ⟨rfl, h6, g8⟩; have g9 := grown_trans g7 g8; have hf6 := h6.frozen 28; have hc6 := h6.gives; have h7 := h6.setGives true; have g10 := grown_set' g9 ⟨g, 28, none⟩ (.bool true) (.inl rfl)))
        go_meet
        rw [HS0.out]
        refine ⟨?_, g10⟩
        unfold pad
        rw [← HRM.out]
        exact h7
  case rest =>
    obtain ⟨hA, gA⟩ := hcut
    have hs0' : s0.2 ≤ rt := by
      rw [HS0.out]
      cases gv with
      | true => exact hs
      | false => show 0 ≤ rt; omega
    clear hS hK hs hs' hs0 hc28
    have r0 := Row.new wc 5 .u8 n (fun _ => 0)
    have h1 := hA.alloc (.cells (arr .u8 n fun _ => 0) 5)
    have g1 := grownBy_alloc' gA (.cells (arr .u8 n fun _ => 0) 5)
    have hbw := gA.size
    have hbg := hA.lt
    go_wp2_with fail
    obtain ⟨bo, hbo⟩ : ∃ bo, bo = wc.heap.size := ⟨_, rfl⟩
    rw [← hbo] at r0 hbw hbg ⊢
    obtain ⟨w1, hw1⟩ : ∃ w1, w1 = wc.alloc (.cells (arr .u8 n fun _ => 0) 5) := ⟨_, rfl⟩
    rw [← hw1] at r0 h1 g1 ⊢
    have HB0 := Lib.hid hbo
    clear hbo hw1 hA gA hmk
    have r1 : Row w1 bo 5 .u8 n (fun i => bt ((gives rt s0 0).1.getD i 0)) #[] := r0.congr (fun i _ => by simp [gives, bt])
    go_loopg [44] n (fun k v wr => ∃ j : Nat, v = .int .i64 j ∧ j + k = n ∧ Spg wr g rt en (gives rt s0 j).2.1 (gives rt s0 j).2.2 true ∧ Row wr bo 5 .u8 n (fun i => bt ((gives rt s0 j).1.getD i 0)) #[] ∧ w.grownBy wr (some g))
    case atStart => exact ⟨0, rfl, by omega, h1, r1, g1⟩
    case round =>
      clear h1 r0 r1 g1
      obtain ⟨k, rfl, hk, h1, r1, g1⟩ := hrel
      by_cases hlt : k < n
      · have hle := gives_le (rt := rt) (by omega) hs0' k
        have hll := gives_length rt s0 k
        have HG := Lib.hid (show gives rt s0 (k + 1) = ((gives rt s0 k).1 ++ [byteAt (trn rt (gives rt s0 k).2)], ((trn rt (gives rt s0 k).2).1, (trn rt (gives rt s0 k).2).2 + 1)) from rfl)
        obtain ⟨l, hl⟩ : ∃ l, l = (gives rt s0 k).1 := ⟨_, rfl⟩
        obtain ⟨u, hu⟩ : ∃ u, u = (gives rt s0 k).2 := ⟨_, rfl⟩
        rw [← hl] at hll HG r1
        rw [← hu] at hle HG h1
        obtain ⟨W2, t1⟩ := u
        have h1' : Spg wr g rt en W2 t1 true := h1
        have hle' : t1 ≤ rt := hle
        have htl := trn_lt (rt := rt) (s := (W2, t1)) (by omega) hle
        obtain ⟨bb, hbb⟩ : ∃ bb, decide (t1 = rt) = bb := ⟨_, rfl⟩
        have be1 : ((t1 : Int) == (rt : Int)) = bb := by
          rw [← hbb]
          by_cases h : t1 = rt
          · simp [h]
          · have h2 : ¬ (t1 : Int) = (rt : Int) := by omega
            simp [h, h2]
        have be2 : decide ((t1 : Int) = (rt : Int)) = bb := by
          rw [← hbb]
          by_cases h : t1 = rt
          · simp [h]
          · have h2 : ¬ (t1 : Int) = (rt : Int) := by omega
            simp [h, h2]
        have be3 : (t1 == rt) = bb := by
          rw [← hbb]
          by_cases h : t1 = rt
          · simp [h]
          · simp [h]
        have h2 := h1'.drew
        have g2 := grown_below g1 ((Below.refl wr.heap.size wr).drew)
        have r2 := r1.drew
        have kk := HK.out _ g2
        have HTR : Hid (trn rt (W2, t1) = (if bb then prm W2 24 else W2, if bb then 0 else t1)) := Lib.hid (by
          unfold trn
          cases bb with
          | true => rw [if_pos (show (W2, t1).2 = rt from of_decide_eq_true hbb)]; rfl
          | false => rw [if_neg (show ¬ (W2, t1).2 = rt from of_decide_eq_false hbb)]; rfl)
        have HK1 := Lib.hid (And.intro hk (And.intro hll hle'))
        clear hbb h1 h1' r1 g1 hl hu hk hll hle hle'
        go_upto_region 12 with fail
        refine region_monoT 10 (fun x => Spg x g rt en W2 t1 true ∧ TK x ∧ Row x bo 5 .u8 n (fun i => bt (l.getD i 0)) #[] ∧ w.grownBy x (some g)) (fun w w' => Below w.heap.size w w') (Vtr g t1 rt bb) [(0, some 47), (1, some 48), (2, some 49), (3, some 50), (4, some 51), (5, some 52), (6, some 53), (7, some 54), (8, some 55), (9, some 56)] (by kernel_rfl) (by kernel_rfl) (by kernel_rfl) (by kernel_rfl) (fun _ _ h r => ⟨h.1.below r h.1.lt, h.2.1.below r h.2.1.lt, h.2.2.1.below r h.2.2.1.lt, grown_below h.2.2.2 r⟩) (fun i1 v1 w1 w2 _ h1 r1 => Vtr_keep g t1 rt bb i1 v1 w1 w2 h1 r1) (⟨h2, kk, r2, g2⟩) ?_ (fun vs w' hS hV => ?_)
        · refine StepsL.cons0  (by kernel_rfl)  ?_ ?_
          · rintro w1 hS  K hK
            (try simp only [Act.put, List.setIfInBounds_toArray, List.set_cons_zero, List.set_cons_succ])
            go_simp
            exact hK.out _ _ rfl (Below.refl _ _)
          refine StepsL.cons0  (by kernel_rfl)  ?_ ?_
          · rintro w1 hS  K hK
            (try simp only [Act.put, List.setIfInBounds_toArray, List.set_cons_zero, List.set_cons_succ])
            go_simp
            exact hK.out _ _ rfl (Below.refl _ _)
          refine StepsL.cons1 1 (some 48) (by kernel_rfl) rfl ?_ ?_
          · rintro w1 hS _ rfl K hK
            (try simp only [Act.put, List.setIfInBounds_toArray, List.set_cons_zero, List.set_cons_succ])
            go_simp
            exact hK.out _ _ rfl (Below.refl _ _)
          refine StepsL.cons1 2 (some 49) (by kernel_rfl) rfl ?_ ?_
          · rintro w1 hS _ rfl K hK
            (try simp only [Act.put, List.setIfInBounds_toArray, List.set_cons_zero, List.set_cons_succ])
            go_simp
            exact hK.out _ _ rfl (Below.refl _ _)
          refine StepsL.cons1 3 (some 50) (by kernel_rfl) rfl ?_ ?_
          · rintro w1 hS _ rfl K hK
            (try simp only [Act.put, List.setIfInBounds_toArray, List.set_cons_zero, List.set_cons_succ])
            have hcl := hS.1.at27
            go_simp
            exact hK.out _ _ rfl (Below.refl _ _)
          refine StepsL.cons0  (by kernel_rfl)  ?_ ?_
          · rintro w1 hS  K hK
            (try simp only [Act.put, List.setIfInBounds_toArray, List.set_cons_zero, List.set_cons_succ])
            go_simp
            exact hK.out _ _ rfl (Below.refl _ _)
          refine StepsL.cons1 5 (some 52) (by kernel_rfl) rfl ?_ ?_
          · rintro w1 hS _ rfl K hK
            (try simp only [Act.put, List.setIfInBounds_toArray, List.set_cons_zero, List.set_cons_succ])
            go_simp
            exact hK.out _ _ rfl (Below.refl _ _)
          refine StepsL.cons1 6 (some 53) (by kernel_rfl) rfl ?_ ?_
          · rintro w1 hS _ rfl K hK
            (try simp only [Act.put, List.setIfInBounds_toArray, List.set_cons_zero, List.set_cons_succ])
            go_simp
            exact hK.out _ _ rfl (Below.refl _ _)
          refine StepsL.cons1 7 (some 54) (by kernel_rfl) rfl ?_ ?_
          · rintro w1 hS _ rfl K hK
            (try simp only [Act.put, List.setIfInBounds_toArray, List.set_cons_zero, List.set_cons_succ])
            have hcl := hS.1.rate
            go_simp
            exact hK.out _ _ rfl (Below.refl _ _)
          refine StepsL.cons2 4 (some 51) 8 (some 55) (by kernel_rfl) rfl rfl ?_ ?_
          · rintro w1 hS _ rfl _ rfl K hK
            (try simp only [Act.put, List.setIfInBounds_toArray, List.set_cons_zero, List.set_cons_succ])
            go_simp
            exact hK.out _ _ rfl (Below.refl _ _)
          exact StepsL.nil
        · have e0 : vs 0 = .pointer (some ⟨g, 0, none⟩) := hV 0 (by omega)
          have e9 : vs 9 = .bool bb := hV 9 (by omega)
          simp only [putl, List.foldl_cons, List.foldl_nil, Act.put, List.setIfInBounds_toArray, List.set_cons_zero, List.set_cons_succ, e0, e9]
          simp only [List.drop_succ_cons, List.drop_zero]
          obtain ⟨h3, k3, r3, g3⟩ := hS
          clear hV e0 e9 h2 g2 kk r2
          obtain ⟨W3, hW3⟩ : ∃ W3, W3 = (if bb then prm W2 24 else W2) := ⟨_, rfl⟩
          obtain ⟨t, ht⟩ : ∃ t, t = (if bb then 0 else t1) := ⟨_, rfl⟩
          have HTR2 : Hid (trn rt (W2, t1) = (W3, t)) := Lib.hid (by rw [HTR.out, hW3, ht])
          rw [HTR2.out] at htl HG
          have htl' : t < rt := htl
          have hti : (if bb then (0 : Int) else (t1 : Int)) = (t : Int) := by rw [ht]; cases bb <;> rfl
          have HW3 := Lib.hid hW3
          have HTI := Lib.hid hti
          clear htl ht hW3 hti be1 be2 be3
          obtain ⟨q, hq⟩ : ∃ q, t / 8 = q := ⟨_, rfl⟩
          obtain ⟨r8, hr⟩ : ∃ r, t % 8 = r := ⟨_, rfl⟩
          obtain ⟨s, hs⟩ : ∃ s, r8 * 8 = s := ⟨_, rfl⟩
          obtain ⟨a, ha⟩ : ∃ a, W3 q = a := ⟨_, rfl⟩
          obtain ⟨m, hm⟩ : ∃ m, a / 2 ^ s = m := ⟨_, rfl⟩
          obtain ⟨c, hc⟩ : ∃ c, IntKind.u8.wrap m = c := ⟨_, rfl⟩
          have HA : Hid (some (Value.int .u64 (W3 q)) = some (.int .u64 a)) := Lib.hid (by rw [ha])
          have HX : Hid (bt (byteAt (W3, t)) = c) := Lib.hid (by unfold byteAt; show bt (BitVec.ofInt 8 (W3 (t / 8) / 2 ^ (t % 8 * 8))) = c; rw [byteOf, hq, hr, hs, ha, hm, hc])
          have hq25 : q < 25 := by omega
          have t1a : (t : Int) / 8 = (q : Int) := by omega
          have t2a : (t : Int).tdiv 8 = (q : Int) := by rw [Int.tdiv_eq_ediv_of_nonneg (by omega)]; omega
          have t3a : (t : Int) % 8 = (r8 : Int) := by omega
          have t4a : (t : Int).tmod 8 = (r8 : Int) := by rw [Int.tmod_eq_emod_of_nonneg (by omega)]; omega
          have t5a : (r8 : Int) * 8 = (s : Int) := by omega
          have z0 : (0 : Int) ≤ (q : Int) := by omega
          have z1 : (q : Int) < 25 := by omega
          have z2 : (0 : Int) ≤ (s : Int) := by omega
          have z3 : (0 : Int) ≤ (k : Int) := by omega
          have z4 : (k : Int) < (n : Int) := by omega
          have e1 : IntKind.i64.wrap (q : Int) = (q : Int) := IntWalk.i64_in _ (by omega)
          have e2 : IntKind.i64.wrap (s : Int) = (s : Int) := IntWalk.i64_in _ (by omega)
          have e3 : IntKind.i64.wrap ((t : Int) + 1) = (t : Int) + 1 := IntWalk.i64_in _ (by omega)
          have e4 : IntKind.i64.wrap ((k : Int) + 1) = (k : Int) + 1 := IntWalk.i64_in _ (by omega)
          have hs64 : s < 64 := by omega
          clear hq hr hs ha
          go_upto_region 13 with (first | (go_at_call 25; (with_reducible refine (turn25 g t1 rt en true bb W2 _ h3 k3 hg).mono ?_); rintro e w4 ⟨rfl, h4, g4⟩; have g5 := grown_trans g3 g4; have r5 := r3.grown g4 (by simp; omega)))
          rw [HTI.out, ← HW3.out] at h4
          have h2 := h4.drew
          have g2 := grown_below g5 ((Below.refl w4.heap.size w4).drew)
          have r2 := r5.drew
          have kk := HK.out _ g2
          clear h3 k3 r3 g3 h4 g4 g5 r5
          refine region_monoT 21 (fun x => Spg x g rt en W3 t true ∧ TK x ∧ Row x bo 5 .u8 n (fun i => bt (l.getD i 0)) #[] ∧ w.grownBy x (some g)) (fun w w' => Below w.heap.size w w') (Vr13 g bo n k t q r8 s a m c) [(0, some 58), (1, some 59), (2, some 60), (3, some 61), (4, some 62), (5, some 63), (6, some 64), (7, some 65), (8, some 66), (9, some 67), (10, some 68), (11, some 69), (12, some 70), (13, some 71), (14, some 72), (15, some 73), (16, some 74), (17, some 75), (18, some 76), (19, some 77), (20, some 78)] (by kernel_rfl) (by kernel_rfl) (by kernel_rfl) (by kernel_rfl) (fun _ _ h r => ⟨h.1.below r h.1.lt, h.2.1.below r h.2.1.lt, h.2.2.1.below r h.2.2.1.lt, grown_below h.2.2.2 r⟩) (fun i1 v1 w1 w2 _ h1 r1 => Vr13_keep g bo n k t q r8 s a m c i1 v1 w1 w2 h1 r1) (⟨h2, kk, r2, g2⟩) ?_ (fun vs w' hS hV => ?_)
          · refine StepsL.cons0  (by kernel_rfl)  ?_ ?_
            · rintro w1 hS  K hK
              (try simp only [Act.put, List.setIfInBounds_toArray, List.set_cons_zero, List.set_cons_succ])
              go_simp
              exact hK.out _ _ rfl (Below.refl _ _)
            refine StepsL.cons0  (by kernel_rfl)  ?_ ?_
            · rintro w1 hS  K hK
              (try simp only [Act.put, List.setIfInBounds_toArray, List.set_cons_zero, List.set_cons_succ])
              go_simp
              exact hK.out _ _ rfl (Below.refl _ _)
            refine StepsL.cons0  (by kernel_rfl)  ?_ ?_
            · rintro w1 hS  K hK
              (try simp only [Act.put, List.setIfInBounds_toArray, List.set_cons_zero, List.set_cons_succ])
              go_simp
              exact hK.out _ _ rfl (Below.refl _ _)
            refine StepsL.cons0  (by kernel_rfl)  ?_ ?_
            · rintro w1 hS  K hK
              (try simp only [Act.put, List.setIfInBounds_toArray, List.set_cons_zero, List.set_cons_succ])
              go_simp
              exact hK.out _ _ rfl (Below.refl _ _)
            refine StepsL.cons1 3 (some 61) (by kernel_rfl) rfl ?_ ?_
            · rintro w1 hS _ rfl K hK
              (try simp only [Act.put, List.setIfInBounds_toArray, List.set_cons_zero, List.set_cons_succ])
              go_simp
              exact hK.out _ _ rfl (Below.refl _ _)
            refine StepsL.cons1 4 (some 62) (by kernel_rfl) rfl ?_ ?_
            · rintro w1 hS _ rfl K hK
              (try simp only [Act.put, List.setIfInBounds_toArray, List.set_cons_zero, List.set_cons_succ])
              go_simp
              exact hK.out _ _ rfl (Below.refl _ _)
            refine StepsL.cons1 5 (some 63) (by kernel_rfl) rfl ?_ ?_
            · rintro w1 hS _ rfl K hK
              (try simp only [Act.put, List.setIfInBounds_toArray, List.set_cons_zero, List.set_cons_succ])
              have hcl := hS.1.at27
              go_simp
              exact hK.out _ _ rfl (Below.refl _ _)
            refine StepsL.cons1 6 (some 64) (by kernel_rfl) rfl ?_ ?_
            · rintro w1 hS _ rfl K hK
              (try simp only [Act.put, List.setIfInBounds_toArray, List.set_cons_zero, List.set_cons_succ])
              go_simp
              exact hK.out _ _ rfl (Below.refl _ _)
            refine StepsL.cons1 2 (some 60) (by kernel_rfl) rfl ?_ ?_
            · rintro w1 hS _ rfl K hK
              (try simp only [Act.put, List.setIfInBounds_toArray, List.set_cons_zero, List.set_cons_succ])
              go_simp
              exact hK.out _ _ rfl (Below.refl _ _)
            refine StepsL.cons1 8 (some 66) (by kernel_rfl) rfl ?_ ?_
            · rintro w1 hS _ rfl K hK
              (try simp only [Act.put, List.setIfInBounds_toArray, List.set_cons_zero, List.set_cons_succ])
              go_simp
              exact hK.out _ _ rfl (Below.refl _ _)
            refine StepsL.cons2 7 (some 65) 9 (some 67) (by kernel_rfl) rfl rfl ?_ ?_
            · rintro w1 hS _ rfl _ rfl K hK
              (try simp only [Act.put, List.setIfInBounds_toArray, List.set_cons_zero, List.set_cons_succ])
              go_simp
              exact hK.out _ _ rfl (Below.refl _ _)
            refine StepsL.cons1 10 (some 68) (by kernel_rfl) rfl ?_ ?_
            · rintro w1 hS _ rfl K hK
              (try simp only [Act.put, List.setIfInBounds_toArray, List.set_cons_zero, List.set_cons_succ])
              have hcl := hS.1.cell q hq25 |>.trans HA.out
              go_simp
              exact hK.out _ _ rfl (Below.refl _ _)
            refine StepsL.cons0  (by kernel_rfl)  ?_ ?_
            · rintro w1 hS  K hK
              (try simp only [Act.put, List.setIfInBounds_toArray, List.set_cons_zero, List.set_cons_succ])
              go_simp
              exact hK.out _ _ rfl (Below.refl _ _)
            refine StepsL.cons1 12 (some 70) (by kernel_rfl) rfl ?_ ?_
            · rintro w1 hS _ rfl K hK
              (try simp only [Act.put, List.setIfInBounds_toArray, List.set_cons_zero, List.set_cons_succ])
              go_simp
              exact hK.out _ _ rfl (Below.refl _ _)
            refine StepsL.cons1 13 (some 71) (by kernel_rfl) rfl ?_ ?_
            · rintro w1 hS _ rfl K hK
              (try simp only [Act.put, List.setIfInBounds_toArray, List.set_cons_zero, List.set_cons_succ])
              go_simp
              exact hK.out _ _ rfl (Below.refl _ _)
            refine StepsL.cons1 14 (some 72) (by kernel_rfl) rfl ?_ ?_
            · rintro w1 hS _ rfl K hK
              (try simp only [Act.put, List.setIfInBounds_toArray, List.set_cons_zero, List.set_cons_succ])
              have hcl := hS.1.at27
              go_simp
              exact hK.out _ _ rfl (Below.refl _ _)
            refine StepsL.cons1 15 (some 73) (by kernel_rfl) rfl ?_ ?_
            · rintro w1 hS _ rfl K hK
              (try simp only [Act.put, List.setIfInBounds_toArray, List.set_cons_zero, List.set_cons_succ])
              go_simp
              exact hK.out _ _ rfl (Below.refl _ _)
            refine StepsL.cons1 16 (some 74) (by kernel_rfl) rfl ?_ ?_
            · rintro w1 hS _ rfl K hK
              (try simp only [Act.put, List.setIfInBounds_toArray, List.set_cons_zero, List.set_cons_succ])
              go_simp
              exact hK.out _ _ rfl (Below.refl _ _)
            refine StepsL.cons2 11 (some 69) 17 (some 75) (by kernel_rfl) rfl rfl ?_ ?_
            · rintro w1 hS _ rfl _ rfl K hK
              (try simp only [Act.put, List.setIfInBounds_toArray, List.set_cons_zero, List.set_cons_succ])
              go_simp
              exact hK.out _ _ rfl (Below.refl _ _)
            refine StepsL.cons1 18 (some 76) (by kernel_rfl) rfl ?_ ?_
            · rintro w1 hS _ rfl K hK
              (try simp only [Act.put, List.setIfInBounds_toArray, List.set_cons_zero, List.set_cons_succ])
              go_simp
              exact hK.out _ _ rfl (Below.refl _ _)
            refine StepsL.cons2 0 (some 58) 1 (some 59) (by kernel_rfl) rfl rfl ?_ ?_
            · rintro w1 hS _ rfl _ rfl K hK
              (try simp only [Act.put, List.setIfInBounds_toArray, List.set_cons_zero, List.set_cons_succ])
              go_simp
              exact hK.out _ _ rfl (Below.refl _ _)
            exact StepsL.nil
          · have e19 : vs 19 = .int .u8 c := hV 19 (by omega)
            have e20 : vs 20 = .pointer (some ⟨bo, k, none⟩) := hV 20 (by omega)
            simp only [putl, List.foldl_cons, List.foldl_nil, Act.put, List.setIfInBounds_toArray, List.set_cons_zero, List.set_cons_succ, e19, e20]
            simp only [List.drop_succ_cons, List.drop_zero]
            obtain ⟨h3, -, r3, g3⟩ := hS
            have hcl := r3.cell k hlt
            have hff := r3.frozen k
            have r4 := r3.set k c hlt
            have h4 := h3.other ⟨bo, k, none⟩ (.int .u8 c) (by show g ≠ bo; omega)
            have g4 := grown_set' g3 ⟨bo, k, none⟩ (.int .u8 c) (.inr hbw)
            obtain ⟨w5, hw5⟩ : ∃ w5, w'.setCell ⟨bo, k, none⟩ (.int .u8 c) = w5 := ⟨_, rfl⟩
            rw [hw5] at r4 h4 g4
            have c27 := h4.at27
            have f27 := h4.frozen 27
            have h5 := h4.setAt ((t : Int) + 1)
            have r5 := r4.other ⟨g, 27, none⟩ (.int .i64 ((t : Int) + 1)) (by show bo ≠ g; omega)
            have g5 := grown_set' g4 ⟨g, 27, none⟩ (.int .i64 ((t : Int) + 1)) (.inl rfl)
            clear hV e19 e20 h2 g2 r2 kk
            go_wp2_with fail
            go_roundg (gk - 1)
            case measure => have := HK1.out; omega
            case rel =>
              refine ⟨k + 1, by simp, by have := HK1.out; omega, ?_, ?_, g5⟩
              · rw [HG.out]; simpa using h5
              · rw [HG.out]
                refine r5.congr (fun i _ => ?_)
                show upd (fun i => bt (l.getD i 0)) k c i = bt ((l ++ [byteAt (W3, t)]).getD i 0)
                rw [getD_snoc, HK1.out.2.1, ← HX.out]
                unfold upd
                by_cases h : i = k
                · rw [if_pos h, if_pos h]
                · rw [if_neg h, if_neg h]
      · have hd : decide (k < n) = false := by simp; omega
        obtain rfl : k = n := by omega
        clear hk
        go_wp2_with fail
        go_ret
        exact ⟨_, rfl, own_of r1 (gives_length _ _ _) (by unfold maxLen; omega) hbw, h1, g1⟩
theorem own_at {w : World} {base b n c g : Nat} {T : List (BitVec 8)} (h : Own w base (.slice (some ⟨b, 0, none⟩) n c) n T) (hg : g < base) : n = T.length ∧ base ≤ b ∧ Byt w g (some ⟨b, 0, none⟩) T := by
  obtain ⟨ao, c', e, h1, _, h2⟩ := own_byt h hg
  injection e with e1 _ _
  subst e1
  exact ⟨h1, (h.lt b rfl).1, h2⟩
/-- What a sponge gives that took these bytes. -/
def st0 : St := (fun _ => 0, 0)
def out (rt : Nat) (en : Int) (D : List (BitVec 8)) (n : Nat) : List (BitVec 8) := (gives rt (pad rt en (takes rt st0 D)) n).1
theorem out_length (rt : Nat) (en : Int) (D : List (BitVec 8)) (n : Nat) : (out rt en D n).length = n := gives_length _ _ _
set_option maxHeartbeats 4000000 in
theorem of28 (rt : Nat) (en : Int) (D : List (BitVec 8)) (bo : Option Addr) (m bc n : Nat) (w : World) (h8 : 8 ≤ rt) (h192 : rt ≤ 192) (hr8 : rt % 8 = 0) (he : 0 ≤ en ∧ en < 256) (hm : m = D.length) (hL : m ≤ 4294967296) (hn : n ≤ 65536) (hD : Old w.heap.size w bo D) (hK : TK w) :
    Calls Tryd.prog 28 #[.int .i64 rt, .int .u8 en, .slice bo m bc, .int .i64 n] w fun e w' => ∃ b, e = .returned (.slice (some ⟨b, 0, none⟩) n n) ∧ Own w' w.heap.size (.slice (some ⟨b, 0, none⟩) n n) n (out rt en D n) ∧ Below w.heap.size w w' := by
  have HM := Lib.hid hm
  have h3 := hK.lt
  clear hm
  go_enter Tryd.func28, Tryd.ntmps28
  go_wp2_with (first
    | (go_at_call 9; (with_reducible refine (new9 rt en _ h8 h192 hr8).mono ?_); rintro e w1 ⟨g, rfl, hg, h1, b1⟩)
    | (go_at_call 12; (with_reducible refine (write12 g rt en st0 D bo m bc _ HM.out hL h1 ?l1 h192 ?l2 ?l3 ?l4).mono ?_); (case l1 => show 0 < rt; omega); (case l2 => exact (hD.below b1 (Nat.le_refl _)).byt hg); (case l3 => exact hK.below b1 h3); (case l4 => omega); rintro e w2 ⟨rfl, h2, g2⟩)
    | (go_at_call 14; (with_reducible refine (read14 g rt en (takes rt st0 D) false n _ h2 ?l1 ?l2 h8 h192 hn he ?l3 ?l4).mono ?_); (case l1 => exact Nat.le_of_lt (takes_lt (by omega) (by show 0 < rt; omega) D)); (case l2 => exact fun _ => takes_lt (by omega) (by show 0 < rt; omega) D); (case l3 => exact (hK.below b1 h3).grown g2 (fun b e => by injection e with e; omega)); (case l4 => omega); rintro e w3 ⟨v, rfl, o3, -, g3⟩))
  go_ret
  exact ⟨_, rfl, own_mono o3 (by have := b1.size; have := g2.size; omega), (b1.grown g2 b1.size (fun b e => by injection e with e; omega)).grown g3 (by have := b1.size; have := g2.size; omega) (fun b e => by injection e with e; omega)⟩
end Go.Proofs.YtgjcofneecebjaaDoor
