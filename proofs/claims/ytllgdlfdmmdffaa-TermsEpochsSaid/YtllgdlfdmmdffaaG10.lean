/- A leaf is added. -/
import Derived.Test.YtllgdlfdmmdffaaG8
import Derived.Test.YtllgdlfdmmdffaaB1
import Derived.Lib.SliceRun
namespace Go.Proofs.Ytllgdlfdmmdffaa
open Go.ChangeShapes Go.WideShapes Go.ChangeAt Go.RowKit Go.MapKept Go.ChangeMaps
set_option linter.unusedSimpArgs false
set_option linter.unusedVariables false
set_option maxRecDepth 20000 in
set_option maxHeartbeats 4000000 in
theorem clone48 (base : Nat) (v : Value) (L : List Int) (w : World) (ho : Ro base w v L) (hl : L.length ≤ 1000) :
    Calls Try.prog 48 #[v] w fun e w' => ∃ u, e = .returned u ∧ Ro w.heap.size w' u L ∧ Below w.heap.size w w' := by
  obtain ⟨i0, hin, hz0, hz1, hz2⟩ := info_parts info3
  obtain ⟨ao, c, rfl⟩ := row_form ho
  have hnews := ro_news ho
  have ho2 : (w.alloc (.cells #[] 3)).ownsRow w.heap.size 3 1 (.slice (some ⟨w.heap.size, 0, none⟩) 0 0) 0 [] := World.ownsRow_made _ _ _ (Nat.le_refl _) (by decide) rfl
  have kA := (Below.refl w.heap.size w).alloc (Nat.le_refl _) (.cells #[] 3)
  have hn2 := (ro_news (ro_below (base := base) ho (KC.of kA))).2
  obtain ⟨n, hn⟩ : ∃ n, n = L.length := ⟨_, rfl⟩
  rw [← hn]
  have qT : ∀ (w : World) (a : Option Addr) (n c n' c' : Nat), (binOp .eql 22 (.slice a n c) (.slice none n' c')).run Try.prog w = .ok (.bool a.isNone) w := fun w a n c n' c' => Lib.run_eql_slice_nil w _ _ a n c n' c' Try.underlying22
  cases ao with
  | none =>
    obtain ⟨rfl, rfl⟩ : n = 0 ∧ c = 0 := by
      refine ⟨by rw [hn]; exact hnews.1 rfl, ?_⟩
      rcases ho.2 with ⟨e, _⟩ | ⟨_, _, _, e, _⟩
      · injection e
      · injection e with e; cases e
    have hL : L = [] := List.eq_nil_of_length_eq_zero hn.symm
    subst hL
    clear ho ho2 kA hn2 hn hnews
    go_enter Try.func48, Try.ntmps48
    go_wp2_with fail
    go_ret
    exact ⟨_, rfl, ro_nil _ _, Below.refl _ _⟩
  | some a =>
    have HO := Lib.hid (And.intro hn2 (And.intro ho2 (And.intro kA (And.intro hn hl))))
    clear ho ho2 kA hn2 hn hnews hl
    go_enter Try.func48, Try.ntmps48
    go_wp2_with (first
      | (at_builtin; refine wpList_app_any rfl (.tmp 5) (.tmp 6) 22 rfl w.heap.size 3 i0 (.int .i64 0) 1 8 Try.underlying22 hin hz0 hz1 hz2 rfl (by decide) (.slice (some ⟨w.heap.size, 0, none⟩) 0 0) 0 [] rfl HO.out.2.1 (some a) n c (ivs L) rfl ?c1 ?c2 ?c3 (ivs_one _) ?c4 ?c5 ?c6 ?_; (case c1 => simp [ivs, HO.out.2.2.2.1]); (case c2 => intro e; cases e); (case c3 => exact HO.out.1); (case c4 => have := HO.out.2.2.2; unfold maxLen; omega); (case c5 => have := HO.out.2.2.2; omega); (case c6 => exact HO.out.2.2.1.size); intro v5 w5 o5 g5; have HF := Lib.hid (And.intro o5 g5); clear o5 g5))
    go_ret
    refine ⟨_, rfl, ?_, HO.out.2.2.1.grown HF.out.2 HO.out.2.2.1.size (fun q hq => (HO.out.2.1.lt q hq).1)⟩
    unfold Ro
    rw [← HO.out.2.2.2.1]
    have h1 := HF.out.1
    rw [List.nil_append, Nat.zero_add] at h1
    exact h1
end Go.Proofs.Ytllgdlfdmmdffaa
namespace Go.Proofs.Ytllgdlfdmmdffaa
open Go.ChangeShapes Go.WideShapes Go.ChangeAt Go.RowKit Go.MapKept Go.ChangeMaps
set_option linter.unusedSimpArgs false
set_option linter.unusedVariables false
def V35 (p t a b q : Nat) (i z : Int) (sv : Value) (bb : Bool) : Nat → Value → World → Prop
  | 0, v, w => v = .pointer (some ⟨p, 0, none⟩)
  | 1, v, w => v = .pointer (some ⟨p, 0, none⟩)
  | 2, v, w => v = .pointer (some ⟨p, 12, none⟩)
  | 3, v, w => v = .map (some t)
  | 4, v, w => v = .complex .f64 a b
  | 5, v, w => v = .int .i64 i
  | 6, v, w => v = .tuple #[.agg #[.int .i64 z, sv], .bool bb]
  | 7, v, w => v = .tuple #[.agg #[.int .i64 z, sv], .bool bb]
  | 8, v, w => v = .agg #[.int .i64 z, sv]
  | 9, v, w => v = .bool bb
  | 10, v, w => v = .pointer (some ⟨q, 0, none⟩) ∧ q < w.heap.size
  | 11, v, w => True
  | 12, v, w => v = .bool bb
  | _, _, _ => True
theorem V35_keep (p t a b q : Nat) (i z : Int) (sv : Value) (bb : Bool) (i1 : Nat) (v : Value) (w w' : World) (h : V35 p t a b q i z sv bb i1 v w) (r : (fun (w w' : World) => w.heap.size ≤ w'.heap.size) w w') : V35 p t a b q i z sv bb i1 v w' := by
  rcases i1 with _ | _ | _ | _ | _ | _ | _ | _ | _ | _ | _ | _ | _ | _
  · exact h
  · exact h
  · exact h
  · exact h
  · exact h
  · exact h
  · exact h
  · exact h
  · exact h
  · exact h
  · exact ⟨h.1, Nat.lt_of_lt_of_le h.2 r⟩
  · exact h
  · exact h
  · trivial
def V39 (p t a b : Nat) (i : Int) (nv : Value) : Nat → Value → World → Prop
  | 0, v, w => v = .pointer (some ⟨p, 0, none⟩)
  | 1, v, w => v = .pointer (some ⟨p, 0, none⟩)
  | 2, v, w => v = .pointer (some ⟨p, 12, none⟩)
  | 3, v, w => v = .map (some t)
  | 4, v, w => v = .complex .f64 a b
  | 5, v, w => v = .int .i64 i
  | 6, v, w => v = nv
  | _, _, _ => True
theorem V39_keep (p t a b : Nat) (i : Int) (nv : Value) (i1 : Nat) (v : Value) (w w' : World) (h : V39 p t a b i nv i1 v w) (r : (fun w w' => w' = w) w w') : V39 p t a b i nv i1 v w' := by
  rcases i1 with _ | _ | _ | _ | _ | _ | _ | _
  · exact h
  · exact h
  · exact h
  · exact h
  · exact h
  · exact h
  · exact h
  · trivial
/-- The world while a node is looked up and laid into a variable. -/
def W35 (w : World) (z : Int) (sv : Value) (a b : Bool) : World :=
  if b = true then w.alloc (.cells #[.int .i64 z, sv] 65) else if a = true then w.alloc (.cells #[.int .i64 0, .slice none 0 0] 65) else w
theorem w35_below (w : World) (z : Int) (sv : Value) (a b : Bool) : Below w.heap.size w (W35 w z sv a b) := by
  unfold W35
  split
  · exact (Below.refl _ w).alloc (Nat.le_refl _) _
  · split
    · exact (Below.refl _ w).alloc (Nat.le_refl _) _
    · exact Below.refl _ w
theorem w35 {w : World} {z : Int} {sv : Value} {a b a' b' : Bool} (h1 : a = a') (h2 : b = b') : W35 w z sv a b = W35 w z sv a' b' := by rw [h1, h2]
/-- A look-up in a map that holds an entry, or none, in whatever world. -/
theorem look_at {T e b : Nat} {es : Array MapEntry} {cl : Nat} (hT : Try.prog.underlying T = some (.map 3 e)) (o : Mo es cl) {z : Int} {x : MapEntry} (hx : x ∈ es.toList) (hk : x.key = .int .i64 z) (w : World) (hb : w.heap[b]? = some (.map es cl)) (q : Bool) :
    (Instr.lookup T (.map (some b)) (.int .i64 z) q).run Try.prog w = .ok (if q then .tuple #[x.val, .bool true] else x.val) w := by
  obtain ⟨j, hj⟩ := List.getElem?_of_mem hx
  exact run_look hT hb o.iks j x hj hk (fun y hy hyk => by rw [pair_key o.one hy hx (hyk.trans hk.symm)]) q
/-- Lengths of those who do not know a key. -/
theorem addT_len {T : Ktr} (h : TOk T) (l : Nat) (key : Int) (k : Nat) : ∀ i a, addT (upd T (2 * (l : Int)) (some (key, []))) l k i = some a → a.2.length ≤ 8 + k := by
  induction k with
  | zero =>
    intro i a ha
    simp only [addT] at ha
    by_cases e : i = 2 * (l : Int)
    · rw [e, upd_same] at ha; injection ha with ha; rw [← ha]; simp
    · rw [upd_other _ _ e] at ha; exact (h i a ha).1
  | succ k ih =>
    intro i a ha
    simp only [addT] at ha
    cases hb : addT (upd T (2 * (l : Int)) (some (key, []))) l k (upn l k) with
    | some b =>
      rw [hb] at ha
      by_cases e : i = upn l k
      · simp only [e, upd_same] at ha
        have ha := Option.some.inj ha
        have := ih _ _ hb
        rw [← ha]
        simp [insL, List.length_mergeSort]; omega
      · simp only [upd_other _ _ e] at ha
        have := ih _ _ ha; omega
    | none =>
      rw [hb] at ha
      have := ih _ _ ha; omega
theorem srt_new {w w7 : World} {base g cap n : Nat} {L : List Int} (ho : w.ownsRow base 3 1 (.slice (some ⟨g, 0, none⟩) (n + 1) cap) (n + 1) (L.map (Value.int .i64))) (hn : L.length = n + 1) (h100 : n ≤ 10000) (hw : w7 = w.alloc (.cells #[.slice (some ⟨g, 0, none⟩) (n + 1) cap] 22)) :
    Calls Try.prog 42 #[.func (.func 60) #[] #[.pointer (some ⟨w.heap.size, 0, none⟩)]] w7 fun e w' => ∃ v, e = .returned v ∧ Ro w7.heap.size w' v (L.mergeSort (fun x y => decide (x ≤ y))) ∧ Below w7.heap.size w7 w' := by
  have hg := (ho.lt g rfl).2
  subst hw
  have kA : Below w.heap.size w (w.alloc (.cells #[.slice (some ⟨g, 0, none⟩) (n + 1) cap] 22)) := (Below.refl _ w).alloc (Nat.le_refl _) _
  refine sorted42v _ w.heap.size g cap (n + 1) L hn.symm (by omega) (by omega) (by simp) (by simp; omega) ?_ (fun j y hj => ?_)
  · rw [cell_of_row _ _ _ _ _ _ (heap_alloc_new w _)]; rfl
  · refine (kA.cell (p := ⟨g, j, none⟩) hg).trans ?_
    have := ho.cells (g := g) rfl j _ (by rw [List.getElem?_map, hj]; rfl)
    rwa [add_zero_mid] at this
section
variable {w0 w w' : World} {p t h : Nat} {m : Md} {c c' : Nat → Value} {mb : Nat → Nat}
theorem tn_new2 {w4 : World} {v : Value} {L : List Int} (G : Gp w0 w p m t h c mb) (o : Ro w.heap.size w4 v L) : Tn w4 w0.heap.size (c 2) (c 3) v L := by
  refine ⟨own_le o G.P.bl.size, fun q e => ?_⟩
  rcases o.2 with ⟨h, _⟩ | ⟨g, cap, cur, e2, hb, hh, r⟩
  · rw [h] at e; cases e
  · rw [e2] at e
    injection e with e
    change g = q at e
    subst e
    exact ne_new G.P g hb
/-- What a look-up in the tree gives, now and as long as the tree stays. -/
theorem tree_look (G : Gp w0 w p m t h c mb) (i : Int) : ∃ (z : Int) (sv : Value) (bb : Bool), (∀ W, W.heap[t]? = w.heap[t]? → ∀ q, (Instr.lookup 51 (.map (some t)) (.int .i64 i) q).run Try.prog W = .ok (if q then .tuple #[.agg #[.int .i64 z, sv], .bool bb] else .agg #[.int .i64 z, sv]) W) ∧
    ((bb = false ∧ m.T i = none ∧ z = 0 ∧ sv = .slice none 0 0) ∨ (bb = true ∧ ∃ L, m.T i = some (z, L) ∧ Tn w w0.heap.size (c 2) (c 3) sv L)) := by
  obtain ⟨es, cl, h1, h2, h3⟩ := G.tr
  cases hm : m.T i with
  | none =>
    refine ⟨0, .slice none 0 0, false, fun W hW q => ?_, .inl ⟨rfl, rfl, rfl, rfl⟩⟩
    exact run_look_miss Try.underlying51 (hW.trans h1) h2.iks (fun x hx e => h3.no i hm ⟨x, hx, e⟩) (zero65 W) q
  | some a =>
    obtain ⟨x, hx, e, sv, hv, ht⟩ := h3.yes i a hm
    refine ⟨a.1, sv, true, fun W hW q => ?_, .inr ⟨rfl, a.2, rfl, ht⟩⟩
    have := look_at (T := 51) Try.underlying51 h2 hx e W (hW.trans h1) q
    rw [hv] at this
    exact this
set_option maxRecDepth 20000 in
set_option maxHeartbeats 16000000 in
theorem add35g (G : Gp w0 w p m t h c mb) (hT : TOk m.T) (l : Nat) (hl : l < 8) (hb : 0 ≤ m.many ∧ m.many ≤ 100000) :
    Calls Try.prog 35 #[.pointer (some ⟨p, 0, none⟩), .int .i64 (l : Int)] w fun e w' => e = .returned (.int .i64 (m.many + 1)) ∧ (∃ c' mb', Gp w0 w' p (addM m l) t h c' mb') ∧ K7 w w' := by
  obtain ⟨i0, hin, hz0, hz1, hz2⟩ := info_parts info3
  have H30 := fresh30g G.P 2 (by omega)
  have e1 : IntKind.i64.wrap (m.many + 1) = m.many + 1 := IntWalk.i64_in _ (by omega)
  have HP := Lib.hid (fun x => path12 l 3 (by omega) (by omega) x)
  have HG := Lib.hid G
  have HT := Lib.hid (And.intro hT (And.intro hl hb))
  have hl8 := hl
  have hz := zero65
  clear G hT hb
  go_enter Try.func35, Try.ntmps35
  go_upto_region 3 with (first
    | (go_at_call 30; (with_reducible refine H30.mono ?_); rintro e w1 ⟨rfl, ⟨m1, s1⟩, c1, P1, n1⟩; have G1 := HG.out.keep P1 m1 n1; have H31 := enter31k G1 l hl8 m.many; have HS1 := Lib.hid s1; clear H30 G1 P1 m1 s1 n1)
    | (go_at_call 31; (with_reducible refine H31.mono ?_); rintro e w2 ⟨rfl, ⟨c2, mb2, G2⟩, s2⟩; have HS2 := Lib.hid (HS1.out.trans s2); have HG2 := Lib.hid G2; have H45 : Calls Try.prog 45 #[.int .i64 (l : Int), .int .i64 3] w2 (Paths l 3 w2) := HP.out w2; clear H31 G2 s2))
  clear hl8
  go_wp2_with (go_at_call 45; (with_reducible refine H45.mono ?_); rintro e w3 ⟨v, xs, rfl, hxl, hxs, hxo, b3⟩; obtain ⟨ax, cx1, rfl⟩ := row_form hxo; have HX := Lib.hid (And.intro hxl (And.intro hxs (And.intro hxo b3))); clear hxl hxs hxo b3)
  go_loopg [19] 3 (fun gk v19 wr => ∃ k : Nat, v19 = .int .i64 k ∧ k + gk = 3 ∧ Gp w0 wr p { entM { m with many := m.many + 2 } l m.many with T := addT (entM { m with many := m.many + 2 } l m.many).T l k } t h c2 mb2 ∧ K7 w3 wr)
  case atStart => exact ⟨0, rfl, by omega, HG2.out.below HX.out.2.2.2, fun _ _ _ _ _ _ _ x => x⟩
  case round =>
    obtain ⟨k, rfl, hkg, hG, h7⟩ := hrel
    have HK := Lib.hid hkg
    by_cases h1 : k < 3
    · have d1 : decide ((k : Int) < 3) = true := by simp; omega
      obtain ⟨x, hx⟩ : ∃ x, xs[k]? = some x := ⟨xs[k]'(by rw [HX.out.1]; exact h1), List.getElem?_eq_getElem _⟩
      obtain ⟨adx, rfl, hcx⟩ := row_cx (h7.own HX.out.2.2.1 (by decide) (by decide) (by decide)) k x hx wr (Below.refl _ _)
      have hsp := HX.out.2.1 k x hx
      have HI := Lib.hid (index_yes hsp)
      obtain ⟨i, hi⟩ : ∃ i : Int, i = (((2 * (l / 2 ^ (k + 1)) + 1) * 2 ^ (k + 1) - 1 : Nat) : Int) := ⟨_, rfl⟩
      rw [← hi] at HI
      have HIU := Lib.hid (show i = upn l k from hi)
      obtain ⟨wq, hwq⟩ : ∃ wq, wq = wr.drew := ⟨_, rfl⟩
      have bq : Below wr.heap.size wr wq := by rw [hwq]; exact (Below.refl _ wr).drew
      have GQ := hG.below bq
      obtain ⟨z, sv, bb, hlook, hcase⟩ := tree_look GQ i
      obtain ⟨sa, sn, sc, rfl⟩ : ∃ sa sn sc, sv = .slice sa sn sc := by
        rcases hcase with ⟨_, _, _, e⟩ | ⟨_, L, _, ht⟩
        · exact ⟨_, _, _, e⟩
        · obtain ⟨a9, c9, e9⟩ := row_form ht.1
          exact ⟨_, _, _, e9⟩
      have HC12 := Lib.hid (fun (a b : Bool) => show (W35 wq z (.slice sa sn sc) a b).cell? ⟨p, 12, none⟩ = some (.map (some t)) by
        have G3 := GQ.below (w35_below wq z (.slice sa sn sc) a b)
        have h12 := G3.P.pc.cell 12 (by decide)
        rw [G3.P.ct] at h12
        exact h12)
      have HLK := Lib.hid (fun (a b : Bool) => hlook (W35 wq z (.slice sa sn sc) a b) ((w35_below wq z (.slice sa sn sc) a b).block t GQ.tlt) true)
      have HCS := Lib.hid (And.intro GQ (And.intro hcase (And.intro (h7.trans (k7_of bq)) h1)))
      obtain ⟨x1, x2⟩ := x
      have q0 : (0 : Int) ≤ (k : Int) := by omega
      have q1 : (k : Int) < 3 := by omega
      clear hkg hsp hx hi hG h7 h1 hlook hcase bq GQ
      go_upto_region 6 with (fail)
      have HWQ := Lib.hid hwq
      clear hwq hcx
      refine region_monoN (fun L x => x = W35 wq z (.slice sa sn sc) (L 10) (L 11)) (fun (_ : Nat) (w w' : World) => w.heap.size ≤ w'.heap.size) (V35 p t x1 x2 wq.heap.size i z (.slice sa sn sc) bb) [(0, some 24), (1, some 25), (2, some 26), (3, some 27), (4, some 28), (5, some 29), (6, some 30), (7, some 23), (8, some 31), (9, some 32), (10, some 8), (11, none), (12, some 9)] (by kernel_rfl) (by kernel_rfl) (by kernel_rfl) (fun _ i1 v1 w1 w2 _ h1 r1 => V35_keep p t x1 x2 wq.heap.size i z (.slice sa sn sc) bb i1 v1 w1 w2 h1 r1) (HWQ.out.symm) ?_ (fun vs w' L hS hLL hV => ?_)
      · refine StepsN.cons0  (by kernel_rfl)  ?_ ?_
        · rintro L hC hL w1 rfl  K hK
          (try simp only [Act.put, List.setIfInBounds_toArray, List.set_cons_zero, List.set_cons_succ])
          go_simp
          exact hK.out _ _ rfl ⟨w35 rfl rfl, Nat.le_refl _⟩
        refine StepsN.cons1 0 (some 24) (by kernel_rfl) rfl ?_ ?_
        · rintro L hC hL w1 rfl _ rfl K hK
          (try simp only [Act.put, List.setIfInBounds_toArray, List.set_cons_zero, List.set_cons_succ])
          go_simp
          exact hK.out _ _ rfl ⟨w35 rfl rfl, Nat.le_refl _⟩
        refine StepsN.cons1 1 (some 25) (by kernel_rfl) rfl ?_ ?_
        · rintro L hC hL w1 rfl _ rfl K hK
          (try simp only [Act.put, List.setIfInBounds_toArray, List.set_cons_zero, List.set_cons_succ])
          go_simp
          exact hK.out _ _ rfl ⟨w35 rfl rfl, Nat.le_refl _⟩
        refine StepsN.cons1 2 (some 26) (by kernel_rfl) rfl ?_ ?_
        · rintro L hC hL w1 rfl _ rfl K hK
          (try simp only [Act.put, List.setIfInBounds_toArray, List.set_cons_zero, List.set_cons_succ])
          have hc := HC12.out (L 10) (L 11)
          go_simp
          exact hK.out _ _ rfl ⟨w35 rfl rfl, Nat.le_refl _⟩
        refine StepsN.cons0  (by kernel_rfl)  ?_ ?_
        · rintro L hC hL w1 rfl  K hK
          (try simp only [Act.put, List.setIfInBounds_toArray, List.set_cons_zero, List.set_cons_succ])
          go_simp
          exact hK.out _ _ rfl ⟨w35 rfl rfl, Nat.le_refl _⟩
        refine StepsN.cons1 4 (some 28) (by kernel_rfl) rfl ?_ ?_
        · rintro L hC hL w1 rfl _ rfl K hK
          (try simp only [Act.put, List.setIfInBounds_toArray, List.set_cons_zero, List.set_cons_succ])
          go_simp
          go_at_call 46
          refine (HI.out _).mono ?_
          rintro e w7 ⟨rfl, hw7⟩
          subst hw7
          exact hK.out _ _ rfl ⟨w35 rfl rfl, Nat.le_refl _⟩
        refine StepsN.cons2 3 (some 27) 5 (some 29) (by kernel_rfl) rfl rfl ?_ ?_
        · rintro L hC hL w1 rfl _ rfl _ rfl K hK
          (try simp only [Act.put, List.setIfInBounds_toArray, List.set_cons_zero, List.set_cons_succ])
          have hlk := HLK.out (L 10) (L 11)
          go_simp
          exact hK.out _ _ rfl ⟨w35 rfl rfl, Nat.le_refl _⟩
        refine StepsN.cons1 6 (some 30) (by kernel_rfl) rfl ?_ ?_
        · rintro L hC hL w1 rfl _ rfl K hK
          (try simp only [Act.put, List.setIfInBounds_toArray, List.set_cons_zero, List.set_cons_succ])
          go_simp
          exact hK.out _ _ rfl ⟨w35 rfl rfl, Nat.le_refl _⟩
        refine StepsN.cons1 7 (some 23) (by kernel_rfl) rfl ?_ ?_
        · rintro L hC hL w1 rfl _ rfl K hK
          (try simp only [Act.put, List.setIfInBounds_toArray, List.set_cons_zero, List.set_cons_succ])
          go_simp
          exact hK.out _ _ rfl ⟨w35 rfl rfl, Nat.le_refl _⟩
        refine StepsN.cons1 7 (some 23) (by kernel_rfl) rfl ?_ ?_
        · rintro L hC hL w1 rfl _ rfl K hK
          (try simp only [Act.put, List.setIfInBounds_toArray, List.set_cons_zero, List.set_cons_succ])
          go_simp
          exact hK.out _ _ rfl ⟨w35 rfl rfl, Nat.le_refl _⟩
        refine StepsN.cons0  (by kernel_rfl)  ?_ ?_
        · rintro L hC hL w1 rfl  K hK
          (try simp only [Act.put, List.setIfInBounds_toArray, List.set_cons_zero, List.set_cons_succ])
          have h10 : L 10 = false := hL
          have h11 : L 11 = false := hC.no h10 (j := 11) rfl (by kernel_rfl)
          rw [h10, h11]
          go_simp
          exact hK.out _ _ ⟨rfl, by simp [W35]⟩ ⟨by simp [h11, W35], by rw [h10, h11]; simp [W35]⟩
        refine StepsN.cons2 8 (some 31) 10 (some 8) (by kernel_rfl) rfl rfl ?_ ?_
        · rintro L hC hL w1 rfl _ rfl _ ⟨rfl, q10⟩ K hK
          (try simp only [Act.put, List.setIfInBounds_toArray, List.set_cons_zero, List.set_cons_succ])
          have h11 : L 11 = false := hL
          rw [h11] at q10
          have h10 : L 10 = true := by cases h : L 10 with | true => rfl | false => (rw [h] at q10; simp [W35] at q10)
          rw [h10, h11]
          clear q10
          have hh : (W35 wq z (.slice sa sn sc) true false) = wq.alloc (.cells #[.int .i64 0, .slice none 0 0] 65) := by simp [W35]
          rw [hh]
          go_simp
          exact hK.out (.tuple #[]) _ trivial ⟨by simp [W35], by rw [h10, h11]; simp [W35]⟩
        refine StepsN.cons1 9 (some 32) (by kernel_rfl) rfl ?_ ?_
        · rintro L hC hL w1 rfl _ rfl K hK
          (try simp only [Act.put, List.setIfInBounds_toArray, List.set_cons_zero, List.set_cons_succ])
          go_simp
          exact hK.out _ _ rfl ⟨w35 rfl rfl, Nat.le_refl _⟩
        exact StepsN.nil
      have e10 : vs 10 = .pointer (some ⟨wq.heap.size, 0, none⟩) := (hV 10 (by decide)).1
      have e12 : vs 12 = .bool bb := hV 12 (by decide)
      have hS2 : w' = wq.alloc (.cells #[.int .i64 z, .slice sa sn sc] 65) := by rw [hS, hLL 11 (by decide)]; simp [W35]
      clear hS hLL hV
      simp only [putl, List.foldl_cons, List.foldl_nil, Act.put, List.setIfInBounds_toArray, List.set_cons_zero, List.set_cons_succ]
      rw [e10, e12]
      obtain ⟨q, hq⟩ : ∃ q, q = wq.heap.size := ⟨_, rfl⟩
      rw [← hq]
      have hqc : w'.heap[q]? = some (.cells #[.int .i64 z, .slice sa sn sc] 65 (0, 0)) := by rw [hS2, hq]; exact heap_alloc_new wq _
      have hbq : Below wq.heap.size wq w' := by rw [hS2]; exact (Below.refl _ wq).alloc (Nat.le_refl _) _
      clear hS2 e10 e12
      have HQ := Lib.hid (And.intro hq (And.intro hqc hbq))
      clear hq hqc hbq
      cases bb with
      | false =>
        go_wp2_with fail
        go_roundg (gk - 1)
        case measure => have := HK.out; have := HCS.out.2.2.2; omega
        case rel =>
          refine ⟨k + 1, by simp, by have := HK.out; have := HCS.out.2.2.2; omega, ?_, HCS.out.2.2.1.trans (k7_of HQ.out.2.2)⟩
          have h2 : addT (entM { m with many := m.many + 2 } l m.many).T l k i = none := by
            rcases HCS.out.2.1 with ⟨_, e, _⟩ | ⟨e, _⟩
            · exact e
            · cases e
          rw [HIU.out] at h2
          have e : addT (entM { m with many := m.many + 2 } l m.many).T l (k + 1) = addT (entM { m with many := m.many + 2 } l m.many).T l k := by
            rw [addT, h2]
          rw [e]
          exact HCS.out.1.below HQ.out.2.2
      | true =>
        obtain ⟨L, hmT, htn⟩ : ∃ L, addT (entM { m with many := m.many + 2 } l m.many).T l k i = some (z, L) ∧ Tn wq w0.heap.size (c2 2) (c2 3) (.slice sa sn sc) L := by
          rcases HCS.out.2.1 with ⟨e, _⟩ | ⟨_, L, h1, h2⟩
          · cases e
          · exact ⟨L, h1, h2⟩
        have hL8 : L.length ≤ 16 := by
          have h1 := HCS.out.2.2.2
          exact Nat.le_trans (addT_len HT.out.1 l m.many k _ _ hmT) (by omega)
        have h34 : w'.cell? ⟨q, 1, none⟩ = some (.slice sa sn sc) := by rw [cell_of_row _ _ _ _ _ _ HQ.out.2.1]; rfl
        have H48 := clone48 w0.heap.size (.slice sa sn sc) L w' (ro_below htn.1 (KC.of HQ.out.2.2)) (by omega)
        have HL := Lib.hid (And.intro hmT (And.intro htn hL8))
        obtain ⟨n, hn⟩ : ∃ n, n = L.length := ⟨_, rfl⟩
        have HN := Lib.hid hn
        have hnb : n ≤ 16 := by rw [hn]; exact hL8
        have hl100 : l < 8 := HT.out.2.1
        clear hmT htn hL8 hn
        go_upto_region 9 with (first
          | (go_at_call 48; (with_reducible refine H48.mono ?_); rintro e w5 ⟨u5, rfl, o5, b5⟩; obtain ⟨a5, c5, rfl⟩ := row_form o5; unfold Ro at o5; rw [← HN.out] at o5 ⊢; have H5 := Lib.hid (And.intro o5 b5); have hbs5 := b5.size; clear b5 H48)
          | (at_builtin; refine wpList_append_lies _ rfl (.tmp 36) (.tmp 38) 22 rfl w'.heap.size 3 i0 (.int .i64 0) 1 8 Try.underlying22 hin hz0 hz1 hz2 rfl (by decide) (.slice a5 n c5) n (L.map (Value.int .i64)) rfl (o5.alloc _) ⟨w5.heap.size, 0, none⟩ 1 1 [.int .i64 (l : Int)] rfl rfl ?d1 ?d2 ?d3 ?d4 ?d5 ?d6 _ rfl ?_; (case d1 => exact cell_one_new _ _ _); (case d2 => simp [Value.oneCell']); (case d3 => omega); (case d4 => unfold maxLen; omega); (case d5 => omega); (case d6 => simp <;> omega); intro g6 cap6 w6 own6 gr6 at6 lt6; have B6 := Lib.hid (H5.out.2.trans ((((Below.refl _ w5).alloc (Nat.le_refl _) (.cells #[.int .i64 (l : Int)] 3)).mono hbs5).grown gr6 (by simp; omega) (fun q hq => (o5.lt q hq).1))); have H6 := Lib.hid (And.intro own6 (own6.lt g6 rfl)); have H47 := values47 (some ⟨g6, 0, none⟩) (n + 1) cap6 w6; clear own6 gr6 at6 lt6 o5 hbs5)
          | (go_at_call 47; (with_reducible refine H47.mono ?_); rintro e w7 ⟨rfl, hw7⟩; subst hw7; have H42 := srt_new (L := L ++ [(l : Int)]) (by rw [List.map_append]; exact H6.out.1) (by rw [List.length_append, ← HN.out]; rfl) (by omega) rfl; clear H47)
          | (go_at_call 42; (with_reducible refine H42.mono ?_); rintro e w8 ⟨u8, rfl, o8, b8⟩; have B8 := Lib.hid (B6.out.trans ((((Below.refl _ w6).alloc (Nat.le_refl _) _).mono B6.out.size).trans (b8.mono (Nat.le_trans B6.out.size (by simp))))); have hq8 := (B8.out.block q (Array.getElem?_eq_some_iff.1 HQ.out.2.1).1).trans HQ.out.2.1; have cq8 : w8.cell? ⟨q, 1, none⟩ = some (.slice sa sn sc) := (by rw [cell_of_row _ _ _ _ _ _ hq8]; rfl); have fq8 := frozen_of_row _ _ 1 _ _ hq8; obtain ⟨a8, c8, rfl⟩ := row_form o8; obtain ⟨n8, hn8⟩ : ∃ n8, n8 = ((L ++ [(l : Int)]).mergeSort (fun x y => decide (x ≤ y))).length := ⟨_, rfl⟩; rw [← hn8]; have H8 := Lib.hid (And.intro o8 (And.intro b8 (And.intro hq8 hn8))); clear H42 o8 b8 hq8 hn8))
        have b9 : Below wq.heap.size wq (w8.setCell ⟨q, 1, none⟩ (.slice a8 n8 c8)).drew := ((HQ.out.2.2.trans (B8.out.mono HQ.out.2.2.size)).setCell (p := ⟨q, 1, none⟩) (by have := HQ.out.1; show wq.heap.size ≤ q; omega) _).drew
        have hq9 : (w8.setCell ⟨q, 1, none⟩ (.slice a8 n8 c8)).drew.heap[q]? = some (.cells #[.int .i64 z, .slice a8 n8 c8] 65 (0, 0)) := by
          show (w8.setCell ⟨q, 1, none⟩ (.slice a8 n8 c8)).heap[q]? = _
          rw [heap_setCell_same w8 q 1 _ 65 _ H8.out.2.2.1]
          rfl
        have o9 : Ro (w6.alloc (.cells #[.slice (some ⟨g6, 0, none⟩) (n + 1) cap6] 22)).heap.size (w8.setCell ⟨q, 1, none⟩ (.slice a8 n8 c8)).drew (.slice a8 n8 c8) ((L ++ [(l : Int)]).mergeSort (fun x y => decide (x ≤ y))) := by
          have h1 := H8.out.1
          rw [← H8.out.2.2.2] at h1
          refine ro_below (w := w8.setCell ⟨q, 1, none⟩ (.slice a8 n8 c8)) (h1.kept (row := some q) ⟨rfl, rfl, rfl, by simp, fun i hi hne => heap_setCell_other w8 ⟨q, 1, none⟩ i _ (fun x => hne (by rw [x]))⟩ (Or.inr (fun e => ?_))) (kc_drew _)
          rcases h1.2 with ⟨e2, _⟩ | ⟨gg, cap, cur, e2, _, hh, _⟩
          · rw [e2] at e; cases e
          · rw [e2] at e
            injection e with e
            change gg = q at e
            rw [e, H8.out.2.2.1] at hh
            injection hh with hh
            injection hh with _ hh
            exact absurd hh (by decide)
        have G6 := HCS.out.1.below (HQ.out.2.2.trans ((B6.out.mono HQ.out.2.2.size).trans (((Below.refl _ w6).alloc (Nat.le_refl _) (.cells #[.slice (some ⟨g6, 0, none⟩) (n + 1) cap6] 22)).mono (Nat.le_trans HQ.out.2.2.size B6.out.size))))
        have tn9 := tn_new2 G6 o9
        have G9 := HCS.out.1.below b9
        generalize hw9 : (w8.setCell ⟨q, 1, none⟩ (.slice a8 n8 c8)).drew = w9 at b9 hq9 tn9 G9 o9
        have HW9 := Lib.hid hw9.symm
        clear hw9
        have HC9 := Lib.hid (show w9.cell? ⟨p, 12, none⟩ = some (.map (some t)) by
          have h12 := G9.P.pc.cell 12 (by decide)
          rw [G9.P.ct] at h12
          exact h12)
        have HQ9 := Lib.hid (show w9.cell? ⟨q, 0, none⟩ = some (.int .i64 z) ∧ w9.cell? ⟨q, 1, none⟩ = some (.slice a8 n8 c8) from ⟨by rw [cell_of_row _ _ _ _ _ _ hq9]; rfl, by rw [cell_of_row _ _ _ _ _ _ hq9]; rfl⟩)
        obtain ⟨es, cl, t1, t2, t3⟩ := G9.tr
        obtain ⟨es', cl', r1, z1, z2⟩ := mp_upd (T := 51) Try.underlying51 t1 t2 t3 i (z, insL L l) (.agg #[.int .i64 z, .slice a8 n8 c8]) ⟨_, rfl, tn9⟩
        have GE := G9.setT t1 z1 z2
        have HR := Lib.hid r1
        have HGE := Lib.hid (And.intro GE ((HCS.out.2.2.1.trans (k7_of b9)).trans (k7_kc (set_kc t1 (.map es' cl')))))
        clear b9 hq9 o9 tn9 G9 G6 t1 t2 t3 r1 z1 z2 GE cq8 fq8 h34
        refine region_monoT 7 (fun x => x = w9) (fun w w' => w' = w) (V39 p t x1 x2 i (.agg #[.int .i64 z, .slice a8 n8 c8])) [(0, some 43), (1, some 44), (2, some 45), (3, some 46), (4, some 47), (5, some 48), (6, some 49)] (by kernel_rfl) (by kernel_rfl) (by kernel_rfl) (by kernel_rfl) (fun _ _ h r => r.trans h) (fun i1 v1 w1 w2 _ h1 r1 => V39_keep p t x1 x2 i (.agg #[.int .i64 z, .slice a8 n8 c8]) i1 v1 w1 w2 h1 r1) (HW9.out.symm) ?_ (fun vs2 w10 hS hV => ?_)
        · refine StepsL.cons0  (by kernel_rfl)  ?_ ?_
          · rintro w1 hS  K hK
            subst hS; (try simp only [Act.put, List.setIfInBounds_toArray, List.set_cons_zero, List.set_cons_succ])
            go_simp
            exact hK.out _ _ rfl (rfl)
          refine StepsL.cons1 0 (some 43) (by kernel_rfl) rfl ?_ ?_
          · rintro w1 hS _ rfl K hK
            subst hS; (try simp only [Act.put, List.setIfInBounds_toArray, List.set_cons_zero, List.set_cons_succ])
            go_simp
            exact hK.out _ _ rfl (rfl)
          refine StepsL.cons1 1 (some 44) (by kernel_rfl) rfl ?_ ?_
          · rintro w1 hS _ rfl K hK
            subst hS; (try simp only [Act.put, List.setIfInBounds_toArray, List.set_cons_zero, List.set_cons_succ])
            go_simp
            exact hK.out _ _ rfl (rfl)
          refine StepsL.cons1 2 (some 45) (by kernel_rfl) rfl ?_ ?_
          · rintro w1 hS _ rfl K hK
            subst hS; (try simp only [Act.put, List.setIfInBounds_toArray, List.set_cons_zero, List.set_cons_succ])
            have hc := HC9.out
            go_simp
            exact hK.out _ _ rfl rfl
          refine StepsL.cons0  (by kernel_rfl)  ?_ ?_
          · rintro w1 hS  K hK
            subst hS; (try simp only [Act.put, List.setIfInBounds_toArray, List.set_cons_zero, List.set_cons_succ])
            go_simp
            exact hK.out _ _ rfl (rfl)
          refine StepsL.cons1 4 (some 47) (by kernel_rfl) rfl ?_ ?_
          · rintro w1 hS _ rfl K hK
            subst hS; (try simp only [Act.put, List.setIfInBounds_toArray, List.set_cons_zero, List.set_cons_succ])
            go_simp
            go_at_call 46
            refine (HI.out _).mono ?_
            rintro e w10 ⟨rfl, hw⟩
            subst hw
            exact hK.out _ _ rfl rfl
          refine StepsL.cons0  (by kernel_rfl)  ?_ ?_
          · rintro w1 hS  K hK
            subst hS; (try simp only [Act.put, List.setIfInBounds_toArray, List.set_cons_zero, List.set_cons_succ])
            have k0 := HQ9.out.1
            have k1 := HQ9.out.2
            go_simp
            exact hK.out _ _ rfl rfl
          exact StepsL.nil
        subst hS
        have e3 : vs2 3 = .map (some t) := hV 3 (by decide)
        have e5 : vs2 5 = .int .i64 i := hV 5 (by decide)
        have e6 : vs2 6 = .agg #[.int .i64 z, .slice a8 n8 c8] := hV 6 (by decide)
        simp only [putl, List.foldl_cons, List.foldl_nil, Act.put, List.setIfInBounds_toArray, List.set_cons_zero, List.set_cons_succ, List.drop_succ_cons, List.drop_zero]
        rw [e3, e5, e6]
        clear hV e3 e5 e6
        have hr := HR.out
        go_wp2_with fail
        go_roundg (gk - 1)
        case measure => have := HK.out; have := HCS.out.2.2.2; omega
        case rel =>
          refine ⟨k + 1, by simp, by have := HK.out; have := HCS.out.2.2.2; omega, ?_, HGE.out.2⟩
          have h1 := HGE.out.1
          have h2 := HL.out.1
          rw [HIU.out] at h1 h2
          have e : addT (entM { m with many := m.many + 2 } l m.many).T l (k + 1) = upd (addT (entM { m with many := m.many + 2 } l m.many).T l k) (upn l k) (some (z, insL L l)) := by
            rw [addT, h2]
          rw [e]
          exact h1
    · have d1 : decide ((k : Int) < 3) = false := by simp; omega
      obtain rfl : k = 3 := by omega
      have HE := Lib.hid (And.intro hG ((HS2.out.trans (k7_of HX.out.2.2.2)).trans h7))
      clear hkg hG h7
      go_wp2_with fail
      go_ret
      exact ⟨rfl, ⟨_, _, HE.out.1⟩, HE.out.2⟩
end
end Go.Proofs.Ytllgdlfdmmdffaa
