/- All acts, one behind the other. -/
import Derived.Test.YtllgdlfdmmdffaaG16
namespace Go.Proofs.Ytllgdlfdmmdffaa
open Go.ChangeShapes Go.WideShapes Go.ChangeAt Go.RowKit Go.MapKept Go.ChangeMaps
set_option linter.unusedSimpArgs false
set_option linter.unusedVariables false
/-- Acts in memory, below a mark. -/
structure Acz (n : Nat) (w : World) (ao : Option Addr) (As : List Ac) : Prop where
  nil : ao = none → As = []
  cells : ∀ a, ao = some a → ∀ (j : Nat) x, As[j]? = some x → a.block < n ∧ w.cell? (a.add (j * 3)) = some (.int .i64 x.kind) ∧ w.cell? ((a.add (j * 3)).add 1) = some (.int .i64 x.leaf) ∧ w.cell? ((a.add (j * 3)).add 2) = some (.int .i64 x.other)
theorem Acz.keep {n : Nat} {w w' : World} {ao : Option Addr} {As : List Ac} (h : Acz n w ao As) (hk : ∀ k, k < n → w'.heap[k]? = w.heap[k]?) : Acz n w' ao As :=
  ⟨h.nil, fun a ha j x hx => by
    obtain ⟨h1, h2, h3, h4⟩ := h.cells a ha j x hx
    exact ⟨h1, (World.cell?_of_block (by rw [add_block]; exact hk _ h1)).trans h2, (World.cell?_of_block (by rw [add_block, add_block]; exact hk _ h1)).trans h3, (World.cell?_of_block (by rw [add_block, add_block]; exact hk _ h1)).trans h4⟩⟩
theorem Acz.below {n b : Nat} {w w' : World} {ao : Option Addr} {As : List Ac} (h : Acz n w ao As) (k : Below b w w') (hn : n ≤ b) : Acz n w' ao As := h.keep fun i hi => k.block i (by omega)
/-- What a group of symbols is, as a value. -/
def Sg (w : World) (V : Value) (m : Md) : Prop := ∃ lo lc ka kc ea ec, V = .agg #[.int .i64 m.many, .slice lo m.Rs.length lc, .slice ka m.Kn.length kc, .slice ea m.Ep.length ec, .bool (m.ins 0), .bool (m.ins 1), .bool (m.ins 2), .bool (m.ins 3), .bool (m.ins 4), .bool (m.ins 5), .bool (m.ins 6), .bool (m.ins 7)] ∧
  Rlz w.heap.size w lo m.Rs ∧ Ilz w.heap.size w ka m.Kn ∧ Ilz w.heap.size w ea m.Ep
/-- What Play answers. -/
def Ply (w : World) (As : List Ac) (e : Ending) (w' : World) : Prop :=
  Below w.heap.size w w' ∧ ((64 < As.length ∧ e = .returned (.tuple #[.agg zs37.toArray, .int .i64 2])) ∨ (As.length ≤ 64 ∧ plyM staM As = none ∧ e = .returned (.tuple #[.agg zs37.toArray, .int .i64 1])) ∨
    (As.length ≤ 64 ∧ ∃ m V, plyM staM As = some m ∧ e = .returned (.tuple #[V, .int .i64 0]) ∧ Sg w' V m))
/-- No rule needs more than two. -/
def Nd (Rs : List Rl) : Prop := ∀ r ∈ Rs, r.needs.length ≤ 2
theorem nd_app {A B : List Rl} (a : Nd A) (b : Nd B) : Nd (A ++ B) := fun r hr => (List.mem_append.1 hr).elim (a r) (b r)
theorem nd_one (x y : Int) : Nd [⟨[x], y⟩] := fun r hr => by simp at hr; subst hr; simp
theorem pthS_nd (T : Ktr) (l k : Nat) (s : Pm) (h : Nd s.Rs) : Nd (pthS T l k s).Rs := by
  unfold pthS
  split
  · exact h
  · refine nd_app (nd_app (nd_app h (nd_one _ _)) (fun r hr => ?_)) (nd_one _ _)
    unfold tellR at hr
    obtain ⟨n, _, rfl⟩ := List.mem_map.1 hr
    simp
theorem comM_nd (m : Md) (l : Nat) (wel : Int) (h : Nd m.Rs) : Nd (comM m l wel).Rs := by
  have h1 : Nd (psM m l).Rs := pthS_nd _ _ _ _ (pthS_nd _ _ _ _ (pthS_nd _ _ _ _ (nd_app h (nd_one _ _))))
  refine nd_app (nd_app (nd_app h1 (fun r hr => ?_)) (fun r hr => ?_)) (fun r hr => ?_)
  · simp at hr
    rcases hr with rfl | rfl <;> simp
  · split at hr
    · simp at hr; subst hr; simp
    · cases hr
  · simp at hr
    rcases hr with rfl | rfl <;> simp
theorem actM_nd (m : Md) (a : Ac) (h : Nd m.Rs) : Nd (actM m a).Rs := by
  unfold actM
  split
  · exact h
  · split
    · exact comM_nd _ _ _ h
    · split
      · exact comM_nd _ _ _ h
      · split
        · exact comM_nd _ _ _ h
        · exact comM_nd _ _ _ h
theorem plyM_nd : ∀ (l : List Ac) (m m' : Md), Nd m.Rs → plyM m l = some m' → Nd m'.Rs := by
  intro l
  induction l with
  | nil => intro m m' K h; simp only [plyM] at h; obtain rfl := Option.some.inj h; exact K
  | cons a l ih =>
    intro m m' K h
    simp only [plyM] at h
    by_cases hc : canM m a = true
    · rw [if_pos hc] at h
      exact ih _ _ (actM_nd m a K) h
    · rw [if_neg hc] at h; cases h
theorem staM_nd : Nd staM.Rs := nd_one _ _
theorem Nd.le {Rs : List Rl} (h : Nd Rs) : ∀ r ∈ Rs, r.needs.length ≤ 9223372036854775807 := fun r hr => by have := h r hr; omega
set_option maxRecDepth 20000 in
set_option maxHeartbeats 16000000 in
theorem play15g (w : World) (ao : Option Addr) (n c k0 : Nat) (As : List Ac) (hn : n = As.length) (hA : Acz k0 w ao As) (hk0 : k0 ≤ w.heap.size) (hn63 : n ≤ 9223372036854775807) :
    Calls Try.prog 15 #[.slice ao n c] w (Ply w As) := by
  have hz := zero37
  have HST := Lib.hid (fun x => start21g x)
  have k1 : Below w.heap.size w (w.alloc (.cells #[.int .i64 0, .slice none 0 0, .slice none 0 0, .slice none 0 0, .bool false, .bool false, .bool false, .bool false, .bool false, .bool false, .bool false, .bool false] 37)) := (Below.refl _ w).alloc (Nat.le_refl _) _
  have hq1 := heap_alloc_new w (.cells #[.int .i64 0, .slice none 0 0, .slice none 0 0, .slice none 0 0, .bool false, .bool false, .bool false, .bool false, .bool false, .bool false, .bool false, .bool false] 37)
  have HB := Lib.hid (And.intro k1 (And.intro (hA.below k1 hk0) (And.intro hq1 (And.intro hk0 hn))))
  clear k1 hA hq1 hk0 hn
  go_enter Try.func15, Try.ntmps15
  go_upto_region 1 with (fail)
  generalize w.alloc (.cells #[.int .i64 0, .slice none 0 0, .slice none 0 0, .slice none 0 0, .bool false, .bool false, .bool false, .bool false, .bool false, .bool false, .bool false, .bool false] 37) = w1 at HB ⊢
  by_cases h64 : n ≤ 64
  · have d0 : decide ((n : Int) > 64) = false := by simp; omega
    have H21 := HST.out w1
    go_wp2_with (first
      | (go_at_call 21; (with_reducible refine H21.mono ?_); rintro e w2 ⟨p, t, h, c2, mb2, rfl, G2⟩; have HG2 := Lib.hid G2; clear G2))
    have HLN := Lib.hid h64
    clear d0 H21 h64
    go_loopg [14] n (fun gk v14 wr => ∃ (i : Nat) (mi : Md) (c3 : Nat → Value) (mb3 : Nat → Nat), v14 = .int .i64 i ∧ i + gk = n ∧ plyM staM (As.take i) = some mi ∧ Gp w1 wr p mi t h c3 mb3)
    case atStart => exact ⟨0, staM, c2, mb2, rfl, by omega, rfl, HG2.out⟩
    case round =>
      obtain ⟨i, mi, c3, mb3, rfl, hig, hpl, hG⟩ := hrel
      have HG := Lib.hid (And.intro hig (And.intro hpl hG))
      by_cases hi : i < n
      · have d1 : decide ((i : Int) < (n : Int)) = true := by simp; omega
        have d2 : decide (i < n) = true := by simp; omega
        have q0 : (0 : Int) ≤ (i : Int) := by omega
        have q1 : (i : Int) < (n : Int) := by omega
        obtain ⟨a, ha⟩ : ∃ a, As[i]? = some a := ⟨_, List.getElem?_eq_getElem (by rw [← HB.out.2.2.2.2]; exact hi)⟩
        have hAr := HB.out.2.1.below hG.P.bl (Nat.le_trans HB.out.2.2.2.1 HB.out.1.size)
        obtain ⟨ad, rfl⟩ : ∃ ad, ao = some ad := by
          cases ao with
          | some ad => exact ⟨ad, rfl⟩
          | none =>
            have := hAr.nil rfl
            rw [this] at ha
            cases ha
        obtain ⟨_, x0, x1, x2⟩ := hAr.cells ad rfl i a ha
        obtain ⟨pb, po, hpa⟩ : ∃ pb po, ad.add (i * 3) = ⟨pb, po, none⟩ := ⟨_, _, at_none x0⟩
        rw [hpa] at x0 x1 x2
        rw [Addr.add_mid] at x1 x2
        have kA : Below wr.heap.size wr (wr.alloc (.cells #[.int .i64 a.kind, .int .i64 a.leaf, .int .i64 a.other] 42)) := (Below.refl _ wr).alloc (Nat.le_refl _) _
        have hrow := heap_alloc_new wr (.cells #[.int .i64 a.kind, .int .i64 a.leaf, .int .i64 a.other] 42)
        have H22 := can22g (hG.below kA) a
        have HA := Lib.hid (And.intro (hG.below kA) (And.intro hrow (And.intro ha hi)))
        have yy := box_cells hrow
        have y0 := yy.1
        have y1 := yy.2.1
        have y2 := yy.2.2
        clear hAr kA hrow hig hpl hG ha yy hi
        have HQB := Lib.hid (show wr.heap[w.heap.size]? = some (.cells #[.int .i64 0, .slice none 0 0, .slice none 0 0, .slice none 0 0, .bool false, .bool false, .bool false, .bool false, .bool false, .bool false, .bool false, .bool false] 37 (0, 0)) from (HG.out.2.2.P.bl.block w.heap.size (Array.getElem?_eq_some_iff.1 HB.out.2.2.1).1).trans HB.out.2.2.1)
        obtain ⟨q, hq⟩ : ∃ q, canM mi a = q := ⟨_, rfl⟩
        rw [hq] at H22
        have HQ := Lib.hid hq
        clear hq
        cases q with
        | false =>
          go_wp2_with (first
            | (go_at_call 22; (with_reducible refine H22.mono ?_); rintro e w4 ⟨rfl, b4⟩; have hq4 := (b4.block w.heap.size (by have := (Array.getElem?_eq_some_iff.1 HQB.out).1; simp; omega)).trans ((Below.heap_alloc wr _ _ (Array.getElem?_eq_some_iff.1 HQB.out).1).trans HQB.out); have HQ4 := Lib.hid (And.intro hq4 b4); clear b4 hq4 H22)
            | ((with_reducible refine store37r rfl (.tmp 2) (.tmp 22) rfl w.heap.size zs37 rfl ?hy ?hl 37 zs37.toArray ?hg ?ho ?h1 ?_); (case hy => rfl); (case hg => exact HQ4.out.1); (case hl => rfl); (case ho => rfl); (case h1 => simp [zs37, Value.oneCell'])))
          refine bodyPost_ret (results_cell_tmp rfl _ _ w.heap.size 37 zs37.toArray (0, 0) _ rfl (setRow_heap _ _ _ _ _ _ HQ4.out.1) Try.underlying37 rfl info37') rfl ?_
          have kr : Below wr.heap.size wr (wr.alloc (.cells #[.int .i64 a.kind, .int .i64 a.leaf, .int .i64 a.other] 42)) := (Below.refl _ wr).alloc (Nat.le_refl _) _
          refine ⟨?_, .inr (.inl ⟨by rw [← HB.out.2.2.2.2]; exact HLN.out, plyM_none HG.out.2.1 HA.out.2.2.1 HQ.out, rfl⟩)⟩
          have hbr := below_then (below_then HG.out.2.2.P.bl kr) HQ4.out.2
          exact (HB.out.1.trans (hbr.mono HB.out.1.size)).trans ⟨rfl, rfl, rfl, by simp, fun k hk => setRow_other _ _ _ _ (by omega)⟩
        | true =>
          go_upto_region 9 with (first
            | (go_at_call 22; (with_reducible refine H22.mono ?_); rintro e w4 ⟨rfl, b4⟩))
          have hrow4 := (b4.block wr.heap.size (by simp)).trans HA.out.2.1
          have zz := box_cells hrow4
          have z0 := zz.1
          have z1 := zz.2.1
          have z2 := zz.2.2
          obtain ⟨K, L⟩ := plyM_ok _ _ _ 0 staM_ok staM_lm HG.out.2.1
          have hlt : 0 + (As.take i).length ≤ 64 := by rw [List.length_take]; have := HLN.out; have := HA.out.2.2.2; omega
          have H23 := act23g (HA.out.1.below b4) K L hlt a HQ.out
          clear b4 H22 x0 x1 x2 y0 y1 y2 zz K L hlt hrow4
          go_wp2_with (first
            | (go_at_call 23; (with_reducible refine H23.mono ?_); rintro e w5 ⟨rfl, c5, mb5, G5⟩; have HG5 := Lib.hid G5; clear G5))
          go_roundg (gk - 1)
          case measure => have := HG.out.1; have := HA.out.2.2.2; omega
          case rel => exact ⟨i + 1, _, _, _, by push_cast; rfl, by have := HG.out.1; have := HA.out.2.2.2; omega, by rw [plyM_step HG.out.2.1 HA.out.2.2.1, if_pos HQ.out], HG5.out⟩
      · have d1 : decide ((i : Int) < (n : Int)) = false := by simp; omega
        have d2 : decide (i < n) = false := by simp; omega
        have hall : As.take i = As := List.take_of_length_le (by rw [← HB.out.2.2.2.2]; omega)
        rw [hall] at hpl
        obtain ⟨K, L⟩ := plyM_ok _ _ _ 0 staM_ok staM_lm hpl
        have hP := hG.P
        have hnd := (plyM_nd _ _ _ staM_nd hpl).le
        obtain ⟨lo, lc, hrv, hrl⟩ := rul_rlz hP.r hnd
        have HND := Lib.hid hnd
        clear hnd
        have HRV := Lib.hid hrv
        obtain ⟨ka, kc, hkv, -, hkl⟩ := own_ilz hP.k
        obtain ⟨ea, ec, hev, -, hel⟩ := own_ilz hP.e
        have HKV := Lib.hid (And.intro hkv hev)
        have hs := hP.sym
        rw [hrv, hkv, hev] at hs
        obtain ⟨vs, hvs⟩ : ∃ vs, vs = [Value.int .i64 mi.many, .slice lo mi.Rs.length lc, .slice ka mi.Kn.length kc, .slice ea mi.Ep.length ec, .bool (mi.ins 0), .bool (mi.ins 1), .bool (mi.ins 2), .bool (mi.ins 3), .bool (mi.ins 4), .bool (mi.ins 5), .bool (mi.ins 6), .bool (mi.ins 7)] := ⟨_, rfl⟩
        rw [← hvs] at hs
        have hbl := hP.bl
        obtain ⟨old, ho, hq⟩ : ∃ old : Array Value, old.size = 12 ∧ wr.heap[w.heap.size]? = some (.cells old 37 (0, 0)) := ⟨_, rfl, (hbl.block w.heap.size (Array.getElem?_eq_some_iff.1 HB.out.2.2.1).1).trans HB.out.2.2.1⟩
        have hvl : vs.length = 12 := by rw [hvs]; rfl
        have hvo : vs.toArray.all (·.oneCell') = true := by rw [hvs]; simp [Value.oneCell']
        have HR := Lib.hid (And.intro hrl (And.intro hkl (And.intro hel (And.intro hs (And.intro hq (And.intro hbl (And.intro hvs (And.intro hvl (And.intro hvo ho)))))))))
        have HPF := Lib.hid (And.intro hP hpl)
        clear hP hG hig hpl hall K L hrv hrl hkv hkl hev hel hs hq hbl hvs hvl hvo ho
        go_wp2_with (first
          | ((with_reducible refine load37m rfl (.tmp 29) rfl p 0 rfl vs ?hl ?hr ?_); (case hr => exact HR.out.2.2.2.1); (case hl => exact HR.out.2.2.2.2.2.2.2.1))
          | ((with_reducible refine store37r rfl (.tmp 2) (.tmp 30) rfl w.heap.size vs rfl rfl ?hl 37 old ?hg ?ho ?h1 ?_); (case hg => exact HR.out.2.2.2.2.1); (case hl => exact HR.out.2.2.2.2.2.2.2.1); (case ho => exact HR.out.2.2.2.2.2.2.2.2.2); (case h1 => exact HR.out.2.2.2.2.2.2.2.2.1)))
        refine bodyPost_ret (results_cell_tmp rfl _ _ w.heap.size 37 vs.toArray (0, 0) _ rfl (setRow_heap _ _ _ _ _ _ HR.out.2.2.2.2.1) Try.underlying37 rfl (by rw [List.size_toArray, HR.out.2.2.2.2.2.2.2.1]; exact info37')) rfl ?_
        have hne : ∀ k, k ≠ w.heap.size → (wr.setRow w.heap.size vs.toArray).heap[k]? = wr.heap[k]? := fun k hk => setRow_other wr w.heap.size k _ hk
        have hr2 := rul_other HPF.out.1.r HR.out.2.2.2.2.1 hne
        obtain ⟨lo', lc', h1, h2⟩ := rul_rlz hr2 HND.out
        rw [HRV.out] at h1
        injection h1 with h1a _ h1b
        subst h1a
        obtain ⟨ka', kc', h3, -, h4⟩ := own_ilz (own_other HPF.out.1.k (by decide) HR.out.2.2.2.2.1 hne)
        rw [HKV.out.1] at h3
        injection h3 with h3a _ _
        subst h3a
        obtain ⟨ea', ec', h5, -, h6⟩ := own_ilz (own_other HPF.out.1.e (by decide) HR.out.2.2.2.2.1 hne)
        rw [HKV.out.2] at h5
        injection h5 with h5a _ _
        subst h5a
        have hb9 := HB.out.1.trans (HR.out.2.2.2.2.2.1.mono HB.out.1.size)
        refine ⟨hb9.trans ⟨rfl, rfl, rfl, by simp, fun k hk => hne k (by omega)⟩, .inr (.inr ⟨by rw [← HB.out.2.2.2.2]; exact HLN.out, mi, _, HPF.out.2, rfl, lo, lc, ka, kc, ea, ec, by rw [HR.out.2.2.2.2.2.2.1], h2, h4, h6⟩)⟩
  · have d0 : decide ((n : Int) > 64) = true := by simp; omega
    go_wp2_with (first
      | ((with_reducible refine store37r rfl (.tmp 2) (.tmp 10) rfl w.heap.size zs37 rfl ?hy ?hl 37 zs37.toArray ?hg ?ho ?h1 ?_); (case hy => rfl); (case hg => exact HB.out.2.2.1); (case hl => rfl); (case ho => rfl); (case h1 => simp [zs37, Value.oneCell'])))
    refine bodyPost_ret (results_cell_tmp rfl _ _ w.heap.size 37 zs37.toArray (0, 0) _ rfl (setRow_heap _ _ _ _ _ _ HB.out.2.2.1) Try.underlying37 rfl info37') rfl ?_
    exact ⟨HB.out.1.trans ⟨rfl, rfl, rfl, by simp, fun k hk => setRow_other _ _ _ _ (by omega)⟩, .inl ⟨by rw [← HB.out.2.2.2.2]; omega, rfl⟩⟩
end Go.Proofs.Ytllgdlfdmmdffaa
