/- A party in general: what a leaf lacks stays. -/
import Derived.Test.YtllgdlfdmmdffaaA1
namespace Go.Proofs.Ytllgdlfdmmdffaa
open Go.ChangeShapes Go.WideShapes Go.ChangeAt Go.RowKit
set_option linter.unusedSimpArgs false
set_option linter.unusedVariables false
/-- Rows of numbers that are not the known ones or the epochs' stay. -/
def KN (kv ev : Value) (w : World) (kv' ev' : Value) (w' : World) : Prop := ∀ (k : Nat) cs f, w.heap[k]? = some (Obj.cells cs 3 f) → kv.ownBlock ≠ some k → ev.ownBlock ≠ some k →
  w'.heap[k]? = some (Obj.cells cs 3 f) ∧ kv'.ownBlock ≠ some k ∧ ev'.ownBlock ≠ some k
theorem KN.trans {a a' b b' c c' : Value} {w w1 w2 : World} (h : KN a a' w b b' w1) (k : KN b b' w1 c c' w2) : KN a a' w c c' w2 := fun i cs f h1 h2 h3 => by
  obtain ⟨q1, q2, q3⟩ := h i cs f h1 h2 h3
  exact k i cs f q1 q2 q3
theorem kn_of {w w' : World} (kv ev : Value) (h : Below w.heap.size w w') : KN kv ev w kv ev w' := fun k cs f h1 h2 h3 => ⟨(h.block k (Array.getElem?_eq_some_iff.1 h1).1).trans h1, h2, h3⟩
theorem kn_alloc (kv ev : Value) (w : World) (o : Obj) : KN kv ev w kv ev (w.alloc o) := kn_of kv ev ((Below.refl _ w).alloc (Nat.le_refl _) o)
theorem kn_grown {kv ev : Value} {w w' : World} {base n size : Nat} {e : TypeId} {v : Value} {xs : List Value} (ho : w.ownsRow base e size v n xs) (he : e ≠ 3) (hg : w.grownBy w' v.ownBlock) : KN kv ev w kv ev w' := fun k cs f h1 h2 h3 => by
  refine ⟨(hg.block k (Array.getElem?_eq_some_iff.1 h1).1 (fun e2 => ?_)).trans h1, h2, h3⟩
  rcases ho.2 with ⟨rfl, _⟩ | ⟨g, cap, cur, rfl, _, hh, _⟩
  · cases e2
  · injection e2 with e2
    change k = g at e2
    rw [e2, hh] at h1
    injection h1 with h1
    injection h1 with h4 h5
    exact he h5
theorem kn_setp {kv ev : Value} {w : World} {p : Nat} {c : Nat → Value} (hp : Pc w p c) (i : Nat) (v : Value) : KN kv ev w kv ev (w.setCell ⟨p, i, none⟩ v) := fun k cs f h1 h2 h3 => by
  refine ⟨(heap_setCell_other w ⟨p, i, none⟩ k v (fun e => ?_)).trans h1, h2, h3⟩
  change k = p at e
  rw [e, hp.row] at h1
  injection h1 with h1
  injection h1 with h4 h5
  cases h5
/-- Rows of other things stay. -/
def K7 (w w' : World) : Prop := ∀ (k : Nat) (cs : Array Value) (t : TypeId) (f : Nat × Nat), t ≠ 3 → t ≠ 32 → t ≠ 54 → w.heap[k]? = some (Obj.cells cs t f) → w'.heap[k]? = some (Obj.cells cs t f)
theorem K7.trans {a b c : World} (h : K7 a b) (k : K7 b c) : K7 a c := fun i cs t f h1 h2 h3 h4 => k i cs t f h1 h2 h3 (h i cs t f h1 h2 h3 h4)
theorem k7_of {w w' : World} (h : Below w.heap.size w w') : K7 w w' := fun k cs t f _ _ _ h1 => (h.block k (Array.getElem?_eq_some_iff.1 h1).1).trans h1
theorem k7_kc {w w' : World} (h : KC w w') : K7 w w' := fun k cs t f _ _ _ h1 => h.block _ _ _ _ h1
theorem k7_alloc (w : World) (o : Obj) : K7 w (w.alloc o) := k7_of ((Below.refl _ w).alloc (Nat.le_refl _) o)
theorem k7_grown {w w' : World} {base n size : Nat} {e : TypeId} {v : Value} {xs : List Value} (ho : w.ownsRow base e size v n xs) (he : e = 3 ∨ e = 32) (hg : w.grownBy w' v.ownBlock) : K7 w w' := fun k cs t f h1 h2 h3 h4 => by
  refine (hg.block k (Array.getElem?_eq_some_iff.1 h4).1 (fun e2 => ?_)).trans h4
  rcases ho.2 with ⟨rfl, _⟩ | ⟨g, cap, cur, rfl, _, hh, _⟩
  · cases e2
  · injection e2 with e2
    change k = g at e2
    rw [e2, hh] at h4
    injection h4 with h4
    injection h4 with h5 h6
    rcases he with rfl | rfl
    · exact h1 h6.symm
    · exact h2 h6.symm
theorem k7_setp {w : World} {p : Nat} {c : Nat → Value} (hp : Pc w p c) (i : Nat) (v : Value) : K7 w (w.setCell ⟨p, i, none⟩ v) := fun k cs t f h1 h2 h3 h4 => by
  refine (heap_setCell_other w ⟨p, i, none⟩ k v (fun e => ?_)).trans h4
  change k = p at e
  rw [e, hp.row] at h4
  injection h4 with h4
  injection h4 with h5 h6
  exact h3 h6.symm
theorem K7.own {w w' : World} (h : K7 w w') {base n size : Nat} {e : TypeId} {v : Value} {xs : List Value} (ho : w.ownsRow base e size v n xs) (h1 : e ≠ 3) (h2 : e ≠ 32) (h3 : e ≠ 54) : w'.ownsRow base e size v n xs := by
  refine ⟨ho.1, ho.2.imp id ?_⟩
  rintro ⟨g, cap, cur, q1, q2, q3, q4⟩
  exact ⟨g, cap, cur, q1, q2, h _ _ _ _ h1 h2 h3 q3, q4⟩
section
variable {w0 w w' : World} {p t h : Nat} {many init : Int} {Rs : List Rl} {Kn Ep : List Int} {ins : Nat → Bool} {c : Nat → Value}
/-- What a call leaves of a party, with all maps as they were, and what a leaf lacks. -/
def Pg (c : Nat → Value) (w0 w : World) (p : Nat) (many : Int) (Rs : List Rl) (Kn Ep : List Int) (ins : Nat → Bool) (t h : Nat) (init : Int) (r : Value) (e : Ending) (w' : World) : Prop :=
  e = .returned r ∧ (KM w w' ∧ K7 w w') ∧ ∃ c', Pty w0 w' p many Rs Kn Ep ins t h init c' ∧ KN (c 2) (c 3) w (c' 2) (c' 3) w'
theorem kn_epoch (P1 : Pty w0 w p many Rs Kn Ep ins t h init c) {x : Int} {a3 : Option Addr} {c3 g cap2 : Nat} {w2 : World} (hc3 : c 3 = .slice a3 Ep.length c3)
    (gr2 : (w.alloc (.cells #[.int .i64 x] 3)).grownBy w2 (Value.slice a3 Ep.length c3).ownBlock) (at2 : (Value.slice a3 Ep.length c3).ownBlock = some g ∨ g = (w.alloc (.cells #[.int .i64 x] 3)).heap.size) :
    KN (c 2) (c 3) w (c 2) (.slice (some ⟨g, 0, none⟩) (Ep.length + 1) cap2) (w2.setCell ⟨p, 3, none⟩ (.slice (some ⟨g, 0, none⟩) (Ep.length + 1) cap2)) := by
  have P2 := P1.below ((Below.refl _ w).alloc (Nat.le_refl _) (.cells #[.int .i64 x] 3))
  rw [← hc3] at gr2 at2
  have hp2 := grow_pc P2.pc P2.e (by decide) gr2
  have hk : KN (c 2) (c 3) w (c 2) (.slice (some ⟨g, 0, none⟩) (Ep.length + 1) cap2) w2 := fun k cs f h1 h2 h3 => by
    have hl := (Array.getElem?_eq_some_iff.1 h1).1
    refine ⟨(gr2.block k (by simp; omega) (fun e => h3 e.symm)).trans ((Below.heap_alloc w _ k hl).trans h1), h2, fun e => ?_⟩
    have e : g = k := by injection e
    rcases at2 with q | q
    · exact h3 (by rw [q, e])
    · rw [q] at e; simp at e; omega
  exact hk.trans (kn_setp hp2 _ _)
theorem k7_epoch (P1 : Pty w0 w p many Rs Kn Ep ins t h init c) {x : Int} {a3 : Option Addr} {c3 g cap2 : Nat} {w2 : World} (hc3 : c 3 = .slice a3 Ep.length c3)
    (gr2 : (w.alloc (.cells #[.int .i64 x] 3)).grownBy w2 (Value.slice a3 Ep.length c3).ownBlock) : K7 w (w2.setCell ⟨p, 3, none⟩ (.slice (some ⟨g, 0, none⟩) (Ep.length + 1) cap2)) := by
  have P2 := P1.below ((Below.refl _ w).alloc (Nat.le_refl _) (.cells #[.int .i64 x] 3))
  rw [← hc3] at gr2
  have hp2 := grow_pc P2.pc P2.e (by decide) gr2
  exact ((k7_alloc w _).trans (k7_grown P2.e (.inl rfl) gr2)).trans (k7_setp hp2 _ _)
set_option maxHeartbeats 4000000 in
theorem fresh30g (hP : Pty w0 w p many Rs Kn Ep ins t h init c) (k : Int) (hb : 0 ≤ many ∧ 0 ≤ k ∧ many + k ≤ 1000000) :
    Calls Try.prog 30 #[.pointer (some ⟨p, 0, none⟩), .int .i64 k] w (Pg c w0 w p (many + k) Rs Kn Ep ins t h init (.int .i64 many)) := by
  have h0 := hP.pc.cell 0 (by decide)
  rw [hP.c0] at h0
  have hf := hP.pc.frozen 0
  have h1 : (w.setCell ⟨p, 0, none⟩ (.int .i64 (many + k))).cell? ⟨p, 0, none⟩ = some (.int .i64 (many + k)) := (hP.setMany (many + k)).pc.cell 0 (by decide)
  have e1 : IntKind.i64.wrap (many + k) = many + k := IntWalk.i64_in _ (by omega)
  have e2 : IntKind.i64.wrap (many + k - k) = many := by rw [show many + k - k = many by omega]; exact IntWalk.i64_in _ (by omega)
  have e3 : IntKind.i64.wrap many = many := IntWalk.i64_in _ (by omega)
  have HP := Lib.hid hP
  have HB := Lib.hid hb
  clear hP hb
  go_enter Try.func30, Try.ntmps30
  go_wp2_with fail
  go_ret
  exact ⟨rfl, ⟨KM.setp HP.out.pc _, k7_setp HP.out.pc _ _⟩, _, HP.out.setMany _, kn_setp HP.out.pc _ _⟩
set_option maxRecDepth 20000 in
set_option maxHeartbeats 4000000 in
theorem rule41g (hP : Pty w0 w p many Rs Kn Ep ins t h init c) (b n cap : Nat) (L : List Int) (x : Int) (hb : NB w b L) (hn : n = L.length) (hcap : n ≤ cap) (hk : (c 2).ownBlock ≠ some b) (he : (c 3).ownBlock ≠ some b) (hR : Rs.length ≤ 10000000) :
    Calls Try.prog 41 #[.pointer (some ⟨p, 0, none⟩), .int .i64 x, .slice (some ⟨b, 0, none⟩) n cap] w (Pg c w0 w p many (Rs ++ [⟨L, x⟩]) Kn Ep ins t h init (.tuple #[])) := by
  obtain ⟨i0, hin, hz0, hz1, hz2⟩ := info_parts info32'
  have h1 := hP.pc.cell 1 (by decide)
  obtain ⟨cs, hcs⟩ := hP.r
  obtain ⟨a1, c1, hc1⟩ := row_form hcs.1
  rw [hc1] at h1
  have ho := hcs.1
  rw [hc1] at ho
  have hbs := hP.bl.size
  have HC := Lib.hid (And.intro hcs hc1)
  have HP := Lib.hid hP
  have HB := Lib.hid (And.intro hb (And.intro hn (And.intro hk he)))
  clear hP hb hn hk he hcs hc1
  obtain ⟨rl, hrl⟩ : ∃ rl, Rs.length = rl := ⟨_, rfl⟩
  rw [hrl] at ho h1 hR
  have HRL := Lib.hid hrl
  clear hrl
  go_enter Try.func41, Try.ntmps41
  go_wp2_with (first
    | (at_builtin; refine wpList_append_lies _ rfl (.tmp 11) (.tmp 15) 23 rfl w0.heap.size 32 i0 (.agg #[.slice none 0 0, .int .i64 0]) 2 32 Try.underlying23 hin hz0 hz1 hz2 rfl (by decide) (.slice a1 rl c1) rl cs rfl (ho.alloc _) ⟨w.heap.size, 0, none⟩ 1 1 [.slice (some ⟨b, 0, none⟩) n cap, .int .i64 x] rfl rfl ?d1 ?d2 ?d3 ?d4 ?d5 ?d6 _ rfl ?_; (case d1 => exact cell_two_new _ _ _ _); (case d2 => simp [Value.oneCell']); (case d3 => omega); (case d4 => unfold maxLen; omega); (case d5 => omega); (case d6 => simp; omega); intro g cap2 w1 own1 gr1 at1 lt1; have hp1 := grow_pc (HP.out.below ((Below.refl _ w).alloc (Nat.le_refl _) (.cells #[.slice (some ⟨b, 0, none⟩) n cap, .int .i64 x] 32))).pc (ho.alloc _) (by decide) gr1; have hq1 := hp1.cell 1 (by decide); have hq2 := hp1.frozen 1; rw [HC.out.2] at hq1))
  have PA := HP.out.below ((Below.refl _ w).alloc (Nat.le_refl _) (.cells #[.slice (some ⟨b, 0, none⟩) n cap, .int .i64 x] 32))
  have hn := HB.out.2.1
  subst hn
  go_end0
  refine ⟨rfl, ⟨((KM.of ((Below.refl _ w).alloc (Nat.le_refl _) _)).trans (KM.grown (ho.alloc _) gr1)).trans (KM.setp hp1 _), ((k7_alloc w _).trans (k7_grown (ho.alloc _) (.inr rfl) gr1)).trans (k7_setp hp1 _ _)⟩, _, PA.appR (g := g) (cs := cs) ⟨HC.out.1.1.alloc _, fun j r hj => ?_⟩ (nb_below HB.out.1 ((Below.refl _ w).alloc (Nat.le_refl _) _)) hcap HB.out.2.2.1 HB.out.2.2.2 ?_ ?_, ?_⟩
  · obtain ⟨b2, cap3, q1, q2, q3, q4, q5⟩ := HC.out.1.2 j r hj
    exact ⟨b2, cap3, q1, q2, q3, nb_below q4 ((Below.refl _ w).alloc (Nat.le_refl _) _), q5⟩
  · rw [HRL.out]; exact own1
  · rw [HC.out.2, HRL.out]; exact gr1
  · exact ((kn_alloc _ _ w _).trans (kn_grown (ho.alloc _) (by decide) gr1)).trans (kn_setp hp1 _ _)
set_option maxRecDepth 20000 in
set_option maxHeartbeats 4000000 in
theorem epoch32g (hP : Pty w0 w p many Rs Kn Ep ins t h init c) (x : Int) (hx : -1000000 ≤ x ∧ x ≤ 1000000) (hR : Rs.length ≤ 10000000) (hE : Ep.length ≤ 10000000) :
    Calls Try.prog 32 #[.pointer (some ⟨p, 0, none⟩), .int .i64 x] w (Pg c w0 w p many (Rs ++ [⟨[x], x + 1⟩]) Kn (Ep ++ [x]) ins t h (x + 1) (.tuple #[])) := by
  obtain ⟨i0, hin, hz0, hz1, hz2⟩ := info_parts info3
  have e1 : IntKind.i64.wrap (x + 1) = x + 1 := IntWalk.i64_in _ (by omega)
  have PA := hP.below ((Below.refl _ w).alloc (Nat.le_refl _) (.cells #[.int .i64 x] 3))
  have hne := ne_new hP w.heap.size (Nat.le_refl _)
  have H41 := Lib.hid (rule41g PA w.heap.size 1 1 [x] (x + 1) (nb_one w x) rfl (Nat.le_refl _) hne.1 hne.2 hR)
  have HP := Lib.hid hP
  clear hP PA hne
  go_enter Try.func32, Try.ntmps32
  go_wp2_with (first
    | (go_at_call 41; (with_reducible refine H41.out.mono ?_); rintro e w1 ⟨rfl, m1, c', P1, n1⟩; have HN1 := Lib.hid n1; clear n1; have HS1 := Lib.hid m1.2; have m1 := m1.1; have h3 := P1.pc.cell 3 (by decide); obtain ⟨a3, c3, hc3⟩ := row_form P1.e; have ho := P1.e; rw [hc3] at ho h3; have hbs := P1.bl.size; have HP1 := Lib.hid (And.intro P1 (And.intro m1 hc3)); clear P1 m1 hc3)
    | (at_builtin; refine wpList_append_lies _ rfl (.tmp 15) (.tmp 17) 22 rfl w0.heap.size 3 i0 (.int .i64 0) 1 8 Try.underlying22 hin hz0 hz1 hz2 rfl (by decide) (.slice a3 Ep.length c3) Ep.length (Ep.map (Value.int .i64)) rfl (ho.alloc _) ⟨w1.heap.size, 0, none⟩ 1 1 [.int .i64 x] rfl rfl ?d1 ?d2 ?d3 ?d4 ?d5 ?d6 _ rfl ?_; (case d1 => exact cell_one_new _ _ _); (case d2 => simp [Value.oneCell']); (case d3 => omega); (case d4 => unfold maxLen; omega); (case d5 => omega); (case d6 => simp <;> omega); intro g cap2 w2 own2 gr2 at2 lt2; obtain ⟨hq1, hq2, hm2, hp2⟩ := HP1.out.1.factsE HP1.out.2.2 own2 gr2 at2; have HN2 := Lib.hid (kn_epoch (cap2 := cap2) HP1.out.1 HP1.out.2.2 gr2 at2); have HS2 := Lib.hid (k7_epoch (g := g) (cap2 := cap2) HP1.out.1 HP1.out.2.2 gr2); have hq3 := hp2.pc.cell 14 (by decide); have hq4 := hp2.pc.frozen 14; have HM2 := Lib.hid (HP1.out.2.1.trans hm2); have HP2 := Lib.hid hp2; clear hm2 hp2 ho own2 gr2 at2 lt2))
  go_end0
  exact ⟨rfl, ⟨((KM.of ((Below.refl _ w).alloc (Nat.le_refl _) _)).trans HM2.out).trans (KM.setp HP2.out.pc _), (((k7_alloc w _).trans HS1.out).trans HS2.out).trans (k7_setp HP2.out.pc _ _)⟩, _, HP2.out.setInit _, (((kn_alloc _ _ w _).trans HN1.out).trans HN2.out).trans (kn_setp HP2.out.pc _ _)⟩
end
end Go.Proofs.Ytllgdlfdmmdffaa
