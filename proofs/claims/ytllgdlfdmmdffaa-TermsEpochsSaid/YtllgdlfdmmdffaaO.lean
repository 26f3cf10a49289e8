/- New secrets, rules, epochs. -/
import Derived.Test.YtllgdlfdmmdffaaN
namespace Go.Proofs.Ytllgdlfdmmdffaa
open Go.ChangeShapes Go.WideShapes Go.ChangeAt Go.RowKit
set_option linter.unusedSimpArgs false
set_option linter.unusedVariables false
section
variable {w0 w w' : World} {p t h : Nat} {many init : Int} {Rs : List Rl} {Kn Ep : List Int} {ins : Nat → Bool} {c : Nat → Value}
theorem cell_two_new (w : World) (x y : Value) (t : TypeId) : ∀ j u, [x, y][j]? = some u → (w.alloc (.cells #[x, y] t)).cell? ((⟨w.heap.size, 0, none⟩ : Addr).add j) = some u := fun j u hu => by
  rw [add_zero_mid, cell_of_row _ _ j _ t (0, 0) (heap_alloc_new w _)]
  simpa using hu
theorem nb_below {w w' : World} {b : Nat} {L : List Int} (hb : NB w b L) (k : Below w.heap.size w w') : NB w' b L := (k.block b hb.lt).trans hb
/-- What a call leaves of a party, with all maps as they were. -/
def Pq (w0 w : World) (p : Nat) (many : Int) (Rs : List Rl) (Kn Ep : List Int) (ins : Nat → Bool) (t h : Nat) (init : Int) (r : Value) (e : Ending) (w' : World) : Prop :=
  e = .returned r ∧ KM w w' ∧ ∃ c', Pty w0 w' p many Rs Kn Ep ins t h init c'
set_option maxHeartbeats 4000000 in
theorem fresh30 (hP : Pty w0 w p many Rs Kn Ep ins t h init c) (k : Int) (hb : 0 ≤ many ∧ 0 ≤ k ∧ many + k ≤ 1000000) :
    Calls Try.prog 30 #[.pointer (some ⟨p, 0, none⟩), .int .i64 k] w (Pq w0 w p (many + k) Rs Kn Ep ins t h init (.int .i64 many)) := by
  have h0 := hP.pc.cell 0 (by decide)
  rw [hP.c0] at h0
  have hf := hP.pc.frozen 0
  have h1 : (w.setCell ⟨p, 0, none⟩ (.int .i64 (many + k))).cell? ⟨p, 0, none⟩ = some (.int .i64 (many + k)) := (hP.setMany (many + k)).pc.cell 0 (by decide)
  have e1 : IntKind.i64.wrap (many + k) = many + k := IntWalk.i64_in _ (by omega)
  have e2 : IntKind.i64.wrap (many + k - k) = many := by rw [show many + k - k = many by omega]; exact IntWalk.i64_in _ (by omega)
  have e3 : IntKind.i64.wrap many = many := IntWalk.i64_in _ (by omega)
  have HP := Lib.hid hP
  have HB := Lib.hid hb
  clear hP hb
  go_enter Try.func30, Try.ntmps30
  go_wp2_with fail
  go_ret
  exact ⟨rfl, KM.setp HP.out.pc _, _, HP.out.setMany _⟩
theorem info32' : (Try.prog.info? 32).map (fun i => (i.zero, i.size, i.bytes)) = some (some (.agg #[.slice none 0 0, .int .i64 0]), 2, 32) := by kernel_rfl
set_option maxRecDepth 20000 in
set_option maxHeartbeats 4000000 in
theorem rule41 (hP : Pty w0 w p many Rs Kn Ep ins t h init c) (b n cap : Nat) (L : List Int) (x : Int) (hb : NB w b L) (hn : n = L.length) (hcap : n ≤ cap) (hk : (c 2).ownBlock ≠ some b) (he : (c 3).ownBlock ≠ some b) (hR : Rs.length ≤ 100000) :
    Calls Try.prog 41 #[.pointer (some ⟨p, 0, none⟩), .int .i64 x, .slice (some ⟨b, 0, none⟩) n cap] w (Pq w0 w p many (Rs ++ [⟨L, x⟩]) Kn Ep ins t h init (.tuple #[])) := by
  obtain ⟨i0, hin, hz0, hz1, hz2⟩ := info_parts info32'
  have h1 := hP.pc.cell 1 (by decide)
  obtain ⟨cs, hcs⟩ := hP.r
  obtain ⟨a1, c1, hc1⟩ := row_form hcs.1
  rw [hc1] at h1
  have ho := hcs.1
  rw [hc1] at ho
  have hbs := hP.bl.size
  have HC := Lib.hid (And.intro hcs hc1)
  have HP := Lib.hid hP
  have HB := Lib.hid (And.intro hb (And.intro hn (And.intro hk he)))
  clear hP hb hn hk he hcs hc1
  obtain ⟨rl, hrl⟩ : ∃ rl, Rs.length = rl := ⟨_, rfl⟩
  rw [hrl] at ho h1 hR
  have HRL := Lib.hid hrl
  clear hrl
  go_enter Try.func41, Try.ntmps41
  go_wp2_with (first
    | (at_builtin; refine wpList_append_lies _ rfl (.tmp 11) (.tmp 15) 23 rfl w0.heap.size 32 i0 (.agg #[.slice none 0 0, .int .i64 0]) 2 32 Try.underlying23 hin hz0 hz1 hz2 rfl (by decide) (.slice a1 rl c1) rl cs rfl (ho.alloc _) ⟨w.heap.size, 0, none⟩ 1 1 [.slice (some ⟨b, 0, none⟩) n cap, .int .i64 x] rfl rfl ?d1 ?d2 ?d3 ?d4 ?d5 ?d6 _ rfl ?_; (case d1 => exact cell_two_new _ _ _ _); (case d2 => simp [Value.oneCell']); (case d3 => omega); (case d4 => unfold maxLen; omega); (case d5 => omega); (case d6 => simp; omega); intro g cap2 w1 own1 gr1 at1 lt1; have hp1 := grow_pc (HP.out.below ((Below.refl _ w).alloc (Nat.le_refl _) (.cells #[.slice (some ⟨b, 0, none⟩) n cap, .int .i64 x] 32))).pc (ho.alloc _) (by decide) gr1; have hq1 := hp1.cell 1 (by decide); have hq2 := hp1.frozen 1; rw [HC.out.2] at hq1))
  have PA := HP.out.below ((Below.refl _ w).alloc (Nat.le_refl _) (.cells #[.slice (some ⟨b, 0, none⟩) n cap, .int .i64 x] 32))
  have hn := HB.out.2.1
  subst hn
  go_end0
  refine ⟨rfl, ((KM.of ((Below.refl _ w).alloc (Nat.le_refl _) _)).trans (KM.grown (ho.alloc _) gr1)).trans (KM.setp hp1 _), _, PA.appR (g := g) (cs := cs) ⟨HC.out.1.1.alloc _, fun j r hj => ?_⟩ (nb_below HB.out.1 ((Below.refl _ w).alloc (Nat.le_refl _) _)) hcap HB.out.2.2.1 HB.out.2.2.2 ?_ ?_⟩
  · obtain ⟨b2, cap3, q1, q2, q3, q4, q5⟩ := HC.out.1.2 j r hj
    exact ⟨b2, cap3, q1, q2, q3, nb_below q4 ((Below.refl _ w).alloc (Nat.le_refl _) _), q5⟩
  · rw [HRL.out]; exact own1
  · rw [HC.out.2, HRL.out]; exact gr1
theorem ne_new (hP : Pty w0 w p many Rs Kn Ep ins t h init c) (n : Nat) (hn : w.heap.size ≤ n) : (c 2).ownBlock ≠ some n ∧ (c 3).ownBlock ≠ some n :=
  ⟨fun e => by have := (hP.k.lt n e).2; omega, fun e => by have := (hP.e.lt n e).2; omega⟩
theorem nb_one (w : World) (x : Int) : NB (w.alloc (.cells #[.int .i64 x] 3)) w.heap.size [x] := heap_alloc_new w _
theorem Pty.factsE (P1 : Pty w0 w p many Rs Kn Ep ins t h init c) {x : Int} {a3 : Option Addr} {c3 g cap2 : Nat} {w2 : World} (hc3 : c 3 = .slice a3 Ep.length c3)
    (own2 : w2.ownsRow w0.heap.size 3 1 (.slice (some ⟨g, 0, none⟩) (Ep.length + 1) cap2) (Ep.length + 1) (Ep.map (Value.int .i64) ++ [.int .i64 x]))
    (gr2 : (w.alloc (.cells #[.int .i64 x] 3)).grownBy w2 (Value.slice a3 Ep.length c3).ownBlock) (at2 : (Value.slice a3 Ep.length c3).ownBlock = some g ∨ g = (w.alloc (.cells #[.int .i64 x] 3)).heap.size) :
    w2.cell? ⟨p, 3, none⟩ = some (.slice a3 Ep.length c3) ∧ w2.frozen? ⟨p, 3, none⟩ = false ∧ KM w (w2.setCell ⟨p, 3, none⟩ (.slice (some ⟨g, 0, none⟩) (Ep.length + 1) cap2)) ∧
      Pty w0 (w2.setCell ⟨p, 3, none⟩ (.slice (some ⟨g, 0, none⟩) (Ep.length + 1) cap2)) p many Rs Kn (Ep ++ [x]) ins t h init (updV c 3 (.slice (some ⟨g, 0, none⟩) (Ep.length + 1) cap2)) := by
  have P2 := P1.below ((Below.refl _ w).alloc (Nat.le_refl _) (.cells #[.int .i64 x] 3))
  rw [← hc3] at gr2 at2
  have hp2 := grow_pc P2.pc P2.e (by decide) gr2
  exact ⟨(hp2.cell 3 (by decide)).trans (congrArg some hc3), hp2.frozen 3, ((KM.of ((Below.refl _ w).alloc (Nat.le_refl _) _)).trans (KM.grown P2.e gr2)).trans (KM.setp hp2 _), P2.appE (g := g) own2 gr2 rfl at2⟩
theorem Pty.factsK (P1 : Pty w0 w p many Rs Kn Ep ins t h init c) {x : Int} {a3 : Option Addr} {c3 g cap2 : Nat} {w2 : World} (hc3 : c 2 = .slice a3 Kn.length c3)
    (own2 : w2.ownsRow w0.heap.size 3 1 (.slice (some ⟨g, 0, none⟩) (Kn.length + 1) cap2) (Kn.length + 1) (Kn.map (Value.int .i64) ++ [.int .i64 x]))
    (gr2 : (w.alloc (.cells #[.int .i64 x] 3)).grownBy w2 (Value.slice a3 Kn.length c3).ownBlock) (at2 : (Value.slice a3 Kn.length c3).ownBlock = some g ∨ g = (w.alloc (.cells #[.int .i64 x] 3)).heap.size) :
    w2.cell? ⟨p, 2, none⟩ = some (.slice a3 Kn.length c3) ∧ w2.frozen? ⟨p, 2, none⟩ = false ∧ KM w (w2.setCell ⟨p, 2, none⟩ (.slice (some ⟨g, 0, none⟩) (Kn.length + 1) cap2)) ∧
      Pty w0 (w2.setCell ⟨p, 2, none⟩ (.slice (some ⟨g, 0, none⟩) (Kn.length + 1) cap2)) p many Rs (Kn ++ [x]) Ep ins t h init (updV c 2 (.slice (some ⟨g, 0, none⟩) (Kn.length + 1) cap2)) := by
  have P2 := P1.below ((Below.refl _ w).alloc (Nat.le_refl _) (.cells #[.int .i64 x] 3))
  rw [← hc3] at gr2 at2
  have hp2 := grow_pc P2.pc P2.k (by decide) gr2
  exact ⟨(hp2.cell 2 (by decide)).trans (congrArg some hc3), hp2.frozen 2, ((KM.of ((Below.refl _ w).alloc (Nat.le_refl _) _)).trans (KM.grown P2.k gr2)).trans (KM.setp hp2 _), P2.appK (g := g) own2 gr2 rfl at2⟩
set_option maxRecDepth 20000 in
set_option maxHeartbeats 4000000 in
theorem epoch32 (hP : Pty w0 w p many Rs Kn Ep ins t h init c) (x : Int) (hx : -1000000 ≤ x ∧ x ≤ 1000000) (hR : Rs.length ≤ 100000) (hE : Ep.length ≤ 100000) :
    Calls Try.prog 32 #[.pointer (some ⟨p, 0, none⟩), .int .i64 x] w (Pq w0 w p many (Rs ++ [⟨[x], x + 1⟩]) Kn (Ep ++ [x]) ins t h (x + 1) (.tuple #[])) := by
  obtain ⟨i0, hin, hz0, hz1, hz2⟩ := info_parts info3
  have e1 : IntKind.i64.wrap (x + 1) = x + 1 := IntWalk.i64_in _ (by omega)
  have PA := hP.below ((Below.refl _ w).alloc (Nat.le_refl _) (.cells #[.int .i64 x] 3))
  have hne := ne_new hP w.heap.size (Nat.le_refl _)
  have H41 := Lib.hid (rule41 PA w.heap.size 1 1 [x] (x + 1) (nb_one w x) rfl (Nat.le_refl _) hne.1 hne.2 hR)
  have HP := Lib.hid hP
  clear hP PA hne
  go_enter Try.func32, Try.ntmps32
  go_wp2_with (first
    | (go_at_call 41; (with_reducible refine H41.out.mono ?_); rintro e w1 ⟨rfl, m1, c', P1⟩; have h3 := P1.pc.cell 3 (by decide); obtain ⟨a3, c3, hc3⟩ := row_form P1.e; have ho := P1.e; rw [hc3] at ho h3; have hbs := P1.bl.size; have HP1 := Lib.hid (And.intro P1 (And.intro m1 hc3)); clear P1 m1 hc3)
    | (at_builtin; refine wpList_append_lies _ rfl (.tmp 15) (.tmp 17) 22 rfl w0.heap.size 3 i0 (.int .i64 0) 1 8 Try.underlying22 hin hz0 hz1 hz2 rfl (by decide) (.slice a3 Ep.length c3) Ep.length (Ep.map (Value.int .i64)) rfl (ho.alloc _) ⟨w1.heap.size, 0, none⟩ 1 1 [.int .i64 x] rfl rfl ?d1 ?d2 ?d3 ?d4 ?d5 ?d6 _ rfl ?_; (case d1 => exact cell_one_new _ _ _); (case d2 => simp [Value.oneCell']); (case d3 => omega); (case d4 => unfold maxLen; omega); (case d5 => omega); (case d6 => simp <;> omega); intro g cap2 w2 own2 gr2 at2 lt2; obtain ⟨hq1, hq2, hm2, hp2⟩ := HP1.out.1.factsE HP1.out.2.2 own2 gr2 at2; have hq3 := hp2.pc.cell 14 (by decide); have hq4 := hp2.pc.frozen 14; have HM2 := Lib.hid (HP1.out.2.1.trans hm2); have HP2 := Lib.hid hp2; clear hm2 hp2 ho own2 gr2 at2 lt2))
  go_end0
  exact ⟨rfl, ((KM.of ((Below.refl _ w).alloc (Nat.le_refl _) _)).trans HM2.out).trans (KM.setp HP2.out.pc _), _, HP2.out.setInit _⟩
end
end Go.Proofs.Ytllgdlfdmmdffaa
