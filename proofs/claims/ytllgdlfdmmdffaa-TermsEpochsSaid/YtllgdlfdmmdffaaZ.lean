/- One act in a party of one. -/
import Derived.Test.YtllgdlfdmmdffaaY
namespace Go.Proofs.Ytllgdlfdmmdffaa
open Go.ChangeShapes Go.WideShapes Go.ChangeAt Go.RowKit Go.MapKept Go.ChangeMaps
set_option linter.unusedSimpArgs false
set_option linter.unusedVariables false
section
variable {w0 w w' : World} {p t h m n : Nat} {many init k1 k2 e : Int} {Rs : List Rl} {Kn Ep : List Int} {ins : Nat → Bool} {c : Nat → Value}
set_option maxRecDepth 20000 in
set_option maxHeartbeats 4000000 in
theorem act23r (hP : Pty w0 w p many Rs Kn Ep ins t h init c) (hM : Mps w t h m k1 k2 0) (hE : Ep.getLast? = some e) (hEl : Ep.length ≤ 1000) (hKl : Kn.length ≤ 1000) (o : Int) :
    Calls Try.prog 23 #[.pointer (some ⟨p, 0, none⟩), .agg #[.int .i64 5, .int .i64 0, .int .i64 o]] w (Rev w0 w p many Rs Kn Ep ins t h init k2 e) := by
  have kA : Below w.heap.size w (w.alloc (.cells #[.int .i64 5, .int .i64 0, .int .i64 o] 42)) := (Below.refl _ w).alloc (Nat.le_refl _) _
  have H34 := reveal34 (hP.below kA) (hM.keep (KM.of kA)) hE hEl hKl
  have HK := Lib.hid kA
  clear hP hM hE hEl hKl kA
  go_enter Try.func23, Try.ntmps23
  go_wp2_with (go_at_call 34; (with_reducible refine H34.mono ?_); rintro e1 w1 ⟨rfl, m1, c1, P1⟩)
  go_end0
  exact ⟨rfl, (KM.of HK.out).trans m1, c1, P1⟩
set_option maxRecDepth 20000 in
set_option maxHeartbeats 4000000 in
theorem act23c (hP : Pty w0 w p many Rs Kn Ep ins t h init c) (hM : Mps w t h m k1 k2 n) (hlt : w0.heap.size ≤ t) (hlm : w0.heap.size ≤ m) (hb : 0 ≤ many ∧ many ≤ 900000) (hi : -900000 ≤ init ∧ init ≤ 900000) (hRl : Rs.length ≤ 1000) (hEl : Ep.length ≤ 1000) (o : Int) :
    Calls Try.prog 23 #[.pointer (some ⟨p, 0, none⟩), .agg #[.int .i64 1, .int .i64 0, .int .i64 o]] w (Cmt w0 p many Rs Kn Ep ins t h init) := by
  have kA : Below w.heap.size w (w.alloc (.cells #[.int .i64 1, .int .i64 0, .int .i64 o] 42)) := (Below.refl _ w).alloc (Nat.le_refl _) _
  have H38 := commit38 (hP.below kA) (hM.keep (KM.of kA)) hlt hlm hb hi hRl hEl
  clear hP hM hlt hlm hb hi hRl hEl kA
  go_enter Try.func23, Try.ntmps23
  go_wp2_with (go_at_call 38; (with_reducible refine H38.mono ?_); rintro e1 w1 ⟨rfl, c1, P1⟩)
  go_end0
  exact ⟨rfl, c1, P1⟩
theorem rul_rlz {base : Nat} {rv kv ev : Value} (h : Rul w base rv kv ev Rs) (hl : ∀ r ∈ Rs, r.needs.length ≤ 9223372036854775807) : ∃ lo c, rv = .slice lo Rs.length c ∧ Rlz w.heap.size w lo Rs := by
  obtain ⟨cs, ho, hr⟩ := h
  rcases ho.2 with ⟨rfl, h0⟩ | ⟨g, cap, cur, rfl, hb, hh, hnc, hrest⟩
  · have e : Rs = [] := List.eq_nil_of_length_eq_zero h0
    subst e
    exact ⟨none, 0, rfl, fun _ => rfl, hl, fun _ h => by cases h⟩
  · refine ⟨some ⟨g, 0, none⟩, cap, rfl, (fun h => by cases h), hl, fun a ha j r hj => ?_⟩
    injection ha with ha; subst ha
    obtain ⟨b, cap2, h1, h2, h3, h4, _⟩ := hr j r hj
    refine ⟨(Array.getElem?_eq_some_iff.1 hh).1, ⟨some ⟨b, 0, none⟩, cap2, h2, ?_, h4.ilz⟩, ?_⟩
    · exact ho.cells (g := g) rfl (j * 2) _ (by rw [Nat.mul_comm]; exact h1)
    · rw [add_add]
      exact ho.cells (g := g) rfl (j * 2 + 1) _ (by rw [Nat.mul_comm]; exact h3)
/-- What a group of symbols is, as a value. -/
structure Sy (w : World) (V : Value) (many : Int) (Rs : List Rl) (Kn Ep : List Int) : Prop where
  is : ∃ lo lc ka kc ea ec i0 i1 i2 i3 i4 i5 i6 i7, V = .agg #[.int .i64 many, .slice lo Rs.length lc, .slice ka Kn.length kc, .slice ea Ep.length ec, .bool i0, .bool i1, .bool i2, .bool i3, .bool i4, .bool i5, .bool i6, .bool i7] ∧
    Rlz w.heap.size w lo Rs ∧ Ilz w.heap.size w ka Kn ∧ Ilz w.heap.size w ea Ep
theorem Pty.sym (hP : Pty w0 w p many Rs Kn Ep ins t h init c) : w.rangeAt p 0 [.int .i64 many, c 1, c 2, c 3, .bool (ins 0), .bool (ins 1), .bool (ins 2), .bool (ins 3), .bool (ins 4), .bool (ins 5), .bool (ins 6), .bool (ins 7)] := fun j v hv => by
  rw [Nat.zero_add]
  have hj : j < 12 := (List.getElem?_eq_some_iff.1 hv).1
  rw [hP.pc.cell j (by omega), ← hv]
  rcases (by omega : j = 0 ∨ j = 1 ∨ j = 2 ∨ j = 3 ∨ j = 4 ∨ j = 5 ∨ j = 6 ∨ j = 7 ∨ j = 8 ∨ j = 9 ∨ j = 10 ∨ j = 11) with rfl | rfl | rfl | rfl | rfl | rfl | rfl | rfl | rfl | rfl | rfl | rfl
  · exact congrArg some hP.c0
  · rfl
  · rfl
  · rfl
  · exact congrArg some (hP.ci 0 (by decide))
  · exact congrArg some (hP.ci 1 (by decide))
  · exact congrArg some (hP.ci 2 (by decide))
  · exact congrArg some (hP.ci 3 (by decide))
  · exact congrArg some (hP.ci 4 (by decide))
  · exact congrArg some (hP.ci 5 (by decide))
  · exact congrArg some (hP.ci 6 (by decide))
  · exact congrArg some (hP.ci 7 (by decide))
theorem info37' : (Try.prog.info? 37).map (·.size) = some 12 := by kernel_rfl
theorem own_other {base n size q : Nat} {e : TypeId} {v : Value} {xs : List Value} {old : Array Value} {fz : Nat × Nat} (ho : w.ownsRow base e size v n xs) (he : e ≠ 37) (hq : w.heap[q]? = some (.cells old 37 fz)) (hne : ∀ k, k ≠ q → w'.heap[k]? = w.heap[k]?) : w'.ownsRow base e size v n xs := by
  refine ⟨ho.1, ho.2.imp id ?_⟩
  rintro ⟨g, cap, cur, h1, h2, h3, h4⟩
  refine ⟨g, cap, cur, h1, h2, (hne g (fun e2 => ?_)).trans h3, h4⟩
  rw [e2, hq] at h3
  injection h3 with h3
  injection h3 with _ h5
  exact he h5.symm
theorem rul_other {base q : Nat} {rv kv ev : Value} {old : Array Value} {fz : Nat × Nat} (hr : Rul w base rv kv ev Rs) (hq : w.heap[q]? = some (.cells old 37 fz)) (hne : ∀ k, k ≠ q → w'.heap[k]? = w.heap[k]?) : Rul w' base rv kv ev Rs := by
  obtain ⟨cs, h1, h2⟩ := hr
  refine ⟨cs, own_other h1 (by decide) hq hne, fun j r hj => ?_⟩
  obtain ⟨b, cap, h3, h4, h5, h6, h7⟩ := h2 j r hj
  refine ⟨b, cap, h3, h4, h5, (hne b (fun e2 => ?_)).trans h6, h7⟩
  unfold NB at h6
  rw [e2, hq] at h6
  injection h6 with h6
  injection h6 with _ h8
  exact absurd h8 (by decide)
theorem load37m {ops : Array Oper} {rest : List Oper} {op : Oper} {a : Act} {w : World} {Q : Exit → Act → World → Prop} (hgd : op.guard = none) (x : Operand) (ho : op.op = .load 37 x)
    (b o : Nat) (hx : a.eval x = .pointer (some ⟨b, o, none⟩)) (cs : List Value) (hl : cs.length = 12) (hc : w.rangeAt b o cs)
    (h : wpList Try.prog ops Q rest (a.put op.dst (.agg cs.toArray)) w) : wpList Try.prog ops Q (op :: rest) a w :=
  wpList_load_mid hgd 37 x ho b o hx cs _ hc Try.underlying37 rfl (by rw [hl]; exact info37') h
theorem store37r {ops : Array Oper} {rest : List Oper} {o : Oper} {a : Act} {w : World} {Q : Exit → Act → World → Prop} (hgd : o.guard = none) (x y : Operand) (ho : o.op = .store 37 x y)
    (g : Nat) (cells : List Value) (hx : a.eval x = .pointer (some ⟨g, 0, none⟩)) (hy : a.eval y = .agg cells.toArray) (hl : cells.length = 12)
    (t : TypeId) (old : Array Value) (hg : w.heap[g]? = some (.cells old t (0, 0))) (hold : old.size = 12) (h1 : cells.toArray.all (·.oneCell') = true)
    (h : wpList Try.prog ops Q rest (a.put o.dst undef) (w.setRow g cells.toArray)) : wpList Try.prog ops Q (o :: rest) a w :=
  wpList_store_row hgd 37 x y ho g _ hx hy t old hg (by rw [List.size_toArray, hl]; exact info37') (hold.trans (by rw [List.size_toArray, hl])) h1 h
theorem results_cell_tmp {P : Program} {fn : Func} {q t2 : Tmp} {ty : TypeId} (h : fn.results = #[.cell q ty, .tmp t2]) (tmps : Array Value) (w : World) (g : Nat) (t : TypeId) (cs : Array Value) (fr : Nat × Nat) (d : TypeDesc)
    (hp : tmps.getD q undef = .pointer (some ⟨g, 0, none⟩)) (hg : w.heap[g]? = some (.cells cs t fr))
    (hu : P.underlying ty = some d) (hd : (match d with | .struct _ | .array _ _ => true | _ => false) = true) (hi : (P.info? ty).map (·.size) = some cs.size) :
    (results fn tmps).run P w = .ok (.tuple #[.agg cs, tmps.getD t2 undef]) w := by
  have hp' : tmps[q]?.getD undef = .pointer (some ⟨g, 0, none⟩) := by simpa using hp
  simp [results, h, hp', asAddr, run_loadVar_row w g t ty cs fr d hg hu hd hi]
def pl1 : List Rl := [⟨[1], 2⟩]
def pl2 : List Rl := [⟨[1], 2⟩, ⟨[3], 4⟩, ⟨[3], 5⟩, ⟨[2, 5], 6⟩, ⟨[6], 7⟩, ⟨[7], 8⟩]
/-- How far the two acts are. -/
def PS (w1 wr : World) (p t h m k : Nat) : Prop :=
  ∃ c, (k = 0 ∧ Pty w1 wr p 3 pl1 [] [1] (fun j => if j = 0 then true else false) t h 2 c ∧ Mps wr t h m 0 0 0) ∨
    (k = 1 ∧ Pty w1 wr p 3 pl1 [0, 1] [1] (fun j => if j = 0 then true else false) t h 2 c ∧ Mps wr t h m 0 0 0) ∨
    (k = 2 ∧ Pty w1 wr p 9 pl2 [0, 1] [1, 7] (fun j => if j = 0 then true else false) t h 8 c)
theorem zero37 (w : World) : (zeroValue 37).run Try.prog w = .ok (.agg #[.int .i64 0, .slice none 0 0, .slice none 0 0, .slice none 0 0, .bool false, .bool false, .bool false, .bool false, .bool false, .bool false, .bool false, .bool false]) w := by kernel_rfl
def Pl2 (w : World) (e : Ending) (w' : World) : Prop := ∃ V, e = .returned (.tuple #[V, .int .i64 0]) ∧ Sy w' V 9 pl2 [0, 1] [1, 7] ∧ Below w.heap.size w w'
set_option maxRecDepth 20000 in
set_option maxHeartbeats 8000000 in
theorem play15a (w : World) (b cc : Nat) (hb : w.heap[b]? = some (.cells #[.int .i64 5, .int .i64 0, .int .i64 0, .int .i64 1, .int .i64 0, .int .i64 0] 42 (0, 0))) :
    Calls Try.prog 15 #[.slice (some ⟨b, 0, none⟩) 2 cc] w (Pl2 w) := by
  have hz := zero37
  have HST := Lib.hid (fun x => start21 x)
  have k1 : Below w.heap.size w (w.alloc (.cells #[.int .i64 0, .slice none 0 0, .slice none 0 0, .slice none 0 0, .bool false, .bool false, .bool false, .bool false, .bool false, .bool false, .bool false, .bool false] 37)) := (Below.refl _ w).alloc (Nat.le_refl _) _
  have hb1 := (k1.block b (Array.getElem?_eq_some_iff.1 hb).1).trans hb
  have hq1 := heap_alloc_new w (.cells #[.int .i64 0, .slice none 0 0, .slice none 0 0, .slice none 0 0, .bool false, .bool false, .bool false, .bool false, .bool false, .bool false, .bool false, .bool false] 37)
  have HB := Lib.hid (And.intro k1 (And.intro hb1 hq1))
  clear hb k1 hb1 hq1
  go_enter Try.func15, Try.ntmps15
  go_upto_region 1 with (fail)
  generalize w.alloc (.cells #[.int .i64 0, .slice none 0 0, .slice none 0 0, .slice none 0 0, .bool false, .bool false, .bool false, .bool false, .bool false, .bool false, .bool false, .bool false] 37) = w1 at HB ⊢
  have H21 := HST.out w1
  go_wp2_with (first
    | (go_at_call 21; (with_reducible refine H21.mono ?_); rintro e w2 ⟨p, t, h, m, c2, rfl, P2, M2, hlt, hlh, hlm⟩; have HP2 := Lib.hid (And.intro P2 (And.intro M2 (And.intro hlt hlm))); clear P2 M2 hlt hlh hlm))
  go_loopg [14] 2 (fun gk v14 wr => ∃ k : Nat, v14 = .int .i64 k ∧ k + gk = 2 ∧ PS w1 wr p t h m k ∧ Below w1.heap.size w1 wr)
  case atStart => exact ⟨0, rfl, by omega, ⟨c2, .inl ⟨rfl, HP2.out.1, HP2.out.2.1⟩⟩, HP2.out.1.bl⟩
  case round =>
    obtain ⟨k, rfl, hkg, ⟨c3, ⟨rfl, P0, M0⟩ | ⟨rfl, P1, M1⟩ | ⟨rfl, P2⟩⟩, hbl⟩ := hrel
    · clear hbl
      have bR := P0.bl
      have x0 : wr.cell? ⟨b, 0, none⟩ = some (.int .i64 5) := by rw [cell_of_row _ _ _ _ _ _ ((bR.block b (Array.getElem?_eq_some_iff.1 HB.out.2.1).1).trans HB.out.2.1)]; rfl
      have x1 : wr.cell? ⟨b, 1, none⟩ = some (.int .i64 0) := by rw [cell_of_row _ _ _ _ _ _ ((bR.block b (Array.getElem?_eq_some_iff.1 HB.out.2.1).1).trans HB.out.2.1)]; rfl
      have x2 : wr.cell? ⟨b, 2, none⟩ = some (.int .i64 0) := by rw [cell_of_row _ _ _ _ _ _ ((bR.block b (Array.getElem?_eq_some_iff.1 HB.out.2.1).1).trans HB.out.2.1)]; rfl
      have kA : Below wr.heap.size wr (wr.alloc (.cells #[.int .i64 5, .int .i64 0, .int .i64 0] 42)) := (Below.refl _ wr).alloc (Nat.le_refl _) _
      have HPA := Lib.hid (And.intro (P0.below kA) (M0.keep (KM.of kA)))
      have H22 : Calls Try.prog 22 #[.pointer (some ⟨p, 0, none⟩), .agg #[.int .i64 5, .int .i64 0, .int .i64 0]] (wr.alloc (.cells #[.int .i64 5, .int .i64 0, .int .i64 0] 42)) _ := can22 HPA.out.1 5 0 true rfl (by decide) (by decide) 0
      have y0 : (wr.alloc (.cells #[.int .i64 5, .int .i64 0, .int .i64 0] 42)).cell? ⟨wr.heap.size, 0, none⟩ = some (.int .i64 5) := by simp
      have y1 : (wr.alloc (.cells #[.int .i64 5, .int .i64 0, .int .i64 0] 42)).cell? ⟨wr.heap.size, 1, none⟩ = some (.int .i64 0) := by simp
      have y2 : (wr.alloc (.cells #[.int .i64 5, .int .i64 0, .int .i64 0] 42)).cell? ⟨wr.heap.size, 2, none⟩ = some (.int .i64 0) := by simp
      have hsz : wr.heap.size < (wr.alloc (.cells #[.int .i64 5, .int .i64 0, .int .i64 0] 42)).heap.size := by simp
      have HY := Lib.hid (And.intro y0 (And.intro y1 (And.intro y2 hsz)))
      clear P0 M0 bR kA y0 y1 y2 hsz
      go_upto_region 9 with (first
        | (go_at_call 22; (with_reducible refine H22.mono ?_); rintro e w4 ⟨rfl, b4⟩))
      have z0 := (b4.cell (p := ⟨wr.heap.size, 0, none⟩) HY.out.2.2.2).trans HY.out.1
      have z1 := (b4.cell (p := ⟨wr.heap.size, 1, none⟩) HY.out.2.2.2).trans HY.out.2.1
      have z2 := (b4.cell (p := ⟨wr.heap.size, 2, none⟩) HY.out.2.2.2).trans HY.out.2.2.1
      have HR : Calls Try.prog 23 #[.pointer (some ⟨p, 0, none⟩), .agg #[.int .i64 5, .int .i64 0, .int .i64 0]] w4 (Rev w1 w4 p 3 pl1 [] [1] (fun j => if j = 0 then true else false) t h 2 0 1) := act23r (HPA.out.1.below b4) (HPA.out.2.keep (KM.of b4)) rfl (by simp) (by simp) 0
      have HW4 := Lib.hid b4
      clear b4 H22 x0 x1 x2
      go_wp2_with (first
        | (go_at_call 23; (with_reducible refine HR.mono ?_); rintro e w5 ⟨rfl, m5, c5, P5⟩; have HX5 := Lib.hid (show PS w1 w5 p t h m 1 from ⟨c5, .inr (.inl ⟨rfl, P5, (HPA.out.2.keep (KM.of HW4.out)).keep m5⟩)⟩); have HB5 := Lib.hid P5.bl; clear m5 P5))
      go_roundg (gk - 1)
      case measure => omega
      case rel => exact ⟨1, rfl, by omega, HX5.out, HB5.out⟩
    · clear hbl
      have bR := P1.bl
      have x0 : wr.cell? ⟨b, 3, none⟩ = some (.int .i64 1) := by rw [cell_of_row _ _ _ _ _ _ ((bR.block b (Array.getElem?_eq_some_iff.1 HB.out.2.1).1).trans HB.out.2.1)]; rfl
      have x1 : wr.cell? ⟨b, 4, none⟩ = some (.int .i64 0) := by rw [cell_of_row _ _ _ _ _ _ ((bR.block b (Array.getElem?_eq_some_iff.1 HB.out.2.1).1).trans HB.out.2.1)]; rfl
      have x2 : wr.cell? ⟨b, 5, none⟩ = some (.int .i64 0) := by rw [cell_of_row _ _ _ _ _ _ ((bR.block b (Array.getElem?_eq_some_iff.1 HB.out.2.1).1).trans HB.out.2.1)]; rfl
      have kA : Below wr.heap.size wr (wr.alloc (.cells #[.int .i64 1, .int .i64 0, .int .i64 0] 42)) := (Below.refl _ wr).alloc (Nat.le_refl _) _
      have HPA := Lib.hid (And.intro (P1.below kA) (M1.keep (KM.of kA)))
      have H22 : Calls Try.prog 22 #[.pointer (some ⟨p, 0, none⟩), .agg #[.int .i64 1, .int .i64 0, .int .i64 0]] (wr.alloc (.cells #[.int .i64 1, .int .i64 0, .int .i64 0] 42)) _ := can22 HPA.out.1 1 0 true rfl (by decide) (by decide) 0
      have y0 : (wr.alloc (.cells #[.int .i64 1, .int .i64 0, .int .i64 0] 42)).cell? ⟨wr.heap.size, 0, none⟩ = some (.int .i64 1) := by simp
      have y1 : (wr.alloc (.cells #[.int .i64 1, .int .i64 0, .int .i64 0] 42)).cell? ⟨wr.heap.size, 1, none⟩ = some (.int .i64 0) := by simp
      have y2 : (wr.alloc (.cells #[.int .i64 1, .int .i64 0, .int .i64 0] 42)).cell? ⟨wr.heap.size, 2, none⟩ = some (.int .i64 0) := by simp
      have hsz : wr.heap.size < (wr.alloc (.cells #[.int .i64 1, .int .i64 0, .int .i64 0] 42)).heap.size := by simp
      have HY := Lib.hid (And.intro y0 (And.intro y1 (And.intro y2 hsz)))
      clear P1 M1 bR kA y0 y1 y2 hsz
      go_upto_region 9 with (first
        | (go_at_call 22; (with_reducible refine H22.mono ?_); rintro e w4 ⟨rfl, b4⟩))
      have z0 := (b4.cell (p := ⟨wr.heap.size, 0, none⟩) HY.out.2.2.2).trans HY.out.1
      have z1 := (b4.cell (p := ⟨wr.heap.size, 1, none⟩) HY.out.2.2.2).trans HY.out.2.1
      have z2 := (b4.cell (p := ⟨wr.heap.size, 2, none⟩) HY.out.2.2.2).trans HY.out.2.2.1
      have HR : Calls Try.prog 23 #[.pointer (some ⟨p, 0, none⟩), .agg #[.int .i64 1, .int .i64 0, .int .i64 0]] w4 (Cmt w1 p 3 pl1 [0, 1] [1] (fun j => if j = 0 then true else false) t h 2) := act23c (HPA.out.1.below b4) (HPA.out.2.keep (KM.of b4)) HP2.out.2.2.1 HP2.out.2.2.2 (by omega) (by omega) (by simp [pl1]) (by simp) 0
      have HW4 := Lib.hid b4
      clear b4 H22 x0 x1 x2
      go_wp2_with (first
        | (go_at_call 23; (with_reducible refine HR.mono ?_); rintro e w5 ⟨rfl, c5, P5⟩; have HX5 := Lib.hid (show PS w1 w5 p t h m 2 from ⟨c5, .inr (.inr ⟨rfl, P5⟩)⟩); have HB5 := Lib.hid P5.bl; clear P5))
      go_roundg (gk - 1)
      case measure => omega
      case rel => exact ⟨2, rfl, by omega, HX5.out, HB5.out⟩
    · have HP9 := Lib.hid P2
      obtain ⟨lo, lc, hrv, hrl⟩ := rul_rlz P2.r (by decide)
      have HRV := Lib.hid hrv
      obtain ⟨ka, kc, hkv, -, hkl⟩ := own_ilz P2.k
      obtain ⟨ea, ec, hev, -, hel⟩ := own_ilz P2.e
      have HKV := Lib.hid (And.intro hkv hev)
      have hs := P2.sym
      rw [hrv, hkv, hev] at hs
      obtain ⟨vs, hvs⟩ : ∃ vs, vs = [Value.int .i64 9, .slice lo pl2.length lc, .slice ka ([0, 1] : List Int).length kc, .slice ea ([1, 7] : List Int).length ec, .bool true, .bool false, .bool false, .bool false, .bool false, .bool false, .bool false, .bool false] := ⟨_, rfl⟩
      have hs : wr.rangeAt p 0 vs := by rw [hvs]; exact hs
      obtain ⟨old, ho, hq⟩ : ∃ old : Array Value, old.size = 12 ∧ wr.heap[w.heap.size]? = some (.cells old 37 (0, 0)) := ⟨_, rfl, (hbl.block w.heap.size (Array.getElem?_eq_some_iff.1 HB.out.2.2).1).trans HB.out.2.2⟩
      have hvl : vs.length = 12 := by rw [hvs]; rfl
      have hvo : vs.toArray.all (·.oneCell') = true := by rw [hvs]; simp [Value.oneCell']
      have HR := Lib.hid (And.intro hrl (And.intro hkl (And.intro hel (And.intro hs (And.intro hq (And.intro hbl (And.intro hvs (And.intro hvl (And.intro hvo ho)))))))))
      clear P2 hrv hrl hkv hkl hev hel hs hq hbl hvs hvl hvo ho
      go_wp2_with (first
        | ((with_reducible refine load37m rfl (.tmp 29) rfl p 0 rfl vs ?hl ?hr ?_); (case hr => exact HR.out.2.2.2.1); (case hl => exact HR.out.2.2.2.2.2.2.2.1))
        | ((with_reducible refine store37r rfl (.tmp 2) (.tmp 30) rfl w.heap.size vs rfl rfl ?hl 37 old ?hg ?ho ?h1 ?_); (case hg => exact HR.out.2.2.2.2.1); (case hl => exact HR.out.2.2.2.2.2.2.2.1); (case ho => exact HR.out.2.2.2.2.2.2.2.2.2); (case h1 => exact HR.out.2.2.2.2.2.2.2.2.1)))
      refine bodyPost_ret (results_cell_tmp rfl _ _ w.heap.size 37 vs.toArray (0, 0) _ rfl (setRow_heap _ _ _ _ _ _ HR.out.2.2.2.2.1) Try.underlying37 rfl (by rw [List.size_toArray, HR.out.2.2.2.2.2.2.2.1]; exact info37')) rfl ?_
      have hne : ∀ k, k ≠ w.heap.size → (wr.setRow w.heap.size vs.toArray).heap[k]? = wr.heap[k]? := fun k hk => setRow_other wr w.heap.size k _ hk
      obtain ⟨lo', lc', h1, h2⟩ := rul_rlz (rul_other HP9.out.r HR.out.2.2.2.2.1 hne) (by decide)
      rw [HRV.out] at h1
      injection h1 with h1a _ h1b
      subst h1a
      obtain ⟨ka', kc', h3, -, h4⟩ := own_ilz (own_other HP9.out.k (by decide) HR.out.2.2.2.2.1 hne)
      rw [HKV.out.1] at h3
      injection h3 with h3a _ _
      subst h3a
      obtain ⟨ea', ec', h5, -, h6⟩ := own_ilz (own_other HP9.out.e (by decide) HR.out.2.2.2.2.1 hne)
      rw [HKV.out.2] at h5
      injection h5 with h5a _ _
      subst h5a
      refine ⟨_, rfl, ⟨lo, lc, ka, kc, ea, ec, _, _, _, _, _, _, _, _, by rw [HR.out.2.2.2.2.2.2.1], h2, h4, h6⟩, ?_⟩
      have hb9 := HB.out.1.trans (HR.out.2.2.2.2.2.1.mono HB.out.1.size)
      exact hb9.trans ⟨rfl, rfl, rfl, by simp, fun k hk => hne k (by omega)⟩
end
end Go.Proofs.Ytllgdlfdmmdffaa
