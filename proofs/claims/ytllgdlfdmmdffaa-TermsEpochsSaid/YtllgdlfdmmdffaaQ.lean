/- A leaf enters; a party of one. -/
import Derived.Test.YtllgdlfdmmdffaaP
namespace Go.Proofs.Ytllgdlfdmmdffaa
open Go.ChangeShapes Go.WideShapes Go.ChangeAt Go.RowKit Go.MapKept Go.ChangeMaps
set_option linter.unusedSimpArgs false
set_option linter.unusedVariables false
theorem zero65 (w : World) : (zeroValue 65).run Try.prog w = .ok (.agg #[.int .i64 0, .slice none 0 0]) w := by kernel_rfl
theorem run_mk (T : TypeId) (w : World) : (Instr.makeMap T none).run Try.prog w = .ok (.map (some w.heap.size)) (w.alloc (.map #[] 0)) := by
  simp [Instr.makeMap, Result.andThen, go_sem]
def eT (k : Int) : Obj := .map #[⟨.int .i64 0, .agg #[.int .i64 k, .slice none 0 0], 0⟩] 1
def eH (m : Nat) : Obj := .map #[⟨.int .i64 0, .map (some m), 0⟩] 1
def eM (k : Int) (n : Nat) : Obj := .map #[⟨.int .i64 0, .int .i64 k, n⟩] (n + 1)
/-- The maps of a party of one leaf. -/
structure Mps (w : World) (t h m : Nat) (k1 k2 : Int) (n : Nat) : Prop where
  t : w.heap[t]? = some (eT k1)
  h : w.heap[h]? = some (eH m)
  m : w.heap[m]? = some (eM k2 n)
theorem Mps.keep {w w' : World} {t h m : Nat} {k1 k2 : Int} {n : Nat} (H : Mps w t h m k1 k2 n) (k : KM w w') : Mps w' t h m k1 k2 n := ⟨k _ _ _ H.t, k _ _ _ H.h, k _ _ _ H.m⟩
section
variable {w0 w w' : World} {p t h : Nat} {many init : Int} {Rs : List Rl} {Kn Ep : List Int} {ins : Nat → Bool} {c : Nat → Value}
def Ent (w0 : World) (p : Nat) (many : Int) (Rs : List Rl) (Kn Ep : List Int) (ins : Nat → Bool) (t h : Nat) (init key : Int) (e : Ending) (w' : World) : Prop :=
  e = .returned (.tuple #[]) ∧ ∃ m c', Pty w0 w' p many Rs Kn Ep (fun j => if j = 0 then true else ins j) t h init c' ∧ Mps w' t h m key key 0 ∧ w0.heap.size ≤ m
set_option maxRecDepth 20000 in
set_option maxHeartbeats 4000000 in
theorem enter31 (hP : Pty w0 w p many Rs Kn Ep ins t h init c) (key : Int) (ht : w.heap[t]? = some (.map #[] 0)) (hh : w.heap[h]? = some (.map #[] 0)) (hth : t ≠ h) (hlt : w0.heap.size ≤ t) (hlh : w0.heap.size ≤ h) :
    Calls Try.prog 31 #[.pointer (some ⟨p, 0, none⟩), .int .i64 0, .int .i64 key] w (Ent w0 p many Rs Kn Ep ins t h init key) := by
  have hz := zero65
  have hmk := run_mk 66
  have h4 := hP.pc.cell 4 (by decide)
  have f4 := hP.pc.frozen 4
  have PA := hP.setIn 0 (by decide) true
  have kmA := KM.setp (k := 4) hP.pc (.bool true)
  have PA : Pty w0 (w.setCell ⟨p, 4, none⟩ (.bool true)) p many Rs Kn Ep (fun j => if j = 0 then true else ins j) t h init (updV c 4 (.bool true)) := PA
  generalize hwA : w.setCell ⟨p, 4, none⟩ (.bool true) = wA at PA kmA
  have htA := kmA _ _ _ ht
  have hhA := kmA _ _ _ hh
  have r1 := run_push (T := 51) (z := 0) (v := .agg #[.int .i64 key, .slice none 0 0]) Try.underlying51 htA iks_nil (fun x hx => by simp at hx)
  have PB := PA.keep (set_kc htA (.map (#[].push { key := .int .i64 0, val := .agg #[.int .i64 key, .slice none 0 0], born := 0 }) (0 + 1))) (set_below PA.bl hlt _)
  have htB := set_same htA (.map (#[].push { key := .int .i64 0, val := .agg #[.int .i64 key, .slice none 0 0], born := 0 }) (0 + 1))
  have hhB := (set_other htA (.map (#[].push { key := .int .i64 0, val := .agg #[.int .i64 key, .slice none 0 0], born := 0 }) (0 + 1)) (fun e => hth e.symm)).trans hhA
  generalize setBlock wA t (.map (#[].push { key := .int .i64 0, val := .agg #[.int .i64 key, .slice none 0 0], born := 0 }) (0 + 1)) = wB at r1 PB htB hhB
  have htlt := (Array.getElem?_eq_some_iff.1 htB).1
  have hhlt := (Array.getElem?_eq_some_iff.1 hhB).1
  have hmC : (wB.alloc (.map #[] 0)).heap[wB.heap.size]? = some (.map #[] 0) := heap_alloc_new _ _
  have kC : Below wB.heap.size wB (wB.alloc (.map #[] 0)) := (Below.refl _ wB).alloc (Nat.le_refl _) _
  have PC := PB.below kC
  have htC := (kC.block t htlt).trans htB
  have hhC := (kC.block h hhlt).trans hhB
  have r2 := run_push (T := 66) (z := 0) (v := .int .i64 key) Try.underlying66 hmC iks_nil (fun x hx => by simp at hx)
  have PD := PC.keep (set_kc hmC (.map (#[].push { key := .int .i64 0, val := .int .i64 key, born := 0 }) (0 + 1))) (set_below PC.bl PB.bl.size _)
  have hmD := set_same hmC (.map (#[].push { key := .int .i64 0, val := .int .i64 key, born := 0 }) (0 + 1))
  have htD := (set_other hmC (.map (#[].push { key := .int .i64 0, val := .int .i64 key, born := 0 }) (0 + 1)) (by omega : t ≠ wB.heap.size)).trans htC
  have hhD := (set_other hmC (.map (#[].push { key := .int .i64 0, val := .int .i64 key, born := 0 }) (0 + 1)) (by omega : h ≠ wB.heap.size)).trans hhC
  generalize hwD : setBlock (wB.alloc (.map #[] 0)) wB.heap.size (.map (#[].push { key := .int .i64 0, val := .int .i64 key, born := 0 }) (0 + 1)) = wD at r2 PD hmD htD hhD
  have r3 := run_push (T := 52) (z := 0) (v := .map (some wB.heap.size)) Try.underlying52 hhD iks_nil (fun x hx => by simp at hx)
  have PE := PD.keep (set_kc hhD (.map (#[].push { key := .int .i64 0, val := .map (some wB.heap.size), born := 0 }) (0 + 1))) (set_below PD.bl hlh _)
  have ME : Mps (setBlock wD h (.map (#[].push { key := .int .i64 0, val := .map (some wB.heap.size), born := 0 }) (0 + 1))) t h wB.heap.size key key 0 :=
    ⟨(set_other hhD _ hth).trans htD, set_same hhD _, (set_other hhD _ (by omega : wB.heap.size ≠ h)).trans hmD⟩
  generalize setBlock wD h (.map (#[].push { key := .int .i64 0, val := .map (some wB.heap.size), born := 0 }) (0 + 1)) = wE at r3 PE ME
  have h12 := PA.pc.cell 12 (by decide)
  rw [PA.ct] at h12
  have h13 := PB.pc.cell 13 (by decide)
  rw [PB.ch] at h13
  have HF := Lib.hid (And.intro PE (And.intro ME PB.bl.size))
  clear PE ME PD PC PB PA hP htD hhD hmD htC hhC hmC htB hhB htA hhA kmA kC hwD
  go_enter Try.func31, Try.ntmps31
  go_wp2_with fail
  go_end0
  exact ⟨rfl, _, _, HF.out⟩
theorem zero54 (w : World) : (zeroValue 54).run Try.prog w = .ok (.agg #[.int .i64 0, .slice none 0 0, .slice none 0 0, .slice none 0 0, .bool false, .bool false, .bool false, .bool false, .bool false, .bool false, .bool false, .bool false, .map none, .map none, .int .i64 0]) w := by kernel_rfl
def c0 (t h : Nat) : Nat → Value := fun k => #[Value.int .i64 0, .slice none 0 0, .slice none 0 0, .slice none 0 0, .bool false, .bool false, .bool false, .bool false, .bool false, .bool false, .bool false, .bool false, .map (some t), .map (some h), .int .i64 0].getD k undef
theorem c0_in (t h i : Nat) (hi : i < 8) : c0 t h (4 + i) = .bool false := by
  rcases (by omega : i = 0 ∨ i = 1 ∨ i = 2 ∨ i = 3 ∨ i = 4 ∨ i = 5 ∨ i = 6 ∨ i = 7) with rfl | rfl | rfl | rfl | rfl | rfl | rfl | rfl <;> rfl
theorem pty0 (w0 w : World) (p t h : Nat) (hp : w.heap[p]? = some (.cells #[Value.int .i64 0, .slice none 0 0, .slice none 0 0, .slice none 0 0, .bool false, .bool false, .bool false, .bool false, .bool false, .bool false, .bool false, .bool false, .map (some t), .map (some h), .int .i64 0] 54 (0, 0)))
    (lo : w0.heap.size ≤ p) (bl : Below w0.heap.size w0 w) : Pty w0 w p 0 [] [] [] (fun _ => false) t h 0 (c0 t h) :=
  ⟨lo, ⟨hp⟩, rfl, ⟨[], World.ownsRow_nil _ _ _ _, fun j r hj => by simp at hj⟩, World.ownsRow_nil _ _ _ _, World.ownsRow_nil _ _ _ _, (fun b hb => by cases hb), fun i hi => c0_in t h i hi, rfl, rfl, rfl, bl⟩
/-- A party of one. -/
def Sta (w0 : World) (e : Ending) (w' : World) : Prop :=
  ∃ p t h m c', e = .returned (.pointer (some ⟨p, 0, none⟩)) ∧ Pty w0 w' p 3 [⟨[1], 2⟩] [] [1] (fun j => if j = 0 then true else false) t h 2 c' ∧ Mps w' t h m 0 0 0 ∧ w0.heap.size ≤ t ∧ w0.heap.size ≤ h ∧ w0.heap.size ≤ m
set_option maxRecDepth 20000 in
set_option maxHeartbeats 4000000 in
theorem start21 (w : World) : Calls Try.prog 21 #[] w (Sta w) := by
  have hz := zero54
  have hm1 := run_mk 51
  have hm2 := run_mk 52
  go_enter Try.func21, Try.ntmps21
  go_upto_region 2 with (fail)
  have ht3 : (((w.alloc (.map #[] 0)).alloc (.map #[] 0)).alloc (.cells #[Value.int .i64 0, .slice none 0 0, .slice none 0 0, .slice none 0 0, .bool false, .bool false, .bool false, .bool false, .bool false, .bool false, .bool false, .bool false, .map (some w.heap.size), .map (some (w.heap.size + 1)), .int .i64 0] 54)).heap[w.heap.size]? = some (.map #[] 0) :=
    (Below.heap_alloc _ _ _ (by simp; omega)).trans ((Below.heap_alloc _ _ _ (by simp)).trans (heap_alloc_new _ _))
  have hh3 : (((w.alloc (.map #[] 0)).alloc (.map #[] 0)).alloc (.cells #[Value.int .i64 0, .slice none 0 0, .slice none 0 0, .slice none 0 0, .bool false, .bool false, .bool false, .bool false, .bool false, .bool false, .bool false, .bool false, .map (some w.heap.size), .map (some (w.heap.size + 1)), .int .i64 0] 54)).heap[w.heap.size + 1]? = some (.map #[] 0) := by
    refine (Below.heap_alloc _ _ _ (by simp)).trans ?_
    have := heap_alloc_new (w.alloc (.map #[] 0)) (.map #[] 0)
    rwa [World.size_alloc] at this
  have hp3 := heap_alloc_new ((w.alloc (.map #[] 0)).alloc (.map #[] 0)) (.cells #[Value.int .i64 0, .slice none 0 0, .slice none 0 0, .slice none 0 0, .bool false, .bool false, .bool false, .bool false, .bool false, .bool false, .bool false, .bool false, .map (some w.heap.size), .map (some (w.heap.size + 1)), .int .i64 0] 54)
  rw [World.size_alloc, World.size_alloc] at hp3
  have hb3 : Below w.heap.size w (((w.alloc (.map #[] 0)).alloc (.map #[] 0)).alloc (.cells #[Value.int .i64 0, .slice none 0 0, .slice none 0 0, .slice none 0 0, .bool false, .bool false, .bool false, .bool false, .bool false, .bool false, .bool false, .bool false, .map (some w.heap.size), .map (some (w.heap.size + 1)), .int .i64 0] 54)) :=
    (((Below.refl _ w).alloc (Nat.le_refl _) _).alloc (by simp) _).alloc (by simp; omega) _
  generalize (((w.alloc (.map #[] 0)).alloc (.map #[] 0)).alloc (.cells #[Value.int .i64 0, .slice none 0 0, .slice none 0 0, .slice none 0 0, .bool false, .bool false, .bool false, .bool false, .bool false, .bool false, .bool false, .bool false, .map (some w.heap.size), .map (some (w.heap.size + 1)), .int .i64 0] 54)) = w3 at ht3 hh3 hp3 hb3 ⊢
  have P0 := pty0 w w3 (w.heap.size + 1 + 1) w.heap.size (w.heap.size + 1) hp3 (by omega) hb3
  have HX := Lib.hid (show w.heap.size ≠ w.heap.size + 1 by omega)
  generalize w.heap.size + 1 + 1 = p at P0 ⊢
  generalize hhh : w.heap.size + 1 = h at P0 hh3 HX ⊢
  have HM := Lib.hid (And.intro ht3 hh3)
  have H30 : Calls Try.prog 30 #[.pointer (some ⟨p, 0, none⟩), .int .i64 3] w3 (Pq w w3 p 3 [] [] [] (fun _ => false) w.heap.size h 0 (.int .i64 0)) := fresh30 P0 3 (by omega)
  clear hz hm1 hm2 P0 ht3 hh3 hp3 hb3
  generalize htt : w.heap.size = t at H30 HX HM ⊢
  have HL := Lib.hid (show w.heap.size ≤ t ∧ w.heap.size ≤ h from ⟨by omega, by omega⟩)
  clear htt hhh
  go_wp2_with (first
    | (go_at_call 30; (with_reducible refine H30.mono ?_); rintro e w4 ⟨rfl, m4, c4, P4⟩; have H31 := enter31 P4 0 (m4 _ _ _ HM.out.1) (m4 _ _ _ HM.out.2) HX.out HL.out.1 HL.out.2; clear m4 P4)
    | (go_at_call 31; (with_reducible refine H31.mono ?_); rintro e w5 ⟨rfl, m, c5, P5, M5⟩; have H32 := epoch32 P5 1 (by omega) (by simp) (by simp); have HM5 := Lib.hid M5; clear P5 M5)
    | (go_at_call 32; (with_reducible refine H32.mono ?_); rintro e w6 ⟨rfl, m6, c6, P6⟩))
  go_ret
  exact ⟨p, t, h, m, c6, rfl, P6, HM5.out.1.keep m6, HL.out.1, HL.out.2, HM5.out.2⟩
end
end Go.Proofs.Ytllgdlfdmmdffaa
