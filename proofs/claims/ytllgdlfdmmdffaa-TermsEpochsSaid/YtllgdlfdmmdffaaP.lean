/- Maps whose keys are whole numbers: what each operation leaves. -/
import Derived.Test.YtllgdlfdmmdffaaO
import Derived.MapFrom
import Derived.ChangeMaps5
import Derived.Maps.Keyed
namespace Go.Proofs.Ytllgdlfdmmdffaa
open Go.ChangeShapes Go.WideShapes Go.ChangeAt Go.RowKit Go.MapKept Go.ChangeMaps
set_option linter.unusedSimpArgs false
set_option linter.unusedVariables false
def IKs (es : Array MapEntry) : Prop := ∀ x ∈ es.toList, IsKey (.int .i64) x.key
section
variable {w : World} {b T e : Nat} {es : Array MapEntry} {cl : Nat} {z : Int} {v : Value}
theorem ikey (z : Int) : IsKey (.int .i64) (.int .i64 z) := by simp [IsKey]
theorem und3 : Try.prog.underlying 3 = some (.int .i64) := Try.underlying3
theorem find_miss (hks : IKs es) (hno : ∀ x ∈ es.toList, x.key ≠ .int .i64 z) : Instr.findNow (.int .i64) (.int .i64 z) es.toList 0 = some none := by
  rcases findNow_spec (ikey z) es.toList 0 hks with ⟨h1, _⟩ | ⟨j, e, h1, h2, h3⟩
  · exact h1
  · exact absurd h3 (hno e (List.mem_of_getElem? h2))
theorem run_push (hT : Try.prog.underlying T = some (.map 3 e)) (hb : w.heap[b]? = some (.map es cl)) (hks : IKs es) (hno : ∀ x ∈ es.toList, x.key ≠ .int .i64 z) :
    (Instr.mapUpdate T (.map (some b)) (.int .i64 z) v).run Try.prog w = .ok () (setBlock w b (.map (es.push { key := .int .i64 z, val := v, born := cl }) (cl + 1))) := by
  have h1 := find_miss hks hno
  simp [Instr.mapUpdate, run_underlying hT, MapKept.run_getObj_map hb, run_checkKey und3 (ikey z), run_findKey und3 h1, MapKept.run_setObj_map _ hb, Result.andThen, setBlock]
theorem run_look (hT : Try.prog.underlying T = some (.map 3 e)) (hb : w.heap[b]? = some (.map es cl)) (hks : IKs es) (j : Nat) (x : MapEntry) (hj : es.toList[j]? = some x) (hk : x.key = .int .i64 z) (hone : ∀ y ∈ es.toList, y.key = .int .i64 z → y.val = x.val) (q : Bool) :
    (Instr.lookup T (.map (some b)) (.int .i64 z) q).run Try.prog w = .ok (if q then .tuple #[x.val, .bool true] else x.val) w := by
  rcases findNow_spec (ikey z) es.toList 0 hks with ⟨_, h2⟩ | ⟨i, y, h1, h2, h3⟩
  · exact absurd hk (h2 x (List.mem_of_getElem? hj))
  · rw [hone y (List.mem_of_getElem? h2) h3] at h1
    cases q <;> simp [Instr.lookup, run_underlying hT, MapKept.run_getObj_map hb, run_checkKey und3 (ikey z), run_findKey und3 h1, Result.andThen]
theorem run_look_miss (hT : Try.prog.underlying T = some (.map 3 e)) (hb : w.heap[b]? = some (.map es cl)) (hks : IKs es) (hno : ∀ x ∈ es.toList, x.key ≠ .int .i64 z) {zv : Value} (hz : (zeroValue e).run Try.prog w = .ok zv w) (q : Bool) :
    (Instr.lookup T (.map (some b)) (.int .i64 z) q).run Try.prog w = .ok (if q then .tuple #[zv, .bool false] else zv) w := by
  have h1 := find_miss hks hno
  cases q <;> simp [Instr.lookup, run_underlying hT, MapKept.run_getObj_map hb, run_checkKey und3 (ikey z), run_findKey und3 h1, hz, Result.andThen]
theorem run_delete_miss (hT : Try.prog.underlying T = some (.map 3 e)) (hb : w.heap[b]? = some (.map es cl)) (hks : IKs es) (hno : ∀ x ∈ es.toList, x.key ≠ .int .i64 z) (ty t2 : TypeId) :
    (Builtin.delete_ #[T, t2] ty #[.map (some b), .int .i64 z]).run Try.prog w = .ok (.tuple #[]) (setBlock w b (.map es cl)) := by
  have h1 := find_miss hks hno
  simp [Builtin.delete_, run_underlying hT, MapKept.run_getObj_map hb, run_checkKey und3 (ikey z), run_findKey und3 h1, MapKept.run_setObj_map _ hb, Result.andThen, setBlock]
theorem run_clear (hT : Try.prog.underlying T = some (.map 3 e)) (hb : w.heap[b]? = some (.map es cl)) (ty : TypeId) :
    (Builtin.clear_ #[T] ty #[.map (some b)]).run Try.prog w = .ok (.tuple #[]) (setBlock w b (.map #[] cl)) := by
  simp [Builtin.clear_, run_underlying hT, MapKept.run_getObj_map hb, MapKept.run_setObj_map _ hb, Result.andThen, setBlock]
theorem set_same (hb : w.heap[b]? = some (.map es cl)) (o : Obj) : (setBlock w b o).heap[b]? = some o := heap_setBlock_same hb o
theorem set_other (hb : w.heap[b]? = some (.map es cl)) (o : Obj) {i : Nat} (h : i ≠ b) : (setBlock w b o).heap[i]? = w.heap[i]? := heap_setBlock_other hb o h
theorem set_size (o : Obj) : (setBlock w b o).heap.size = w.heap.size := by simp [setBlock]
theorem set_kc (hb : w.heap[b]? = some (.map es cl)) (o : Obj) : KC w (setBlock w b o) := ⟨rfl, rfl, rfl, by rw [set_size]; exact Nat.le_refl _, fun k cs t f x => (set_other hb o (fun e => by rw [e, hb] at x; cases x)).trans x⟩
theorem set_below {w0 : World} {B : Nat} (h : Below B w0 w) (hB : B ≤ b) (o : Obj) : Below B w0 (setBlock w b o) :=
  h.trans ⟨rfl, rfl, rfl, by rw [set_size]; exact Nat.le_refl _, fun k hk => by
    show (w.heap.setIfInBounds b o)[k]? = w.heap[k]?
    rw [Array.getElem?_setIfInBounds_ne (by omega)]⟩
theorem iks_nil : IKs #[] := fun x hx => by simp at hx
theorem iks_one (z : Int) (v : Value) (n : Nat) : IKs #[⟨.int .i64 z, v, n⟩] := fun x hx => by
  simp at hx
  subst hx
  exact ikey z
end
end Go.Proofs.Ytllgdlfdmmdffaa
