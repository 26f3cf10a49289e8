/- Maps of one entry: a range over one, an entry that is there. -/
import Derived.Test.YtllgdlfdmmdffaaT
import Derived.Maps.RangeRun
namespace Go.Proofs.Ytllgdlfdmmdffaa
open Go.ChangeShapes Go.WideShapes Go.ChangeAt Go.RowKit Go.MapKept Go.ChangeMaps
set_option linter.unusedSimpArgs false
set_option linter.unusedVariables false
section
variable {w : World} {b T e r : Nat} {v u : Value} {n cl : Nat} {z : Int}
theorem find_one : Instr.findNow (.int .i64) (.int .i64 z) (#[⟨.int .i64 z, v, n⟩] : Array MapEntry).toList 0 = some (some (0, v)) := by
  simp [Instr.findNow, Instr.sameNow]
theorem run_mod1 (hT : Try.prog.underlying T = some (.map 3 e)) (hb : w.heap[b]? = some (.map #[⟨.int .i64 z, v, n⟩] cl)) :
    (Instr.mapUpdate T (.map (some b)) (.int .i64 z) u).run Try.prog w = .ok () (setBlock w b (.map #[⟨.int .i64 z, u, n⟩] cl)) := by
  have h1 := find_one (z := z) (v := v) (n := n)
  simp [Instr.mapUpdate, run_underlying hT, MapKept.run_getObj_map hb, run_checkKey und3 (ikey z), run_findKey und3 h1, run_keyThatStays (ikey z), MapKept.run_setObj_map _ hb, Result.andThen, setBlock]
theorem run_look1 (hT : Try.prog.underlying T = some (.map 3 e)) (hb : w.heap[b]? = some (.map #[⟨.int .i64 z, v, n⟩] cl)) :
    (Instr.lookup T (.map (some b)) (.int .i64 z) false).run Try.prog w = .ok v w := by
  have h1 := find_one (z := z) (v := v) (n := n)
  simp [Instr.lookup, run_underlying hT, MapKept.run_getObj_map hb, run_checkKey und3 (ikey z), run_findKey und3 h1, Result.andThen]
theorem run_range1 (hT : Try.prog.underlying T = some (.map 3 e)) {es : Array MapEntry} (hb : w.heap[b]? = some (.map es cl)) :
    (Instr.range T (.map (some b))).run Try.prog w = .ok (.pointer (some ⟨w.heap.size, 0, none⟩)) (w.alloc (.mapIter (some b) cl #[] cl)) := by
  simp [Instr.range, run_underlying hT, MapKept.run_getObj_map hb, Result.andThen, go_sem]
theorem run_next1 (ty : TypeId) (hr : w.heap[r]? = some (.mapIter (some b) 1 #[] 1)) (hb : w.heap[b]? = some (.map #[⟨.int .i64 z, v, 0⟩] 1)) :
    (Instr.next (.pointer (some ⟨r, 0, none⟩)) false ty).run Try.prog w = .ok (.tuple #[.bool true, .int .i64 z, v]) (setBlock w r (.mapIter (some b) 1 #[0] 1)) := by
  simp [Instr.next, getObj, Sem.run, hr, hb, Result.andThen, choose, Question.forced, setObj, setBlock]
theorem run_next2 (ty : TypeId) (hr : w.heap[r]? = some (.mapIter (some b) 1 #[0] 1)) (hb : w.heap[b]? = some (.map #[⟨.int .i64 z, v, 0⟩] 1)) :
    (Instr.next (.pointer (some ⟨r, 0, none⟩)) false ty).run Try.prog w = .ok (.tuple #[.bool false]) w := by
  simp [Instr.next, getObj, Sem.run, hr, hb, Result.andThen, choose, Question.forced]
theorem run_entry1 (hr : w.heap[r]? = some (.mapIter (some b) 1 #[0] 1)) (hb : w.heap[b]? = some (.map #[⟨.int .i64 z, v, 0⟩] 1)) :
    (Instr.entry (.pointer (some ⟨r, 0, none⟩))).run Try.prog w = .ok (.tuple #[.int .i64 z, v]) w := by
  simp [Instr.entry, getObj, Sem.run, hr, hb, Result.andThen]
end
end Go.Proofs.Ytllgdlfdmmdffaa
