/- An append of zeros. -/
import Derived.Test.YtjabkfccfecmgaaH
import Derived.Lib.AppendZeros
namespace Go.Proofs.Ytjabkfccfecmgaa
open Go.ChangeShapes Go.WideShapes Go.ChangeAt Go.RowKit
set_option linter.unusedSimpArgs false
set_option linter.unusedVariables false
theorem zeroCells_list (m : Nat) : (Builtin.zeroCells (Value.int .u8 0).cells m).toList = (List.replicate m 0#8).map c8 := by
  apply List.ext_getElem?
  intro j
  rw [List.getElem?_map, List.getElem?_replicate]
  have hs : (Value.int .u8 0).cells.size = 1 := rfl
  unfold Builtin.zeroCells
  by_cases h : j < m
  · have e : j % 1 = 0 := Nat.mod_one j
    simp [h, hs, c8, bt, Nat.mod_one]
    rfl
  · simp [h, hs]
/-- Rows of bytes keep their size and their first n cells. -/
def K12 (n : Nat) (w w' : World) : Prop := ∀ (k : Nat) (cs : Array Value) (fz : Nat × Nat), w.heap[k]? = some (.cells cs 5 fz) → ∃ cs' : Array Value, w'.heap[k]? = some (.cells cs' 5 fz) ∧ cs'.size = cs.size ∧ cs'.toList.take n = cs.toList.take n
theorem K12.same {n : Nat} {w w' : World} (h : ∀ k, k < w.heap.size → w'.heap[k]? = w.heap[k]?) : K12 n w w' := fun k cs fz hk => ⟨cs, (h k (Array.getElem?_eq_some_iff.1 hk).1).trans hk, rfl, rfl⟩
theorem run_app_zeros (w : World) (base : Nat) (ty : TypeId) (v : Value) (n : Nat) (T : List Byte) (hown : Own w base v n T) (m : Nat) (hnm : n + m ≤ 1000000) (hbase : base ≤ w.heap.size) :
    ∃ v' w', (Builtin.append_ #[23, 3] ty #[v, .int .i64 (m : Int)]).run Try.prog w = .ok v' w' ∧ Own w' base v' (n + m) (T ++ List.replicate m 0#8) ∧ w.grownBy w' v.ownBlock ∧ K12 n w w' := by
  obtain ⟨i0, hi, hz0, hz1, hz2⟩ := info_parts info5
  have hw : IntKind.i64.wrap (m : Int) = m := by rw [IntKind.wrap_i64]; omega
  have hneg : ¬ ((m : Int) < 0) := by omega
  have h48i : ¬ (281474976710656 < (m : Int) * (i0.bytes : Int)) := by rw [hz2]; omega
  have hlen : (T.map c8).length = n * 1 := hown.1
  have hlT : T.length = n := by simpa using hlen
  by_cases hm : m = 0
  · subst hm
    refine ⟨v, w, ?_, by simpa using hown, World.grownBy.refl _ _, K12.same fun _ _ => rfl⟩
    have hw0 : IntKind.i64.wrap 0 = 0 := by rw [IntKind.wrap_i64]; omega
    rcases hown.2 with ⟨rfl, rfl⟩ | ⟨b, cap, cur, rfl, _, _, hnc, _⟩
    · simp [Builtin.append_, run_underlying Try.underlying23, run_underlying Try.underlying3, sizeOf, typeInfo, hi, asInt, asIntOf, hw0]
    · simp [Builtin.append_, run_underlying Try.underlying23, run_underlying Try.underlying3, sizeOf, typeInfo, hi, asInt, asIntOf, hw0, hnc, storeCells]
  · have hns : ¬ (m * i0.size = 0) := by rw [hz1]; omega
    have hzl := zeroCells_list m
    have hfull : (T.map c8 ++ (List.replicate m 0#8).map c8).length = (n + m) * 1 := by simp [hlT]
    have grown : ∀ (old : Nat), old < n + m → ∀ (row : Option Nat) (cs : Array Value), cs.toList = T.map c8 ++ (List.replicate m 0#8).map c8 →
        Own (w.drew.alloc (.cells (cs ++ Builtin.zeroCells (Value.int .u8 0).cells (grownCap w (n + m) old 5 - (n + m))) 5)) base (.slice (some ⟨w.heap.size, 0, none⟩) (n + m) (grownCap w (n + m) old 5)) (n + m) (T ++ List.replicate m 0#8) ∧
        w.grownBy (w.drew.alloc (.cells (cs ++ Builtin.zeroCells (Value.int .u8 0).cells (grownCap w (n + m) old 5 - (n + m))) 5)) row := by
      intro old ho row cs hcs
      have hge := grownCap_ge w (n + m) old 5
      have hcm : grownCap w (n + m) old 5 ≤ maxLen := grownCap_le_maxLen w (n + m) old 5 (by unfold maxLen; omega)
      have hsz : cs.size = n + m := by rw [← Array.length_toList, hcs, hfull, Nat.mul_one]
      refine ⟨⟨by simp [hlT], .inr ⟨w.heap.size, _, _, rfl, hbase, heap_alloc_new w.drew _, hge, hcm, ?_, ?_⟩⟩, ⟨rfl, rfl, rfl, by simp, fun k hk _ => Below.heap_alloc w.drew _ k hk⟩⟩
      · simp only [Array.size_append, size_zeroCells, hsz, show (Value.int .u8 0).cells.size = 1 from rfl]
        omega
      · rw [Array.toList_append, hcs, List.map_append, ← hfull]
        exact List.take_left
    rcases hown.2 with ⟨rfl, rfl⟩ | ⟨g, cap, cur, rfl, hbg, hg, hnc, hcm, hcs, htake⟩
    · have hT : T = [] := List.eq_nil_of_length_eq_zero hlT
      subst hT
      have hr := Lib.run_append_nil_zeros (P := Try.prog) w 23 3 ty 5 i0 (.int .u8 0) .i64 .i64 Try.underlying23 Try.underlying3 hi hz0 m (by omega) (by omega) (by omega) (by rw [hz2]; omega)
      have hgr := grown 0 (by omega) (Value.ownBlock (.slice none 0 0)) (Builtin.zeroCells (Value.int .u8 0).cells m) (by simpa using hzl)
      simp only [Nat.zero_add, List.nil_append] at hgr ⊢
      exact ⟨_, _, hr, hgr.1, hgr.2, K12.same fun k hk => Below.heap_alloc w.drew _ k hk⟩
    · by_cases hroom : n + m ≤ cap
      · have hst := run_storeCells_at Try.prog g n 5 ((List.replicate m 0#8).map c8) 0 cur w hg (by rw [List.length_map, List.length_replicate, hcs]; omega) (c8_one _)
        simp only [Nat.add_zero] at hst
        have hr : (Builtin.append_ #[23, 3] ty #[.slice (some ⟨g, 0, none⟩) n cap, .int .i64 (m : Int)]).run Try.prog w = .ok (.slice (some ⟨g, 0, none⟩) (n + m) cap) (w.setRow g (cur.toList.take n ++ (List.replicate m 0#8).map c8 ++ cur.toList.drop (n + m)).toArray) := by
          have hl2 : ((List.replicate m 0#8).map c8).length = m := by rw [List.length_map, List.length_replicate]
          rw [hl2, List.map_replicate] at hst
          have hd : ∀ (L : List Value), (Array.mk L).toList = L := fun _ => rfl
          simp [Builtin.append_, run_underlying Try.underlying23, run_underlying Try.underlying3, sizeOf, typeInfo, zeroValue, hi, hz0, hz1, asInt, asIntOf, hw, hm, hneg, hns, h48i, hroom, hzl, Addr.add_lit, hst]
        refine ⟨_, _, hr, ⟨by simp [hlT], .inr ⟨g, cap, _, rfl, hbg, setRow_heap w g cur _ 5 _ hg, hroom, hcm, ?_, ?_⟩⟩, ⟨rfl, rfl, rfl, by simp, fun k _ hk => setRow_other w g k _ (fun e => hk (by simp [Value.ownBlock, e]))⟩, fun k cs fz hk => ?_⟩
        · simp only [List.size_toArray, List.length_append, List.length_take, List.length_drop, Array.length_toList, List.length_map, List.length_replicate]
          omega
        · rw [Nat.mul_one] at htake
          rw [htake, List.map_append, ← hfull]
          exact List.take_left
        · by_cases e : k = g
          · subst e
            rw [hg] at hk
            injection hk with hk
            injection hk with e1 _ e3
            subst e1
            subst e3
            refine ⟨_, setRow_heap w k cur _ 5 _ hg, ?_, ?_⟩
            · simp only [List.size_toArray, List.length_append, List.length_take, List.length_drop, Array.length_toList, List.length_map, List.length_replicate]
              omega
            · show List.take n (cur.toList.take n ++ _ ++ _) = _
              rw [List.append_assoc, List.take_append_of_le_length (by rw [List.length_take, Array.length_toList]; omega), List.take_take, Nat.min_self]
          · exact ⟨cs, (setRow_other w g k _ e).trans hk, rfl, rfl⟩
      · have hfo := run_firstCells_some (P := Try.prog) w.drew 1 n ⟨g, 0, none⟩ n cap (T.map c8) hlen (by simpa using hown.cells (g := g) rfl)
        have h63' : ¬ (9223372036854775807 < ((n : Int) + (m : Int))) := by omega
        have h48' : ¬ (281474976710656 < Builtin.nextslicecap (n + m) cap * i0.bytes) := by
          have := growslice_fits (bytes := 1) (show cap < n + m by omega) (by omega)
          rw [hz2]; omega
        have hr : (Builtin.append_ #[23, 3] ty #[.slice (some ⟨g, 0, none⟩) n cap, .int .i64 (m : Int)]).run Try.prog w = .ok (.slice (some ⟨w.heap.size, 0, none⟩) (n + m) (grownCap w (n + m) cap 5)) (w.drew.alloc (.cells (((T.map c8).toArray ++ Builtin.zeroCells (Value.int .u8 0).cells m) ++ Builtin.zeroCells (Value.int .u8 0).cells (grownCap w (n + m) cap 5 - (n + m))) 5)) := by
          simp [Builtin.append_, run_underlying Try.underlying23, run_underlying Try.underlying3, sizeOf, typeInfo, zeroValue, hi, hz0, hz1, asInt, asIntOf, hw, hm, hneg, hns, h48i, hroom, h63', h48', Question.forced, hfo, newRow, grownCap]
        have hgr := grown cap (by omega) (Value.ownBlock (.slice (some ⟨g, 0, none⟩) n cap)) ((T.map c8).toArray ++ Builtin.zeroCells (Value.int .u8 0).cells m) (by rw [Array.toList_append, hzl])
        exact ⟨_, _, hr, hgr.1, hgr.2, K12.same fun k hk => Below.heap_alloc w.drew _ k hk⟩
end Go.Proofs.Ytjabkfccfecmgaa
