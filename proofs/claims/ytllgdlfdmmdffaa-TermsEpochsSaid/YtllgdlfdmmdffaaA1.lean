/- Maps whose keys are whole numbers, whatever they hold: what each operation leaves. -/
import Derived.Test.YtllgdlfdmmdffaaU
namespace Go.Proofs.Ytllgdlfdmmdffaa
open Go.ChangeShapes Go.WideShapes Go.ChangeAt Go.RowKit Go.MapKept Go.ChangeMaps
set_option linter.unusedSimpArgs false
set_option linter.unusedVariables false
/-- Entries as Go has them. -/
structure Mo (es : Array MapEntry) (cl : Nat) : Prop where
  iks : IKs es
  old : ∀ x ∈ es.toList, x.born < cl
  nd : (es.toList.map (·.born)).Nodup
  one : es.toList.Pairwise (fun x y => x.key ≠ y.key)
/-- Is there an entry? -/
def Hk (es : Array MapEntry) (z : Int) : Prop := ∃ x ∈ es.toList, x.key = .int .i64 z
theorem mo_nil (cl : Nat) : Mo #[] cl := ⟨iks_nil, fun x hx => by simp at hx, by simp, by simp⟩
section
variable {w : World} {b T e : Nat} {es : Array MapEntry} {cl : Nat} {z : Int} {v : Value} {V : Value → Prop}
theorem pair_key {l : List MapEntry} (h : l.Pairwise (fun x y => x.key ≠ y.key)) {x y : MapEntry} (hx : x ∈ l) (hy : y ∈ l) (e : x.key = y.key) : x = y := by
  induction l with
  | nil => cases hx
  | cons a l ih =>
    rw [List.pairwise_cons] at h
    rcases List.mem_cons.1 hx with h1 | h1 <;> rcases List.mem_cons.1 hy with h2 | h2
    · rw [h1, h2]
    · exact absurd (h1 ▸ e) (h.1 y h2)
    · exact absurd (h2 ▸ e.symm) (h.1 x h1)
    · exact ih h.2 h1 h2
/-- A look-up: the entry, or none. -/
theorem mo_look (hT : Try.prog.underlying T = some (.map 3 e)) (hb : w.heap[b]? = some (.map es cl)) (h : Mo es cl) {zv : Value} (hz : (zeroValue e).run Try.prog w = .ok zv w) (z : Int) :
    (∃ x ∈ es.toList, x.key = .int .i64 z ∧ ∀ q, (Instr.lookup T (.map (some b)) (.int .i64 z) q).run Try.prog w = .ok (if q then .tuple #[x.val, .bool true] else x.val) w) ∨
    (¬ Hk es z ∧ ∀ q, (Instr.lookup T (.map (some b)) (.int .i64 z) q).run Try.prog w = .ok (if q then .tuple #[zv, .bool false] else zv) w) := by
  by_cases hk : Hk es z
  · left
    obtain ⟨x, hx, hxk⟩ := hk
    obtain ⟨j, hj⟩ := List.getElem?_of_mem hx
    exact ⟨x, hx, hxk, fun q => run_look hT hb h.iks j x hj hxk (fun y hy hyk => by rw [pair_key h.one hy hx (hyk.trans hxk.symm)]) q⟩
  · right
    exact ⟨hk, fun q => run_look_miss hT hb h.iks (fun x hx e => hk ⟨x, hx, e⟩) hz q⟩
theorem nodup_inj {l : List MapEntry} (h : (l.map (·.born)).Nodup) {x y : MapEntry} (hx : x ∈ l) (hy : y ∈ l) (e : x.born = y.born) : x = y := by
  induction l with
  | nil => cases hx
  | cons a l ih =>
    rw [List.map_cons, List.nodup_cons] at h
    rcases List.mem_cons.1 hx with h1 | h1 <;> rcases List.mem_cons.1 hy with h2 | h2
    · rw [h1, h2]
    · exact absurd (List.mem_map.2 ⟨y, h2, by rw [← e, h1]⟩) h.1
    · exact absurd (List.mem_map.2 ⟨x, h1, by rw [e, h2]⟩) h.1
    · exact ih h.2 h1 h2
/-- A store: one entry more, or another value. -/
theorem mo_upd (hT : Try.prog.underlying T = some (.map 3 e)) (hb : w.heap[b]? = some (.map es cl)) (h : Mo es cl) (z : Int) (v : Value) :
    ∃ es' cl', (Instr.mapUpdate T (.map (some b)) (.int .i64 z) v).run Try.prog w = .ok () (setBlock w b (.map es' cl')) ∧ Mo es' cl' ∧ es'.size ≤ es.size + 1 ∧
      (∀ x ∈ es'.toList, (x.key = .int .i64 z ∧ x.val = v) ∨ (x.key ≠ .int .i64 z ∧ ∃ y ∈ es.toList, y.key = x.key ∧ y.val = x.val)) ∧ ∀ k, Hk es' k ↔ (k = z ∨ Hk es k) := by
  by_cases hk : Hk es z
  · obtain ⟨x, hx, hxk⟩ := hk
    rcases findNow_spec (ikey z) es.toList 0 h.iks with ⟨_, h2⟩ | ⟨i, y, h1, h2, h3⟩
    · exact absurd hxk (h2 x hx)
    · have hyx : y = x := pair_key h.one (List.mem_of_getElem? h2) hx (h3.trans hxk.symm)
      subst hyx
      obtain ⟨hil, hiy⟩ := List.getElem?_eq_some_iff.1 h2
      have hsz : i < es.size := by simpa using hil
      have hgi : es[i]? = some y := by rw [← Array.getElem?_toList]; exact h2
      obtain ⟨es', he'⟩ : ∃ es', es' = es.modify i (fun a => { a with key := .int .i64 z, val := v }) := ⟨_, rfl⟩
      have hl : es'.toList = es.toList.modify i (fun a => { a with key := .int .i64 z, val := v }) := by rw [he', Array.toList_modify]
      have hset : es'.toList = es.toList.set i { y with key := .int .i64 z, val := v } := by
        rw [hl]
        apply List.ext_getElem?
        intro j
        rw [List.getElem?_modify, List.getElem?_set]
        by_cases e1 : i = j
        · subst e1
          rw [if_pos rfl, if_pos hil, h2]; simp
        · rw [if_neg e1]; simp [e1]
      have hborn : es'.toList.map (·.born) = es.toList.map (·.born) := by
        rw [hset, List.map_set]
        show (es.toList.map (·.born)).set i y.born = _
        apply List.ext_getElem?
        intro j
        rw [List.getElem?_set]
        split
        · rename_i e1
          subst e1
          rw [List.getElem?_map, h2]
          split
          · rfl
          · rename_i h9; exact absurd (by simpa using hil) h9
        · rfl
      have hkey : es'.toList.map (·.key) = es.toList.map (·.key) := by
        rw [hset, List.map_set]
        show (es.toList.map (·.key)).set i (.int .i64 z) = _
        apply List.ext_getElem?
        intro j
        rw [List.getElem?_set]
        split
        · rename_i e1
          subst e1
          rw [List.getElem?_map, h2]
          split
          · rw [Option.map_some, h3]
          · rename_i h9; exact absurd (by simpa using hil) h9
        · rfl
      have hmem : ∀ u ∈ es'.toList, u = { y with key := .int .i64 z, val := v } ∨ u ∈ es.toList := fun u hu => by
        rw [hset] at hu
        rcases List.mem_or_eq_of_mem_set hu with h | h
        · exact .inr h
        · exact .inl h
      refine ⟨es', cl, ?_, ⟨fun u hu => ?_, fun u hu => ?_, by rw [hborn]; exact h.nd, ?_⟩, by rw [he']; simp, fun u hu => ?_, fun k => ?_⟩
      · rw [he']
        simp [Instr.mapUpdate, run_underlying hT, MapKept.run_getObj_map hb, run_checkKey und3 (ikey z), run_findKey und3 h1, hgi, h3, run_keyThatStays (ikey z), MapKept.run_setObj_map _ hb, Result.andThen, setBlock]
      · rcases hmem u hu with rfl | h4
        · exact ikey z
        · exact h.iks u h4
      · rcases hmem u hu with rfl | h4
        · exact h.old y hx
        · exact h.old u h4
      · have := h.one
        rw [← List.pairwise_map (f := fun x : MapEntry => x.key) (R := fun a b => a ≠ b)] at this ⊢
        rw [hkey]; exact this
      · by_cases huz : u.key = .int .i64 z
        · obtain ⟨j, hj⟩ := List.getElem?_of_mem hu
          by_cases hji : j = i
          · rw [hset, hji, List.getElem?_set, if_pos rfl, if_pos hil] at hj
            injection hj with hj
            exact .inl ⟨huz, by rw [← hj]⟩
          · exfalso
            rw [hset, List.getElem?_set, if_neg (fun e => hji e.symm)] at hj
            have huy : u = y := pair_key h.one (List.mem_of_getElem? hj) hx (huz.trans h3.symm)
            have h8 : (es.toList.map (·.born))[j]? = (es.toList.map (·.born))[i]? := by rw [List.getElem?_map, List.getElem?_map, hj, h2, huy]
            have hjl := (List.getElem?_eq_some_iff.1 hj).1
            exact hji ((List.getElem?_inj (by simpa using hjl) h.nd).1 h8)
        · rcases hmem u hu with rfl | h4
          · exact absurd rfl huz
          · exact .inr ⟨huz, u, h4, rfl, rfl⟩
      · have hk2 : ∀ (l : Array MapEntry), Hk l k ↔ (Value.int .i64 k) ∈ l.toList.map (·.key) := fun l => by
          unfold Hk
          rw [List.mem_map]
        rw [hk2, hk2, hkey]
        constructor
        · exact .inr
        · rintro (rfl | h5)
          · exact List.mem_map.2 ⟨y, hx, h3⟩
          · exact h5
  · have hno : ∀ x ∈ es.toList, x.key ≠ .int .i64 z := fun x hx e => hk ⟨x, hx, e⟩
    refine ⟨es.push { key := .int .i64 z, val := v, born := cl }, cl + 1, run_push hT hb h.iks hno, ⟨fun u hu => ?_, fun u hu => ?_, ?_, ?_⟩, by simp, fun u hu => ?_, fun k => ?_⟩
    · rw [Array.toList_push, List.mem_append, List.mem_singleton] at hu
      rcases hu with hu | rfl
      · exact h.iks u hu
      · exact ikey z
    · rw [Array.toList_push, List.mem_append, List.mem_singleton] at hu
      rcases hu with hu | rfl
      · have := h.old u hu; omega
      · exact Nat.lt_succ_self _
    · rw [Array.toList_push, List.map_append, List.nodup_append]
      refine ⟨h.nd, by simp, fun a ha c hc e => ?_⟩
      rw [List.mem_map] at ha
      obtain ⟨u, hu, rfl⟩ := ha
      have h1 := h.old u hu
      simp at hc
      omega
    · rw [Array.toList_push, List.pairwise_append]
      refine ⟨h.one, by simp, fun a ha c hc => ?_⟩
      rw [List.mem_singleton] at hc
      subst hc
      exact hno a ha
    · rw [Array.toList_push, List.mem_append, List.mem_singleton] at hu
      rcases hu with hu | rfl
      · exact .inr ⟨hno u hu, u, hu, rfl, rfl⟩
      · exact .inl ⟨rfl, rfl⟩
    · unfold Hk
      simp only [Array.toList_push, List.mem_append, List.mem_singleton]
      constructor
      · rintro ⟨u, h1 | rfl, h2⟩
        · exact .inr ⟨u, h1, h2⟩
        · injection h2 with _ h2; exact .inl h2.symm
      · rintro (rfl | ⟨u, h1, h2⟩)
        · exact ⟨_, .inr rfl, rfl⟩
        · exact ⟨u, .inl h1, h2⟩
/-- A deletion. -/
theorem mo_del (hT : Try.prog.underlying T = some (.map 3 e)) (hb : w.heap[b]? = some (.map es cl)) (h : Mo es cl) (z : Int) (ty t2 : TypeId) :
    ∃ es', (Builtin.delete_ #[T, t2] ty #[.map (some b), .int .i64 z]).run Try.prog w = .ok (.tuple #[]) (setBlock w b (.map es' cl)) ∧ Mo es' cl ∧ es'.size ≤ es.size ∧
      (∀ x ∈ es'.toList, x ∈ es.toList) ∧ ∀ k, Hk es' k ↔ (k ≠ z ∧ Hk es k) := by
  by_cases hk : Hk es z
  · obtain ⟨x, hx, hxk⟩ := hk
    rcases findNow_spec (ikey z) es.toList 0 h.iks with ⟨_, h2⟩ | ⟨i, y, h1, h2, h3⟩
    · exact absurd hxk (h2 x hx)
    · have hyx : y = x := pair_key h.one (List.mem_of_getElem? h2) hx (h3.trans hxk.symm)
      subst hyx
      obtain ⟨hil, hiy⟩ := List.getElem?_eq_some_iff.1 h2
      have hl : (es.eraseIdxIfInBounds i).toList = es.toList.eraseIdx i := by simp
      have hsub : (es.toList.eraseIdx i).Sublist es.toList := List.eraseIdx_sublist _ _
      refine ⟨es.eraseIdxIfInBounds i, ?_, ⟨fun u hu => ?_, fun u hu => ?_, ?_, ?_⟩, ?_, fun u hu => ?_, fun k => ?_⟩
      · simp [Builtin.delete_, run_underlying hT, MapKept.run_getObj_map hb, run_checkKey und3 (ikey z), run_findKey und3 h1, MapKept.run_setObj_map _ hb, Result.andThen, setBlock]
      · rw [hl] at hu; exact h.iks u (hsub.subset hu)
      · rw [hl] at hu; exact h.old u (hsub.subset hu)
      · rw [hl]; exact (hsub.map _).nodup h.nd
      · rw [hl]; exact h.one.sublist hsub
      · have := hsub.length_le
        rw [← hl, Array.length_toList, Array.length_toList] at this
        exact this
      · rw [hl] at hu; exact hsub.subset hu
      · unfold Hk
        rw [hl]
        constructor
        · rintro ⟨u, h4, h5⟩
          refine ⟨fun e => ?_, u, hsub.subset h4, h5⟩
          subst e
          have huy : u = y := pair_key h.one (hsub.subset h4) hx (h5.trans h3.symm)
          subst huy
          obtain ⟨j, hj1, hj2⟩ := (List.mem_eraseIdx_iff_getElem? ).1 h4
          have : (es.toList.map (·.born))[j]? = (es.toList.map (·.born))[i]? := by rw [List.getElem?_map, List.getElem?_map, hj2, h2]
          have hjl := (List.getElem?_eq_some_iff.1 hj2).1
          exact hj1 ((List.getElem?_inj (by simpa using hjl) h.nd).1 this)
        · rintro ⟨h4, u, h5, h6⟩
          refine ⟨u, ?_, h6⟩
          obtain ⟨j, hj⟩ := List.getElem?_of_mem h5
          refine (List.mem_eraseIdx_iff_getElem?).2 ⟨j, fun e => ?_, hj⟩
          subst e
          rw [h2] at hj
          injection hj with hj
          subst hj
          rw [h3] at h6
          injection h6 with _ h6
          exact h4 h6.symm
  · have hno : ∀ x ∈ es.toList, x.key ≠ .int .i64 z := fun x hx e => hk ⟨x, hx, e⟩
    exact ⟨es, run_delete_miss hT hb h.iks hno ty t2, h, Nat.le_refl _, fun u hu => hu, fun k => ⟨fun h1 => ⟨fun e => hk (by rw [← e]; exact h1), h1⟩, fun h1 => h1.2⟩⟩
end
end Go.Proofs.Ytllgdlfdmmdffaa
