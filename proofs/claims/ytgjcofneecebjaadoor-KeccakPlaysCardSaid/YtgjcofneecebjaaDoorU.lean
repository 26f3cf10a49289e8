/- The sums of program and document, as one. -/
import Derived.Test.YtgjcofneecebjaaDoorR7
import Derived.Test.YtgjcofneecebjaaDoorT
import Derived.Test.YtgjcofneecebjaaDoorM
namespace Go.Proofs.YtgjcofneecebjaaDoor
open Go.ChangeShapes Go.WideShapes Go.ChangeAt Go.RowKit
set_option linter.unusedSimpArgs false
set_option linter.unusedVariables false
theorem own_form {w : World} {base n : Nat} {v : Value} {T : List (BitVec 8)} (h : Own w base v n T) : ∃ ao c, v = .slice ao n c ∧ ∀ g, g < base → Byt w g ao T := by
  have key : ∃ ao c, v = .slice ao n c := by
    rcases h.2 with ⟨rfl, rfl⟩ | ⟨b, cap, cur, rfl, _⟩
    · exact ⟨_, _, rfl⟩
    · exact ⟨_, _, rfl⟩
  obtain ⟨ao, c, rfl⟩ := key
  exact ⟨ao, c, rfl, fun g hg => by
    obtain ⟨ao', c', e, _, _, y⟩ := own_byt h hg
    injection e with e1
    subst e1; exact y⟩
theorem own_block {w : World} {base n c : Nat} {ao : Option Addr} {xs : List Value} (h : w.ownsRow base 5 1 (.slice ao n c) n xs) (hb : base < w.heap.size) : ∃ g, base ≤ g ∧ g < w.heap.size ∧ (0 < n → ao = some ⟨g, 0, none⟩) := by
  rcases h.2 with ⟨e, e0⟩ | ⟨g, cap, cur, e, hg, hh, _⟩
  · exact ⟨base, Nat.le_refl _, hb, fun h => by omega⟩
  · refine ⟨g, hg, ?_, fun _ => by injection e⟩
    rcases Nat.lt_or_ge g w.heap.size with k | k
    · exact k
    · rw [Array.getElem?_eq_none k] at hh; cases hh
theorem convnone (c : Nat) (w : World) : (convert 29 9 (.slice none 0 c)).run Tryd.prog w = .ok (.string (strOf [])) w := by
  first
    | kernel_rfl
    | rfl
    | (simp [convert, run_underlying Tryd.underlying29, run_underlying Tryd.underlying5, run_underlying Tryd.underlying9, strOf, Sem.run_bind]; done)
theorem conv_any {w : World} {g n c : Nat} {ao : Option Addr} {D : List (BitVec 8)} (hn : n = D.length) (h : Byt w g ao D) : (convert 29 9 (.slice ao n c)).run Tryd.prog w = .ok (.string (strOf D)) w := by
  cases ao with
  | some ad => exact conv_byt hn h
  | none =>
    have hD := h.nil rfl
    subst hn
    subst hD
    exact convnone c w
/-- What a sum leaves. -/
def Gv (w w' : World) (e : Ending) (X : List (BitVec 8)) (l : Nat) : Prop := ∃ ao c, e = .returned (.slice ao l c) ∧ (∀ g, g < w.heap.size → Byt w' g ao X) ∧ Below w.heap.size w w'
theorem both17 (D : List (BitVec 8)) (hL : D.length ≤ 4294967296) : ∃ X l, l = X.length ∧ Hid (∀ bo m bc w, m = D.length → Old w.heap.size w bo D → TK w → Calls Tryd.prog 17 #[.slice bo m bc] w fun e w' => Gv w w' e X l) ∧
    Hid (∀ bo m bc w, m = D.length → Old w.heap.size w bo D → Calls Tryd.prog 20 #[.slice bo m bc] w fun e w' => Gv w w' e X l) :=
  ⟨out 136 6 D 32, 32, (out_length _ _ _ _).symm, Lib.hid (fun bo m bc w hm hD hK => (sum17 D bo m bc w hm (by omega) hD hK).mono (by
    rintro e w1 ⟨b, rfl, o1, b1⟩
    exact ⟨_, _, rfl, fun g hg => (own_at o1 hg).2.2, b1⟩)), Lib.hid (fun bo m bc w hm hD => (rsum20 D bo m bc w hm (by omega) hD).mono (by
    rintro e w1 ⟨v, rfl, o1, b1⟩
    obtain ⟨ao, c, rfl, y⟩ := own_form o1
    exact ⟨_, _, rfl, y, b1⟩))⟩
theorem both18 (D : List (BitVec 8)) (hL : D.length ≤ 4294967296) : ∃ X l, l = X.length ∧ Hid (∀ bo m bc w, m = D.length → Old w.heap.size w bo D → TK w → Calls Tryd.prog 18 #[.slice bo m bc] w fun e w' => Gv w w' e X l) ∧
    Hid (∀ bo m bc w, m = D.length → Old w.heap.size w bo D → Calls Tryd.prog 21 #[.slice bo m bc] w fun e w' => Gv w w' e X l) :=
  ⟨out 72 6 D 64, 64, (out_length _ _ _ _).symm, Lib.hid (fun bo m bc w hm hD hK => (sum18 D bo m bc w hm (by omega) hD hK).mono (by
    rintro e w1 ⟨b, rfl, o1, b1⟩
    exact ⟨_, _, rfl, fun g hg => (own_at o1 hg).2.2, b1⟩)), Lib.hid (fun bo m bc w hm hD => (rsum21 D bo m bc w hm (by omega) hD).mono (by
    rintro e w1 ⟨v, rfl, o1, b1⟩
    obtain ⟨ao, c, rfl, y⟩ := own_form o1
    exact ⟨_, _, rfl, y, b1⟩))⟩
theorem both16 (D : List (BitVec 8)) (n : Int) (hL : D.length ≤ 4294967296) : ∃ X l, l = X.length ∧ Hid (∀ bo m bc w, m = D.length → Old w.heap.size w bo D → TK w → Calls Tryd.prog 16 #[.slice bo m bc, .int .i64 n] w fun e w' => Gv w w' e X l) ∧
    Hid (∀ bo m bc w, m = D.length → Old w.heap.size w bo D → Calls Tryd.prog 22 #[.slice bo m bc, .int .i64 n] w fun e w' => Gv w w' e X l) := by
  by_cases hb : bad n
  · exact ⟨[], 0, rfl, Lib.hid (fun bo m bc w hm hD hK => (shake16n D bo m bc n w hm (by omega) hb hD hK).mono (by
      rintro e w1 ⟨rfl, b1⟩
      exact ⟨_, _, rfl, fun g hg => Byt.none_ _ _, b1⟩)), Lib.hid (fun bo m bc w hm hD => (rshake22n D bo m bc n w hm (by omega) hb hD).mono (by
      rintro e w1 ⟨rfl, b1⟩
      exact ⟨_, _, rfl, fun g hg => Byt.none_ _ _, b1⟩))⟩
  · unfold bad at hb
    obtain ⟨k, rfl⟩ : ∃ k : Nat, n = k := ⟨n.toNat, by omega⟩
    exact ⟨out 168 31 D k, k, (out_length _ _ _ _).symm, Lib.hid (fun bo m bc w hm hD hK => (shake16 D bo m bc k w hm (by omega) (by omega) hD hK).mono (by
      rintro e w1 ⟨b, rfl, o1, b1⟩
      exact ⟨_, _, rfl, fun g hg => (own_at o1 hg).2.2, b1⟩)), Lib.hid (fun bo m bc w hm hD => (rshake22 D bo m bc k w hm (by omega) (by omega) hD).mono (by
      rintro e w1 ⟨v, rfl, o1, b1⟩
      obtain ⟨ao, c, rfl, y⟩ := own_form o1
      exact ⟨_, _, rfl, y, b1⟩))⟩
theorem both19 (D : List (BitVec 8)) (n : Int) (hL : D.length ≤ 4294967296) : ∃ X l, l = X.length ∧ Hid (∀ bo m bc w, m = D.length → Old w.heap.size w bo D → TK w → Calls Tryd.prog 19 #[.slice bo m bc, .int .i64 n] w fun e w' => Gv w w' e X l) ∧
    Hid (∀ bo m bc w, m = D.length → Old w.heap.size w bo D → Calls Tryd.prog 23 #[.slice bo m bc, .int .i64 n] w fun e w' => Gv w w' e X l) := by
  by_cases hb : bad n
  · exact ⟨[], 0, rfl, Lib.hid (fun bo m bc w hm hD hK => (shake19n D bo m bc n w hm (by omega) hb hD hK).mono (by
      rintro e w1 ⟨rfl, b1⟩
      exact ⟨_, _, rfl, fun g hg => Byt.none_ _ _, b1⟩)), Lib.hid (fun bo m bc w hm hD => (rshake23n D bo m bc n w hm (by omega) hb hD).mono (by
      rintro e w1 ⟨rfl, b1⟩
      exact ⟨_, _, rfl, fun g hg => Byt.none_ _ _, b1⟩))⟩
  · unfold bad at hb
    obtain ⟨k, rfl⟩ : ∃ k : Nat, n = k := ⟨n.toNat, by omega⟩
    exact ⟨out 136 31 D k, k, (out_length _ _ _ _).symm, Lib.hid (fun bo m bc w hm hD hK => (shake19 D bo m bc k w hm (by omega) (by omega) hD hK).mono (by
      rintro e w1 ⟨b, rfl, o1, b1⟩
      exact ⟨_, _, rfl, fun g hg => (own_at o1 hg).2.2, b1⟩)), Lib.hid (fun bo m bc w hm hD => (rshake23 D bo m bc k w hm (by omega) (by omega) hD).mono (by
      rintro e w1 ⟨v, rfl, o1, b1⟩
      obtain ⟨ao, c, rfl, y⟩ := own_form o1
      exact ⟨_, _, rfl, y, b1⟩))⟩
end Go.Proofs.YtgjcofneecebjaaDoor
