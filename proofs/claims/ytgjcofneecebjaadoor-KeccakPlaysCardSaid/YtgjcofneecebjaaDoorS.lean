/- The sums, walked. -/
import Derived.Test.YtgjcofneecebjaaDoorF
namespace Go.Proofs.YtgjcofneecebjaaDoor
open Go.ChangeShapes Go.WideShapes Go.ChangeAt Go.RowKit
set_option linter.unusedSimpArgs false
set_option linter.unusedVariables false
/-- Is it no number of bytes? -/
def bad (n : Int) : Prop := n < 0 ∨ 65536 < n
theorem read14n (g : Nat) (n : Int) (hn : bad n) (w : World) : Calls Tryd.prog 14 #[.pointer (some ⟨g, 0, none⟩), .int .i64 n] w fun e w' => e = .returned (.slice none 0 0) ∧ w' = w := by
  go_enter Tryd.func14, Tryd.ntmps14
  rcases hn with h | h
  · have d1 : decide (n < 0) = true := by simp; omega
    go_wp2_with fail
    go_ret
    exact ⟨rfl, rfl⟩
  · have d1 : decide (n < 0) = false := by simp; omega
    have d2 : decide (n > 65536) = true := by simp; omega
    go_wp2_with fail
    go_ret
    exact ⟨rfl, rfl⟩
set_option maxHeartbeats 4000000 in
theorem of28n (rt : Nat) (en : Int) (D : List (BitVec 8)) (bo : Option Addr) (m bc : Nat) (n : Int) (w : World) (h8 : 8 ≤ rt) (h192 : rt ≤ 192) (hr8 : rt % 8 = 0) (hm : m = D.length) (hL : m ≤ 4294967296) (hn : bad n) (hD : Old w.heap.size w bo D) (hK : TK w) :
    Calls Tryd.prog 28 #[.int .i64 rt, .int .u8 en, .slice bo m bc, .int .i64 n] w fun e w' => e = .returned (.slice none 0 0) ∧ Below w.heap.size w w' := by
  have HM := Lib.hid hm
  have h3 := hK.lt
  clear hm
  go_enter Tryd.func28, Tryd.ntmps28
  go_wp2_with (first
    | (go_at_call 9; (with_reducible refine (new9 rt en _ h8 h192 hr8).mono ?_); rintro e w1 ⟨g, rfl, hg, h1, b1⟩)
    | (go_at_call 12; (with_reducible refine (write12 g rt en st0 D bo m bc _ HM.out hL h1 ?l1 h192 ?l2 ?l3 ?l4).mono ?_); (case l1 => show 0 < rt; omega); (case l2 => exact (hD.below b1 (Nat.le_refl _)).byt hg); (case l3 => exact hK.below b1 h3); (case l4 => omega); rintro e w2 ⟨rfl, h2, g2⟩)
    | (go_at_call 14; (with_reducible refine (read14n g n hn _).mono ?_); rintro e w3 ⟨rfl, rfl⟩))
  go_ret
  exact ⟨rfl, b1.grown g2 b1.size (fun b e => by injection e with e; omega)⟩
set_option maxHeartbeats 1000000 in
theorem sum17 (D : List (BitVec 8)) (bo : Option Addr) (m bc : Nat) (w : World) (hm : m = D.length) (hL : m ≤ 4294967296) (hD : Old w.heap.size w bo D) (hK : TK w) :
    Calls Tryd.prog 17 #[.slice bo m bc] w fun e w' => ∃ b, e = .returned (.slice (some ⟨b, 0, none⟩) 32 32) ∧ Own w' w.heap.size (.slice (some ⟨b, 0, none⟩) 32 32) 32 (out 136 6 D 32) ∧ Below w.heap.size w w' := by
  have M : Hid (Calls Tryd.prog 28 #[.int .i64 136, .int .u8 6, .slice bo m bc, .int .i64 32] w fun e w' => ∃ b, e = .returned (.slice (some ⟨b, 0, none⟩) 32 32) ∧ Own w' w.heap.size (.slice (some ⟨b, 0, none⟩) 32 32) 32 (out 136 6 D 32) ∧ Below w.heap.size w w') := Lib.hid (of28 136 6 D bo m bc 32 w (by omega) (by omega) (by omega) (by omega) hm hL (by omega) hD hK)
  clear hm
  go_enter Tryd.func17, Tryd.ntmps17
  go_wp2_with (first | (go_at_call 28; (with_reducible refine (M.out).mono ?_); rintro e w1 ⟨v, rfl, o1, b1⟩))
  go_ret
  exact ⟨v, rfl, o1, b1⟩
set_option maxHeartbeats 1000000 in
theorem sum18 (D : List (BitVec 8)) (bo : Option Addr) (m bc : Nat) (w : World) (hm : m = D.length) (hL : m ≤ 4294967296) (hD : Old w.heap.size w bo D) (hK : TK w) :
    Calls Tryd.prog 18 #[.slice bo m bc] w fun e w' => ∃ b, e = .returned (.slice (some ⟨b, 0, none⟩) 64 64) ∧ Own w' w.heap.size (.slice (some ⟨b, 0, none⟩) 64 64) 64 (out 72 6 D 64) ∧ Below w.heap.size w w' := by
  have M : Hid (Calls Tryd.prog 28 #[.int .i64 72, .int .u8 6, .slice bo m bc, .int .i64 64] w fun e w' => ∃ b, e = .returned (.slice (some ⟨b, 0, none⟩) 64 64) ∧ Own w' w.heap.size (.slice (some ⟨b, 0, none⟩) 64 64) 64 (out 72 6 D 64) ∧ Below w.heap.size w w') := Lib.hid (of28 72 6 D bo m bc 64 w (by omega) (by omega) (by omega) (by omega) hm hL (by omega) hD hK)
  clear hm
  go_enter Tryd.func18, Tryd.ntmps18
  go_wp2_with (first | (go_at_call 28; (with_reducible refine (M.out).mono ?_); rintro e w1 ⟨v, rfl, o1, b1⟩))
  go_ret
  exact ⟨v, rfl, o1, b1⟩
set_option maxHeartbeats 1000000 in
theorem shake16 (D : List (BitVec 8)) (bo : Option Addr) (m bc n : Nat) (w : World) (hm : m = D.length) (hL : m ≤ 4294967296) (hn : n ≤ 65536) (hD : Old w.heap.size w bo D) (hK : TK w) :
    Calls Tryd.prog 16 #[.slice bo m bc, .int .i64 n] w fun e w' => ∃ b, e = .returned (.slice (some ⟨b, 0, none⟩) n n) ∧ Own w' w.heap.size (.slice (some ⟨b, 0, none⟩) n n) n (out 168 31 D n) ∧ Below w.heap.size w w' := by
  have M : Hid (Calls Tryd.prog 28 #[.int .i64 168, .int .u8 31, .slice bo m bc, .int .i64 n] w fun e w' => ∃ b, e = .returned (.slice (some ⟨b, 0, none⟩) n n) ∧ Own w' w.heap.size (.slice (some ⟨b, 0, none⟩) n n) n (out 168 31 D n) ∧ Below w.heap.size w w') := Lib.hid (of28 168 31 D bo m bc n w (by omega) (by omega) (by omega) (by omega) hm hL hn hD hK)
  clear hm
  go_enter Tryd.func16, Tryd.ntmps16
  go_wp2_with (first | (go_at_call 28; (with_reducible refine (M.out).mono ?_); rintro e w1 ⟨v, rfl, o1, b1⟩))
  go_ret
  exact ⟨v, rfl, o1, b1⟩
set_option maxHeartbeats 1000000 in
theorem shake19 (D : List (BitVec 8)) (bo : Option Addr) (m bc n : Nat) (w : World) (hm : m = D.length) (hL : m ≤ 4294967296) (hn : n ≤ 65536) (hD : Old w.heap.size w bo D) (hK : TK w) :
    Calls Tryd.prog 19 #[.slice bo m bc, .int .i64 n] w fun e w' => ∃ b, e = .returned (.slice (some ⟨b, 0, none⟩) n n) ∧ Own w' w.heap.size (.slice (some ⟨b, 0, none⟩) n n) n (out 136 31 D n) ∧ Below w.heap.size w w' := by
  have M : Hid (Calls Tryd.prog 28 #[.int .i64 136, .int .u8 31, .slice bo m bc, .int .i64 n] w fun e w' => ∃ b, e = .returned (.slice (some ⟨b, 0, none⟩) n n) ∧ Own w' w.heap.size (.slice (some ⟨b, 0, none⟩) n n) n (out 136 31 D n) ∧ Below w.heap.size w w') := Lib.hid (of28 136 31 D bo m bc n w (by omega) (by omega) (by omega) (by omega) hm hL hn hD hK)
  clear hm
  go_enter Tryd.func19, Tryd.ntmps19
  go_wp2_with (first | (go_at_call 28; (with_reducible refine (M.out).mono ?_); rintro e w1 ⟨v, rfl, o1, b1⟩))
  go_ret
  exact ⟨v, rfl, o1, b1⟩
set_option maxHeartbeats 1000000 in
theorem shake16n (D : List (BitVec 8)) (bo : Option Addr) (m bc : Nat) (n : Int) (w : World) (hm : m = D.length) (hL : m ≤ 4294967296) (hn : bad n) (hD : Old w.heap.size w bo D) (hK : TK w) :
    Calls Tryd.prog 16 #[.slice bo m bc, .int .i64 n] w fun e w' => e = .returned (.slice none 0 0) ∧ Below w.heap.size w w' := by
  have M : Hid (Calls Tryd.prog 28 #[.int .i64 168, .int .u8 31, .slice bo m bc, .int .i64 n] w fun e w' => e = .returned (.slice none 0 0) ∧ Below w.heap.size w w') := Lib.hid (of28n 168 31 D bo m bc n w (by omega) (by omega) (by omega) hm hL hn hD hK)
  clear hm
  go_enter Tryd.func16, Tryd.ntmps16
  go_wp2_with (first | (go_at_call 28; (with_reducible refine (M.out).mono ?_); rintro e w1 ⟨rfl, b1⟩))
  go_ret
  exact ⟨rfl, b1⟩
set_option maxHeartbeats 1000000 in
theorem shake19n (D : List (BitVec 8)) (bo : Option Addr) (m bc : Nat) (n : Int) (w : World) (hm : m = D.length) (hL : m ≤ 4294967296) (hn : bad n) (hD : Old w.heap.size w bo D) (hK : TK w) :
    Calls Tryd.prog 19 #[.slice bo m bc, .int .i64 n] w fun e w' => e = .returned (.slice none 0 0) ∧ Below w.heap.size w w' := by
  have M : Hid (Calls Tryd.prog 28 #[.int .i64 136, .int .u8 31, .slice bo m bc, .int .i64 n] w fun e w' => e = .returned (.slice none 0 0) ∧ Below w.heap.size w w') := Lib.hid (of28n 136 31 D bo m bc n w (by omega) (by omega) (by omega) hm hL hn hD hK)
  clear hm
  go_enter Tryd.func19, Tryd.ntmps19
  go_wp2_with (first | (go_at_call 28; (with_reducible refine (M.out).mono ?_); rintro e w1 ⟨rfl, b1⟩))
  go_ret
  exact ⟨rfl, b1⟩
end Go.Proofs.YtgjcofneecebjaaDoor
