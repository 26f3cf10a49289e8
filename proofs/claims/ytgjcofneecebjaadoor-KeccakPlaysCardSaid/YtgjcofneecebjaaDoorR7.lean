/- The document's sums, walked. -/
import Derived.Test.YtgjcofneecebjaaDoorR6
namespace Go.Proofs.YtgjcofneecebjaaDoor
open Go.ChangeShapes Go.WideShapes Go.ChangeAt Go.RowKit
set_option linter.unusedSimpArgs false
set_option linter.unusedVariables false
theorem st0_bd : ∀ i, i < 25 → Bd (st0.1 i) := fun i _ => by show Bd 0; unfold Bd; omega
set_option maxHeartbeats 4000000 in
theorem of29 (rt : Nat) (en : Int) (D : List (BitVec 8)) (bo : Option Addr) (m bc n : Nat) (w : World) (h8 : 8 ≤ rt) (h192 : rt ≤ 192) (hr8 : rt % 8 = 0) (he : 0 ≤ en ∧ en < 256) (hm : m = D.length) (hL : m ≤ 4294967296) (hn : n ≤ 65536) (hD : Old w.heap.size w bo D) :
    Calls Tryd.prog 29 #[.int .i64 rt, .int .u8 en, .slice bo m bc, .int .i64 n] w fun e w' => ∃ v, e = .returned v ∧ Own w' w.heap.size v n (out rt en D n) ∧ Below w.heap.size w w' := by
  have HM := Lib.hid hm
  clear hm
  go_enter Tryd.func29, Tryd.ntmps29
  go_wp2_with (first
    | (go_at_call 10; (with_reducible refine (new10 rt en _ h8 h192 hr8).mono ?_); rintro e w1 ⟨g, rfl, hg, h1, b1⟩)
    | (go_at_call 13; (with_reducible refine (write13 g rt en st0 D bo m bc _ HM.out hL h1 ?l1 h192 st0_bd ?l2).mono ?_); (case l1 => show 0 < rt; omega); (case l2 => exact (hD.below b1 (Nat.le_refl _)).byt hg); rintro e w2 ⟨rfl, h2, g2⟩)
    | (go_at_call 15; (with_reducible refine (read15 g rt en (takes rt st0 D) false n _ h2 ?l1 ?l2 h8 h192 hn he ?l3).mono ?_); (case l1 => exact Nat.le_of_lt (takes_lt (by omega) (by show 0 < rt; omega) D)); (case l2 => exact fun _ => takes_lt (by omega) (by show 0 < rt; omega) D); (case l3 => exact takes_bd st0_bd D); rintro e w3 ⟨v, rfl, o3, -, g3⟩))
  go_ret
  exact ⟨_, rfl, own_mono o3 (by have := b1.size; have := g2.size; omega), (b1.grown g2 b1.size (fun b e => by injection e with e; omega)).grown g3 (by have := b1.size; have := g2.size; omega) (fun b e => by injection e with e; omega)⟩
set_option maxHeartbeats 4000000 in
theorem of29n (rt : Nat) (en : Int) (D : List (BitVec 8)) (bo : Option Addr) (m bc : Nat) (n : Int) (w : World) (h8 : 8 ≤ rt) (h192 : rt ≤ 192) (hr8 : rt % 8 = 0) (hm : m = D.length) (hL : m ≤ 4294967296) (hn : bad n) (hD : Old w.heap.size w bo D) :
    Calls Tryd.prog 29 #[.int .i64 rt, .int .u8 en, .slice bo m bc, .int .i64 n] w fun e w' => e = .returned (.slice none 0 0) ∧ Below w.heap.size w w' := by
  have HM := Lib.hid hm
  clear hm
  go_enter Tryd.func29, Tryd.ntmps29
  go_wp2_with (first
    | (go_at_call 10; (with_reducible refine (new10 rt en _ h8 h192 hr8).mono ?_); rintro e w1 ⟨g, rfl, hg, h1, b1⟩)
    | (go_at_call 13; (with_reducible refine (write13 g rt en st0 D bo m bc _ HM.out hL h1 ?l1 h192 st0_bd ?l2).mono ?_); (case l1 => show 0 < rt; omega); (case l2 => exact (hD.below b1 (Nat.le_refl _)).byt hg); rintro e w2 ⟨rfl, h2, g2⟩)
    | (go_at_call 15; (with_reducible refine (read15n g n hn _).mono ?_); rintro e w3 ⟨rfl, rfl⟩))
  go_ret
  exact ⟨rfl, b1.grown g2 b1.size (fun b e => by injection e with e; omega)⟩
set_option maxHeartbeats 1000000 in
theorem rsum20 (D : List (BitVec 8)) (bo : Option Addr) (m bc : Nat) (w : World) (hm : m = D.length) (hL : m ≤ 4294967296) (hD : Old w.heap.size w bo D) :
    Calls Tryd.prog 20 #[.slice bo m bc] w fun e w' => ∃ v, e = .returned v ∧ Own w' w.heap.size v 32 (out 136 6 D 32) ∧ Below w.heap.size w w' := by
  have M : Hid (Calls Tryd.prog 29 #[.int .i64 136, .int .u8 6, .slice bo m bc, .int .i64 32] w fun e w' => ∃ v, e = .returned v ∧ Own w' w.heap.size v 32 (out 136 6 D 32) ∧ Below w.heap.size w w') := Lib.hid (of29 136 6 D bo m bc 32 w (by omega) (by omega) (by omega) (by omega) hm hL (by omega) hD)
  clear hm
  go_enter Tryd.func20, Tryd.ntmps20
  go_wp2_with (first | (go_at_call 29; (with_reducible refine (M.out).mono ?_); rintro e w1 ⟨v, rfl, o1, b1⟩))
  go_ret
  exact ⟨v, rfl, o1, b1⟩
set_option maxHeartbeats 1000000 in
theorem rsum21 (D : List (BitVec 8)) (bo : Option Addr) (m bc : Nat) (w : World) (hm : m = D.length) (hL : m ≤ 4294967296) (hD : Old w.heap.size w bo D) :
    Calls Tryd.prog 21 #[.slice bo m bc] w fun e w' => ∃ v, e = .returned v ∧ Own w' w.heap.size v 64 (out 72 6 D 64) ∧ Below w.heap.size w w' := by
  have M : Hid (Calls Tryd.prog 29 #[.int .i64 72, .int .u8 6, .slice bo m bc, .int .i64 64] w fun e w' => ∃ v, e = .returned v ∧ Own w' w.heap.size v 64 (out 72 6 D 64) ∧ Below w.heap.size w w') := Lib.hid (of29 72 6 D bo m bc 64 w (by omega) (by omega) (by omega) (by omega) hm hL (by omega) hD)
  clear hm
  go_enter Tryd.func21, Tryd.ntmps21
  go_wp2_with (first | (go_at_call 29; (with_reducible refine (M.out).mono ?_); rintro e w1 ⟨v, rfl, o1, b1⟩))
  go_ret
  exact ⟨v, rfl, o1, b1⟩
set_option maxHeartbeats 1000000 in
theorem rshake22 (D : List (BitVec 8)) (bo : Option Addr) (m bc n : Nat) (w : World) (hm : m = D.length) (hL : m ≤ 4294967296) (hn : n ≤ 65536) (hD : Old w.heap.size w bo D) :
    Calls Tryd.prog 22 #[.slice bo m bc, .int .i64 n] w fun e w' => ∃ v, e = .returned v ∧ Own w' w.heap.size v n (out 168 31 D n) ∧ Below w.heap.size w w' := by
  have M : Hid (Calls Tryd.prog 29 #[.int .i64 168, .int .u8 31, .slice bo m bc, .int .i64 n] w fun e w' => ∃ v, e = .returned v ∧ Own w' w.heap.size v n (out 168 31 D n) ∧ Below w.heap.size w w') := Lib.hid (of29 168 31 D bo m bc n w (by omega) (by omega) (by omega) (by omega) hm hL hn hD)
  clear hm
  go_enter Tryd.func22, Tryd.ntmps22
  go_wp2_with (first | (go_at_call 29; (with_reducible refine (M.out).mono ?_); rintro e w1 ⟨v, rfl, o1, b1⟩))
  go_ret
  exact ⟨v, rfl, o1, b1⟩
set_option maxHeartbeats 1000000 in
theorem rshake23 (D : List (BitVec 8)) (bo : Option Addr) (m bc n : Nat) (w : World) (hm : m = D.length) (hL : m ≤ 4294967296) (hn : n ≤ 65536) (hD : Old w.heap.size w bo D) :
    Calls Tryd.prog 23 #[.slice bo m bc, .int .i64 n] w fun e w' => ∃ v, e = .returned v ∧ Own w' w.heap.size v n (out 136 31 D n) ∧ Below w.heap.size w w' := by
  have M : Hid (Calls Tryd.prog 29 #[.int .i64 136, .int .u8 31, .slice bo m bc, .int .i64 n] w fun e w' => ∃ v, e = .returned v ∧ Own w' w.heap.size v n (out 136 31 D n) ∧ Below w.heap.size w w') := Lib.hid (of29 136 31 D bo m bc n w (by omega) (by omega) (by omega) (by omega) hm hL hn hD)
  clear hm
  go_enter Tryd.func23, Tryd.ntmps23
  go_wp2_with (first | (go_at_call 29; (with_reducible refine (M.out).mono ?_); rintro e w1 ⟨v, rfl, o1, b1⟩))
  go_ret
  exact ⟨v, rfl, o1, b1⟩
set_option maxHeartbeats 1000000 in
theorem rshake22n (D : List (BitVec 8)) (bo : Option Addr) (m bc : Nat) (n : Int) (w : World) (hm : m = D.length) (hL : m ≤ 4294967296) (hn : bad n) (hD : Old w.heap.size w bo D) :
    Calls Tryd.prog 22 #[.slice bo m bc, .int .i64 n] w fun e w' => e = .returned (.slice none 0 0) ∧ Below w.heap.size w w' := by
  have M : Hid (Calls Tryd.prog 29 #[.int .i64 168, .int .u8 31, .slice bo m bc, .int .i64 n] w fun e w' => e = .returned (.slice none 0 0) ∧ Below w.heap.size w w') := Lib.hid (of29n 168 31 D bo m bc n w (by omega) (by omega) (by omega) hm hL hn hD)
  clear hm
  go_enter Tryd.func22, Tryd.ntmps22
  go_wp2_with (first | (go_at_call 29; (with_reducible refine (M.out).mono ?_); rintro e w1 ⟨rfl, b1⟩))
  go_ret
  exact ⟨rfl, b1⟩
set_option maxHeartbeats 1000000 in
theorem rshake23n (D : List (BitVec 8)) (bo : Option Addr) (m bc : Nat) (n : Int) (w : World) (hm : m = D.length) (hL : m ≤ 4294967296) (hn : bad n) (hD : Old w.heap.size w bo D) :
    Calls Tryd.prog 23 #[.slice bo m bc, .int .i64 n] w fun e w' => e = .returned (.slice none 0 0) ∧ Below w.heap.size w w' := by
  have M : Hid (Calls Tryd.prog 29 #[.int .i64 136, .int .u8 31, .slice bo m bc, .int .i64 n] w fun e w' => e = .returned (.slice none 0 0) ∧ Below w.heap.size w w') := Lib.hid (of29n 136 31 D bo m bc n w (by omega) (by omega) (by omega) hm hL hn hD)
  clear hm
  go_enter Tryd.func23, Tryd.ntmps23
  go_wp2_with (first | (go_at_call 29; (with_reducible refine (M.out).mono ?_); rintro e w1 ⟨rfl, b1⟩))
  go_ret
  exact ⟨rfl, b1⟩
end Go.Proofs.YtgjcofneecebjaaDoor
