/- Bytes' sum at once, walked. -/
import Derived.Test.YtinmmenjlhlpmaaDoorG
namespace Go.Proofs.YtinmmenjlhlpmaaDoor
open Go.ChangeShapes Go.WideShapes Go.ChangeAt Go.RowKit
set_option linter.unusedSimpArgs false
set_option linter.unusedVariables false
abbrev TK (w : World) : Prop := TRow w 0 .u32 64 (fun i => wd (kk i))
theorem tk_lt {w : World} (h : TK w) : 0 < w.heap.size := h.lt
set_option maxHeartbeats 4000000 in
theorem sum9 (D : List (BitVec 8)) (bo : Option Addr) (g0 m bc : Nat) (w : World) (hm : m = D.length) (hL : m ≤ 4294967296) (hD : Byt w g0 bo D) (hK : TK w) :
    Calls Tryd.prog 9 #[.slice bo m bc] w fun e w' => ∃ v, e = .returned v ∧ Own w' w.heap.size v 32 (dig D) ∧ Below w.heap.size w w' := by
  have h0 := tk_lt hK
  have HM := Lib.hid (And.intro hm hL)
  clear hm hL
  go_enter Tryd.func9, Tryd.ntmps9
  go_wp2_with (first
    | (go_at_call 11; (with_reducible refine (new11 _).mono ?_); rintro e w1 ⟨g, rfl, hg, hh, b1⟩)
    | (go_at_call 12; (with_reducible refine (write12 g [] D bo m bc w1 HM.out.1 ?n1 hh ?n2 ?n3 ?n4).mono ?_); (case n1 => have := HM.out; simp; omega); (case n2 => exact (hD.below b1).mono (fun a ha => by have := (hD.cells a ha).1; omega)); (case n3 => exact hK.below b1 h0); (case n4 => omega); rintro e w2 ⟨rfl, h2, g2⟩)
    | (go_at_call 13; (with_reducible refine (sum13 g ([] ++ D) w2 ?p1 h2 ?p2 ?p3).mono ?_); (case p1 => have := HM.out; simp; omega); (case p2 => exact (hK.below b1 h0).grown g2 (by simp; omega)); (case p3 => omega); rintro e w3 ⟨v, rfl, o3, b3⟩))
  go_ret
  have k2 := b1.grown g2 b1.size (fun b e => by injection e with e; omega)
  refine ⟨v, rfl, own_mono o3 (by have := k2.size; omega), k2.trans (b3.mono k2.size)⟩
end Go.Proofs.YtinmmenjlhlpmaaDoor
