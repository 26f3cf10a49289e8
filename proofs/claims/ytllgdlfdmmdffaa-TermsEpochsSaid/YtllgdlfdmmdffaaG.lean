/- What is found, as the program finds it. -/
import Derived.Test.YtllgdlfdmmdffaaF
namespace Go.Proofs.Ytllgdlfdmmdffaa
open Go.ChangeShapes Go.WideShapes Go.ChangeAt Go.RowKit
set_option linter.unusedSimpArgs false
set_option linter.unusedVariables false
theorem info3 : (Try.prog.info? 3).map (fun i => (i.zero, i.size, i.bytes)) = some (some (.int .i64 0), 1, 8) := by kernel_rfl
theorem info4 : (Try.prog.info? 4).map (fun i => (i.zero, i.size, i.bytes)) = some (some (.bool false), 1, 1) := by kernel_rfl
theorem make27 (w : World) (n : Nat) (hn : n ≤ 1000000000) : (Instr.makeSlice 27 (.int .i64 (n : Int)) (.int .i64 (n : Int))).run Try.prog w = .ok (.slice (some ⟨w.heap.size, 0, none⟩) n n) (w.alloc (.cells (madeCells (Value.bool false).cells n) 4)) := by
  obtain ⟨i0, hi, hz0, hz1, hz2⟩ := info_parts info4
  have := run_make (P := Try.prog) w 27 4 i0 _ Try.underlying27 hi hz0 .i64 .i64 n n (by omega) (Int.le_refl _) (by rw [hz2]; omega) (by omega)
  rw [hz1, Int.toNat_natCast, Nat.mul_one] at this
  exact this
theorem bl_made (w : World) (n : Nat) : Bl (w.alloc (.cells (madeCells (Value.bool false).cells n) 4)) w.heap.size (List.replicate n false) := ⟨by
  rw [heap_alloc_new]
  congr 2
  apply Array.toList_inj.1
  show (madeCells #[Value.bool false] n).toList = _
  rw [toList_madeCells_one]
  simp⟩
theorem row_form {w : World} {base e size n : Nat} {v : Value} {xs : List Value} (h : w.ownsRow base e size v n xs) : ∃ a c, v = .slice a n c := by
  rcases h.2 with ⟨rfl, rfl⟩ | ⟨q, cap, cur, rfl, _⟩
  · exact ⟨_, _, rfl⟩
  · exact ⟨_, _, rfl⟩
/-- What is found so far: answers in block b, the rules in a row of its own; a box that holds the answers, where there is one. -/
structure Fnd (w0 : World) (b g base n : Nat) (wr : World) (v : Value) (st : St) : Prop where
  b0 : w0.heap.size ≤ b
  g0 : w0.heap.size ≤ g
  bb : b < base
  bs : base ≤ wr.heap.size
  bl : Bl wr b st.1
  own : wr.ownsRow base 3 1 v st.2.length (st.2.map (Value.int .i64))
  k : Below w0.heap.size w0 wr
  bx : g ≠ b → g < base ∧ wr.cell? ⟨g, 0, none⟩ = some (.slice (some ⟨b, 0, none⟩) n n)
section
variable {w0 wr w1 : World} {b g base n : Nat} {v : Value} {st : St}
theorem Fnd.below (h : Fnd w0 b g base n wr v st) (k : Below wr.heap.size wr w1) : Fnd w0 b g base n w1 v st :=
  ⟨h.b0, h.g0, h.bb, Nat.le_trans h.bs k.size, h.bl.below k h.bl.lt, h.own.kept (row := none) ⟨k.os, k.tape, k.output, k.size, fun i hi _ => k.block i hi⟩ (by cases v.ownBlock <;> simp), below_then h.k k,
    fun hg => ⟨(h.bx hg).1, (k.cell (p := ⟨g, 0, none⟩) (by show g < wr.heap.size; have := (h.bx hg).1; have := h.bs; omega)).trans (h.bx hg).2⟩⟩
theorem Fnd.alloc (h : Fnd w0 b g base n wr v st) (o : Obj) : Fnd w0 b g base n (wr.alloc o) v st := h.below ((Below.refl _ wr).alloc (Nat.le_refl _) o)
theorem Fnd.mark (h : Fnd w0 b g base n wr v st) (k : Nat) : Fnd w0 b g base n (wr.setCell ⟨b, k, none⟩ (.bool true)) v (mark st.1 k, st.2) :=
  ⟨h.b0, h.g0, h.bb, by simpa using h.bs, h.bl.set k true, h.own.kept (row := some b) ⟨rfl, rfl, rfl, by simp, fun i hi hne => heap_setCell_other wr ⟨b, k, none⟩ i _ (fun e => hne (by rw [e]))⟩ (Or.inr fun e => by have := (h.own.lt _ e).1; have := h.bb; omega),
    h.k.setCell (p := ⟨b, k, none⟩) h.b0 _, fun hg => ⟨(h.bx hg).1, (World.cell?_of_block (heap_setCell_other wr ⟨b, k, none⟩ g _ hg)).trans (h.bx hg).2⟩⟩
theorem Fnd.app (h : Fnd w0 b g base n wr v st) {v' : Value} {x : Int} (ho : w1.ownsRow base 3 1 v' (st.2.length + 1) (st.2.map (Value.int .i64) ++ [.int .i64 x])) (hg : wr.grownBy w1 v.ownBlock) : Fnd w0 b g base n w1 v' (st.1, st.2 ++ [x]) :=
  ⟨h.b0, h.g0, h.bb, Nat.le_trans h.bs hg.size, h.bl.grown hg (fun e => by have := (h.own.lt _ e).1; have := h.bb; omega), by simpa using ho,
    h.k.grown hg (Nat.le_trans (Nat.le_trans h.b0 (Nat.le_of_lt h.bb)) h.bs) (fun q hq => by have := (h.own.lt q hq).1; have := h.bb; have := h.b0; omega),
    fun hne => ⟨(h.bx hne).1, (World.cell?_of_block (a := ⟨g, 0, none⟩) (hg.block g (by have := (h.bx hne).1; have := h.bs; omega) (fun e => by have := (h.own.lt _ e.symm).1; have := (h.bx hne).1; omega))).trans (h.bx hne).2⟩⟩
end
theorem eg29 : ∀ args w, (callFunc 29 args).run Try.prog w = .ok (.enter 29 args) w := enters_of Try.func29 (by kernel_rfl) rfl
theorem lacks29 (w : World) (g b n k : Nat) (B : List Bool) (hB : Bl w b B) (hn : n = B.length) (hk : k < n) (hg : w.cell? ⟨g, 0, none⟩ = some (.slice (some ⟨b, 0, none⟩) n n)) :
    Calls Try.prog 29 #[.int .i64 (k : Int), .pointer (some ⟨g, 0, none⟩)] w fun e w' => e = .returned (.bool (!has B k)) ∧ Below w.heap.size w w' := by
  have hc := hB.cell (at_has (B := B) (k := k) (by omega))
  generalize has B (k : Int) = q at hc ⊢
  have q0 : (0 : Int) ≤ (k : Int) := by omega
  have q1 : (k : Int) < (n : Int) := by omega
  clear hn
  go_enter Try.func29, Try.ntmps29
  go_wp2_with fail
  go_ret
  exact ⟨rfl, Below.refl _ _⟩
theorem prI29 (w : World) (g b n : Nat) (B : List Bool) (L : List Int) (hB : Bl w b B) (hn : n = B.length) (hg : w.cell? ⟨g, 0, none⟩ = some (.slice (some ⟨b, 0, none⟩) n n)) (hgs : g < w.heap.size) (hL : ∀ x ∈ L, ∃ k : Nat, x = k ∧ k < n) :
    PrI 29 #[.pointer (some ⟨g, 0, none⟩)] (fun x => !has B x) L w := fun W x hx hb => by
  obtain ⟨k, rfl, hk⟩ := hL x hx
  exact lacks29 W g b n k B (hB.below hb hB.lt) hn hk ((hb.cell (p := ⟨g, 0, none⟩) hgs).trans hg)
theorem makeCells27 (w : World) : (zeroValue 27).run Try.prog w = .ok (.slice none 0 0) w := by kernel_rfl
/-- What the two functions that find answer. -/
def Fo (w : World) (n : Nat) (Ks : List Int) (Rs : List Rl) (e : Ending) (w' : World) : Prop :=
  ∃ b g base v, e = .returned (.tuple #[.slice (some ⟨b, 0, none⟩) n n, v]) ∧ Fnd w b g base n w' v (fin n Ks Rs)
set_option maxRecDepth 20000 in
set_option maxHeartbeats 8000000 in
/-- What is found, by arguments that fit. -/
theorem found18 (n nk m ck cl k : Nat) (ao lo : Option Addr) (Ks : List Int) (Rs : List Rl) (w : World) (hnk : nk = Ks.length) (hm : m = Rs.length) (hF : Fits n Ks Rs) (n47 : nk ≤ 9223372036854775807)
    (hK : Ilz k w ao Ks) (hR : Rlz k w lo Rs) (hk : k ≤ w.heap.size) :
    Calls Try.prog 18 #[.int .i64 (n : Int), .slice ao nk ck, .slice lo m cl] w (Fo w n Ks Rs) := by
  have hmk := make27 w n (by have := hF.hi; omega)
  obtain ⟨i0, hin, hz0, hz1, hz2⟩ := info_parts info3
  have HF := Lib.hid hF
  have HNK := Lib.hid hnk
  have HM := Lib.hid hm
  have e29 := eg29
  have m47 : m ≤ 4096 := by have := hF.len; omega
  clear hF hnk hm
  go_enter Try.func18, Try.ntmps18
  go_wp2_with fail
  go_step3
  go_wp2_with fail
  have f0 : Fnd w w.heap.size (w.heap.size + 1) (w.heap.size + 2) n ((w.alloc (.cells (madeCells #[Value.bool false] n) 4)).alloc (.cells #[.slice (some ⟨w.heap.size, 0, none⟩) n n] 27)) (.slice none 0 0) (List.replicate n false, []) := by
    refine ⟨Nat.le_refl _, by omega, by omega, by simp, (bl_made w n).alloc _, World.ownsRow_nil _ _ _ _, ((Below.refl _ w).alloc (Nat.le_refl _) _).alloc (by simp) _, fun _ => ⟨by omega, ?_⟩⟩
    have := new_cell (w.alloc (.cells (madeCells #[Value.bool false] n) 4)) (.slice (some ⟨w.heap.size, 0, none⟩) n n) 27
    rwa [World.size_alloc] at this
  have F0 := Lib.hid f0
  have fg : ∃ b g base, b = w.heap.size ∧ g = w.heap.size + 1 ∧ base = w.heap.size + 2 := ⟨_, _, _, rfl, rfl, rfl⟩
  obtain ⟨b, g, base, hb, hg, hbase⟩ := fg
  have HGB := Lib.hid (show g ≠ b by omega)
  have FX := Lib.hid (show Fnd w b g base n ((w.alloc (.cells (madeCells #[Value.bool false] n) 4)).alloc (.cells #[.slice (some ⟨w.heap.size, 0, none⟩) n n] 27)) (.slice none 0 0) (List.replicate n false, []) by rw [hb, hg, hbase]; exact f0)
  clear F0 f0 hmk
  rw [← hg]
  rw [← hb] at FX ⊢
  generalize (w.alloc (.cells (madeCells #[Value.bool false] n) 4)).alloc (.cells #[.slice (some ⟨b, 0, none⟩) n n] 27) = wa at FX ⊢
  clear hb hg hbase
  go_loopg [10, 20] nk (fun gk v10 v20 wr => ∃ i : Nat, v20 = .int .i64 i ∧ i + gk = nk ∧ Fnd w b g base n wr (.slice none 0 0) ((Ks.take i).foldl Ytllgdlfdmmdffaa.mark (List.replicate n false), []))
  case atStart =>
    exact ⟨0, rfl, by omega, FX.out⟩
  case round =>
    obtain ⟨i, rfl, hig, hf⟩ := hrel
    have HIG := Lib.hid hig
    clear FX
    obtain ⟨-, hbox⟩ := hf.bx HGB.out
    by_cases h1 : i < nk
    · have d1 : decide ((i : Int) < (nk : Int)) = true := by simp; omega
      have hKr := hK.below hf.k hk
      obtain ⟨a, rfl⟩ := hK.some_ (by have := HNK.out; omega)
      obtain ⟨x, hx⟩ : ∃ x, Ks[i]? = some x := ⟨Ks[i]'(by rw [← HNK.out]; exact h1), List.getElem?_eq_getElem _⟩
      have hcx := (hKr.cells a rfl i x hx).2
      obtain ⟨y, rfl, hy⟩ := HF.out.ks x (List.mem_of_getElem? hx)
      have HX := Lib.hid hx
      have hl : (((Ks.take i).foldl Ytllgdlfdmmdffaa.mark (List.replicate n false))).length = n := marks_length (Ks.take i) n
      have hcy := hf.bl.cell (at_has (k := y) (by show y < _; rw [hl]; exact hy))
      have hfy := hf.bl.frozen y
      have hf2 := Lib.hid (hf.mark y)
      have q0 : (0 : Int) ≤ (i : Int) := by omega
      have q1 : (i : Int) < (nk : Int) := by omega
      have q2 : (0 : Int) ≤ (y : Int) := by omega
      have q3 : (y : Int) < (n : Int) := by omega
      generalize has _ (y : Int) = q at hcy
      clear hig hKr hx hl hf hK hR
      go_wp2_with fail
      go_roundg (gk - 1)
      case measure => have := HIG.out; omega
      case rel =>
        refine ⟨i + 1, by simp, by have := HIG.out; omega, ?_⟩
        have e : Ks.take (i + 1) = Ks.take i ++ [(y : Int)] := by rw [List.take_add_one, HX.out]; rfl
        rw [e, List.foldl_append]
        exact hf2.out
    · have d1 : decide ((i : Int) < (nk : Int)) = false := by simp; omega
      obtain rfl : i = nk := by omega
      have e : Ks.take i = Ks := List.take_of_length_le (by rw [← HNK.out]; exact Nat.le_refl _)
      rw [e] at hf
      clear hig e
      go_wp2_with fail
      go_step3
      go_wp2_with fail
      clear hK hbox
      have hmk0 : Fnd w b g base n wr (.slice none 0 0) (marks Ks n, []) := hf
      clear hf
      obtain ⟨fuel, hfuel⟩ : ∃ fuel, fuel = n + 1 := ⟨_, rfl⟩
      have HFU := Lib.hid hfuel
      clear hfuel
      go_loopg [12] fuel (fun gk v12 wr => ∃ st : St, Fnd w b g base n wr v12 st ∧ st.1.length = n ∧ falses st.1 < gk ∧ fix Rs gk st = fin n Ks Rs ∧ falses st.1 + st.2.length ≤ n)
      case atStart =>
        have hl := marks_length Ks n
        exact ⟨(marks Ks n, []), hmk0, hl, by have := falses_le (marks Ks n); have := HFU.out; show falses (marks Ks n) < fuel; omega, by rw [HFU.out]; rfl, by have := falses_le (marks Ks n); rw [hl] at this; exact this⟩
      case round =>
        obtain ⟨st, hf, hl, hfu, hfx, hst2⟩ := hrel
        have HFX := Lib.hid (And.intro hl (And.intro hfu hfx))
        clear hmk0 hl hfu hfx
        obtain ⟨a12, c12, rfl⟩ := row_form hf.own
        generalize hcs : st.2.length = cs at hf
        have HCS := Lib.hid (And.intro hcs hst2)
        clear hcs hst2
        go_wp2_with fail
        obtain ⟨gk0, hgk0⟩ : ∃ gk0, gk0 = gk := ⟨_, rfl⟩
        obtain ⟨wo, hwo⟩ : ∃ wo, wo = wr := ⟨_, rfl⟩
        rw [← hgk0] at HFX
        have HGK := Lib.hid hgk0
        rw [← hwo] at hf ⊢
        clear hgk0 hwo
        go_loopg [12, 33] m (fun gk v12 v33 wr => ∃ i : Nat, v33 = .int .i64 i ∧ i + gk = m ∧ Fnd w b g base n wr v12 (rndN Rs st i))
        case atStart => exact ⟨0, rfl, by omega, hf⟩
        case round =>
          obtain ⟨i, rfl, hig, hf⟩ := hrel
          have HIG := Lib.hid hig
          obtain ⟨a12, c12, rfl⟩ := row_form hf.own
          obtain ⟨sl, hsl⟩ : ∃ sl, (rndN Rs st i).2.length = sl := ⟨_, rfl⟩
          rw [hsl] at hf ⊢
          have HSL := Lib.hid hsl
          clear hsl
          by_cases h1 : i < m
          · have d1 : decide ((i : Int) < (m : Int)) = true := by simp; omega
            have hRr := hR.below hf.k hk
            obtain ⟨a, rfl⟩ := hR.some_ (by have := HM.out; omega)
            obtain ⟨r, hx⟩ : ∃ r, Rs[i]? = some r := ⟨Rs[i]'(by rw [← HM.out]; exact h1), List.getElem?_eq_getElem _⟩
            have HX := Lib.hid hx
            obtain ⟨-, ⟨ao, ac, hac, hc0, hIn⟩, hc1⟩ := hRr.cells a rfl i r hx
            obtain ⟨pb, po, hpa, hc2, hc3⟩ := row2 hc0 hc1
            have hmem := List.mem_of_getElem? hx
            have hlen : (rndN Rs st i).1.length = n := (rndN_sum HFX.out.1 (HF.out.gs) i (by rw [← HM.out]; omega)).1
            obtain ⟨y, hy0, hy⟩ := HF.out.gs r hmem
            have hns := HF.out.ns r hmem
            have hnl := hR.lens r hmem
            have HSTEP := Lib.hid (show rndN Rs st (i + 1) = doR (rndN Rs st i) i r by
              show doR _ _ _ = _
              rw [List.getD_eq_getElem?_getD, hx]; rfl)
            generalize rndN Rs st i = cur at hf hlen HSTEP HSL
            obtain ⟨B, S⟩ := cur
            obtain ⟨nn, hnn⟩ : ∃ nn, r.needs.length = nn := ⟨_, rfl⟩
            rw [hy0] at hc3
            rw [hnn] at hc2
            have hf1 := hf.alloc (.cells #[.slice ao nn ac, .int .i64 (y : Int)] 32)
            obtain ⟨hgb, hbox⟩ := hf1.bx HGB.out
            have hlB : B.length = n := hlen
            have hcy := hf1.bl.cell (at_has (k := y) (by show y < B.length; omega))
            have hcall := cf26 29 #[.pointer (some ⟨g, 0, none⟩)] (fun x => !has B x) eg29 ao nn ac k r.needs (wr.alloc (.cells #[.slice ao nn ac, .int .i64 (y : Int)] 32)) hnn.symm (by omega) (hIn.below ((Below.refl _ wr).alloc (Nat.le_refl _) _) (Nat.le_trans hk hf.k.size)) (Nat.le_trans hk hf1.k.size)
              (prI29 _ g b n B r.needs hf1.bl hlB.symm hbox (Nat.lt_of_lt_of_le hgb hf1.bs) hns)
            rw [any_not] at hcall
            have hcr : (wr.alloc (.cells #[.slice ao nn ac, .int .i64 (y : Int)] 32)).cell? ⟨wr.heap.size, 1, none⟩ = some (.int .i64 (y : Int)) := by simp
            have hdo : doR (B, S) i r = if (!has B y && r.needs.all (has B)) = true then (Ytllgdlfdmmdffaa.mark B y, S ++ [(i : Int)]) else (B, S) := by unfold doR; rw [hy0]
            have HDO := Lib.hid (HSTEP.out.trans hdo)
            have HF1 := Lib.hid hf1
            have hf1 : Fnd w b g base n (wr.alloc (.cells #[.slice ao nn ac, .int .i64 (y : Int)] 32)) (.slice a12 sl c12) (B, S) := hf1
            have q0 : (0 : Int) ≤ (i : Int) := by omega
            have q1 : (i : Int) < (m : Int) := by omega
            have q2 : (0 : Int) ≤ (y : Int) := by omega
            have q3 : (y : Int) < (n : Int) := by omega
            have HB := Lib.hid hlB
            generalize hq1 : has B (y : Int) = b1 at hcy HDO
            generalize hq2 : r.needs.all (has B) = b2 at hcall HDO
            clear hig hRr hx hc0 hc1 hac hIn hmem hlen hns hnl hdo HSTEP hf1 hnn hlB hy0 hq1 hq2 hR hgb
            cases b1 with
            | true =>
              go_wp2_with fail
              go_roundg (gk - 1)
              case measure => have := HIG.out; omega
              case rel =>
                refine ⟨i + 1, by simp, by have := HIG.out; omega, ?_⟩
                have e : rndN Rs st (i + 1) = (B, S) := HDO.out
                rw [e]
                exact HF1.out
            | false =>
              cases b2 with
              | false =>
                go_wp2_with (first
                  | (go_at_call 26; (with_reducible refine hcall.mono ?_); rintro e w2 ⟨rfl, k2⟩; have F2 := Lib.hid (HF1.out.below k2); clear k2))
                go_roundg (gk - 1)
                case measure => have := HIG.out; omega
                case rel =>
                  refine ⟨i + 1, by simp, by have := HIG.out; omega, ?_⟩
                  have e : rndN Rs st (i + 1) = (B, S) := HDO.out
                  rw [e]
                  exact F2.out
              | true =>
                go_upto_region 14 with (first
                  | (go_at_call 26; (with_reducible refine hcall.mono ?_); rintro e w2 ⟨rfl, k2⟩; have F2 := Lib.hid (HF1.out.below k2); have hcr2 := (k2.cell (p := ⟨wr.heap.size, 1, none⟩) (by simp)).trans hcr; clear k2))
                obtain ⟨-, hbox2⟩ := F2.out.bx HGB.out
                have hcy2 := F2.out.bl.cell (at_has (k := y) (by show y < B.length; have := HB.out; omega))
                have hfy2 := F2.out.bl.frozen y
                have F3 := Lib.hid (F2.out.mark y)
                generalize has _ (y : Int) = q at hcy2
                clear hcr hcall hcy hbox
                go_upto_region 15 with (fail)
                generalize w2.setCell ⟨b, y, none⟩ (.bool true) = w3 at F3 ⊢
                have o3 : w3.ownsRow base 3 1 (.slice a12 sl c12) sl (S.map (Value.int .i64)) := by have h : w3.ownsRow base 3 1 (.slice a12 sl c12) S.length (S.map (Value.int .i64)) := F3.out.own; rwa [show S.length = sl from HSL.out] at h
                have hs2 : base ≤ w3.heap.size := F3.out.bs
                have hsl : sl ≤ 2000000 := by
                  have h1 := (rndN_sum HFX.out.1 (HF.out.gs) (i + 1) (by rw [← HM.out]; omega)).2
                  have e : rndN Rs st (i + 1) = (Ytllgdlfdmmdffaa.mark B y, S ++ [(i : Int)]) := HDO.out
                  rw [e] at h1
                  have h2 : (S ++ [(i : Int)]).length = sl + 1 := by rw [List.length_append, ← HSL.out]; rfl
                  have h3 : falses st.1 ≤ n := by have := falses_le st.1; rw [HFX.out.1] at this; exact this
                  have h4 := HCS.out
                  have h5 := HF.out.hi
                  have h6 : falses (Ytllgdlfdmmdffaa.mark B (y : Int)) + (S ++ [(i : Int)]).length = falses st.1 + st.2.length := h1
                  omega
                clear hbox2 hfy2 hcy2 hcr2
                go_wp2_with (first
                  | (at_builtin; refine wpList_append_own _ rfl _ _ 22 rfl base 3 i0 (.int .i64 0) 1 8 Try.underlying22 hin hz0 hz1 hz2 rfl (by decide) _ _ _ rfl (o3.alloc _) ⟨w3.heap.size, 0, none⟩ 1 1 [.int .i64 (i : Int)] rfl rfl ?c1 ?c2 ?c3 ?c4 ?c5 ?_; (case c1 => exact cell_one_new _ _ _); (case c2 => simp [Value.oneCell']); (case c3 => unfold maxLen; omega); (case c4 => omega); (case c5 => simp; omega); intro v' w4 o4 g4 _))
                have F4 := Lib.hid ((F3.out.alloc (.cells #[.int .i64 (i : Int)] 3)).app (v' := v') (x := (i : Int)) (by show w4.ownsRow base 3 1 v' (S.length + 1) _; rw [show S.length = sl from HSL.out]; exact o4) g4)
                clear o4 g4 o3
                go_roundg (gk - 1)
                case measure => have := HIG.out; omega
                case rel =>
                  refine ⟨i + 1, by simp, by have := HIG.out; omega, ?_⟩
                  have e : rndN Rs st (i + 1) = (Ytllgdlfdmmdffaa.mark B y, S ++ [(i : Int)]) := HDO.out
                  rw [e]
                  exact F4.out
          · have d1 : decide ((i : Int) < (m : Int)) = false := by simp; omega
            obtain rfl : i = m := by omega
            have hfull : rndN Rs st i = rnd Rs st := by rw [HM.out]; rfl
            have HS := Lib.hid (rndN_sum HFX.out.1 (HF.out.gs) i (by rw [← HM.out]; exact Nat.le_refl _))
            have HL := Lib.hid (rndN_len Rs st i)
            rw [hfull] at hf HS HL HSL
            generalize hcur : rnd Rs st = cur at hf HS HL HSL
            have HCUR := Lib.hid hcur
            have hbox := (hf.bx HGB.out).2
            have hf9 := hf
            clear hig hfull hcur
            by_cases hse : sl = cs
            · subst hse
              have HFIN := Lib.hid (show cur = fin n Ks Rs by
                have h1 := HFX.out.2.2
                obtain ⟨gg, rfl⟩ : ∃ gg, gk0 = gg + 1 := ⟨gk0 - 1, by have := HFX.out.2.1; omega⟩
                have h2 : (rnd Rs st).2.length = st.2.length := by rw [HCUR.out, HSL.out, HCS.out.1]
                rw [fix, if_pos h2, HCUR.out] at h1
                exact h1)
              go_wp2_with fail
              rw [Exit.noGoto_ret]
              change bodyPost Try.prog Try.f18 (Fo w n Ks Rs) Exit.ret _ _
              go_ret2
              exact ⟨b, g, base, _, rfl, HFIN.out ▸ hf9⟩
            · have d2 : ((sl : Int) == (cs : Int)) = false := by simp; omega
              have d3 : decide ((sl : Int) = (cs : Int)) = false := by simp; omega
              go_wp2_with fail
              go_roundg (gk0 - 1)
              case measure => have := HGK.out; have := HFX.out.2.1; omega
              case rel =>
                have h1 := HFX.out.2.2
                have h0 := HFX.out.2.1
                obtain ⟨gg, hgg⟩ : ∃ gg, gk0 = gg + 1 := ⟨gk0 - 1, by omega⟩
                have h2 : ¬ (rnd Rs st).2.length = st.2.length := by rw [HCUR.out, HSL.out, HCS.out.1]; exact hse
                rw [hgg, fix, if_neg h2, HCUR.out] at h1
                have h3 := HS.out
                have h4 := HL.out
                have h5 := HSL.out
                have h6 := HCS.out
                rw [hgg, Nat.add_sub_cancel]
                exact ⟨cur, hf, h3.1, by omega, h1, by omega⟩
end Go.Proofs.Ytllgdlfdmmdffaa
