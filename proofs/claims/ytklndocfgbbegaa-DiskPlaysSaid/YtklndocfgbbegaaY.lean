/- DiskPlays, walked. -/
import Derived.Test.YtklndocfgbbegaaX
import Derived.Test.YtklndocfgbbegaaK4
import Derived.Deep.DeepCutAuto
namespace Go.Proofs.Ytklndocfgbbegaa
open Go.ChangeShapes Go.WideShapes Go.ChangeAt Go.RowKit
set_option linter.unusedSimpArgs false
set_option linter.unusedVariables false
/-- What a call of the program's disk may change: blocks of writes behind it, and new ones. -/
def AT (w : World) (g k : Nat) : Prop := (g < k ∧ TP w k 60) ∨ w.heap.size ≤ k
/-- Both disks, side by side. -/
structure PJ (w0 : World) (g b gt n : Nat) (lo : Option Addr) (Os : List Opn) (d dt : DS) (w : World) : Prop where
  dk : Dk (fun _ => True) w g b n d
  rf : Rf w gt n dt
  ox : Opl w0.heap.size w lo Os
  k : Below w0.heap.size w0 w
  o1 : w0.heap.size ≤ b
  gg : g < gt
section
variable {w0 w w' : World} {g b gt n : Nat} {lo : Option Addr} {Os : List Opn} {d dt d' : DS}
theorem PJ.at (p : PJ w0 g b gt n lo Os d dt w) : Dk (AT w g) w g b n d := by
  obtain ⟨wv, h1, h2, h3⟩ := p.dk.at_
  exact ⟨⟨wv, h1, h2, fun k hk => .inl ⟨(h2.lt k hk).1, row_tp h2 k hk⟩⟩, p.dk.sec, p.dk.bg, p.dk.wl, p.dk.nb, p.dk.fb⟩
theorem PJ.below (p : PJ w0 g b gt n lo Os d dt w) (j : Below w.heap.size w w') : PJ w0 g b gt n lo Os d dt w' :=
  ⟨p.dk.below j, p.rf.below j, p.ox.below j p.k.size, p.k.trans (j.mono p.k.size), p.o1, p.gg⟩
theorem PJ.prog (p : PJ w0 g b gt n lo Os d dt w) (j : Frm (AT w g) g b w w') (h : Dk (AT w g) w' g b n d') : PJ w0 g b gt n lo Os d' dt w' := by
  have hbg := p.dk.bg
  have hB : Below w0.heap.size w w' := j.toBelow p.k.size (by have := p.o1; omega) p.o1 (fun k hk h => by
    rcases h with ⟨h1, _⟩ | h1
    · have := p.o1; omega
    · have := p.k.size; omega)
  refine ⟨h.re (fun _ _ _ => trivial), p.rf.keep j.size (fun k hk hc => j.block k hk ?_ ?_ ?_), p.ox.below hB (Nat.le_refl _), p.k.trans hB, p.o1, p.gg⟩
  · rcases hc with e | ⟨e, _⟩ <;> have := p.gg <;> omega
  · rcases hc with e | ⟨e, _⟩ <;> have := p.gg <;> omega
  · rintro (⟨_, h1⟩ | h1)
    · rcases hc with e | ⟨_, e | e | e⟩
      · subst e; exact (h1.ne p.rf.tp (by decide)) rfl
      · exact (h1.ne e (by decide)) rfl
      · exact (h1.ne e (by decide)) rfl
      · exact (h1.ne e (by decide)) rfl
    · omega
theorem PJ.doc (p : PJ w0 g b gt n lo Os d dt w) (j : Ft (XR gt w) w w') (h : Rf w' gt n d') : PJ w0 g b gt n lo Os d d' w' := by
  have hbg := p.dk.bg
  have hgg := p.gg
  have hB : Below w0.heap.size w w' := j.toBelow p.k.size (by have := p.o1; omega)
  refine ⟨(p.at.keep j.size (fun k hk hc => j.block k hk ?_)).re (fun _ _ _ => trivial), h, p.ox.below hB (Nat.le_refl _), p.k.trans hB, p.o1, p.gg⟩
  rintro (e | ⟨e, h1⟩)
  · subst e
    rcases hc with h | h | ⟨_, h⟩ | h
    · omega
    · omega
    · exact (h.ne p.rf.tp (by decide)) rfl
    · omega
  · rcases hc with h | h | ⟨_, h⟩ | h
    · omega
    · omega
    · rcases h1 with h1 | h1
      · exact (h.ne h1 (by decide)) rfl
      · exact (h.ne h1 (by decide)) rfl
    · omega
end
theorem stepD_len (n : Nat) (d : DS) (z I : Int) (B : Sct) : (stepD n d z I B).2.2.W.length ≤ d.W.length + 1 := by
  have hc : ∀ y, (crashed d y).W.length ≤ d.W.length + 1 := fun y => by unfold crashed; split <;> simp
  unfold stepD
  split
  · unfold wrote
    split
    · simp
    · split
      · simp
      · split
        · exact hc _
        · simp
  · split
    · split <;> simp
    · split
      · simp
      · split
        · exact hc _
        · split
          · simp
          · split <;> simp
theorem at_none {w : World} {a : Addr} {v : Value} (h : w.cell? a = some v) : a = ⟨a.block, a.off, none⟩ := by
  obtain ⟨b, o, s⟩ := a
  cases s with
  | none => rfl
  | some s =>
    exfalso
    unfold World.cell? at h
    revert h
    cases w.heap[b]? with
    | none => simp
    | some o => cases o <;> simp
theorem info35 : (Try.prog.info? 35).map (·.size) = some 3 := by kernel_rfl
section
variable {w0 w : World} {g b gt n : Nat} {lo : Option Addr} {Os : List Opn} {d dt : DS}
theorem doesJ (p : PJ w0 g b gt n lo Os d dt w) (what I z : Int) (ao : Option Addr) (m c : Nat) (B : Sct) (hm : m = B.length) (hB : Olz w0.heap.size w ao B) (hW : d.W.length ≤ 1000000) (hI : I < 9223372036854775808) (hz : bits BinOp.and IntKind.i64 what 7 = z) :
    Calls Try.prog 21 #[.pointer (some ⟨g, 0, none⟩), .agg #[.int .i64 what, .int .i64 I, .slice ao m c]] w fun e w' => ∃ v, e = .returned (.tuple #[v, .int .i64 (stepD n d z I B).1]) ∧ Tx z w' v (stepD n d z I B).2.1 ∧ PJ w0 g b gt n lo Os (stepD n d z I B).2.2 dt w' :=
  (does21 p.at (fun k hk => .inr hk) what I z ao m c B hm (hB.byg (by have := p.o1; have := p.dk.bg; omega)) hW hI hz).mono fun e w' ⟨v, h1, h2, h3, h4⟩ => ⟨v, h1, h2, p.prog h4 h3⟩
theorem twinJ (p : PJ w0 g b gt n lo Os d dt w) (what I z : Int) (ao : Option Addr) (m c : Nat) (B : Sct) (hm : m = B.length) (hB : Olz w0.heap.size w ao B) (hW : dt.W.length ≤ 1000000) (hI : I < 9223372036854775808) (hz : bits BinOp.and IntKind.i64 what 7 = z) :
    Calls Try.prog 22 #[.pointer (some ⟨gt, 0, none⟩), .agg #[.int .i64 what, .int .i64 I, .slice ao m c]] w fun e w' => ∃ v, e = .returned (.tuple #[v, .int .i64 (stepD n dt z I B).1]) ∧ Tx z w' v (stepD n dt z I B).2.1 ∧ PJ w0 g b gt n lo Os d (stepD n dt z I B).2.2 w' ∧ (Rd z → Below w.heap.size w w') :=
  (twin22 p.rf what I z ao m c B hm (hB.byg (by have := p.o1; have := p.dk.bg; have := p.gg; omega)) hW (by have := p.dk.nb; omega) hI hz).mono fun e w' ⟨v, h1, h2, h3, h4, h5⟩ => ⟨v, h1, h2, p.doc h4 h3, h5⟩
end
def V613 (g gt l Wc : Nat) (Wa : Option Addr) (xv yv : Value) (T : Sct) (ev : Int) (dn : Bool) : Nat → Value → World → Prop
  | 0, v, w => v = xv
  | 1, v, w => v = .string (strOf T)
  | 2, v, w => v = yv
  | 3, v, w => v = .string (strOf T)
  | 4, v, w => v = .bool false
  | 5, v, w => v = .bool false
  | 6, v, w => v = .int .i64 ev
  | 7, v, w => v = .int .i64 ev
  | 8, v, w => v = .bool false
  | 9, v, w => v = .bool false
  | 10, v, w => v = .bool false
  | 11, v, w => v = .pointer (some ⟨g, 0, none⟩)
  | 12, v, w => v = .int .i64 (l : Nat)
  | 13, v, w => v = .pointer (some ⟨gt, 0, none⟩)
  | 14, v, w => v = .pointer (some ⟨gt, 0, none⟩)
  | 15, v, w => v = .pointer (some ⟨gt, 1, none⟩)
  | 16, v, w => v = .slice Wa l Wc
  | 17, v, w => v = .int .i64 (l : Nat)
  | 18, v, w => v = .bool false
  | 19, v, w => v = .bool false
  | 20, v, w => v = .bool false
  | 21, v, w => v = .pointer (some ⟨g, 0, none⟩)
  | 22, v, w => v = .bool dn
  | 23, v, w => v = .pointer (some ⟨gt, 0, none⟩)
  | 24, v, w => v = .pointer (some ⟨gt, 0, none⟩)
  | 25, v, w => v = .pointer (some ⟨gt, 3, none⟩)
  | 26, v, w => v = .bool dn
  | 27, v, w => v = .bool false
  | 28, v, w => v = .bool false
  | _, _, _ => True
theorem V613_keep (g gt l Wc : Nat) (Wa : Option Addr) (xv yv : Value) (T : Sct) (ev : Int) (dn : Bool) (i1 : Nat) (v' : Value) (w w' : World) (h : V613 g gt l Wc Wa xv yv T ev dn i1 v' w) (hr9 : (fun w w' => w' = w) w w') : V613 g gt l Wc Wa xv yv T ev dn i1 v' w' := by subst hr9; exact h
def V615 (g gt n N9 Lc : Nat) (La : Option Addr) (G : List Byte) : Nat → Value → World → Prop
  | 0, v, w => v = .bool true
  | 1, v, w => v = .bool true
  | 2, v, w => v = .pointer (some ⟨g, 0, none⟩)
  | 3, v, w => ∃ ao c, v = .slice ao N9 c ∧ Bys w ao G
  | 4, v, w => v = .string (strOf G)
  | 5, v, w => v = .pointer (some ⟨gt, 0, none⟩)
  | 6, v, w => ∃ ao c, v = .slice ao N9 c ∧ Bys w ao G
  | 7, v, w => v = .string (strOf G)
  | 8, v, w => v = .bool true
  | 9, v, w => v = .bool true
  | 10, v, w => v = .bool true
  | 11, v, w => v = .pointer (some ⟨g, 0, none⟩)
  | 12, v, w => v = .int .i64 (n : Nat)
  | 13, v, w => v = .pointer (some ⟨gt, 0, none⟩)
  | 14, v, w => v = .pointer (some ⟨gt, 0, none⟩)
  | 15, v, w => v = .pointer (some ⟨gt, 0, none⟩)
  | 16, v, w => v = .slice La n Lc
  | 17, v, w => v = .int .i64 (n : Nat)
  | 18, v, w => v = .bool true
  | 19, v, w => v = .bool true
  | 20, v, w => v = .bool true
  | _, _, _ => True
theorem V615_keep (g gt n N9 Lc : Nat) (La : Option Addr) (G : List Byte) (i1 : Nat) (v : Value) (w w' : World) (h : V615 g gt n N9 Lc La G i1 v w) (r : (fun w w' => Below w.heap.size w w') w w') : V615 g gt n N9 Lc La G i1 v w' := by
  rcases i1 with _ | _ | _ | _ | _ | _ | _ | _ | _ | _ | _ | _ | _ | _ | _ | _ | _ | _ | _ | _ | _ | _
  · exact h
  · exact h
  · exact h
  · exact (let ⟨a, c, e, y⟩ := h; ⟨a, c, e, y.below r⟩)
  · exact h
  · exact h
  · exact (let ⟨a, c, e, y⟩ := h; ⟨a, c, e, y.below r⟩)
  · exact h
  · exact h
  · exact h
  · exact h
  · exact h
  · exact h
  · exact h
  · exact h
  · exact h
  · exact h
  · exact h
  · exact h
  · exact h
  · exact h
  · trivial
set_option maxRecDepth 4000 in
set_option maxHeartbeats 4000000 in
theorem plays6 (D : List Byte) (Os : List Opn) (io lo : Option Addr) (m ic nl lc : Nat) (w0 : World) (hm : m = D.length) (hmc : m ≤ ic) (hI : Olz w0.heap.size w0 io D) (hn : nl = Os.length) (hL : Opl w0.heap.size w0 lo Os) :
    Calls Try.prog 6 #[.slice io m ic, .slice lo nl lc] w0 fun e w' => e = .returned (.bool true) ∧ Below w0.heap.size w0 w' := by
  obtain ⟨gr, hgr⟩ : ∃ r, grt Os = r := ⟨_, rfl⟩
  have G13 : Hid (∀ x, Below w0.heap.size w0 x → Calls Try.prog 13 #[.slice lo nl lc] x fun e w' => e = .returned (.bool gr) ∧ w' = x) := Lib.hid (fun x hx => hgr ▸ great13 Os lo nl lc w0.heap.size x hn (hL.below hx (Nat.le_refl _)))
  have HG := Lib.hid hgr
  have HL := Lib.hid hn
  have HM := Lib.hid hm
  clear hgr hn hm
  by_cases hbig : 20000 < m
  · have d1 : decide ((m : Int) > 20000) = true := by simp; omega
    have d1' : decide (20000 < m) = true := by simp; omega
    go_enter Try.func6, Try.ntmps6
    go_wp2_with (first
      | (go_at_call 7; (with_reducible refine (head7 _).mono ?_); rintro e w1 ⟨rfl, b1⟩))
    go_ret
    exact ⟨rfl, b1⟩
  have d1 : decide ((m : Int) > 20000) = false := by simp; omega
  have d1' : decide (20000 < m) = false := by simp; omega
  cases gr with
  | true =>
    go_enter Try.func6, Try.ntmps6
    go_wp2_with (first
      | (go_at_call 7; (with_reducible refine (head7 _).mono ?_); rintro e w1 ⟨rfl, b1⟩)
      | (go_at_call 13; (with_reducible refine (G13.out _ b1).mono ?_); rintro e w3 ⟨rfl, rfl⟩))
    go_ret
    exact ⟨rfl, b1⟩
  | false =>
  by_cases hbad : m % 512 ≠ 0 ∨ m = 0
  · have H19 : Hid (∀ x, Calls Try.prog 19 #[.slice io m ic] x fun e w' => e = .returned (.pointer none) ∧ w' = x) := Lib.hid (fun x => by
      by_cases h : m % 512 ≠ 0
      · exact of19n io m ic x h
      · obtain rfl : m = 0 := by omega
        exact of19z io ic x)
    have H20 : Hid (∀ x, Calls Try.prog 20 #[.slice io m ic] x fun e w' => e = .returned (.pointer none) ∧ w' = x) := Lib.hid (fun x => rof20n io m ic x hbad (by omega))
    clear hbad
    go_enter Try.func6, Try.ntmps6
    go_wp2_with (first
      | (go_at_call 7; (with_reducible refine (head7 _).mono ?_); rintro e w1 ⟨rfl, b1⟩)
      | (go_at_call 13; (with_reducible refine (G13.out _ b1).mono ?_); rintro e w3 ⟨rfl, rfl⟩)
      | (go_at_call 19; (with_reducible refine (H19.out _).mono ?_); rintro e w4 ⟨rfl, rfl⟩)
      | (go_at_call 20; (with_reducible refine (H20.out _).mono ?_); rintro e w5 ⟨rfl, rfl⟩))
    go_ret
    exact ⟨rfl, b1⟩
  have hlen := grt_len HG.out
  have hnl : nl ≤ 333 := by have := HL.out; omega
  obtain ⟨n, hn⟩ : ∃ n, n = m / 512 := ⟨_, rfl⟩
  have hn1 : 1 ≤ n ∧ n ≤ 4096 := by omega
  have hDl : D.length = n * 512 := by have := HM.out; omega
  obtain ⟨a0, rfl⟩ : ∃ a, io = some a := by
    cases io with
    | none => have := hI.nil rfl; subst this; simp at hDl; omega
    | some a => exact ⟨a, rfl⟩
  obtain ⟨h0D, hDh⟩ : ∃ x, D[0]? = some x := ⟨D[0]'(by omega), List.getElem?_eq_getElem _⟩
  have ha0 := at_none (hI.cells a0 rfl 0 _ hDh).2
  have hb0 := (hI.cells a0 rfl 0 _ hDh).1
  have e00 : a0.add 0 = a0 := rfl
  rw [e00] at ha0
  obtain ⟨x0, o0, s0⟩ := a0
  have hs0 : s0 = none := congrArg Addr.spot ha0
  subst hs0
  have hrI : ∀ x, Below w0.heap.size w0 x → x.rangeAt x0 o0 (D.map c8) := fun x hx j v hv => by
    obtain ⟨y, hy, rfl⟩ := c8_at hv
    have := (hI.cells _ rfl j y hy).2
    rw [Addr.add_mid] at this
    exact (World.cell?_of_block (a := ⟨x0, _, none⟩) (hx.block x0 hb0)).trans this
  have H19 : Hid (∀ x, Below w0.heap.size w0 x → Calls Try.prog 19 #[.slice (some ⟨x0, o0, none⟩) m ic] x fun e w' => ∃ g b, e = .returned (.pointer (some ⟨g, 0, none⟩)) ∧ x.heap.size ≤ b ∧ (∀ A, Dk A w' g b n (dI D n)) ∧ Below x.heap.size x w') := Lib.hid (fun x hx => of19 x x0 o0 ic m n D HM.out hDl hn1 hmc (hrI x hx) (Nat.lt_of_lt_of_le hb0 hx.size))
  have H20 : Hid (∀ x, Below w0.heap.size w0 x → Calls Try.prog 20 #[.slice (some ⟨x0, o0, none⟩) m ic] x fun e w' => ∃ g, e = .returned (.pointer (some ⟨g, 0, none⟩)) ∧ x.heap.size ≤ g ∧ Rf w' g n (dI D n) ∧ Below x.heap.size x w') := Lib.hid (fun x hx => rof20 x x0 o0 ic m n D HM.out hDl hn1 hmc (hrI x hx) (Nat.lt_of_lt_of_le hb0 hx.size))
  have HN4 : Hid (n ≤ 4096) := Lib.hid hn1.2
  clear hn hDl hDh ha0 hb0 hrI hI hn1 e00 hbad
  go_enter Try.func6, Try.ntmps6
  go_wp2_with (first
    | (go_at_call 7; (with_reducible refine (head7 _).mono ?_); rintro e w1 ⟨rfl, b1⟩)
    | (go_at_call 13; (with_reducible refine (G13.out _ b1).mono ?_); rintro e w3 ⟨rfl, rfl⟩)
    | (go_at_call 19; (with_reducible refine (H19.out _ b1).mono ?_); rintro e w4 ⟨g, b, rfl, hgb, hDk, b4⟩; have b14 := b1.trans (b4.mono b1.size))
    | (go_at_call 20; (with_reducible refine (H20.out _ b14).mono ?_); rintro e w5 ⟨gt, rfl, hgt, hRf, b5⟩))
  have p0 : PJ w0 g b gt n lo Os (dI D n) (dI D n) w5 := ⟨(hDk _).below b5, hRf, (hL.below b14 (Nat.le_refl _)).below b5 b14.size, b14.trans (b5.mono b14.size), Nat.le_trans b1.size hgb, Nat.lt_of_lt_of_le (hDk (fun _ => True)).lt hgt⟩
  obtain ⟨ds, hds⟩ : ∃ ds, ds = dI D n := ⟨_, rfl⟩
  have hfs : ds.W.length = 0 := by rw [hds]; rfl
  rw [← hds] at p0
  clear hds hDk hRf b14 b1 b4 b5 hgb hgt hL
  go_loopg [8, 9, 10, 11, 12] nl (fun gk v8 v9 v10 v11 v12 wr => ∃ (i : Nat) (d : DS), v8 = .int .i64 i ∧ i + gk = nl ∧ d.W.length ≤ i ∧ PJ w0 g b gt n lo Os d d wr)
  case atStart => exact ⟨0, ds, rfl, by omega, by omega, p0⟩
  case round =>
    clear p0 hfs
    obtain ⟨i, d, rfl, hi, hW0, p⟩ := hrel
    obtain ⟨ko, hko⟩ : ∃ ko, ko = gk := ⟨_, rfl⟩
    have HKO := Lib.hid hko
    have HI := Lib.hid hi
    clear hko hi
    by_cases hin : i < nl
    · have q0 : (0 : Int) ≤ (i : Int) := by omega
      have q1 : (i : Int) < (nl : Int) := by omega
      have q2 : decide ((i : Int) < (nl : Int)) = true := by simp; omega
      have q3 : decide (i < nl) = true := by simp; omega
      obtain ⟨a, rfl⟩ : ∃ a, lo = some a := by
        cases lo with
        | none => have e1 := p.ox.nil rfl; have := HL.out; rw [e1] at this; simp at this; omega
        | some a => exact ⟨a, rfl⟩
      obtain ⟨o, hD⟩ : ∃ o, Os[i]? = some o := ⟨Os[i]'(by rw [← HL.out]; exact hin), List.getElem?_eq_getElem _⟩
      have HD := Lib.hid hD
      obtain ⟨mo, hmo⟩ : ∃ mo, o.D.length = mo := ⟨_, rfl⟩
      have HMO := Lib.hid hmo.symm
      obtain ⟨z, hz⟩ : ∃ z, bits BinOp.and IntKind.i64 o.what 7 = z := ⟨_, rfl⟩
      have HZ := Lib.hid hz
      obtain ⟨hcw, hci, ⟨ao, c, hdc, hcb, hol⟩, hbw, hbi⟩ := (p.ox.cells a rfl).2 i o hD
      rw [hmo] at hcb hdc
      have ha := at_none hcw
      obtain ⟨pb, po, hpa⟩ : ∃ pb po, a.add (i * 3) = ⟨pb, po, none⟩ := ⟨_, _, ha⟩
      have HCELL : ∀ wx, Below w0.heap.size w0 wx → wx.cell? ((a.add (i * 3)).add 2) = wr.cell? ((a.add (i * 3)).add 2) := fun wx hx => World.cell?_of_block (by
        have hb : ((a.add (i * 3)).add 2).block < w0.heap.size := by rw [add_block, add_block]; exact (p.ox.cells a rfl).1
        exact (hx.block _ hb).trans (p.k.block _ hb).symm)
      have hrow : ∀ wx, Below w0.heap.size w0 wx → Opl w0.heap.size wx (some a) Os → wx.rangeAt pb po [.int .i64 o.what, .int .i64 o.I, .slice ao mo c] := fun wx hkx hx => by
        obtain ⟨h1, h2, _, _, _⟩ := (hx.cells a rfl).2 i o HD.out
        obtain ⟨_, _, ⟨ao2, c2, h5, h3, h4⟩, _, _⟩ := (hx.cells a rfl).2 i o HD.out
        have e3 : wx.cell? ((a.add (i * 3)).add 2) = wr.cell? ((a.add (i * 3)).add 2) := HCELL wx hkx
        rw [hpa] at h1 h2 e3 hcb
        rw [Addr.add_mid] at h2 e3 hcb
        intro j v hv
        rcases j with _ | _ | _ | j
        · injection hv with hv; subst hv; exact h1
        · injection hv with hv; subst hv; exact h2
        · injection hv with hv; subst hv; exact e3.trans hcb
        · simp at hv
      obtain ⟨⟨ev, T, dd⟩, hst⟩ : ∃ r, stepD n d z o.I o.D = r := ⟨_, rfl⟩
      have hlen2 := stepD_len n d z o.I o.D
      rw [hst] at hlen2
      have hlen3 : dd.W.length ≤ i + 1 := Nat.le_trans hlen2 (by omega)
      have C21 : Hid (Calls Try.prog 21 #[.pointer (some ⟨g, 0, none⟩), .agg #[.int .i64 o.what, .int .i64 o.I, .slice ao mo c]] wr fun e w' => ∃ v, e = .returned (.tuple #[v, .int .i64 ev]) ∧ Tx z w' v T ∧ PJ w0 g b gt n (some a) Os dd d w') := Lib.hid (by
        have := doesJ p o.what o.I z ao mo c o.D HMO.out hol (by omega) hbi.2 HZ.out
        rw [hst] at this
        exact this)
      have C22 : Hid (∀ w5, PJ w0 g b gt n (some a) Os dd d w5 → Calls Try.prog 22 #[.pointer (some ⟨gt, 0, none⟩), .agg #[.int .i64 o.what, .int .i64 o.I, .slice ao mo c]] w5 fun e w' => ∃ v, e = .returned (.tuple #[v, .int .i64 ev]) ∧ Tx z w' v T ∧ PJ w0 g b gt n (some a) Os dd dd w' ∧ (Rd z → Below w5.heap.size w5 w')) := Lib.hid (fun w5 p5 => by
        have := twinJ p5 o.what o.I z ao mo c o.D HMO.out (hol.keep fun k hk => (p5.k.block k hk).trans (p.k.block k hk).symm) (by omega) hbi.2 HZ.out
        rw [hst] at this
        exact this)
      have HROW : Hid (∀ wx, Below w0.heap.size w0 wx → Opl w0.heap.size wx (some a) Os → wx.rangeAt pb po [.int .i64 o.what, .int .i64 o.I, .slice ao mo c]) := Lib.hid hrow
      have hk0 := p.k
      have hx0 := p.ox
      clear hD hmo hz hcw hci hcb hbw ha hrow HCELL hst hlen2 hol hdc hbi
      have f0r : wr.cell? ⟨pb, po, none⟩ = some (.int .i64 o.what) := HROW.out _ hk0 hx0 0 _ rfl
      have f1r : wr.cell? ⟨pb, po + 1, none⟩ = some (.int .i64 o.I) := HROW.out _ hk0 hx0 1 _ rfl
      have f2r : wr.cell? ⟨pb, po + 2, none⟩ = some (.slice ao mo c) := HROW.out _ hk0 hx0 2 _ rfl
      go_upto_region 13 with (first
        | (go_at_call 21; (with_reducible refine C21.out.mono ?_); rintro e w5 ⟨xv, rfl, hxv, p5⟩; have f05 : w5.cell? ⟨pb, po, none⟩ = some (.int .i64 o.what) := HROW.out _ p5.k p5.ox 0 _ rfl; have f15 : w5.cell? ⟨pb, po + 1, none⟩ = some (.int .i64 o.I) := HROW.out _ p5.k p5.ox 1 _ rfl; have f25 : w5.cell? ⟨pb, po + 2, none⟩ = some (.slice ao mo c) := HROW.out _ p5.k p5.ox 2 _ rfl)
        | (go_at_call 22; (with_reducible refine (C22.out _ p5).mono ?_); rintro e w6 ⟨yv, rfl, hyv, p6, hrd⟩))
      obtain ⟨l, hl⟩ : ∃ l, dd.W.length = l := ⟨_, rfl⟩
      obtain ⟨dn, hdn⟩ : ∃ x, dd.down = x := ⟨_, rfl⟩
      obtain ⟨La, Lc, Wa, Wc, e0, e1⟩ := p6.rf.slots
      have e3 := p6.rf.c3
      rw [hl] at e1
      rw [hdn] at e3
      have HC1 : Hid (w6.drew.cell? ⟨gt, 1, none⟩ = some (.slice Wa l Wc)) := Lib.hid e1
      have HC3 : Hid (w6.drew.cell? ⟨gt, 3, none⟩ = some (.bool dn)) := Lib.hid e3
      have HCX : Hid ((convert 28 9 xv).run Try.prog w6.drew = .ok (.string (strOf T)) w6.drew) := Lib.hid ((hxv.below hrd).below (fun _ => (Below.refl _ _).drew)).conv
      have HCY : Hid ((convert 28 9 yv).run Try.prog w6.drew = .ok (.string (strOf T)) w6.drew) := Lib.hid (hyv.below (fun _ => (Below.refl _ _).drew)).conv
      have HLL := Lib.hid hl
      have HDD := Lib.hid hdn
      have HP := Lib.hid p6
      clear hl hdn e0 e1 e3 hxv hyv hrd p6 p5 hk0 hx0 p f0r f1r f2r f05 f15 f25
      refine region_monoL (fun z => z = w6.drew) (fun w w' => w' = w) (V613 g gt l Wc Wa xv yv T ev dn) [(0, some 64), (1, some 65), (2, some 66), (3, some 67), (4, some 68), (5, some 69), (6, some 70), (7, some 71), (8, some 72), (9, some 73), (10, some 74), (11, some 75), (12, some 76), (13, some 77), (14, some 78), (15, some 79), (16, some 80), (17, some 81), (18, some 82), (19, some 83), (20, some 84), (21, some 85), (22, some 86), (23, some 87), (24, some 88), (25, some 89), (26, some 90), (27, some 91), (28, some 92)] (by kernel_rfl) (by kernel_rfl) (by kernel_rfl) (fun _ _ h r => r.trans h) (fun i1 v1 w1 w2 _ h1 r1 => V613_keep g gt l Wc Wa xv yv T ev dn i1 v1 w1 w2 h1 r1) (rfl) ?_ (fun vs w' hS hV => ?_)
      · refine StepsL.cons0  (by kernel_rfl)  ?_ ?_
        · rintro w1 hS  K hK
          subst hS
          (try simp only [Act.put, List.setIfInBounds_toArray, List.set_cons_zero, List.set_cons_succ])
          go_simp
          exact hK.out _ _ rfl (rfl)
        refine StepsL.cons1 0 (some 64) (by kernel_rfl) rfl ?_ ?_
        · rintro w1 hS _ rfl K hK
          subst hS
          (try simp only [Act.put, List.setIfInBounds_toArray, List.set_cons_zero, List.set_cons_succ])
          have hcv := HCX.out
          go_simp
          exact hK.out _ _ rfl rfl
        refine StepsL.cons0  (by kernel_rfl)  ?_ ?_
        · rintro w1 hS  K hK
          subst hS
          (try simp only [Act.put, List.setIfInBounds_toArray, List.set_cons_zero, List.set_cons_succ])
          go_simp
          exact hK.out _ _ rfl (rfl)
        refine StepsL.cons1 2 (some 66) (by kernel_rfl) rfl ?_ ?_
        · rintro w1 hS _ rfl K hK
          subst hS
          (try simp only [Act.put, List.setIfInBounds_toArray, List.set_cons_zero, List.set_cons_succ])
          have hcv := HCY.out
          go_simp
          exact hK.out _ _ rfl rfl
        refine StepsL.cons2 1 (some 65) 3 (some 67) (by kernel_rfl) rfl rfl ?_ ?_
        · rintro w1 hS _ rfl _ rfl K hK
          subst hS
          (try simp only [Act.put, List.setIfInBounds_toArray, List.set_cons_zero, List.set_cons_succ])
          go_simp
          exact hK.out _ _ rfl (rfl)
        refine StepsL.cons1 4 (some 68) (by kernel_rfl) rfl ?_ ?_
        · rintro w1 hS _ rfl K hK
          subst hS
          (try simp only [Act.put, List.setIfInBounds_toArray, List.set_cons_zero, List.set_cons_succ])
          go_simp
          exact hK.out _ _ rfl (rfl)
        refine StepsL.cons1 5 (some 69) (by kernel_rfl) rfl ?_ ?_
        · rintro w1 hS _ rfl K hK
          subst hS
          (try simp only [Act.put, List.setIfInBounds_toArray, List.set_cons_zero, List.set_cons_succ])
          go_simp
          exact hK.out _ _ rfl (rfl)
        refine StepsL.cons1 5 (some 69) (by kernel_rfl) rfl ?_ ?_
        · rintro w1 hS _ rfl K hK
          subst hS
          (try simp only [Act.put, List.setIfInBounds_toArray, List.set_cons_zero, List.set_cons_succ])
          go_simp
          exact hK.out _ _ rfl (rfl)
        refine StepsL.cons3 5 (some 69) 6 (some 70) 7 (some 71) (by kernel_rfl) rfl rfl rfl ?_ ?_
        · rintro w1 hS _ rfl _ rfl _ rfl K hK
          subst hS
          (try simp only [Act.put, List.setIfInBounds_toArray, List.set_cons_zero, List.set_cons_succ])
          go_simp
          exact hK.out _ _ rfl (rfl)
        refine StepsL.cons2 5 (some 69) 8 (some 72) (by kernel_rfl) rfl rfl ?_ ?_
        · rintro w1 hS _ rfl _ rfl K hK
          subst hS
          (try simp only [Act.put, List.setIfInBounds_toArray, List.set_cons_zero, List.set_cons_succ])
          go_simp
          exact hK.out _ _ rfl (rfl)
        refine StepsL.cons1 9 (some 73) (by kernel_rfl) rfl ?_ ?_
        · rintro w1 hS _ rfl K hK
          subst hS
          (try simp only [Act.put, List.setIfInBounds_toArray, List.set_cons_zero, List.set_cons_succ])
          go_simp
          exact hK.out _ _ rfl (rfl)
        refine StepsL.cons1 10 (some 74) (by kernel_rfl) rfl ?_ ?_
        · rintro w1 hS _ rfl K hK
          subst hS
          (try simp only [Act.put, List.setIfInBounds_toArray, List.set_cons_zero, List.set_cons_succ])
          go_simp
          exact hK.out _ _ rfl (rfl)
        refine StepsL.cons2 10 (some 74) 11 (some 75) (by kernel_rfl) rfl rfl ?_ ?_
        · rintro w1 hS _ rfl _ rfl K hK
          subst hS
          (try simp only [Act.put, List.setIfInBounds_toArray, List.set_cons_zero, List.set_cons_succ])
          go_simp
          go_at_call 18
          refine (waits18 HP.out.dk.drew).mono ?_
          rintro r w2 ⟨rfl, rfl⟩
          rw [HLL.out]
          exact hK.out _ _ rfl rfl
        refine StepsL.cons1 10 (some 74) (by kernel_rfl) rfl ?_ ?_
        · rintro w1 hS _ rfl K hK
          subst hS
          (try simp only [Act.put, List.setIfInBounds_toArray, List.set_cons_zero, List.set_cons_succ])
          go_simp
          exact hK.out _ _ rfl (rfl)
        refine StepsL.cons2 10 (some 74) 13 (some 77) (by kernel_rfl) rfl rfl ?_ ?_
        · rintro w1 hS _ rfl _ rfl K hK
          subst hS
          (try simp only [Act.put, List.setIfInBounds_toArray, List.set_cons_zero, List.set_cons_succ])
          go_simp
          exact hK.out _ _ rfl (rfl)
        refine StepsL.cons2 10 (some 74) 14 (some 78) (by kernel_rfl) rfl rfl ?_ ?_
        · rintro w1 hS _ rfl _ rfl K hK
          subst hS
          (try simp only [Act.put, List.setIfInBounds_toArray, List.set_cons_zero, List.set_cons_succ])
          go_simp
          exact hK.out _ _ rfl (rfl)
        refine StepsL.cons2 10 (some 74) 15 (some 79) (by kernel_rfl) rfl rfl ?_ ?_
        · rintro w1 hS _ rfl _ rfl K hK
          subst hS
          (try simp only [Act.put, List.setIfInBounds_toArray, List.set_cons_zero, List.set_cons_succ])
          have hc1 := HC1.out
          go_simp
          exact hK.out _ _ rfl rfl
        refine StepsL.cons2 10 (some 74) 16 (some 80) (by kernel_rfl) rfl rfl ?_ ?_
        · rintro w1 hS _ rfl _ rfl K hK
          subst hS
          (try simp only [Act.put, List.setIfInBounds_toArray, List.set_cons_zero, List.set_cons_succ])
          go_simp
          exact hK.out _ _ rfl (rfl)
        refine StepsL.cons3 10 (some 74) 12 (some 76) 17 (some 81) (by kernel_rfl) rfl rfl rfl ?_ ?_
        · rintro w1 hS _ rfl _ rfl _ rfl K hK
          subst hS
          (try simp only [Act.put, List.setIfInBounds_toArray, List.set_cons_zero, List.set_cons_succ])
          go_simp
          exact hK.out _ _ rfl (rfl)
        refine StepsL.cons2 10 (some 74) 18 (some 82) (by kernel_rfl) rfl rfl ?_ ?_
        · rintro w1 hS _ rfl _ rfl K hK
          subst hS
          (try simp only [Act.put, List.setIfInBounds_toArray, List.set_cons_zero, List.set_cons_succ])
          go_simp
          exact hK.out _ _ rfl (rfl)
        refine StepsL.cons1 19 (some 83) (by kernel_rfl) rfl ?_ ?_
        · rintro w1 hS _ rfl K hK
          subst hS
          (try simp only [Act.put, List.setIfInBounds_toArray, List.set_cons_zero, List.set_cons_succ])
          go_simp
          exact hK.out _ _ rfl (rfl)
        refine StepsL.cons1 20 (some 84) (by kernel_rfl) rfl ?_ ?_
        · rintro w1 hS _ rfl K hK
          subst hS
          (try simp only [Act.put, List.setIfInBounds_toArray, List.set_cons_zero, List.set_cons_succ])
          go_simp
          exact hK.out _ _ rfl (rfl)
        refine StepsL.cons2 20 (some 84) 21 (some 85) (by kernel_rfl) rfl rfl ?_ ?_
        · rintro w1 hS _ rfl _ rfl K hK
          subst hS
          (try simp only [Act.put, List.setIfInBounds_toArray, List.set_cons_zero, List.set_cons_succ])
          go_simp
          go_at_call 17
          refine (down17 HP.out.dk.drew).mono ?_
          rintro r w2 ⟨rfl, rfl⟩
          rw [HDD.out]
          exact hK.out _ _ rfl rfl
        refine StepsL.cons1 20 (some 84) (by kernel_rfl) rfl ?_ ?_
        · rintro w1 hS _ rfl K hK
          subst hS
          (try simp only [Act.put, List.setIfInBounds_toArray, List.set_cons_zero, List.set_cons_succ])
          go_simp
          exact hK.out _ _ rfl (rfl)
        refine StepsL.cons2 20 (some 84) 23 (some 87) (by kernel_rfl) rfl rfl ?_ ?_
        · rintro w1 hS _ rfl _ rfl K hK
          subst hS
          (try simp only [Act.put, List.setIfInBounds_toArray, List.set_cons_zero, List.set_cons_succ])
          go_simp
          exact hK.out _ _ rfl (rfl)
        refine StepsL.cons2 20 (some 84) 24 (some 88) (by kernel_rfl) rfl rfl ?_ ?_
        · rintro w1 hS _ rfl _ rfl K hK
          subst hS
          (try simp only [Act.put, List.setIfInBounds_toArray, List.set_cons_zero, List.set_cons_succ])
          go_simp
          exact hK.out _ _ rfl (rfl)
        refine StepsL.cons2 20 (some 84) 25 (some 89) (by kernel_rfl) rfl rfl ?_ ?_
        · rintro w1 hS _ rfl _ rfl K hK
          subst hS
          (try simp only [Act.put, List.setIfInBounds_toArray, List.set_cons_zero, List.set_cons_succ])
          have hc3 := HC3.out
          go_simp
          exact hK.out _ _ rfl rfl
        refine StepsL.cons3 20 (some 84) 22 (some 86) 26 (some 90) (by kernel_rfl) rfl rfl rfl ?_ ?_
        · rintro w1 hS _ rfl _ rfl _ rfl K hK
          subst hS
          (try simp only [Act.put, List.setIfInBounds_toArray, List.set_cons_zero, List.set_cons_succ])
          go_simp
          exact hK.out _ _ rfl (rfl)
        refine StepsL.cons2 20 (some 84) 27 (some 91) (by kernel_rfl) rfl rfl ?_ ?_
        · rintro w1 hS _ rfl _ rfl K hK
          subst hS
          (try simp only [Act.put, List.setIfInBounds_toArray, List.set_cons_zero, List.set_cons_succ])
          go_simp
          exact hK.out _ _ rfl (rfl)
        exact StepsL.nil
      · have e28 : vs 28 = .bool false := hV 28 (by simp)
        have hS2 : w' = w6.drew := hS
        subst hS2
        simp only [putl, List.foldl_cons, List.foldl_nil, Act.put, List.setIfInBounds_toArray, List.set_cons_zero, List.set_cons_succ, e28]
        have p9 := HP.out.below ((Below.refl _ _).drew)
        clear hV e28
        go_wp2_with fail
        go_roundg (ko - 1)
        case measure => have := HKO.out; have := HI.out; omega
        case rel => exact ⟨i + 1, dd, by simp, by have := HKO.out; have := HI.out; omega, hlen3, p9⟩
    · have d1 : decide (i < nl) = false := by simp; omega
      have d2 : decide ((i : Int) < (nl : Int)) = false := by simp; omega
      obtain ⟨La, Lc, Wa, Wc, e0, e1⟩ := p.rf.slots
      obtain ⟨N9, hN9⟩ : ∃ N9, n * 512 = N9 := ⟨_, rfl⟩
      obtain ⟨G, hG⟩ : ∃ G, img d.S n = G := ⟨_, rfl⟩
      have HNN := Lib.hid hN9
      have HGG := Lib.hid hG
      have HGN : Hid (G.length = N9) := Lib.hid (by rw [← hG, ← hN9]; exact img_len p.dk.sec.len n (Nat.le_refl _))
      clear hN9 hG e1
      go_upto_region 15 with fail
      refine region_monoL (fun z => PJ w0 g b gt n lo Os d d z ∧ z.cell? ⟨gt, 0, none⟩ = some (.slice La n Lc)) (fun w w' => Below w.heap.size w w') (V615 g gt n N9 Lc La G) [(0, some 93), (1, some 94), (2, some 95), (3, some 96), (4, some 97), (5, some 98), (6, some 99), (7, some 100), (8, some 101), (9, some 102), (10, some 103), (11, some 104), (12, some 105), (13, some 106), (14, some 107), (15, some 108), (16, some 109), (17, some 110), (18, some 111), (19, some 112), (20, some 4)] (by kernel_rfl) (by kernel_rfl) (by kernel_rfl) (fun _ _ h r => ⟨h.1.below r, (World.cell?_of_block (a := ⟨gt, 0, none⟩) (r.block gt h.1.rf.lt)).trans h.2⟩) (fun i1 v1 w1 w2 _ h1 r1 => V615_keep g gt n N9 Lc La G i1 v1 w1 w2 h1 r1) (⟨p.below ((Below.refl _ _).drew), e0⟩) ?_ (fun vs w9 hS hV => ?_)
      · refine StepsL.cons0  (by kernel_rfl)  ?_ ?_
        · rintro w1 hS  K hK
          (try simp only [Act.put, List.setIfInBounds_toArray, List.set_cons_zero, List.set_cons_succ])
          go_simp
          exact hK.out _ _ rfl (Below.refl _ _)
        refine StepsL.cons1 0 (some 93) (by kernel_rfl) rfl ?_ ?_
        · rintro w1 hS _ rfl K hK
          (try simp only [Act.put, List.setIfInBounds_toArray, List.set_cons_zero, List.set_cons_succ])
          go_simp
          exact hK.out _ _ rfl (Below.refl _ _)
        refine StepsL.cons1 1 (some 94) (by kernel_rfl) rfl ?_ ?_
        · rintro w1 hS _ rfl K hK
          (try simp only [Act.put, List.setIfInBounds_toArray, List.set_cons_zero, List.set_cons_succ])
          go_simp
          exact hK.out _ _ rfl (Below.refl _ _)
        refine StepsL.cons2 1 (some 94) 2 (some 95) (by kernel_rfl) rfl rfl ?_ ?_
        · rintro w1 hS _ rfl _ rfl K hK
          (try simp only [Act.put, List.setIfInBounds_toArray, List.set_cons_zero, List.set_cons_succ])
          go_simp
          go_at_call 11
          refine (image11 _ _ _ _ _ _ hS.1.dk).mono ?_
          rintro r w2 ⟨v2, rfl, o2, b2⟩
          obtain ⟨a2, c2, rfl⟩ := row_form o2
          have y2 := bys_own o2
          rw [HGG.out] at y2
          rw [HNN.out]
          exact hK.out _ _ ⟨_, _, rfl, y2⟩ b2
        refine StepsL.cons2 1 (some 94) 3 (some 96) (by kernel_rfl) rfl rfl ?_ ?_
        · rintro w1 hS _ rfl _ ⟨b3, c3, rfl, y3⟩ K hK
          (try simp only [Act.put, List.setIfInBounds_toArray, List.set_cons_zero, List.set_cons_succ])
          have hcv := conv_bys (c := c3) HGN.out.symm y3
          go_simp
          exact hK.out _ _ rfl (Below.refl _ _)
        refine StepsL.cons1 1 (some 94) (by kernel_rfl) rfl ?_ ?_
        · rintro w1 hS _ rfl K hK
          (try simp only [Act.put, List.setIfInBounds_toArray, List.set_cons_zero, List.set_cons_succ])
          go_simp
          exact hK.out _ _ rfl (Below.refl _ _)
        refine StepsL.cons2 1 (some 94) 5 (some 98) (by kernel_rfl) rfl rfl ?_ ?_
        · rintro w1 hS _ rfl _ rfl K hK
          (try simp only [Act.put, List.setIfInBounds_toArray, List.set_cons_zero, List.set_cons_succ])
          go_simp
          go_at_call 23
          refine (rimage23 hS.1.rf HN4.out (fun i hi => hS.1.dk.sec.len i hi)).mono ?_
          rintro r w2 ⟨v2, rfl, o2, b2⟩
          obtain ⟨a2, c2, rfl⟩ := row_form o2
          have y2 := bys_own o2
          rw [HGG.out] at y2
          rw [HNN.out]
          exact hK.out _ _ ⟨_, _, rfl, y2⟩ b2
        refine StepsL.cons2 1 (some 94) 6 (some 99) (by kernel_rfl) rfl rfl ?_ ?_
        · rintro w1 hS _ rfl _ ⟨b6, c6, rfl, y6⟩ K hK
          (try simp only [Act.put, List.setIfInBounds_toArray, List.set_cons_zero, List.set_cons_succ])
          have hcv := conv_bys (c := c6) HGN.out.symm y6
          go_simp
          exact hK.out _ _ rfl (Below.refl _ _)
        refine StepsL.cons3 1 (some 94) 4 (some 97) 7 (some 100) (by kernel_rfl) rfl rfl rfl ?_ ?_
        · rintro w1 hS _ rfl _ rfl _ rfl K hK
          (try simp only [Act.put, List.setIfInBounds_toArray, List.set_cons_zero, List.set_cons_succ])
          go_simp
          exact hK.out _ _ rfl (Below.refl _ _)
        refine StepsL.cons2 1 (some 94) 8 (some 101) (by kernel_rfl) rfl rfl ?_ ?_
        · rintro w1 hS _ rfl _ rfl K hK
          (try simp only [Act.put, List.setIfInBounds_toArray, List.set_cons_zero, List.set_cons_succ])
          go_simp
          exact hK.out _ _ rfl (Below.refl _ _)
        refine StepsL.cons1 9 (some 102) (by kernel_rfl) rfl ?_ ?_
        · rintro w1 hS _ rfl K hK
          (try simp only [Act.put, List.setIfInBounds_toArray, List.set_cons_zero, List.set_cons_succ])
          go_simp
          exact hK.out _ _ rfl (Below.refl _ _)
        refine StepsL.cons1 10 (some 103) (by kernel_rfl) rfl ?_ ?_
        · rintro w1 hS _ rfl K hK
          (try simp only [Act.put, List.setIfInBounds_toArray, List.set_cons_zero, List.set_cons_succ])
          go_simp
          exact hK.out _ _ rfl (Below.refl _ _)
        refine StepsL.cons2 10 (some 103) 11 (some 104) (by kernel_rfl) rfl rfl ?_ ?_
        · rintro w1 hS _ rfl _ rfl K hK
          (try simp only [Act.put, List.setIfInBounds_toArray, List.set_cons_zero, List.set_cons_succ])
          go_simp
          go_at_call 24
          refine (many24 hS.1.dk).mono ?_
          rintro r w2 ⟨rfl, rfl⟩
          exact hK.out _ _ rfl (Below.refl _ _)
        refine StepsL.cons1 10 (some 103) (by kernel_rfl) rfl ?_ ?_
        · rintro w1 hS _ rfl K hK
          (try simp only [Act.put, List.setIfInBounds_toArray, List.set_cons_zero, List.set_cons_succ])
          go_simp
          exact hK.out _ _ rfl (Below.refl _ _)
        refine StepsL.cons2 10 (some 103) 13 (some 106) (by kernel_rfl) rfl rfl ?_ ?_
        · rintro w1 hS _ rfl _ rfl K hK
          (try simp only [Act.put, List.setIfInBounds_toArray, List.set_cons_zero, List.set_cons_succ])
          go_simp
          exact hK.out _ _ rfl (Below.refl _ _)
        refine StepsL.cons2 10 (some 103) 14 (some 107) (by kernel_rfl) rfl rfl ?_ ?_
        · rintro w1 hS _ rfl _ rfl K hK
          (try simp only [Act.put, List.setIfInBounds_toArray, List.set_cons_zero, List.set_cons_succ])
          go_simp
          exact hK.out _ _ rfl (Below.refl _ _)
        refine StepsL.cons2 10 (some 103) 15 (some 108) (by kernel_rfl) rfl rfl ?_ ?_
        · rintro w1 hS _ rfl _ rfl K hK
          (try simp only [Act.put, List.setIfInBounds_toArray, List.set_cons_zero, List.set_cons_succ])
          have hc0 := hS.2
          go_simp
          exact hK.out _ _ rfl (Below.refl _ _)
        refine StepsL.cons2 10 (some 103) 16 (some 109) (by kernel_rfl) rfl rfl ?_ ?_
        · rintro w1 hS _ rfl _ rfl K hK
          (try simp only [Act.put, List.setIfInBounds_toArray, List.set_cons_zero, List.set_cons_succ])
          go_simp
          exact hK.out _ _ rfl (Below.refl _ _)
        refine StepsL.cons3 10 (some 103) 12 (some 105) 17 (some 110) (by kernel_rfl) rfl rfl rfl ?_ ?_
        · rintro w1 hS _ rfl _ rfl _ rfl K hK
          (try simp only [Act.put, List.setIfInBounds_toArray, List.set_cons_zero, List.set_cons_succ])
          go_simp
          exact hK.out _ _ rfl (Below.refl _ _)
        refine StepsL.cons2 10 (some 103) 18 (some 111) (by kernel_rfl) rfl rfl ?_ ?_
        · rintro w1 hS _ rfl _ rfl K hK
          (try simp only [Act.put, List.setIfInBounds_toArray, List.set_cons_zero, List.set_cons_succ])
          go_simp
          exact hK.out _ _ rfl (Below.refl _ _)
        refine StepsL.cons1 19 (some 112) (by kernel_rfl) rfl ?_ ?_
        · rintro w1 hS _ rfl K hK
          (try simp only [Act.put, List.setIfInBounds_toArray, List.set_cons_zero, List.set_cons_succ])
          go_simp
          exact hK.out _ _ rfl (Below.refl _ _)
        exact StepsL.nil
      · have e20 : vs 20 = .bool true := hV 20 (by simp)
        have hS2 : PJ w0 g b gt n lo Os d d w9 := hS.1
        simp only [putl, List.foldl_cons, List.foldl_nil, Act.put, List.setIfInBounds_toArray, List.set_cons_zero, List.set_cons_succ, e20]
        clear hV e20 hS
        go_wp2_with fail
        go_ret
        exact ⟨rfl, hS2.k⟩
end Go.Proofs.Ytklndocfgbbegaa
