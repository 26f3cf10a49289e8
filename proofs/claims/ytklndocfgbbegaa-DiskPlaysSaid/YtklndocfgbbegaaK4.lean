/- DiskReads, walked. -/
import Derived.Test.YtklndocfgbbegaaL
import Derived.Deep.DeepCutAuto
namespace Go.Proofs.Ytklndocfgbbegaa
open Go.ChangeShapes Go.WideShapes Go.ChangeAt Go.RowKit
set_option linter.unusedSimpArgs false
set_option linter.unusedVariables false
theorem conv_rng {w : World} {b o c : Nat} {D : Sct} (hD : D.length = 512) (h : w.rangeAt b o (D.map c8)) : (convert 28 9 (.slice (some ⟨b, o, none⟩) 512 c)).run Try.prog w = .ok (.string (strOf D)) w :=
  conv_bys hD.symm ⟨(fun e => by cases e), fun a ha j x hx => by
    injection ha with ha
    subst ha
    rw [Addr.add_mid]
    exact h j _ (by rw [List.getElem?_map, hx]; rfl)⟩
def V412 (g nl lc i m c : Nat) (a : Addr) (ao : Option Addr) (z : Int) : Nat → Value → World → Prop
  | 0, v, w => v = .pointer (some ⟨g, 0, none⟩)
  | 1, v, w => v = .slice (some a) nl lc
  | 2, v, w => v = .int .i64 (i : Nat)
  | 3, v, w => v = .pointer (some (a.add (i * 3)))
  | 4, v, w => v = .pointer (some ⟨(a.add (i * 3)).block, (a.add (i * 3)).off + 1, none⟩)
  | 5, v, w => v = .int .i64 z
  | 6, v, w => v = .slice (some a) nl lc
  | 7, v, w => v = .int .i64 (i : Nat)
  | 8, v, w => v = .pointer (some (a.add (i * 3)))
  | 9, v, w => v = .pointer (some ⟨(a.add (i * 3)).block, (a.add (i * 3)).off + 2, none⟩)
  | 10, v, w => v = .slice ao m c
  | _, _, _ => True
theorem V412_keep (g nl lc i m c : Nat) (a : Addr) (ao : Option Addr) (z : Int) (i1 : Nat) (v' : Value) (w w' : World) (h : V412 g nl lc i m c a ao z i1 v' w) (hr9 : (fun w w' => w' = w) w w') : V412 g nl lc i m c a ao z i1 v' w' := by subst hr9; exact h
def V417 (q n k nl lc i m c : Nat) (a : Addr) (ao : Option Addr) : Nat → Value → World → Prop
  | 0, v, w => v = .slice (some ⟨q, 0, none⟩) n n
  | 1, v, w => v = .slice (some a) nl lc
  | 2, v, w => v = .int .i64 (i : Nat)
  | 3, v, w => v = .pointer (some (a.add (i * 3)))
  | 4, v, w => v = .pointer (some ⟨(a.add (i * 3)).block, (a.add (i * 3)).off + 1, none⟩)
  | 5, v, w => v = .int .i64 (k : Nat)
  | 6, v, w => v = .pointer (some ⟨q, k * 512, none⟩)
  | 7, v, w => v = .slice (some ⟨q, k * 512, none⟩) 512 512
  | 8, v, w => v = .slice (some a) nl lc
  | 9, v, w => v = .int .i64 (i : Nat)
  | 10, v, w => v = .pointer (some (a.add (i * 3)))
  | 11, v, w => v = .pointer (some ⟨(a.add (i * 3)).block, (a.add (i * 3)).off + 2, none⟩)
  | 12, v, w => v = .slice ao m c
  | _, _, _ => True
theorem V417_keep (q n k nl lc i m c : Nat) (a : Addr) (ao : Option Addr) (i1 : Nat) (v' : Value) (w w' : World) (h : V417 q n k nl lc i m c a ao i1 v' w) (hr9 : (fun w w' => w' = w) w w') : V417 q n k nl lc i m c a ao i1 v' w' := by subst hr9; exact h
def V422 (r q n k : Nat) (D : Sct) : Nat → Value → World → Prop
  | 0, v, w => v = .int .i64 0
  | 1, v, w => v = .bool false
  | 2, v, w => v = .bool false
  | 3, v, w => v = .slice (some ⟨r, 0, none⟩) 512 512
  | 4, v, w => v = .string (strOf D)
  | 5, v, w => v = .slice (some ⟨q, 0, none⟩) n n
  | 6, v, w => v = .int .i64 (k : Nat)
  | 7, v, w => v = .pointer (some ⟨q, k * 512, none⟩)
  | 8, v, w => v = .slice (some ⟨q, k * 512, none⟩) 512 512
  | 9, v, w => v = .string (strOf D)
  | 10, v, w => v = .bool false
  | 11, v, w => v = .bool false
  | _, _, _ => True
theorem V422_keep (r q n k : Nat) (D : Sct) (i1 : Nat) (v' : Value) (w w' : World) (h : V422 r q n k D i1 v' w) (hr9 : (fun w w' => w' = w) w w') : V422 r q n k D i1 v' w' := by subst hr9; exact h
set_option maxRecDepth 4000 in
set_option maxHeartbeats 4000000 in
theorem reads4 (Os : List Opn) (lo : Option Addr) (nm nl lc : Nat) (w : World) (hnm : nm < 256) (hn : nl = Os.length) (hL : Opl w.heap.size w lo Os) :
    Calls Try.prog 4 #[.int .u8 nm, .slice lo nl lc] w fun e w' => e = .returned (.bool true) ∧ Below w.heap.size w w' := by
  obtain ⟨m9, hm9⟩ : ∃ m, m = nm % 9 := ⟨_, rfl⟩
  obtain ⟨nn, hnn⟩ : ∃ n, n = 1 + m9 := ⟨_, rfl⟩
  have f1 : (nm : Int) % 9 = (m9 : Int) := by omega
  have f2 : (nm : Int).tmod 9 = (m9 : Int) := by rw [Int.tmod_eq_emod_of_nonneg (by omega)]; omega
  have f3 : IntKind.u8.wrap (m9 : Int) = (m9 : Int) := IntWalk.u8_in _ (by omega)
  have f4 : IntKind.i64.wrap (m9 : Int) = (m9 : Int) := IntWalk.i64_in _ (by omega)
  have f5 : (1 : Int) + (m9 : Int) = (nn : Int) := by omega
  have f6 : IntKind.i64.wrap (nn : Int) = (nn : Int) := IntWalk.i64_in _ (by omega)
  have hnb : 1 ≤ nn ∧ nn ≤ 9 := by omega
  have N8 : Hid (∀ w, Calls Try.prog 8 #[.int .i64 (nn : Int)] w fun e w' => ∃ g b, e = .returned (.pointer (some ⟨g, 0, none⟩)) ∧ w.heap.size ≤ b ∧ (∀ A, Dk A w' g b nn d0) ∧ Below w.heap.size w w') := Lib.hid (fun w => new8 nn w (by omega))
  obtain ⟨gr, hgr⟩ : ∃ r, grt Os = r := ⟨_, rfl⟩
  have G13 : Hid (∀ x, Below w.heap.size w x → Calls Try.prog 13 #[.slice lo nl lc] x fun e w' => e = .returned (.bool gr) ∧ w' = x) := Lib.hid (fun x hx => hgr ▸ great13 Os lo nl lc w.heap.size x hn (hL.below hx (Nat.le_refl _)))
  have HG := Lib.hid hgr
  have HL := Lib.hid hn
  obtain ⟨i0, hi37, hz0, hz1, hz2⟩ := info_parts info37
  have I37 := Lib.hid (And.intro hi37 (And.intro hz0 (And.intro hz1 hz2)))
  clear hm9 hnn hgr hn hi37 hz0 hz1 hz2
  go_enter Try.func4, Try.ntmps4
  cases gr with
  | true =>
    go_wp2_with (first
      | (go_at_call 7; (with_reducible refine (head7 _).mono ?_); rintro e w1 ⟨rfl, b1⟩)
      | (go_at_call 8; (with_reducible refine (N8.out _).mono ?_); rintro e w2 ⟨g, b, rfl, hgb, hD, b2⟩)
      | (go_at_call 13; (with_reducible refine (G13.out _ ?hx).mono ?_); (case hx => exact b1.trans (b2.mono b1.size)); rintro e w3 ⟨rfl, rfl⟩))
    go_ret
    exact ⟨rfl, b1.trans (b2.mono b1.size)⟩
  | false =>
    have hlen := grt_len HG.out
    have hnl : nl ≤ 333 := by have := HL.out; omega
    go_wp2_with (first
      | (go_at_call 7; (with_reducible refine (head7 _).mono ?_); rintro e w1 ⟨rfl, b1⟩)
      | (go_at_call 8; (with_reducible refine (N8.out _).mono ?_); rintro e w2 ⟨g, b, rfl, hgb, hD, b2⟩)
      | (go_at_call 13; (with_reducible refine (G13.out _ ?hx).mono ?_); (case hx => exact b1.trans (b2.mono b1.size)); rintro e w3 ⟨rfl, rfl⟩)
      | (at_make; refine wpList_make_full _ rfl (.tmp 32) (.tmp 32) 33 rfl w3.heap.size 37 i0 _ 512 Try.underlying33 I37.out.1 I37.out.2.1 I37.out.2.2.1 .i64 .i64 nn nn nn rfl rfl rfl rfl ?m1 ?m2 ?m3 ?_; (case m1 => rw [I37.out.2.2.2]; omega); (case m2 => unfold maxLen; omega); (case m3 => exact Nat.le_refl _); intro w4 o4 g4))
    have hD0 := hD (AQ w w3.heap.size)
    have b4 : Below w3.heap.size w3 w4 := ⟨g4.os, g4.tape, g4.output, g4.size, fun k hk => g4.block k hk (by simp)⟩
    have hsec := sec_made37 o4
    have p0 : PR w g b w3.heap.size nn lo Os d0 (fun i => look (d0.S i) d0.W i) w4 := by
      have h1 := b1.size
      have h2 := b2.size
      have hlt := hD0.lt
      have hltb := hD0.sec.lt
      have hb := b1.trans (b2.mono h1)
      exact ⟨hD0.below b4, hsec, (hL.below hb (Nat.le_refl _)).below b4 (by omega), hb.trans (b4.mono (by omega)), by omega, by omega, by omega, by omega⟩
    obtain ⟨q, hq⟩ : ∃ q, w3.heap.size = q := ⟨_, rfl⟩
    rw [hq] at p0 ⊢
    obtain ⟨ds, hds⟩ : ∃ ds, ds = d0 := ⟨_, rfl⟩
    have hfs : ds.fuse = -1 ∧ ds.down = false ∧ ds.W.length = 0 := by rw [hds]; exact ⟨rfl, rfl, rfl⟩
    rw [← hds] at p0
    clear hq hds hD hD0 b4 hsec o4 g4 b1 b2 hgb hL
    go_loopg [9] nl (fun gk v wr => ∃ (i : Nat) (d : DS), v = .int .i64 i ∧ i + gk = nl ∧ d.fuse = -1 ∧ d.down = false ∧ d.W.length ≤ i ∧ PR w g b q nn lo Os d (fun i => look (d.S i) d.W i) wr)
    case atStart => exact ⟨0, ds, rfl, by omega, hfs.1, hfs.2.1, by omega, p0⟩
    case round =>
      clear p0 hfs
      obtain ⟨i, d, rfl, hi, hf0, hd0, hW0, p⟩ := hrel
      obtain ⟨ko, hko⟩ : ∃ ko, ko = gk := ⟨_, rfl⟩
      have HKO := Lib.hid hko
      have HI := Lib.hid hi
      clear hko hi
      obtain ⟨V, hV⟩ : ∃ V : Nat → Sct, V = fun i => look (d.S i) d.W i := ⟨_, rfl⟩
      rw [← hV] at p
      have HV := Lib.hid hV
      clear hV
      by_cases hin : i < nl
      · have q0 : (0 : Int) ≤ (i : Int) := by omega
        have q1 : (i : Int) < (nl : Int) := by omega
        obtain ⟨a, rfl⟩ : ∃ a, lo = some a := by
          cases lo with
          | none => have e1 := p.ox.nil rfl; have := HL.out; rw [e1] at this; simp at this; omega
          | some a => exact ⟨a, rfl⟩
        obtain ⟨o, hD⟩ : ∃ o, Os[i]? = some o := ⟨Os[i]'(by rw [← HL.out]; exact hin), List.getElem?_eq_getElem _⟩
        have HD := Lib.hid hD
        obtain ⟨m, hm⟩ : ∃ m, o.D.length = m := ⟨_, rfl⟩
        have HM := Lib.hid hm
        clear hD hm
        obtain ⟨hcw0, hci0, ⟨ao0, c0, hdc0, hcb0, hol0⟩, hbw0, hbi0⟩ := (p.ox.cells a rfl).2 i o HD.out
        have hci0 : wr.cell? ⟨(a.add (i * 3)).block, (a.add (i * 3)).off + 1, none⟩ = some (.int .i64 o.I) := hci0
        have hcb0 : wr.cell? ⟨(a.add (i * 3)).block, (a.add (i * 3)).off + 2, none⟩ = some (.slice ao0 o.D.length c0) := hcb0
        rw [HM.out] at hcb0 hdc0
        obtain ⟨ev, hev⟩ : ∃ ev, (bits BinOp.and IntKind.i64 o.what 3 == 2) = ev := ⟨_, rfl⟩
        cases ev with
        | true =>
          have C14 := Lib.hid (syncR p hd0)
          go_wp2_with (first | (go_at_call 14; (with_reducible refine C14.out.mono ?_); rintro e w5 ⟨rfl, p5⟩))
          obtain ⟨d5, hd5e⟩ : ∃ d5 : DS, d5 = { d with S := fin d.S d.W, W := [] } := ⟨_, rfl⟩
          have hf5 : d5.fuse = -1 := by rw [hd5e]; exact hf0
          have hd5 : d5.down = false := by rw [hd5e]; exact hd0
          have hW5 : d5.W.length ≤ i + 1 := by rw [hd5e]; exact Nat.zero_le _
          obtain ⟨V5, hV5e⟩ : ∃ V5, V5 = V := ⟨_, rfl⟩
          have HV5 : Hid (V5 = fun i => look (d5.S i) d5.W i) := Lib.hid (by
            rw [hV5e, HV.out, hd5e]
            funext j
            exact (fin_look d.S d.W j).symm)
          rw [← hd5e, ← hV5e] at p5
          clear hd5e hV5e p HV
          clear hd0 hf0 hW0
          go_loopg [11] nn (fun gk2 v11 wr2 => ∃ k : Nat, v11 = .int .i64 k ∧ k + gk2 = nn ∧ PR w g b q nn (some a) Os d5 V5 wr2)
          case atStart => exact ⟨0, rfl, by omega, p5⟩
          case round =>
            clear p5
            obtain ⟨k, rfl, hk, p6⟩ := hrel
            have HK2 := Lib.hid hk
            by_cases hkn : k < nn
            · have k1 : (0 : Int) ≤ (k : Int) := by omega
              have k2 : (k : Int) < (nn : Int) := by omega
              clear hk
              go_upto_region 12 with (first
                | (go_at_call 15; (with_reducible refine (readR p6 k hkn hd5 (by omega)).mono ?_); rintro e w8 ⟨r, rfl, hr, p8⟩))
              have e8 : V5 k = look (d5.S k) d5.W k := by rw [HV5.out]
              rw [← e8] at hr
              have hl8 := p8.wt.len k hkn
              have c1 := conv_rng (w := w8.drew) (b := r) (o := 0) (c := 512) hl8 hr
              have c2 := conv_rng (w := w8.drew) (b := q) (o := k * 512) (c := 512) hl8 (p8.wt.rng k hkn)
              clear hr e8 hl8
              refine region_monoL (fun z => z = w8.drew) (fun w w' => w' = w) (V422 r q nn k (V5 k)) [(0, some 123), (1, some 124), (2, some 125), (3, some 126), (4, some 127), (5, some 128), (6, some 129), (7, some 130), (8, some 131), (9, some 132), (10, some 133), (11, some 134)] (by kernel_rfl) (by kernel_rfl) (by kernel_rfl) (fun _ _ h r => r.trans h) (fun i1 v1 w1 w2 _ h1 r1 => V422_keep r q nn k (V5 k) i1 v1 w1 w2 h1 r1) (rfl) ?_ (fun vs w' hS hV => ?_)
              · refine StepsL.cons0  (by kernel_rfl)  ?_ ?_
                · rintro w1 hS  K hK
                  subst hS
                  (try simp only [Act.put, List.setIfInBounds_toArray, List.set_cons_zero, List.set_cons_succ])
                  go_simp
                  exact hK.out _ _ rfl (rfl)
                refine StepsL.cons1 0 (some 123) (by kernel_rfl) rfl ?_ ?_
                · rintro w1 hS _ rfl K hK
                  subst hS
                  (try simp only [Act.put, List.setIfInBounds_toArray, List.set_cons_zero, List.set_cons_succ])
                  go_simp
                  exact hK.out _ _ rfl (rfl)
                refine StepsL.cons1 1 (some 124) (by kernel_rfl) rfl ?_ ?_
                · rintro w1 hS _ rfl K hK
                  subst hS
                  (try simp only [Act.put, List.setIfInBounds_toArray, List.set_cons_zero, List.set_cons_succ])
                  go_simp
                  exact hK.out _ _ rfl (rfl)
                refine StepsL.cons1 2 (some 125) (by kernel_rfl) rfl ?_ ?_
                · rintro w1 hS _ rfl K hK
                  subst hS
                  (try simp only [Act.put, List.setIfInBounds_toArray, List.set_cons_zero, List.set_cons_succ])
                  go_simp
                  exact hK.out _ _ rfl (rfl)
                refine StepsL.cons2 2 (some 125) 3 (some 126) (by kernel_rfl) rfl rfl ?_ ?_
                · rintro w1 hS _ rfl _ rfl K hK
                  subst hS
                  (try simp only [Act.put, List.setIfInBounds_toArray, List.set_cons_zero, List.set_cons_succ])
                  have hcv := c1
                  go_simp
                  exact hK.out _ _ rfl rfl
                refine StepsL.cons1 2 (some 125) (by kernel_rfl) rfl ?_ ?_
                · rintro w1 hS _ rfl K hK
                  subst hS
                  (try simp only [Act.put, List.setIfInBounds_toArray, List.set_cons_zero, List.set_cons_succ])
                  go_simp
                  exact hK.out _ _ rfl (rfl)
                refine StepsL.cons1 2 (some 125) (by kernel_rfl) rfl ?_ ?_
                · rintro w1 hS _ rfl K hK
                  subst hS
                  (try simp only [Act.put, List.setIfInBounds_toArray, List.set_cons_zero, List.set_cons_succ])
                  go_simp
                  exact hK.out _ _ rfl (rfl)
                refine StepsL.cons3 2 (some 125) 5 (some 128) 6 (some 129) (by kernel_rfl) rfl rfl rfl ?_ ?_
                · rintro w1 hS _ rfl _ rfl _ rfl K hK
                  subst hS
                  (try simp only [Act.put, List.setIfInBounds_toArray, List.set_cons_zero, List.set_cons_succ])
                  go_simp
                  exact hK.out _ _ rfl (rfl)
                refine StepsL.cons2 2 (some 125) 7 (some 130) (by kernel_rfl) rfl rfl ?_ ?_
                · rintro w1 hS _ rfl _ rfl K hK
                  subst hS
                  (try simp only [Act.put, List.setIfInBounds_toArray, List.set_cons_zero, List.set_cons_succ])
                  go_simp
                  exact hK.out _ _ rfl (rfl)
                refine StepsL.cons2 2 (some 125) 8 (some 131) (by kernel_rfl) rfl rfl ?_ ?_
                · rintro w1 hS _ rfl _ rfl K hK
                  subst hS
                  (try simp only [Act.put, List.setIfInBounds_toArray, List.set_cons_zero, List.set_cons_succ])
                  have hcv := c2
                  go_simp
                  exact hK.out _ _ rfl rfl
                refine StepsL.cons3 2 (some 125) 4 (some 127) 9 (some 132) (by kernel_rfl) rfl rfl rfl ?_ ?_
                · rintro w1 hS _ rfl _ rfl _ rfl K hK
                  subst hS
                  (try simp only [Act.put, List.setIfInBounds_toArray, List.set_cons_zero, List.set_cons_succ])
                  go_simp
                  exact hK.out _ _ rfl (rfl)
                refine StepsL.cons2 2 (some 125) 10 (some 133) (by kernel_rfl) rfl rfl ?_ ?_
                · rintro w1 hS _ rfl _ rfl K hK
                  subst hS
                  (try simp only [Act.put, List.setIfInBounds_toArray, List.set_cons_zero, List.set_cons_succ])
                  go_simp
                  exact hK.out _ _ rfl (rfl)
                exact StepsL.nil
              · have e11 : vs 11 = .bool false := hV 11 (by simp)
                have hS2 : w' = w8.drew := hS
                subst hS2
                simp only [putl, List.foldl_cons, List.foldl_nil, Act.put, List.setIfInBounds_toArray, List.set_cons_zero, List.set_cons_succ, e11]
                have p9 := p8.drew
                clear hV e11 c1 c2 p8
                go_wp2_with fail
                go_roundg (gk - 1)
                case measure => have := HK2.out; omega
                case rel => exact ⟨k + 1, by simp, by have := HK2.out; omega, p9⟩
            · have dk2 : decide (k < nn) = false := by simp; omega
              clear hk
              go_wp2_with fail
              go_roundg (ko - 1)
              case measure => have := HKO.out; have := HI.out; omega
              case rel => exact ⟨i + 1, d5, by simp, by have := HKO.out; have := HI.out; omega, hf5, hd5, hW5, by rw [← HV5.out]; exact p6⟩
        | false =>
          have W10 := writeR p.drew o.I ao0 m c0 o.D HM.out.symm (Olz.keep hol0 (fun k hk => rfl)) (by omega)
          go_upto_region 12 with fail
          refine region_monoT 11 (fun z => z = wr.drew) (fun w w' => w' = w) (V412 g nl lc i m c0 a ao0 o.I) [(0, some 49), (1, some 50), (2, some 51), (3, some 52), (4, some 53), (5, some 54), (6, some 55), (7, some 56), (8, some 57), (9, some 58), (10, some 59)] (by kernel_rfl) (by kernel_rfl) (by kernel_rfl) (by kernel_rfl) (fun _ _ h r => r.trans h) (fun i1 v1 w1 w2 _ h1 r1 => V412_keep g nl lc i m c0 a ao0 o.I i1 v1 w1 w2 h1 r1) (rfl) ?_ (fun vs w' hS hV => ?_)
          · refine StepsL.cons0  (by kernel_rfl)  ?_ ?_
            · rintro w1 hS  K hK
              subst hS
              (try simp only [Act.put, List.setIfInBounds_toArray, List.set_cons_zero, List.set_cons_succ])
              go_simp
              exact hK.out _ _ rfl (rfl)
            refine StepsL.cons0  (by kernel_rfl)  ?_ ?_
            · rintro w1 hS  K hK
              subst hS
              (try simp only [Act.put, List.setIfInBounds_toArray, List.set_cons_zero, List.set_cons_succ])
              go_simp
              exact hK.out _ _ rfl (rfl)
            refine StepsL.cons0  (by kernel_rfl)  ?_ ?_
            · rintro w1 hS  K hK
              subst hS
              (try simp only [Act.put, List.setIfInBounds_toArray, List.set_cons_zero, List.set_cons_succ])
              go_simp
              exact hK.out _ _ rfl (rfl)
            refine StepsL.cons2 1 (some 50) 2 (some 51) (by kernel_rfl) rfl rfl ?_ ?_
            · rintro w1 hS _ rfl _ rfl K hK
              subst hS
              (try simp only [Act.put, List.setIfInBounds_toArray, List.set_cons_zero, List.set_cons_succ])
              go_simp
              exact hK.out _ _ rfl (rfl)
            refine StepsL.cons1 3 (some 52) (by kernel_rfl) rfl ?_ ?_
            · rintro w1 hS _ rfl K hK
              subst hS
              (try simp only [Act.put, List.setIfInBounds_toArray, List.set_cons_zero, List.set_cons_succ])
              go_simp
              exact hK.out _ _ rfl (rfl)
            refine StepsL.cons1 4 (some 53) (by kernel_rfl) rfl ?_ ?_
            · rintro w1 hS _ rfl K hK
              subst hS
              (try simp only [Act.put, List.setIfInBounds_toArray, List.set_cons_zero, List.set_cons_succ])
              have hx : wr.drew.cell? ⟨(a.add (i * 3)).block, (a.add (i * 3)).off + 1, none⟩ = _ := hci0
              go_simp
              exact hK.out _ _ rfl rfl
            refine StepsL.cons0  (by kernel_rfl)  ?_ ?_
            · rintro w1 hS  K hK
              subst hS
              (try simp only [Act.put, List.setIfInBounds_toArray, List.set_cons_zero, List.set_cons_succ])
              go_simp
              exact hK.out _ _ rfl (rfl)
            refine StepsL.cons0  (by kernel_rfl)  ?_ ?_
            · rintro w1 hS  K hK
              subst hS
              (try simp only [Act.put, List.setIfInBounds_toArray, List.set_cons_zero, List.set_cons_succ])
              go_simp
              exact hK.out _ _ rfl (rfl)
            refine StepsL.cons2 6 (some 55) 7 (some 56) (by kernel_rfl) rfl rfl ?_ ?_
            · rintro w1 hS _ rfl _ rfl K hK
              subst hS
              (try simp only [Act.put, List.setIfInBounds_toArray, List.set_cons_zero, List.set_cons_succ])
              go_simp
              exact hK.out _ _ rfl (rfl)
            refine StepsL.cons1 8 (some 57) (by kernel_rfl) rfl ?_ ?_
            · rintro w1 hS _ rfl K hK
              subst hS
              (try simp only [Act.put, List.setIfInBounds_toArray, List.set_cons_zero, List.set_cons_succ])
              go_simp
              exact hK.out _ _ rfl (rfl)
            refine StepsL.cons1 9 (some 58) (by kernel_rfl) rfl ?_ ?_
            · rintro w1 hS _ rfl K hK
              subst hS
              (try simp only [Act.put, List.setIfInBounds_toArray, List.set_cons_zero, List.set_cons_succ])
              have hx : wr.drew.cell? ⟨(a.add (i * 3)).block, (a.add (i * 3)).off + 2, none⟩ = _ := hcb0
              go_simp
              exact hK.out _ _ rfl rfl
            exact StepsL.nil
          · have v0 : vs 0 = .pointer (some ⟨g, 0, none⟩) := hV 0 (by simp)
            have v5 : vs 5 = .int .i64 o.I := hV 5 (by simp)
            have v10 : vs 10 = .slice ao0 m c0 := hV 10 (by simp)
            have hS2 : w' = wr.drew := hS
            subst hS2
            simp only [putl, List.foldl_cons, List.foldl_nil, Act.put, List.setIfInBounds_toArray, List.set_cons_zero, List.set_cons_succ, v0, v5, v10]
            simp only [List.drop_succ_cons, List.drop_zero]
            clear hV v0 v5 v10 hcw0 hci0 hcb0 hol0 hS
            rcases wrote_up nn d o.I o.D hd0 hf0 with ⟨hok, he⟩ | ⟨hbad, he⟩
            · rw [he] at W10
              have C10 := Lib.hid W10
              obtain ⟨k, hk⟩ : ∃ k : Nat, o.I = (k : Int) := ⟨o.I.toNat, by omega⟩
              have hkn : k < nn := by omega
              have hm512 : m ≤ 512 := by rw [← HM.out]; exact hok.2.2
              have hBl := hok.2.2
              have hkt : o.I.toNat = k := by omega
              rw [hkt] at C10
              have HOK := Lib.hid hk
              have b1 : decide ((k : Int) ≥ 0) = true := by simp
              have b2 : decide ((k : Int) < (nn : Int)) = true := by simp; omega
              have b3 : decide ((m : Int) ≤ 512) = true := by simp; omega
              have k1 : (0 : Int) ≤ (k : Int) := by omega
              have k2 : (k : Int) < (nn : Int) := by omega
              have hz37 := zero37
              clear W10 he hok hkt hk
              go_upto_region 17 with (first
                | (go_at_call 10; (with_reducible refine C10.out.mono ?_); rintro e w5 ⟨rfl, p5⟩; obtain ⟨hcw5, hci5, ⟨ao5, c5, hdc5, hcb5, hol5⟩, hbw5, hbi5⟩ := (p5.ox.cells a rfl).2 i o HD.out; have hci5 : w5.cell? ⟨(a.add (i * 3)).block, (a.add (i * 3)).off + 1, none⟩ = some (.int .i64 o.I) := hci5; have hcb5 : w5.cell? ⟨(a.add (i * 3)).block, (a.add (i * 3)).off + 2, none⟩ = some (.slice ao5 o.D.length c5) := hcb5; rw [HM.out] at hcb5 hdc5; rw [HOK.out] at hci5; have ht5 := p5.wt.thereAt k hkn)
                | (with_reducible refine store37m rfl (.tmp 97) (.tmp 96) rfl q (k * 512) zs rfl rfl zs_len ht5 ?_))
              have p6 := p5.wr (k * 512) (zs.map c8) (p5.wt.set k hkn zs zs_len)
              obtain ⟨w6, hw6⟩ : ∃ w6, w5.setCells q (k * 512) (zs.map c8) = w6 := ⟨_, rfl⟩
              rw [hw6] at p6
              (try rw [hw6])
              clear hw6 ht5 hcw5 hci5 hcb5 hol5 p5 p
              (try simp only [Act.put])
              obtain ⟨hcw6, hci6, ⟨ao6, c6, hdc6, hcb6, hol6⟩, hbw6, hbi6⟩ := (p6.ox.cells a rfl).2 i o HD.out
              have hci6 : w6.cell? ⟨(a.add (i * 3)).block, (a.add (i * 3)).off + 1, none⟩ = some (.int .i64 o.I) := hci6
              have hcb6 : w6.cell? ⟨(a.add (i * 3)).block, (a.add (i * 3)).off + 2, none⟩ = some (.slice ao6 o.D.length c6) := hcb6
              rw [HM.out] at hcb6 hdc6
              rw [HOK.out] at hci6
              refine region_monoT 13 (fun z => z = w6.drew) (fun w w' => w' = w) (V417 q nn k nl lc i m c6 a ao6) [(0, some 98), (1, some 99), (2, some 100), (3, some 101), (4, some 102), (5, some 103), (6, some 104), (7, some 105), (8, some 106), (9, some 107), (10, some 108), (11, some 109), (12, some 110)] (by kernel_rfl) (by kernel_rfl) (by kernel_rfl) (by kernel_rfl) (fun _ _ h r => r.trans h) (fun i1 v1 w1 w2 _ h1 r1 => V417_keep q nn k nl lc i m c6 a ao6 i1 v1 w1 w2 h1 r1) (rfl) ?_ (fun vs w' hS hV => ?_)
              · refine StepsL.cons0  (by kernel_rfl)  ?_ ?_
                · rintro w1 hS  K hK
                  subst hS
                  (try simp only [Act.put, List.setIfInBounds_toArray, List.set_cons_zero, List.set_cons_succ])
                  go_simp
                  exact hK.out _ _ rfl (rfl)
                refine StepsL.cons0  (by kernel_rfl)  ?_ ?_
                · rintro w1 hS  K hK
                  subst hS
                  (try simp only [Act.put, List.setIfInBounds_toArray, List.set_cons_zero, List.set_cons_succ])
                  go_simp
                  exact hK.out _ _ rfl (rfl)
                refine StepsL.cons0  (by kernel_rfl)  ?_ ?_
                · rintro w1 hS  K hK
                  subst hS
                  (try simp only [Act.put, List.setIfInBounds_toArray, List.set_cons_zero, List.set_cons_succ])
                  go_simp
                  exact hK.out _ _ rfl (rfl)
                refine StepsL.cons2 1 (some 99) 2 (some 100) (by kernel_rfl) rfl rfl ?_ ?_
                · rintro w1 hS _ rfl _ rfl K hK
                  subst hS
                  (try simp only [Act.put, List.setIfInBounds_toArray, List.set_cons_zero, List.set_cons_succ])
                  go_simp
                  exact hK.out _ _ rfl (rfl)
                refine StepsL.cons1 3 (some 101) (by kernel_rfl) rfl ?_ ?_
                · rintro w1 hS _ rfl K hK
                  subst hS
                  (try simp only [Act.put, List.setIfInBounds_toArray, List.set_cons_zero, List.set_cons_succ])
                  go_simp
                  exact hK.out _ _ rfl (rfl)
                refine StepsL.cons1 4 (some 102) (by kernel_rfl) rfl ?_ ?_
                · rintro w1 hS _ rfl K hK
                  subst hS
                  (try simp only [Act.put, List.setIfInBounds_toArray, List.set_cons_zero, List.set_cons_succ])
                  have hx : w6.drew.cell? ⟨(a.add (i * 3)).block, (a.add (i * 3)).off + 1, none⟩ = _ := hci6
                  go_simp
                  exact hK.out _ _ rfl rfl
                refine StepsL.cons2 0 (some 98) 5 (some 103) (by kernel_rfl) rfl rfl ?_ ?_
                · rintro w1 hS _ rfl _ rfl K hK
                  subst hS
                  (try simp only [Act.put, List.setIfInBounds_toArray, List.set_cons_zero, List.set_cons_succ])
                  go_simp
                  exact hK.out _ _ rfl (rfl)
                refine StepsL.cons1 6 (some 104) (by kernel_rfl) rfl ?_ ?_
                · rintro w1 hS _ rfl K hK
                  subst hS
                  (try simp only [Act.put, List.setIfInBounds_toArray, List.set_cons_zero, List.set_cons_succ])
                  go_simp
                  exact hK.out _ _ rfl (rfl)
                refine StepsL.cons0  (by kernel_rfl)  ?_ ?_
                · rintro w1 hS  K hK
                  subst hS
                  (try simp only [Act.put, List.setIfInBounds_toArray, List.set_cons_zero, List.set_cons_succ])
                  go_simp
                  exact hK.out _ _ rfl (rfl)
                refine StepsL.cons0  (by kernel_rfl)  ?_ ?_
                · rintro w1 hS  K hK
                  subst hS
                  (try simp only [Act.put, List.setIfInBounds_toArray, List.set_cons_zero, List.set_cons_succ])
                  go_simp
                  exact hK.out _ _ rfl (rfl)
                refine StepsL.cons2 8 (some 106) 9 (some 107) (by kernel_rfl) rfl rfl ?_ ?_
                · rintro w1 hS _ rfl _ rfl K hK
                  subst hS
                  (try simp only [Act.put, List.setIfInBounds_toArray, List.set_cons_zero, List.set_cons_succ])
                  go_simp
                  exact hK.out _ _ rfl (rfl)
                refine StepsL.cons1 10 (some 108) (by kernel_rfl) rfl ?_ ?_
                · rintro w1 hS _ rfl K hK
                  subst hS
                  (try simp only [Act.put, List.setIfInBounds_toArray, List.set_cons_zero, List.set_cons_succ])
                  go_simp
                  exact hK.out _ _ rfl (rfl)
                refine StepsL.cons1 11 (some 109) (by kernel_rfl) rfl ?_ ?_
                · rintro w1 hS _ rfl K hK
                  subst hS
                  (try simp only [Act.put, List.setIfInBounds_toArray, List.set_cons_zero, List.set_cons_succ])
                  have hx : w6.drew.cell? ⟨(a.add (i * 3)).block, (a.add (i * 3)).off + 2, none⟩ = _ := hcb6
                  go_simp
                  exact hK.out _ _ rfl rfl
                exact StepsL.nil
              · have v7 : vs 7 = .slice (some ⟨q, k * 512, none⟩) 512 512 := hV 7 (by simp)
                have v12 : vs 12 = .slice ao6 m c6 := hV 12 (by simp)
                have hS2 : w' = w6.drew := hS
                subst hS2
                simp only [putl, List.foldl_cons, List.foldl_nil, Act.put, List.setIfInBounds_toArray, List.set_cons_zero, List.set_cons_succ, v7, v12]
                simp only [List.drop_succ_cons, List.drop_zero]
                have p6d := p6.drew
                have hcopy := run_copy28 w6.drew 3 q (k * 512) 512 512 ao6 m c6 o.D HM.out.symm hm512 ⟨hol6.nil, fun a ha j x hx => (hol6.cells a ha j x hx).2⟩ (fun j hj => p6d.wt.thereAt k hkn j (by omega))
                have p5 := p6d.wr (k * 512) (o.D.map c8) (p6d.wt.over k hkn (by unfold updS; rw [if_pos rfl]) o.D hBl)
                clear hV v7 v12 p6 p6d hcw6 hci6 hcb6 hol6 hS
                go_wp2_with fail
                obtain ⟨d5, hd5e⟩ : ∃ d5 : DS, d5 = { d with W := d.W ++ [(k, padd o.D)] } := ⟨_, rfl⟩
                have hf5 : d5.fuse = -1 := by rw [hd5e]; exact hf0
                have hd5 : d5.down = false := by rw [hd5e]; exact hd0
                have hW5 : d5.W.length ≤ i + 1 := by rw [hd5e]; simp; omega
                obtain ⟨V5, hV5e⟩ : ∃ V5, V5 = updS (updS V k zs) k (padd o.D) := ⟨_, rfl⟩
                have HV5 : Hid (V5 = fun i => look (d5.S i) d5.W i) := Lib.hid (by
                  rw [hV5e, HV.out, hd5e]
                  funext j
                  show updS (updS (fun i => look (d.S i) d.W i) k zs) k (padd o.D) j = look (d.S j) (d.W ++ [(k, padd o.D)]) j
                  rw [look_snoc]
                  unfold updS
                  by_cases e : j = k
                  · rw [if_pos e, if_pos e.symm]
                  · rw [if_neg e, if_neg e, if_neg (fun h => e h.symm)])
                rw [← hd5e, ← hV5e] at p5
                clear hd5e hV5e HV hcopy hkn hBl k1 k2 b1 b2 b3
                (try generalize w6.drew.setCells q (k * 512) (o.D.map c8) = w7 at *)
                clear hd0 hf0 hW0
                go_loopg [11] nn (fun gk2 v11 wr2 => ∃ k : Nat, v11 = .int .i64 k ∧ k + gk2 = nn ∧ PR w g b q nn (some a) Os d5 V5 wr2)
                case atStart => exact ⟨0, rfl, by omega, p5⟩
                case round =>
                  clear p5
                  obtain ⟨k, rfl, hk, p6⟩ := hrel
                  have HK2 := Lib.hid hk
                  by_cases hkn : k < nn
                  · have k1 : (0 : Int) ≤ (k : Int) := by omega
                    have k2 : (k : Int) < (nn : Int) := by omega
                    clear hk
                    go_upto_region 12 with (first
                      | (go_at_call 15; (with_reducible refine (readR p6 k hkn hd5 (by omega)).mono ?_); rintro e w8 ⟨r, rfl, hr, p8⟩))
                    have e8 : V5 k = look (d5.S k) d5.W k := by rw [HV5.out]
                    rw [← e8] at hr
                    have hl8 := p8.wt.len k hkn
                    have c1 := conv_rng (w := w8.drew) (b := r) (o := 0) (c := 512) hl8 hr
                    have c2 := conv_rng (w := w8.drew) (b := q) (o := k * 512) (c := 512) hl8 (p8.wt.rng k hkn)
                    clear hr e8 hl8
                    refine region_monoL (fun z => z = w8.drew) (fun w w' => w' = w) (V422 r q nn k (V5 k)) [(0, some 123), (1, some 124), (2, some 125), (3, some 126), (4, some 127), (5, some 128), (6, some 129), (7, some 130), (8, some 131), (9, some 132), (10, some 133), (11, some 134)] (by kernel_rfl) (by kernel_rfl) (by kernel_rfl) (fun _ _ h r => r.trans h) (fun i1 v1 w1 w2 _ h1 r1 => V422_keep r q nn k (V5 k) i1 v1 w1 w2 h1 r1) (rfl) ?_ (fun vs w' hS hV => ?_)
                    · refine StepsL.cons0  (by kernel_rfl)  ?_ ?_
                      · rintro w1 hS  K hK
                        subst hS
                        (try simp only [Act.put, List.setIfInBounds_toArray, List.set_cons_zero, List.set_cons_succ])
                        go_simp
                        exact hK.out _ _ rfl (rfl)
                      refine StepsL.cons1 0 (some 123) (by kernel_rfl) rfl ?_ ?_
                      · rintro w1 hS _ rfl K hK
                        subst hS
                        (try simp only [Act.put, List.setIfInBounds_toArray, List.set_cons_zero, List.set_cons_succ])
                        go_simp
                        exact hK.out _ _ rfl (rfl)
                      refine StepsL.cons1 1 (some 124) (by kernel_rfl) rfl ?_ ?_
                      · rintro w1 hS _ rfl K hK
                        subst hS
                        (try simp only [Act.put, List.setIfInBounds_toArray, List.set_cons_zero, List.set_cons_succ])
                        go_simp
                        exact hK.out _ _ rfl (rfl)
                      refine StepsL.cons1 2 (some 125) (by kernel_rfl) rfl ?_ ?_
                      · rintro w1 hS _ rfl K hK
                        subst hS
                        (try simp only [Act.put, List.setIfInBounds_toArray, List.set_cons_zero, List.set_cons_succ])
                        go_simp
                        exact hK.out _ _ rfl (rfl)
                      refine StepsL.cons2 2 (some 125) 3 (some 126) (by kernel_rfl) rfl rfl ?_ ?_
                      · rintro w1 hS _ rfl _ rfl K hK
                        subst hS
                        (try simp only [Act.put, List.setIfInBounds_toArray, List.set_cons_zero, List.set_cons_succ])
                        have hcv := c1
                        go_simp
                        exact hK.out _ _ rfl rfl
                      refine StepsL.cons1 2 (some 125) (by kernel_rfl) rfl ?_ ?_
                      · rintro w1 hS _ rfl K hK
                        subst hS
                        (try simp only [Act.put, List.setIfInBounds_toArray, List.set_cons_zero, List.set_cons_succ])
                        go_simp
                        exact hK.out _ _ rfl (rfl)
                      refine StepsL.cons1 2 (some 125) (by kernel_rfl) rfl ?_ ?_
                      · rintro w1 hS _ rfl K hK
                        subst hS
                        (try simp only [Act.put, List.setIfInBounds_toArray, List.set_cons_zero, List.set_cons_succ])
                        go_simp
                        exact hK.out _ _ rfl (rfl)
                      refine StepsL.cons3 2 (some 125) 5 (some 128) 6 (some 129) (by kernel_rfl) rfl rfl rfl ?_ ?_
                      · rintro w1 hS _ rfl _ rfl _ rfl K hK
                        subst hS
                        (try simp only [Act.put, List.setIfInBounds_toArray, List.set_cons_zero, List.set_cons_succ])
                        go_simp
                        exact hK.out _ _ rfl (rfl)
                      refine StepsL.cons2 2 (some 125) 7 (some 130) (by kernel_rfl) rfl rfl ?_ ?_
                      · rintro w1 hS _ rfl _ rfl K hK
                        subst hS
                        (try simp only [Act.put, List.setIfInBounds_toArray, List.set_cons_zero, List.set_cons_succ])
                        go_simp
                        exact hK.out _ _ rfl (rfl)
                      refine StepsL.cons2 2 (some 125) 8 (some 131) (by kernel_rfl) rfl rfl ?_ ?_
                      · rintro w1 hS _ rfl _ rfl K hK
                        subst hS
                        (try simp only [Act.put, List.setIfInBounds_toArray, List.set_cons_zero, List.set_cons_succ])
                        have hcv := c2
                        go_simp
                        exact hK.out _ _ rfl rfl
                      refine StepsL.cons3 2 (some 125) 4 (some 127) 9 (some 132) (by kernel_rfl) rfl rfl rfl ?_ ?_
                      · rintro w1 hS _ rfl _ rfl _ rfl K hK
                        subst hS
                        (try simp only [Act.put, List.setIfInBounds_toArray, List.set_cons_zero, List.set_cons_succ])
                        go_simp
                        exact hK.out _ _ rfl (rfl)
                      refine StepsL.cons2 2 (some 125) 10 (some 133) (by kernel_rfl) rfl rfl ?_ ?_
                      · rintro w1 hS _ rfl _ rfl K hK
                        subst hS
                        (try simp only [Act.put, List.setIfInBounds_toArray, List.set_cons_zero, List.set_cons_succ])
                        go_simp
                        exact hK.out _ _ rfl (rfl)
                      exact StepsL.nil
                    · have e11 : vs 11 = .bool false := hV 11 (by simp)
                      have hS2 : w' = w8.drew := hS
                      subst hS2
                      simp only [putl, List.foldl_cons, List.foldl_nil, Act.put, List.setIfInBounds_toArray, List.set_cons_zero, List.set_cons_succ, e11]
                      have p9 := p8.drew
                      clear hV e11 c1 c2 p8
                      go_wp2_with fail
                      go_roundg (gk - 1)
                      case measure => have := HK2.out; omega
                      case rel => exact ⟨k + 1, by simp, by have := HK2.out; omega, p9⟩
                  · have dk2 : decide (k < nn) = false := by simp; omega
                    clear hk
                    go_wp2_with fail
                    go_roundg (ko - 1)
                    case measure => have := HKO.out; have := HI.out; omega
                    case rel => exact ⟨i + 1, d5, by simp, by have := HKO.out; have := HI.out; omega, hf5, hd5, hW5, by rw [← HV5.out]; exact p6⟩
            · rw [he] at W10
              have C10 := Lib.hid W10
              have hbad2 : ¬ (0 ≤ o.I ∧ o.I < nn ∧ m ≤ 512) := by rw [← HM.out]; exact hbad
              obtain ⟨z, hz⟩ : ∃ z, o.I = z := ⟨_, rfl⟩
              rw [hz] at hbad2
              have HZ := Lib.hid hz
              have hcase : (decide (z ≥ 0) = false) ∨ (decide (z ≥ 0) = true ∧ decide (z < (nn : Int)) = false) ∨ (decide (z ≥ 0) = true ∧ decide (z < (nn : Int)) = true ∧ decide ((m : Int) ≤ 512) = false) := by
                by_cases h1 : 0 ≤ z
                · by_cases h2 : z < nn
                  · right; right; simp; omega
                  · right; left; simp; omega
                · left; simp; omega
              clear W10 he hbad hbad2 hz
              rcases hcase with b1 | ⟨b1, b2⟩ | ⟨b1, b2, b3⟩
              all_goals
                go_wp2_with (first
                  | (go_at_call 10; (with_reducible refine C10.out.mono ?_); rintro e w5 ⟨rfl, p5⟩; obtain ⟨hcw5, hci5, ⟨ao5, c5, hdc5, hcb5, hol5⟩, hbw5, hbi5⟩ := (p5.ox.cells a rfl).2 i o HD.out; have hci5 : w5.cell? ⟨(a.add (i * 3)).block, (a.add (i * 3)).off + 1, none⟩ = some (.int .i64 o.I) := hci5; have hcb5 : w5.cell? ⟨(a.add (i * 3)).block, (a.add (i * 3)).off + 2, none⟩ = some (.slice ao5 o.D.length c5) := hcb5; rw [HM.out] at hcb5 hdc5; rw [HZ.out] at hci5))
                obtain ⟨d5, hd5e⟩ : ∃ d5 : DS, d5 = d := ⟨_, rfl⟩
                have hf5 : d5.fuse = -1 := by rw [hd5e]; exact hf0
                have hd5 : d5.down = false := by rw [hd5e]; exact hd0
                have hW5 : d5.W.length ≤ i + 1 := by rw [hd5e]; omega
                obtain ⟨V5, hV5e⟩ : ∃ V5, V5 = V := ⟨_, rfl⟩
                have HV5 : Hid (V5 = fun i => look (d5.S i) d5.W i) := Lib.hid (by rw [hV5e, HV.out, hd5e])
                rw [← hd5e, ← hV5e] at p5
                clear hd5e hV5e HV hcw5 hci5 hcb5 hol5 p
                clear hd0 hf0 hW0
                go_loopg [11] nn (fun gk2 v11 wr2 => ∃ k : Nat, v11 = .int .i64 k ∧ k + gk2 = nn ∧ PR w g b q nn (some a) Os d5 V5 wr2)
                case atStart => exact ⟨0, rfl, by omega, p5⟩
                case round =>
                  clear p5
                  obtain ⟨k, rfl, hk, p6⟩ := hrel
                  have HK2 := Lib.hid hk
                  by_cases hkn : k < nn
                  · have k1 : (0 : Int) ≤ (k : Int) := by omega
                    have k2 : (k : Int) < (nn : Int) := by omega
                    clear hk
                    go_upto_region 12 with (first
                      | (go_at_call 15; (with_reducible refine (readR p6 k hkn hd5 (by omega)).mono ?_); rintro e w8 ⟨r, rfl, hr, p8⟩))
                    have e8 : V5 k = look (d5.S k) d5.W k := by rw [HV5.out]
                    rw [← e8] at hr
                    have hl8 := p8.wt.len k hkn
                    have c1 := conv_rng (w := w8.drew) (b := r) (o := 0) (c := 512) hl8 hr
                    have c2 := conv_rng (w := w8.drew) (b := q) (o := k * 512) (c := 512) hl8 (p8.wt.rng k hkn)
                    clear hr e8 hl8
                    refine region_monoL (fun z => z = w8.drew) (fun w w' => w' = w) (V422 r q nn k (V5 k)) [(0, some 123), (1, some 124), (2, some 125), (3, some 126), (4, some 127), (5, some 128), (6, some 129), (7, some 130), (8, some 131), (9, some 132), (10, some 133), (11, some 134)] (by kernel_rfl) (by kernel_rfl) (by kernel_rfl) (fun _ _ h r => r.trans h) (fun i1 v1 w1 w2 _ h1 r1 => V422_keep r q nn k (V5 k) i1 v1 w1 w2 h1 r1) (rfl) ?_ (fun vs w' hS hV => ?_)
                    · refine StepsL.cons0  (by kernel_rfl)  ?_ ?_
                      · rintro w1 hS  K hK
                        subst hS
                        (try simp only [Act.put, List.setIfInBounds_toArray, List.set_cons_zero, List.set_cons_succ])
                        go_simp
                        exact hK.out _ _ rfl (rfl)
                      refine StepsL.cons1 0 (some 123) (by kernel_rfl) rfl ?_ ?_
                      · rintro w1 hS _ rfl K hK
                        subst hS
                        (try simp only [Act.put, List.setIfInBounds_toArray, List.set_cons_zero, List.set_cons_succ])
                        go_simp
                        exact hK.out _ _ rfl (rfl)
                      refine StepsL.cons1 1 (some 124) (by kernel_rfl) rfl ?_ ?_
                      · rintro w1 hS _ rfl K hK
                        subst hS
                        (try simp only [Act.put, List.setIfInBounds_toArray, List.set_cons_zero, List.set_cons_succ])
                        go_simp
                        exact hK.out _ _ rfl (rfl)
                      refine StepsL.cons1 2 (some 125) (by kernel_rfl) rfl ?_ ?_
                      · rintro w1 hS _ rfl K hK
                        subst hS
                        (try simp only [Act.put, List.setIfInBounds_toArray, List.set_cons_zero, List.set_cons_succ])
                        go_simp
                        exact hK.out _ _ rfl (rfl)
                      refine StepsL.cons2 2 (some 125) 3 (some 126) (by kernel_rfl) rfl rfl ?_ ?_
                      · rintro w1 hS _ rfl _ rfl K hK
                        subst hS
                        (try simp only [Act.put, List.setIfInBounds_toArray, List.set_cons_zero, List.set_cons_succ])
                        have hcv := c1
                        go_simp
                        exact hK.out _ _ rfl rfl
                      refine StepsL.cons1 2 (some 125) (by kernel_rfl) rfl ?_ ?_
                      · rintro w1 hS _ rfl K hK
                        subst hS
                        (try simp only [Act.put, List.setIfInBounds_toArray, List.set_cons_zero, List.set_cons_succ])
                        go_simp
                        exact hK.out _ _ rfl (rfl)
                      refine StepsL.cons1 2 (some 125) (by kernel_rfl) rfl ?_ ?_
                      · rintro w1 hS _ rfl K hK
                        subst hS
                        (try simp only [Act.put, List.setIfInBounds_toArray, List.set_cons_zero, List.set_cons_succ])
                        go_simp
                        exact hK.out _ _ rfl (rfl)
                      refine StepsL.cons3 2 (some 125) 5 (some 128) 6 (some 129) (by kernel_rfl) rfl rfl rfl ?_ ?_
                      · rintro w1 hS _ rfl _ rfl _ rfl K hK
                        subst hS
                        (try simp only [Act.put, List.setIfInBounds_toArray, List.set_cons_zero, List.set_cons_succ])
                        go_simp
                        exact hK.out _ _ rfl (rfl)
                      refine StepsL.cons2 2 (some 125) 7 (some 130) (by kernel_rfl) rfl rfl ?_ ?_
                      · rintro w1 hS _ rfl _ rfl K hK
                        subst hS
                        (try simp only [Act.put, List.setIfInBounds_toArray, List.set_cons_zero, List.set_cons_succ])
                        go_simp
                        exact hK.out _ _ rfl (rfl)
                      refine StepsL.cons2 2 (some 125) 8 (some 131) (by kernel_rfl) rfl rfl ?_ ?_
                      · rintro w1 hS _ rfl _ rfl K hK
                        subst hS
                        (try simp only [Act.put, List.setIfInBounds_toArray, List.set_cons_zero, List.set_cons_succ])
                        have hcv := c2
                        go_simp
                        exact hK.out _ _ rfl rfl
                      refine StepsL.cons3 2 (some 125) 4 (some 127) 9 (some 132) (by kernel_rfl) rfl rfl rfl ?_ ?_
                      · rintro w1 hS _ rfl _ rfl _ rfl K hK
                        subst hS
                        (try simp only [Act.put, List.setIfInBounds_toArray, List.set_cons_zero, List.set_cons_succ])
                        go_simp
                        exact hK.out _ _ rfl (rfl)
                      refine StepsL.cons2 2 (some 125) 10 (some 133) (by kernel_rfl) rfl rfl ?_ ?_
                      · rintro w1 hS _ rfl _ rfl K hK
                        subst hS
                        (try simp only [Act.put, List.setIfInBounds_toArray, List.set_cons_zero, List.set_cons_succ])
                        go_simp
                        exact hK.out _ _ rfl (rfl)
                      exact StepsL.nil
                    · have e11 : vs 11 = .bool false := hV 11 (by simp)
                      have hS2 : w' = w8.drew := hS
                      subst hS2
                      simp only [putl, List.foldl_cons, List.foldl_nil, Act.put, List.setIfInBounds_toArray, List.set_cons_zero, List.set_cons_succ, e11]
                      have p9 := p8.drew
                      clear hV e11 c1 c2 p8
                      go_wp2_with fail
                      go_roundg (gk - 1)
                      case measure => have := HK2.out; omega
                      case rel => exact ⟨k + 1, by simp, by have := HK2.out; omega, p9⟩
                  · have dk2 : decide (k < nn) = false := by simp; omega
                    clear hk
                    go_wp2_with fail
                    go_roundg (ko - 1)
                    case measure => have := HKO.out; have := HI.out; omega
                    case rel => exact ⟨i + 1, d5, by simp, by have := HKO.out; have := HI.out; omega, hf5, hd5, hW5, by rw [← HV5.out]; exact p6⟩
      · have hd3 : decide (i < nl) = false := by simp; omega
        go_wp2_with fail
        go_ret
        exact ⟨rfl, p.k⟩
end Go.Proofs.Ytklndocfgbbegaa
