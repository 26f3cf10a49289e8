/- DiskLasts, walked. -/
import Derived.Test.YtklndocfgbbegaaK4
namespace Go.Proofs.Ytklndocfgbbegaa
open Go.ChangeShapes Go.WideShapes Go.ChangeAt Go.RowKit
set_option linter.unusedSimpArgs false
set_option linter.unusedVariables false
theorem over_look (d : DS) (k : Nat) (B : Sct) : updS (updS (fun i => look (d.S i) d.W i) k zs) k (padd B) = fun i => look (d.S i) (d.W ++ [(k, padd B)]) i := by
  funext j
  rw [look_snoc]
  unfold updS
  by_cases e : j = k
  · rw [if_pos e, if_pos e.symm]
  · rw [if_neg e, if_neg e, if_neg (fun h => e h.symm)]
theorem over_look2 (d : DS) (k : Nat) (B : Sct) (nt : Nat) (h : d.W.length < nt) : updS (updS (fun i => look (d.S i) (d.W.take nt) i) k zs) k (padd B) = fun i => look (d.S i) ((d.W ++ [(k, padd B)]).take nt) i := by
  rw [List.take_of_length_le (by omega), List.take_of_length_le (by simp; omega)]
  exact over_look d k B
theorem over_look3 (d : DS) (k : Nat) (B : Sct) (nt : Nat) (h : nt ≤ d.W.length) : (fun i => look (d.S i) (d.W.take nt) i) = fun i => look (d.S i) ((d.W ++ [(k, padd B)]).take nt) i := by
  rw [List.take_append_of_le_length h]
theorem PR.re {w0 w : World} {g b q n : Nat} {lo lo' : Option Addr} {Os Os' : List Opn} {d : DS} {V : Nat → Sct} (p : PR w0 g b q n lo Os d V w) (h : Opl w0.heap.size w0 lo' Os') : PR w0 g b q n lo' Os' d V w :=
  ⟨p.dk, p.wt, h.below p.k (Nat.le_refl _), p.k, p.o1, p.o2, p.qg, p.qb⟩
theorem crashR {w0 w : World} {g b q n : Nat} {lo : Option Addr} {Os : List Opn} {d : DS} {V : Nat → Sct} (p : PR w0 g b q n lo Os d V w) (z : Int) : Calls Try.prog 16 #[.pointer (some ⟨g, 0, none⟩), .int .i64 z] w fun e w' => e = .returned (.tuple #[]) ∧ PR w0 g b q n lo Os (crashed d z) V w' :=
  (crash16 _ w g b n d p.dk p.hA z).mono fun e w' ⟨h1, h2, h3⟩ => ⟨h1, p.frm h3 h2⟩
def V537 (qi q n k t kp tp ni ci : Nat) (D : Sct) : Nat → Value → World → Prop
  | 0, v, w => v = .slice (some ⟨qi, 0, none⟩) ni ci
  | 1, v, w => v = .int .i64 (k : Nat)
  | 2, v, w => v = .int .i64 (t : Nat)
  | 3, v, w => v = .int .i64 (k : Nat)
  | 4, v, w => v = .int .i64 (kp : Nat)
  | 5, v, w => v = .int .i64 (tp : Nat)
  | 6, v, w => v = .slice (some ⟨qi, t, none⟩) 512 (ci - t)
  | 7, v, w => v = .string (strOf D)
  | 8, v, w => v = .slice (some ⟨q, 0, none⟩) n n
  | 9, v, w => v = .int .i64 (k : Nat)
  | 10, v, w => v = .pointer (some ⟨q, k * 512, none⟩)
  | 11, v, w => v = .slice (some ⟨q, k * 512, none⟩) 512 512
  | 12, v, w => v = .string (strOf D)
  | 13, v, w => v = .bool false
  | _, _, _ => True
theorem V537_keep (qi q n k t kp tp ni ci : Nat) (D : Sct) (i1 : Nat) (v' : Value) (w w' : World) (h : V537 qi q n k t kp tp ni ci D i1 v' w) (hr9 : (fun w w' => w' = w) w w') : V537 qi q n k t kp tp ni ci D i1 v' w' := by subst hr9; exact h
set_option maxRecDepth 4000 in
set_option maxHeartbeats 4000000 in
theorem lasts5 (Os Os2 : List Opn) (lo lo2 : Option Addr) (nm nl lc nl2 lc2 nt : Nat) (w : World) (hnm : nm < 256) (hnt : nt < 256) (hn : nl = Os.length) (hn2 : nl2 = Os2.length) (hL : Opl w.heap.size w lo Os) (hL2 : Opl w.heap.size w lo2 Os2) :
    Calls Try.prog 5 #[.int .u8 nm, .slice lo nl lc, .slice lo2 nl2 lc2, .int .u8 nt] w fun e w' => e = .returned (.bool true) ∧ Below w.heap.size w w' := by
  obtain ⟨m9, hm9⟩ : ∃ m, m = nm % 9 := ⟨_, rfl⟩
  obtain ⟨nn, hnn⟩ : ∃ n, n = 1 + m9 := ⟨_, rfl⟩
  have f1 : (nm : Int) % 9 = (m9 : Int) := by omega
  have f2 : (nm : Int).tmod 9 = (m9 : Int) := by rw [Int.tmod_eq_emod_of_nonneg (by omega)]; omega
  have f3 : IntKind.u8.wrap (m9 : Int) = (m9 : Int) := IntWalk.u8_in _ (by omega)
  have f4 : IntKind.i64.wrap (m9 : Int) = (m9 : Int) := IntWalk.i64_in _ (by omega)
  have f5 : (1 : Int) + (m9 : Int) = (nn : Int) := by omega
  have f6 : IntKind.i64.wrap (nn : Int) = (nn : Int) := IntWalk.i64_in _ (by omega)
  have f7 : IntKind.i64.wrap (nt : Int) = (nt : Int) := IntWalk.i64_in _ (by omega)
  have hnb : 1 ≤ nn ∧ nn ≤ 9 := by omega
  obtain ⟨n5, hn5⟩ : ∃ n5, n5 = nn * 512 := ⟨_, rfl⟩
  have f8 : (512 : Int) * (nn : Int) = (n5 : Int) := by omega
  have f9 : IntKind.i64.wrap (n5 : Int) = (n5 : Int) := IntWalk.i64_in _ (by omega)
  have HN5 := Lib.hid hn5
  have N8 : Hid (∀ w, Calls Try.prog 8 #[.int .i64 (nn : Int)] w fun e w' => ∃ g b, e = .returned (.pointer (some ⟨g, 0, none⟩)) ∧ w.heap.size ≤ b ∧ (∀ A, Dk A w' g b nn d0) ∧ Below w.heap.size w w') := Lib.hid (fun w => new8 nn w (by omega))
  obtain ⟨gr, hgr⟩ : ∃ r, grt Os = r := ⟨_, rfl⟩
  obtain ⟨gr2, hgr2⟩ : ∃ r, grt Os2 = r := ⟨_, rfl⟩
  have G13 : Hid (∀ x, Below w.heap.size w x → Calls Try.prog 13 #[.slice lo nl lc] x fun e w' => e = .returned (.bool gr) ∧ w' = x) := Lib.hid (fun x hx => hgr ▸ great13 Os lo nl lc w.heap.size x hn (hL.below hx (Nat.le_refl _)))
  have G14 : Hid (∀ x, Below w.heap.size w x → Calls Try.prog 13 #[.slice lo2 nl2 lc2] x fun e w' => e = .returned (.bool gr2) ∧ w' = x) := Lib.hid (fun x hx => hgr2 ▸ great13 Os2 lo2 nl2 lc2 w.heap.size x hn2 (hL2.below hx (Nat.le_refl _)))
  have HG := Lib.hid hgr
  have HG2 := Lib.hid hgr2
  have HL := Lib.hid hn
  have HL2 := Lib.hid hn2
  obtain ⟨i0, hi37, hz0, hz1, hz2⟩ := info_parts info37
  have I37 := Lib.hid (And.intro hi37 (And.intro hz0 (And.intro hz1 hz2)))
  clear hm9 hnn hgr hgr2 hn hn2 hi37 hz0 hz1 hz2 hn5
  go_enter Try.func5, Try.ntmps5
  cases gr with
  | true =>
    go_wp2_with (first
      | (go_at_call 7; (with_reducible refine (head7 _).mono ?_); rintro e w1 ⟨rfl, b1⟩)
      | (go_at_call 8; (with_reducible refine (N8.out _).mono ?_); rintro e w2 ⟨g, b, rfl, hgb, hD, b2⟩)
      | (go_at_call 13; (with_reducible refine (G13.out _ ?hx).mono ?_); (case hx => exact b1.trans (b2.mono b1.size)); rintro e w3 ⟨rfl, rfl⟩))
    go_ret
    exact ⟨rfl, b1.trans (b2.mono b1.size)⟩
  | false =>
  cases gr2 with
  | true =>
    go_wp2_with (first
      | (go_at_call 7; (with_reducible refine (head7 _).mono ?_); rintro e w1 ⟨rfl, b1⟩)
      | (go_at_call 8; (with_reducible refine (N8.out _).mono ?_); rintro e w2 ⟨g, b, rfl, hgb, hD, b2⟩)
      | (go_at_call 13; (with_reducible refine (G13.out _ ?hx).mono ?_); (case hx => exact b1.trans (b2.mono b1.size)); rintro e w3 ⟨rfl, rfl⟩)
      | (go_at_call 13; (with_reducible refine (G14.out _ ?hx).mono ?_); (case hx => exact b1.trans (b2.mono b1.size)); rintro e w3 ⟨rfl, rfl⟩))
    go_ret
    exact ⟨rfl, b1.trans (b2.mono b1.size)⟩
  | false =>
    have hlen := grt_len HG.out
    have hlen2 := grt_len HG2.out
    have hnl : nl ≤ 333 := by have := HL.out; omega
    have hnl2 : nl2 ≤ 333 := by have := HL2.out; omega
    go_wp2_with (first
      | (go_at_call 7; (with_reducible refine (head7 _).mono ?_); rintro e w1 ⟨rfl, b1⟩)
      | (go_at_call 8; (with_reducible refine (N8.out _).mono ?_); rintro e w2 ⟨g, b, rfl, hgb, hD, b2⟩)
      | (go_at_call 13; (with_reducible refine (G13.out _ ?hx).mono ?_); (case hx => exact b1.trans (b2.mono b1.size)); rintro e w3 ⟨rfl, rfl⟩)
      | (go_at_call 13; (with_reducible refine (G14.out _ ?hx).mono ?_); (case hx => exact b1.trans (b2.mono b1.size)); rintro e w3 ⟨rfl, rfl⟩)
      | (at_make; refine wpList_make_full _ rfl (.tmp 42) (.tmp 42) 33 rfl w3.heap.size 37 i0 _ 512 Try.underlying33 I37.out.1 I37.out.2.1 I37.out.2.2.1 .i64 .i64 nn nn nn rfl rfl rfl rfl ?m1 ?m2 ?m3 ?_; (case m1 => rw [I37.out.2.2.2]; omega); (case m2 => unfold maxLen; omega); (case m3 => exact Nat.le_refl _); intro w4 o4 g4))
    have hD0 := hD (AQ w w3.heap.size)
    have b4 : Below w3.heap.size w3 w4 := ⟨g4.os, g4.tape, g4.output, g4.size, fun k hk => g4.block k hk (by simp)⟩
    have hsec := sec_made37 o4
    have p0 : PR w g b w3.heap.size nn lo Os d0 (fun i => look (d0.S i) d0.W i) w4 := by
      have h1 := b1.size
      have h2 := b2.size
      have hlt := hD0.lt
      have hltb := hD0.sec.lt
      have hb := b1.trans (b2.mono h1)
      exact ⟨hD0.below b4, hsec, (hL.below hb (Nat.le_refl _)).below b4 (by omega), hb.trans (b4.mono (by omega)), by omega, by omega, by omega, by omega⟩
    obtain ⟨q, hq⟩ : ∃ q, w3.heap.size = q := ⟨_, rfl⟩
    rw [hq] at p0 ⊢
    obtain ⟨ds, hds⟩ : ∃ ds, ds = d0 := ⟨_, rfl⟩
    have hfs : ds.fuse = -1 ∧ ds.down = false ∧ ds.W.length = 0 := by rw [hds]; exact ⟨rfl, rfl, rfl⟩
    rw [← hds] at p0
    clear hq hds hD hD0 b4 hsec o4 g4 b1 b2 hgb hL
    go_loopg [13] nl (fun gk v wr => ∃ (i : Nat) (d : DS), v = .int .i64 i ∧ i + gk = nl ∧ d.fuse = -1 ∧ d.down = false ∧ d.W.length ≤ i ∧ PR w g b q nn lo Os d (fun i => look (d.S i) d.W i) wr)
    case atStart => exact ⟨0, ds, rfl, by omega, hfs.1, hfs.2.1, by omega, p0⟩
    case round =>
      clear p0 hfs
      obtain ⟨i, d, rfl, hi, hf0, hd0, hW0, p⟩ := hrel
      obtain ⟨ko, hko⟩ : ∃ ko, ko = gk := ⟨_, rfl⟩
      have HKO := Lib.hid hko
      have HI := Lib.hid hi
      clear hko hi
      obtain ⟨V, hV⟩ : ∃ V : Nat → Sct, V = fun i => look (d.S i) d.W i := ⟨_, rfl⟩
      rw [← hV] at p
      have HV := Lib.hid hV
      clear hV
      by_cases hin : i < nl
      · have hlo2 : True := trivial
        have q0 : (0 : Int) ≤ (i : Int) := by omega
        have q1 : (i : Int) < (nl : Int) := by omega
        obtain ⟨a, rfl⟩ : ∃ a, lo = some a := by
          cases lo with
          | none => have e1 := p.ox.nil rfl; have := HL.out; rw [e1] at this; simp at this; omega
          | some a => exact ⟨a, rfl⟩
        obtain ⟨o, hD⟩ : ∃ o, Os[i]? = some o := ⟨Os[i]'(by rw [← HL.out]; exact hin), List.getElem?_eq_getElem _⟩
        have HD := Lib.hid hD
        obtain ⟨m, hm⟩ : ∃ m, o.D.length = m := ⟨_, rfl⟩
        have HM := Lib.hid hm
        clear hD hm
        obtain ⟨hcw0, hci0, ⟨ao0, c0, hdc0, hcb0, hol0⟩, hbw0, hbi0⟩ := (p.ox.cells a rfl).2 i o HD.out
        have hci0 : wr.cell? ⟨(a.add (i * 3)).block, (a.add (i * 3)).off + 1, none⟩ = some (.int .i64 o.I) := hci0
        have hcb0 : wr.cell? ⟨(a.add (i * 3)).block, (a.add (i * 3)).off + 2, none⟩ = some (.slice ao0 o.D.length c0) := hcb0
        rw [HM.out] at hcb0 hdc0
        have W10 := writeR p.drew o.I ao0 m c0 o.D HM.out.symm (Olz.keep hol0 (fun k hk => rfl)) (by omega)
        go_upto_region 10 with fail
        refine region_monoT 11 (fun z => z = wr.drew) (fun w w' => w' = w) (V412 g nl lc i m c0 a ao0 o.I) [(0, some 50), (1, some 51), (2, some 52), (3, some 53), (4, some 54), (5, some 55), (6, some 56), (7, some 57), (8, some 58), (9, some 59), (10, some 60)] (by kernel_rfl) (by kernel_rfl) (by kernel_rfl) (by kernel_rfl) (fun _ _ h r => r.trans h) (fun i1 v1 w1 w2 _ h1 r1 => V412_keep g nl lc i m c0 a ao0 o.I i1 v1 w1 w2 h1 r1) (rfl) ?_ (fun vs w' hS hV => ?_)
        · refine StepsL.cons0  (by kernel_rfl)  ?_ ?_
          · rintro w1 hS  K hK
            subst hS
            (try simp only [Act.put, List.setIfInBounds_toArray, List.set_cons_zero, List.set_cons_succ])
            go_simp
            exact hK.out _ _ rfl (rfl)
          refine StepsL.cons0  (by kernel_rfl)  ?_ ?_
          · rintro w1 hS  K hK
            subst hS
            (try simp only [Act.put, List.setIfInBounds_toArray, List.set_cons_zero, List.set_cons_succ])
            go_simp
            exact hK.out _ _ rfl (rfl)
          refine StepsL.cons0  (by kernel_rfl)  ?_ ?_
          · rintro w1 hS  K hK
            subst hS
            (try simp only [Act.put, List.setIfInBounds_toArray, List.set_cons_zero, List.set_cons_succ])
            go_simp
            exact hK.out _ _ rfl (rfl)
          refine StepsL.cons2 1 (some 51) 2 (some 52) (by kernel_rfl) rfl rfl ?_ ?_
          · rintro w1 hS _ rfl _ rfl K hK
            subst hS
            (try simp only [Act.put, List.setIfInBounds_toArray, List.set_cons_zero, List.set_cons_succ])
            go_simp
            exact hK.out _ _ rfl (rfl)
          refine StepsL.cons1 3 (some 53) (by kernel_rfl) rfl ?_ ?_
          · rintro w1 hS _ rfl K hK
            subst hS
            (try simp only [Act.put, List.setIfInBounds_toArray, List.set_cons_zero, List.set_cons_succ])
            go_simp
            exact hK.out _ _ rfl (rfl)
          refine StepsL.cons1 4 (some 54) (by kernel_rfl) rfl ?_ ?_
          · rintro w1 hS _ rfl K hK
            subst hS
            (try simp only [Act.put, List.setIfInBounds_toArray, List.set_cons_zero, List.set_cons_succ])
            have hx : wr.drew.cell? ⟨(a.add (i * 3)).block, (a.add (i * 3)).off + 1, none⟩ = _ := hci0
            go_simp
            exact hK.out _ _ rfl rfl
          refine StepsL.cons0  (by kernel_rfl)  ?_ ?_
          · rintro w1 hS  K hK
            subst hS
            (try simp only [Act.put, List.setIfInBounds_toArray, List.set_cons_zero, List.set_cons_succ])
            go_simp
            exact hK.out _ _ rfl (rfl)
          refine StepsL.cons0  (by kernel_rfl)  ?_ ?_
          · rintro w1 hS  K hK
            subst hS
            (try simp only [Act.put, List.setIfInBounds_toArray, List.set_cons_zero, List.set_cons_succ])
            go_simp
            exact hK.out _ _ rfl (rfl)
          refine StepsL.cons2 6 (some 56) 7 (some 57) (by kernel_rfl) rfl rfl ?_ ?_
          · rintro w1 hS _ rfl _ rfl K hK
            subst hS
            (try simp only [Act.put, List.setIfInBounds_toArray, List.set_cons_zero, List.set_cons_succ])
            go_simp
            exact hK.out _ _ rfl (rfl)
          refine StepsL.cons1 8 (some 58) (by kernel_rfl) rfl ?_ ?_
          · rintro w1 hS _ rfl K hK
            subst hS
            (try simp only [Act.put, List.setIfInBounds_toArray, List.set_cons_zero, List.set_cons_succ])
            go_simp
            exact hK.out _ _ rfl (rfl)
          refine StepsL.cons1 9 (some 59) (by kernel_rfl) rfl ?_ ?_
          · rintro w1 hS _ rfl K hK
            subst hS
            (try simp only [Act.put, List.setIfInBounds_toArray, List.set_cons_zero, List.set_cons_succ])
            have hx : wr.drew.cell? ⟨(a.add (i * 3)).block, (a.add (i * 3)).off + 2, none⟩ = _ := hcb0
            go_simp
            exact hK.out _ _ rfl rfl
          exact StepsL.nil
        · have v0 : vs 0 = .pointer (some ⟨g, 0, none⟩) := hV 0 (by simp)
          have v5 : vs 5 = .int .i64 o.I := hV 5 (by simp)
          have v10 : vs 10 = .slice ao0 m c0 := hV 10 (by simp)
          have hS2 : w' = wr.drew := hS
          subst hS2
          simp only [putl, List.foldl_cons, List.foldl_nil, Act.put, List.setIfInBounds_toArray, List.set_cons_zero, List.set_cons_succ, v0, v5, v10]
          simp only [List.drop_succ_cons, List.drop_zero]
          clear hV v0 v5 v10 hcw0 hci0 hcb0 hol0 hS
          rcases wrote_up nn d o.I o.D hd0 hf0 with ⟨hok, he⟩ | ⟨hbad, he⟩
          · rw [he] at W10
            have C10 := Lib.hid W10
            obtain ⟨k, hk⟩ : ∃ k : Nat, o.I = (k : Int) := ⟨o.I.toNat, by omega⟩
            have hkn : k < nn := by omega
            have hm512 : m ≤ 512 := by rw [← HM.out]; exact hok.2.2
            have hBl := hok.2.2
            have hkt : o.I.toNat = k := by omega
            rw [hkt] at C10
            have HOK := Lib.hid hk
            have b1 : decide ((k : Int) ≥ 0) = true := by simp
            have b2 : decide ((k : Int) < (nn : Int)) = true := by simp; omega
            have b3 : decide ((m : Int) ≤ 512) = true := by simp; omega
            have k1 : (0 : Int) ≤ (k : Int) := by omega
            have k2 : (k : Int) < (nn : Int) := by omega
            have hz37 := zero37
            clear W10 he hok hkt hk
            go_upto_region 15 with (first
              | (go_at_call 10; (with_reducible refine C10.out.mono ?_); rintro e w5 ⟨rfl, p5⟩; obtain ⟨hcw5, hci5, ⟨ao5, c5, hdc5, hcb5, hol5⟩, hbw5, hbi5⟩ := (p5.ox.cells a rfl).2 i o HD.out; have hci5 : w5.cell? ⟨(a.add (i * 3)).block, (a.add (i * 3)).off + 1, none⟩ = some (.int .i64 o.I) := hci5; have hcb5 : w5.cell? ⟨(a.add (i * 3)).block, (a.add (i * 3)).off + 2, none⟩ = some (.slice ao5 o.D.length c5) := hcb5; rw [HM.out] at hcb5 hdc5; rw [HOK.out] at hci5; have ht5 := p5.wt.thereAt k hkn)
              | (with_reducible refine store37m rfl (.tmp 98) (.tmp 97) rfl q (k * 512) zs rfl rfl zs_len ht5 ?_))
            have p6 := p5.wr (k * 512) (zs.map c8) (p5.wt.set k hkn zs zs_len)
            obtain ⟨w6, hw6⟩ : ∃ w6, w5.setCells q (k * 512) (zs.map c8) = w6 := ⟨_, rfl⟩
            rw [hw6] at p6
            (try rw [hw6])
            clear hw6 ht5 hcw5 hci5 hcb5 hol5 p5 p
            (try simp only [Act.put])
            obtain ⟨hcw6, hci6, ⟨ao6, c6, hdc6, hcb6, hol6⟩, hbw6, hbi6⟩ := (p6.ox.cells a rfl).2 i o HD.out
            have hci6 : w6.cell? ⟨(a.add (i * 3)).block, (a.add (i * 3)).off + 1, none⟩ = some (.int .i64 o.I) := hci6
            have hcb6 : w6.cell? ⟨(a.add (i * 3)).block, (a.add (i * 3)).off + 2, none⟩ = some (.slice ao6 o.D.length c6) := hcb6
            rw [HM.out] at hcb6 hdc6
            rw [HOK.out] at hci6
            refine region_monoT 13 (fun z => z = w6.drew) (fun w w' => w' = w) (V417 q nn k nl lc i m c6 a ao6) [(0, some 99), (1, some 100), (2, some 101), (3, some 102), (4, some 103), (5, some 104), (6, some 105), (7, some 106), (8, some 107), (9, some 108), (10, some 109), (11, some 110), (12, some 111)] (by kernel_rfl) (by kernel_rfl) (by kernel_rfl) (by kernel_rfl) (fun _ _ h r => r.trans h) (fun i1 v1 w1 w2 _ h1 r1 => V417_keep q nn k nl lc i m c6 a ao6 i1 v1 w1 w2 h1 r1) (rfl) ?_ (fun vs w' hS hV => ?_)
            · refine StepsL.cons0  (by kernel_rfl)  ?_ ?_
              · rintro w1 hS  K hK
                subst hS
                (try simp only [Act.put, List.setIfInBounds_toArray, List.set_cons_zero, List.set_cons_succ])
                go_simp
                exact hK.out _ _ rfl (rfl)
              refine StepsL.cons0  (by kernel_rfl)  ?_ ?_
              · rintro w1 hS  K hK
                subst hS
                (try simp only [Act.put, List.setIfInBounds_toArray, List.set_cons_zero, List.set_cons_succ])
                go_simp
                exact hK.out _ _ rfl (rfl)
              refine StepsL.cons0  (by kernel_rfl)  ?_ ?_
              · rintro w1 hS  K hK
                subst hS
                (try simp only [Act.put, List.setIfInBounds_toArray, List.set_cons_zero, List.set_cons_succ])
                go_simp
                exact hK.out _ _ rfl (rfl)
              refine StepsL.cons2 1 (some 100) 2 (some 101) (by kernel_rfl) rfl rfl ?_ ?_
              · rintro w1 hS _ rfl _ rfl K hK
                subst hS
                (try simp only [Act.put, List.setIfInBounds_toArray, List.set_cons_zero, List.set_cons_succ])
                go_simp
                exact hK.out _ _ rfl (rfl)
              refine StepsL.cons1 3 (some 102) (by kernel_rfl) rfl ?_ ?_
              · rintro w1 hS _ rfl K hK
                subst hS
                (try simp only [Act.put, List.setIfInBounds_toArray, List.set_cons_zero, List.set_cons_succ])
                go_simp
                exact hK.out _ _ rfl (rfl)
              refine StepsL.cons1 4 (some 103) (by kernel_rfl) rfl ?_ ?_
              · rintro w1 hS _ rfl K hK
                subst hS
                (try simp only [Act.put, List.setIfInBounds_toArray, List.set_cons_zero, List.set_cons_succ])
                have hx : w6.drew.cell? ⟨(a.add (i * 3)).block, (a.add (i * 3)).off + 1, none⟩ = _ := hci6
                go_simp
                exact hK.out _ _ rfl rfl
              refine StepsL.cons2 0 (some 99) 5 (some 104) (by kernel_rfl) rfl rfl ?_ ?_
              · rintro w1 hS _ rfl _ rfl K hK
                subst hS
                (try simp only [Act.put, List.setIfInBounds_toArray, List.set_cons_zero, List.set_cons_succ])
                go_simp
                exact hK.out _ _ rfl (rfl)
              refine StepsL.cons1 6 (some 105) (by kernel_rfl) rfl ?_ ?_
              · rintro w1 hS _ rfl K hK
                subst hS
                (try simp only [Act.put, List.setIfInBounds_toArray, List.set_cons_zero, List.set_cons_succ])
                go_simp
                exact hK.out _ _ rfl (rfl)
              refine StepsL.cons0  (by kernel_rfl)  ?_ ?_
              · rintro w1 hS  K hK
                subst hS
                (try simp only [Act.put, List.setIfInBounds_toArray, List.set_cons_zero, List.set_cons_succ])
                go_simp
                exact hK.out _ _ rfl (rfl)
              refine StepsL.cons0  (by kernel_rfl)  ?_ ?_
              · rintro w1 hS  K hK
                subst hS
                (try simp only [Act.put, List.setIfInBounds_toArray, List.set_cons_zero, List.set_cons_succ])
                go_simp
                exact hK.out _ _ rfl (rfl)
              refine StepsL.cons2 8 (some 107) 9 (some 108) (by kernel_rfl) rfl rfl ?_ ?_
              · rintro w1 hS _ rfl _ rfl K hK
                subst hS
                (try simp only [Act.put, List.setIfInBounds_toArray, List.set_cons_zero, List.set_cons_succ])
                go_simp
                exact hK.out _ _ rfl (rfl)
              refine StepsL.cons1 10 (some 109) (by kernel_rfl) rfl ?_ ?_
              · rintro w1 hS _ rfl K hK
                subst hS
                (try simp only [Act.put, List.setIfInBounds_toArray, List.set_cons_zero, List.set_cons_succ])
                go_simp
                exact hK.out _ _ rfl (rfl)
              refine StepsL.cons1 11 (some 110) (by kernel_rfl) rfl ?_ ?_
              · rintro w1 hS _ rfl K hK
                subst hS
                (try simp only [Act.put, List.setIfInBounds_toArray, List.set_cons_zero, List.set_cons_succ])
                have hx : w6.drew.cell? ⟨(a.add (i * 3)).block, (a.add (i * 3)).off + 2, none⟩ = _ := hcb6
                go_simp
                exact hK.out _ _ rfl rfl
              exact StepsL.nil
            · have v7 : vs 7 = .slice (some ⟨q, k * 512, none⟩) 512 512 := hV 7 (by simp)
              have v12 : vs 12 = .slice ao6 m c6 := hV 12 (by simp)
              have hS2 : w' = w6.drew := hS
              subst hS2
              simp only [putl, List.foldl_cons, List.foldl_nil, Act.put, List.setIfInBounds_toArray, List.set_cons_zero, List.set_cons_succ, v7, v12]
              simp only [List.drop_succ_cons, List.drop_zero]
              have p6d := p6.drew
              have hcopy := run_copy28 w6.drew 3 q (k * 512) 512 512 ao6 m c6 o.D HM.out.symm hm512 ⟨hol6.nil, fun a ha j x hx => (hol6.cells a ha j x hx).2⟩ (fun j hj => p6d.wt.thereAt k hkn j (by omega))
              have p5 := p6d.wr (k * 512) (o.D.map c8) (p6d.wt.over k hkn (by unfold updS; rw [if_pos rfl]) o.D hBl)
              clear hV v7 v12 p6 p6d hcw6 hci6 hcb6 hol6 hS
              go_wp2_with fail
              obtain ⟨d5, hd5e⟩ : ∃ d5 : DS, d5 = { d with W := d.W ++ [(k, padd o.D)] } := ⟨_, rfl⟩
              have hf5 : d5.fuse = -1 := by rw [hd5e]; exact hf0
              have hd5 : d5.down = false := by rw [hd5e]; exact hd0
              have hW5 : d5.W.length ≤ i + 1 := by rw [hd5e]; simp; omega
              obtain ⟨V5, hV5e⟩ : ∃ V5, V5 = updS (updS V k zs) k (padd o.D) := ⟨_, rfl⟩
              have HV5 : Hid (V5 = fun i => look (d5.S i) d5.W i) := Lib.hid (by
                rw [hV5e, HV.out, hd5e]
                exact over_look d k o.D)
              rw [← hd5e, ← hV5e] at p5
              go_roundg (ko - 1)
              case measure => have := HKO.out; have := HI.out; omega
              case rel => exact ⟨i + 1, d5, by simp, by have := HKO.out; have := HI.out; omega, hf5, hd5, hW5, by rw [← HV5.out]; exact p5⟩

          · rw [he] at W10
            have C10 := Lib.hid W10
            have hbad2 : ¬ (0 ≤ o.I ∧ o.I < nn ∧ m ≤ 512) := by rw [← HM.out]; exact hbad
            obtain ⟨z, hz⟩ : ∃ z, o.I = z := ⟨_, rfl⟩
            rw [hz] at hbad2
            have HZ := Lib.hid hz
            have hcase : (decide (z ≥ 0) = false) ∨ (decide (z ≥ 0) = true ∧ decide (z < (nn : Int)) = false) ∨ (decide (z ≥ 0) = true ∧ decide (z < (nn : Int)) = true ∧ decide ((m : Int) ≤ 512) = false) := by
              by_cases h1 : 0 ≤ z
              · by_cases h2 : z < nn
                · right; right; simp; omega
                · right; left; simp; omega
              · left; simp; omega
            clear W10 he hbad hbad2 hz
            rcases hcase with b1 | ⟨b1, b2⟩ | ⟨b1, b2, b3⟩
            all_goals
              go_wp2_with (first
                | (go_at_call 10; (with_reducible refine C10.out.mono ?_); rintro e w5 ⟨rfl, p5⟩; obtain ⟨hcw5, hci5, ⟨ao5, c5, hdc5, hcb5, hol5⟩, hbw5, hbi5⟩ := (p5.ox.cells a rfl).2 i o HD.out; have hci5 : w5.cell? ⟨(a.add (i * 3)).block, (a.add (i * 3)).off + 1, none⟩ = some (.int .i64 o.I) := hci5; have hcb5 : w5.cell? ⟨(a.add (i * 3)).block, (a.add (i * 3)).off + 2, none⟩ = some (.slice ao5 o.D.length c5) := hcb5; rw [HM.out] at hcb5 hdc5; rw [HZ.out] at hci5))
              obtain ⟨d5, hd5e⟩ : ∃ d5 : DS, d5 = d := ⟨_, rfl⟩
              have hf5 : d5.fuse = -1 := by rw [hd5e]; exact hf0
              have hd5 : d5.down = false := by rw [hd5e]; exact hd0
              have hW5 : d5.W.length ≤ i + 1 := by rw [hd5e]; omega
              obtain ⟨V5, hV5e⟩ : ∃ V5, V5 = V := ⟨_, rfl⟩
              have HV5 : Hid (V5 = fun i => look (d5.S i) d5.W i) := Lib.hid (by rw [hV5e, HV.out, hd5e])
              rw [← hd5e, ← hV5e] at p5
              go_roundg (ko - 1)
              case measure => have := HKO.out; have := HI.out; omega
              case rel => exact ⟨i + 1, d5, by simp, by have := HKO.out; have := HI.out; omega, hf5, hd5, hW5, by rw [← HV5.out]; exact p5⟩
      · have hd3 : decide (i < nl) = false := by simp; omega
        have C14 := Lib.hid (syncR p hd0)
        go_wp2_with (first | (go_at_call 14; (with_reducible refine C14.out.mono ?_); rintro e w5 ⟨rfl, p5⟩))
        have p0 := p5.re hL2
        obtain ⟨ds, hds⟩ : ∃ ds : DS, ds = { d with S := fin d.S d.W, W := [] } := ⟨_, rfl⟩
        have hfs : ds.fuse = -1 ∧ ds.down = false ∧ ds.W.length = 0 := by rw [hds]; exact ⟨hf0, hd0, rfl⟩
        have e0 : V = fun i => look (ds.S i) (ds.W.take nt) i := by
          rw [HV.out, hds]
          funext j
          show look (d.S j) d.W j = look (fin d.S d.W j) (List.take nt []) j
          rw [List.take_nil]
          exact (fin_look d.S d.W j).symm
        rw [← hds, e0] at p0
        clear hds p5 e0 HV p C14 hf0 hd0 hW0 hL2 hin hd3
        clear HI HKO HL G13 HG
        clear V d hnl hlen
        go_loopg [15, 16] nl2 (fun gk v15 v16 wr => ∃ (i dn : Nat) (d : DS), v15 = .int .i64 dn ∧ v16 = .int .i64 i ∧ i + gk = nl2 ∧ dn ≤ i ∧ d.fuse = -1 ∧ d.down = false ∧ d.W.length = dn ∧ PR w g b q nn lo2 Os2 d (fun i => look (d.S i) (d.W.take nt) i) wr)
        case atStart => exact ⟨0, 0, ds, rfl, rfl, by omega, by omega, hfs.1, hfs.2.1, hfs.2.2, p0⟩
        case round =>
          clear p0 hfs
          obtain ⟨i, dn, d, rfl, rfl, hi, hdi, hf0, hd0, hW0, p⟩ := hrel
          obtain ⟨ko, hko⟩ : ∃ ko, ko = gk := ⟨_, rfl⟩
          have HKO := Lib.hid hko
          have HI := Lib.hid hi
          clear hko hi
          obtain ⟨V, hV⟩ : ∃ V : Nat → Sct, V = fun i => look (d.S i) (d.W.take nt) i := ⟨_, rfl⟩
          rw [← hV] at p
          have HV := Lib.hid hV
          clear hV
          by_cases hin : i < nl2
          · have hlo2 : True := trivial
            have q0 : (0 : Int) ≤ (i : Int) := by omega
            have q1 : (i : Int) < (nl2 : Int) := by omega
            obtain ⟨a, rfl⟩ : ∃ a, lo2 = some a := by
              cases lo2 with
              | none => have e1 := p.ox.nil rfl; have := HL2.out; rw [e1] at this; simp at this; omega
              | some a => exact ⟨a, rfl⟩
            obtain ⟨o, hD⟩ : ∃ o, Os2[i]? = some o := ⟨Os2[i]'(by rw [← HL2.out]; exact hin), List.getElem?_eq_getElem _⟩
            have HD := Lib.hid hD
            obtain ⟨m, hm⟩ : ∃ m, o.D.length = m := ⟨_, rfl⟩
            have HM := Lib.hid hm
            clear hD hm
            obtain ⟨hcw0, hci0, ⟨ao0, c0, hdc0, hcb0, hol0⟩, hbw0, hbi0⟩ := (p.ox.cells a rfl).2 i o HD.out
            have hci0 : wr.cell? ⟨(a.add (i * 3)).block, (a.add (i * 3)).off + 1, none⟩ = some (.int .i64 o.I) := hci0
            have hcb0 : wr.cell? ⟨(a.add (i * 3)).block, (a.add (i * 3)).off + 2, none⟩ = some (.slice ao0 o.D.length c0) := hcb0
            rw [HM.out] at hcb0 hdc0
            have W10 := writeR p.drew o.I ao0 m c0 o.D HM.out.symm (Olz.keep hol0 (fun k hk => rfl)) (by omega)
            go_upto_region 22 with fail
            refine region_monoT 11 (fun z => z = wr.drew) (fun w w' => w' = w) (V412 g nl2 lc2 i m c0 a ao0 o.I) [(0, some 122), (1, some 123), (2, some 124), (3, some 125), (4, some 126), (5, some 127), (6, some 128), (7, some 129), (8, some 130), (9, some 131), (10, some 132)] (by kernel_rfl) (by kernel_rfl) (by kernel_rfl) (by kernel_rfl) (fun _ _ h r => r.trans h) (fun i1 v1 w1 w2 _ h1 r1 => V412_keep g nl2 lc2 i m c0 a ao0 o.I i1 v1 w1 w2 h1 r1) (rfl) ?_ (fun vs w' hS hV => ?_)
            · refine StepsL.cons0  (by kernel_rfl)  ?_ ?_
              · rintro w1 hS  K hK
                subst hS
                (try simp only [Act.put, List.setIfInBounds_toArray, List.set_cons_zero, List.set_cons_succ])
                go_simp
                exact hK.out _ _ rfl (rfl)
              refine StepsL.cons0  (by kernel_rfl)  ?_ ?_
              · rintro w1 hS  K hK
                subst hS
                (try simp only [Act.put, List.setIfInBounds_toArray, List.set_cons_zero, List.set_cons_succ])
                go_simp
                exact hK.out _ _ rfl (rfl)
              refine StepsL.cons0  (by kernel_rfl)  ?_ ?_
              · rintro w1 hS  K hK
                subst hS
                (try simp only [Act.put, List.setIfInBounds_toArray, List.set_cons_zero, List.set_cons_succ])
                go_simp
                exact hK.out _ _ rfl (rfl)
              refine StepsL.cons2 1 (some 123) 2 (some 124) (by kernel_rfl) rfl rfl ?_ ?_
              · rintro w1 hS _ rfl _ rfl K hK
                subst hS
                (try simp only [Act.put, List.setIfInBounds_toArray, List.set_cons_zero, List.set_cons_succ])
                go_simp
                exact hK.out _ _ rfl (rfl)
              refine StepsL.cons1 3 (some 125) (by kernel_rfl) rfl ?_ ?_
              · rintro w1 hS _ rfl K hK
                subst hS
                (try simp only [Act.put, List.setIfInBounds_toArray, List.set_cons_zero, List.set_cons_succ])
                go_simp
                exact hK.out _ _ rfl (rfl)
              refine StepsL.cons1 4 (some 126) (by kernel_rfl) rfl ?_ ?_
              · rintro w1 hS _ rfl K hK
                subst hS
                (try simp only [Act.put, List.setIfInBounds_toArray, List.set_cons_zero, List.set_cons_succ])
                have hx : wr.drew.cell? ⟨(a.add (i * 3)).block, (a.add (i * 3)).off + 1, none⟩ = _ := hci0
                go_simp
                exact hK.out _ _ rfl rfl
              refine StepsL.cons0  (by kernel_rfl)  ?_ ?_
              · rintro w1 hS  K hK
                subst hS
                (try simp only [Act.put, List.setIfInBounds_toArray, List.set_cons_zero, List.set_cons_succ])
                go_simp
                exact hK.out _ _ rfl (rfl)
              refine StepsL.cons0  (by kernel_rfl)  ?_ ?_
              · rintro w1 hS  K hK
                subst hS
                (try simp only [Act.put, List.setIfInBounds_toArray, List.set_cons_zero, List.set_cons_succ])
                go_simp
                exact hK.out _ _ rfl (rfl)
              refine StepsL.cons2 6 (some 128) 7 (some 129) (by kernel_rfl) rfl rfl ?_ ?_
              · rintro w1 hS _ rfl _ rfl K hK
                subst hS
                (try simp only [Act.put, List.setIfInBounds_toArray, List.set_cons_zero, List.set_cons_succ])
                go_simp
                exact hK.out _ _ rfl (rfl)
              refine StepsL.cons1 8 (some 130) (by kernel_rfl) rfl ?_ ?_
              · rintro w1 hS _ rfl K hK
                subst hS
                (try simp only [Act.put, List.setIfInBounds_toArray, List.set_cons_zero, List.set_cons_succ])
                go_simp
                exact hK.out _ _ rfl (rfl)
              refine StepsL.cons1 9 (some 131) (by kernel_rfl) rfl ?_ ?_
              · rintro w1 hS _ rfl K hK
                subst hS
                (try simp only [Act.put, List.setIfInBounds_toArray, List.set_cons_zero, List.set_cons_succ])
                have hx : wr.drew.cell? ⟨(a.add (i * 3)).block, (a.add (i * 3)).off + 2, none⟩ = _ := hcb0
                go_simp
                exact hK.out _ _ rfl rfl
              exact StepsL.nil
            · have v0 : vs 0 = .pointer (some ⟨g, 0, none⟩) := hV 0 (by simp)
              have v5 : vs 5 = .int .i64 o.I := hV 5 (by simp)
              have v10 : vs 10 = .slice ao0 m c0 := hV 10 (by simp)
              have hS2 : w' = wr.drew := hS
              subst hS2
              simp only [putl, List.foldl_cons, List.foldl_nil, Act.put, List.setIfInBounds_toArray, List.set_cons_zero, List.set_cons_succ, v0, v5, v10]
              simp only [List.drop_succ_cons, List.drop_zero]
              clear hV v0 v5 v10 hcw0 hci0 hcb0 hol0 hS
              rcases wrote_up nn d o.I o.D hd0 hf0 with ⟨hok, he⟩ | ⟨hbad, he⟩
              · rw [he] at W10
                have C10 := Lib.hid W10
                obtain ⟨k, hk⟩ : ∃ k : Nat, o.I = (k : Int) := ⟨o.I.toNat, by omega⟩
                have hkn : k < nn := by omega
                have hm512 : m ≤ 512 := by rw [← HM.out]; exact hok.2.2
                have hBl := hok.2.2
                have hkt : o.I.toNat = k := by omega
                rw [hkt] at C10
                have HOK := Lib.hid hk
                have b1 : decide ((k : Int) ≥ 0) = true := by simp
                have b2 : decide ((k : Int) < (nn : Int)) = true := by simp; omega
                have b3 : decide ((m : Int) ≤ 512) = true := by simp; omega
                have k1 : (0 : Int) ≤ (k : Int) := by omega
                have k2 : (k : Int) < (nn : Int) := by omega
                have hz37 := zero37
                clear W10 he hok hkt hk
                by_cases hdl : dn < nt
                · have d7 : decide ((dn : Int) < (nt : Int)) = true := by simp; omega
                  go_upto_region 28 with (first
                    | (go_at_call 10; (with_reducible refine C10.out.mono ?_); rintro e w5 ⟨rfl, p5⟩; obtain ⟨hcw5, hci5, ⟨ao5, c5, hdc5, hcb5, hol5⟩, hbw5, hbi5⟩ := (p5.ox.cells a rfl).2 i o HD.out; have hci5 : w5.cell? ⟨(a.add (i * 3)).block, (a.add (i * 3)).off + 1, none⟩ = some (.int .i64 o.I) := hci5; have hcb5 : w5.cell? ⟨(a.add (i * 3)).block, (a.add (i * 3)).off + 2, none⟩ = some (.slice ao5 o.D.length c5) := hcb5; rw [HM.out] at hcb5 hdc5; rw [HOK.out] at hci5; have ht5 := p5.wt.thereAt k hkn)
                    | (with_reducible refine store37m rfl (.tmp 174) (.tmp 173) rfl q (k * 512) zs rfl rfl zs_len ht5 ?_))
                  have p6 := p5.wr (k * 512) (zs.map c8) (p5.wt.set k hkn zs zs_len)
                  obtain ⟨w6, hw6⟩ : ∃ w6, w5.setCells q (k * 512) (zs.map c8) = w6 := ⟨_, rfl⟩
                  rw [hw6] at p6
                  (try rw [hw6])
                  clear hw6 ht5 hcw5 hci5 hcb5 hol5 p5 p
                  (try simp only [Act.put])
                  obtain ⟨hcw6, hci6, ⟨ao6, c6, hdc6, hcb6, hol6⟩, hbw6, hbi6⟩ := (p6.ox.cells a rfl).2 i o HD.out
                  have hci6 : w6.cell? ⟨(a.add (i * 3)).block, (a.add (i * 3)).off + 1, none⟩ = some (.int .i64 o.I) := hci6
                  have hcb6 : w6.cell? ⟨(a.add (i * 3)).block, (a.add (i * 3)).off + 2, none⟩ = some (.slice ao6 o.D.length c6) := hcb6
                  rw [HM.out] at hcb6 hdc6
                  rw [HOK.out] at hci6
                  refine region_monoT 13 (fun z => z = w6.drew) (fun w w' => w' = w) (V417 q nn k nl2 lc2 i m c6 a ao6) [(0, some 175), (1, some 176), (2, some 177), (3, some 178), (4, some 179), (5, some 180), (6, some 181), (7, some 182), (8, some 183), (9, some 184), (10, some 185), (11, some 186), (12, some 187)] (by kernel_rfl) (by kernel_rfl) (by kernel_rfl) (by kernel_rfl) (fun _ _ h r => r.trans h) (fun i1 v1 w1 w2 _ h1 r1 => V417_keep q nn k nl2 lc2 i m c6 a ao6 i1 v1 w1 w2 h1 r1) (rfl) ?_ (fun vs w' hS hV => ?_)
                  · refine StepsL.cons0  (by kernel_rfl)  ?_ ?_
                    · rintro w1 hS  K hK
                      subst hS
                      (try simp only [Act.put, List.setIfInBounds_toArray, List.set_cons_zero, List.set_cons_succ])
                      go_simp
                      exact hK.out _ _ rfl (rfl)
                    refine StepsL.cons0  (by kernel_rfl)  ?_ ?_
                    · rintro w1 hS  K hK
                      subst hS
                      (try simp only [Act.put, List.setIfInBounds_toArray, List.set_cons_zero, List.set_cons_succ])
                      go_simp
                      exact hK.out _ _ rfl (rfl)
                    refine StepsL.cons0  (by kernel_rfl)  ?_ ?_
                    · rintro w1 hS  K hK
                      subst hS
                      (try simp only [Act.put, List.setIfInBounds_toArray, List.set_cons_zero, List.set_cons_succ])
                      go_simp
                      exact hK.out _ _ rfl (rfl)
                    refine StepsL.cons2 1 (some 176) 2 (some 177) (by kernel_rfl) rfl rfl ?_ ?_
                    · rintro w1 hS _ rfl _ rfl K hK
                      subst hS
                      (try simp only [Act.put, List.setIfInBounds_toArray, List.set_cons_zero, List.set_cons_succ])
                      go_simp
                      exact hK.out _ _ rfl (rfl)
                    refine StepsL.cons1 3 (some 178) (by kernel_rfl) rfl ?_ ?_
                    · rintro w1 hS _ rfl K hK
                      subst hS
                      (try simp only [Act.put, List.setIfInBounds_toArray, List.set_cons_zero, List.set_cons_succ])
                      go_simp
                      exact hK.out _ _ rfl (rfl)
                    refine StepsL.cons1 4 (some 179) (by kernel_rfl) rfl ?_ ?_
                    · rintro w1 hS _ rfl K hK
                      subst hS
                      (try simp only [Act.put, List.setIfInBounds_toArray, List.set_cons_zero, List.set_cons_succ])
                      have hx : w6.drew.cell? ⟨(a.add (i * 3)).block, (a.add (i * 3)).off + 1, none⟩ = _ := hci6
                      go_simp
                      exact hK.out _ _ rfl rfl
                    refine StepsL.cons2 0 (some 175) 5 (some 180) (by kernel_rfl) rfl rfl ?_ ?_
                    · rintro w1 hS _ rfl _ rfl K hK
                      subst hS
                      (try simp only [Act.put, List.setIfInBounds_toArray, List.set_cons_zero, List.set_cons_succ])
                      go_simp
                      exact hK.out _ _ rfl (rfl)
                    refine StepsL.cons1 6 (some 181) (by kernel_rfl) rfl ?_ ?_
                    · rintro w1 hS _ rfl K hK
                      subst hS
                      (try simp only [Act.put, List.setIfInBounds_toArray, List.set_cons_zero, List.set_cons_succ])
                      go_simp
                      exact hK.out _ _ rfl (rfl)
                    refine StepsL.cons0  (by kernel_rfl)  ?_ ?_
                    · rintro w1 hS  K hK
                      subst hS
                      (try simp only [Act.put, List.setIfInBounds_toArray, List.set_cons_zero, List.set_cons_succ])
                      go_simp
                      exact hK.out _ _ rfl (rfl)
                    refine StepsL.cons0  (by kernel_rfl)  ?_ ?_
                    · rintro w1 hS  K hK
                      subst hS
                      (try simp only [Act.put, List.setIfInBounds_toArray, List.set_cons_zero, List.set_cons_succ])
                      go_simp
                      exact hK.out _ _ rfl (rfl)
                    refine StepsL.cons2 8 (some 183) 9 (some 184) (by kernel_rfl) rfl rfl ?_ ?_
                    · rintro w1 hS _ rfl _ rfl K hK
                      subst hS
                      (try simp only [Act.put, List.setIfInBounds_toArray, List.set_cons_zero, List.set_cons_succ])
                      go_simp
                      exact hK.out _ _ rfl (rfl)
                    refine StepsL.cons1 10 (some 185) (by kernel_rfl) rfl ?_ ?_
                    · rintro w1 hS _ rfl K hK
                      subst hS
                      (try simp only [Act.put, List.setIfInBounds_toArray, List.set_cons_zero, List.set_cons_succ])
                      go_simp
                      exact hK.out _ _ rfl (rfl)
                    refine StepsL.cons1 11 (some 186) (by kernel_rfl) rfl ?_ ?_
                    · rintro w1 hS _ rfl K hK
                      subst hS
                      (try simp only [Act.put, List.setIfInBounds_toArray, List.set_cons_zero, List.set_cons_succ])
                      have hx : w6.drew.cell? ⟨(a.add (i * 3)).block, (a.add (i * 3)).off + 2, none⟩ = _ := hcb6
                      go_simp
                      exact hK.out _ _ rfl rfl
                    exact StepsL.nil
                  · have v7 : vs 7 = .slice (some ⟨q, k * 512, none⟩) 512 512 := hV 7 (by simp)
                    have v12 : vs 12 = .slice ao6 m c6 := hV 12 (by simp)
                    have hS2 : w' = w6.drew := hS
                    subst hS2
                    simp only [putl, List.foldl_cons, List.foldl_nil, Act.put, List.setIfInBounds_toArray, List.set_cons_zero, List.set_cons_succ, v7, v12]
                    simp only [List.drop_succ_cons, List.drop_zero]
                    have p6d := p6.drew
                    have hcopy := run_copy28 w6.drew 3 q (k * 512) 512 512 ao6 m c6 o.D HM.out.symm hm512 ⟨hol6.nil, fun a ha j x hx => (hol6.cells a ha j x hx).2⟩ (fun j hj => p6d.wt.thereAt k hkn j (by omega))
                    have p5 := p6d.wr (k * 512) (o.D.map c8) (p6d.wt.over k hkn (by unfold updS; rw [if_pos rfl]) o.D hBl)
                    clear hV v7 v12 p6 p6d hcw6 hci6 hcb6 hol6 hS
                    go_wp2_with fail
                    obtain ⟨d5, hd5e⟩ : ∃ d5 : DS, d5 = { d with W := d.W ++ [(k, padd o.D)] } := ⟨_, rfl⟩
                    have hf5 : d5.fuse = -1 := by rw [hd5e]; exact hf0
                    have hd5 : d5.down = false := by rw [hd5e]; exact hd0
                    have hW5 : d5.W.length = dn + 1 := by rw [hd5e]; simp; omega
                    obtain ⟨V5, hV5e⟩ : ∃ V5, V5 = updS (updS V k zs) k (padd o.D) := ⟨_, rfl⟩
                    have HV5 : Hid (V5 = fun i => look (d5.S i) (d5.W.take nt) i) := Lib.hid (by
                      rw [hV5e, HV.out, hd5e]
                      exact over_look2 d k o.D nt (by omega))
                    rw [← hd5e, ← hV5e] at p5
                    go_roundg (ko - 1)
                    case measure => have := HKO.out; have := HI.out; omega
                    case rel => exact ⟨i + 1, dn + 1, d5, by simp, by simp, by have := HKO.out; have := HI.out; omega, by omega, hf5, hd5, hW5, by rw [← HV5.out]; exact p5⟩

                · have d7 : decide ((dn : Int) < (nt : Int)) = false := by simp; omega
                  go_wp2_with (first
                    | (go_at_call 10; (with_reducible refine C10.out.mono ?_); rintro e w5 ⟨rfl, p5⟩; obtain ⟨hcw5, hci5, ⟨ao5, c5, hdc5, hcb5, hol5⟩, hbw5, hbi5⟩ := (p5.ox.cells a rfl).2 i o HD.out; have hci5 : w5.cell? ⟨(a.add (i * 3)).block, (a.add (i * 3)).off + 1, none⟩ = some (.int .i64 o.I) := hci5; have hcb5 : w5.cell? ⟨(a.add (i * 3)).block, (a.add (i * 3)).off + 2, none⟩ = some (.slice ao5 o.D.length c5) := hcb5; rw [HM.out] at hcb5 hdc5; rw [HOK.out] at hci5))
                  obtain ⟨d5, hd5e⟩ : ∃ d5 : DS, d5 = { d with W := d.W ++ [(k, padd o.D)] } := ⟨_, rfl⟩
                  have hf5 : d5.fuse = -1 := by rw [hd5e]; exact hf0
                  have hd5 : d5.down = false := by rw [hd5e]; exact hd0
                  have hW5 : d5.W.length = dn + 1 := by rw [hd5e]; simp; omega
                  obtain ⟨V5, hV5e⟩ : ∃ V5, V5 = V := ⟨_, rfl⟩
                  have HV5 : Hid (V5 = fun i => look (d5.S i) (d5.W.take nt) i) := Lib.hid (by
                    rw [hV5e, HV.out, hd5e]
                    exact over_look3 d k o.D nt (by omega))
                  rw [← hd5e, ← hV5e] at p5
                  go_roundg (ko - 1)
                  case measure => have := HKO.out; have := HI.out; omega
                  case rel => exact ⟨i + 1, dn + 1, d5, by simp, by simp, by have := HKO.out; have := HI.out; omega, by omega, hf5, hd5, hW5, by rw [← HV5.out]; exact p5⟩
              · rw [he] at W10
                have C10 := Lib.hid W10
                have hbad2 : ¬ (0 ≤ o.I ∧ o.I < nn ∧ m ≤ 512) := by rw [← HM.out]; exact hbad
                obtain ⟨z, hz⟩ : ∃ z, o.I = z := ⟨_, rfl⟩
                rw [hz] at hbad2
                have HZ := Lib.hid hz
                have hcase : (decide (z ≥ 0) = false) ∨ (decide (z ≥ 0) = true ∧ decide (z < (nn : Int)) = false) ∨ (decide (z ≥ 0) = true ∧ decide (z < (nn : Int)) = true ∧ decide ((m : Int) ≤ 512) = false) := by
                  by_cases h1 : 0 ≤ z
                  · by_cases h2 : z < nn
                    · right; right; simp; omega
                    · right; left; simp; omega
                  · left; simp; omega
                clear W10 he hbad hbad2 hz
                rcases hcase with b1 | ⟨b1, b2⟩ | ⟨b1, b2, b3⟩
                all_goals
                  go_wp2_with (first
                    | (go_at_call 10; (with_reducible refine C10.out.mono ?_); rintro e w5 ⟨rfl, p5⟩; obtain ⟨hcw5, hci5, ⟨ao5, c5, hdc5, hcb5, hol5⟩, hbw5, hbi5⟩ := (p5.ox.cells a rfl).2 i o HD.out; have hci5 : w5.cell? ⟨(a.add (i * 3)).block, (a.add (i * 3)).off + 1, none⟩ = some (.int .i64 o.I) := hci5; have hcb5 : w5.cell? ⟨(a.add (i * 3)).block, (a.add (i * 3)).off + 2, none⟩ = some (.slice ao5 o.D.length c5) := hcb5; rw [HM.out] at hcb5 hdc5; rw [HZ.out] at hci5))
                  obtain ⟨d5, hd5e⟩ : ∃ d5 : DS, d5 = d := ⟨_, rfl⟩
                  have hf5 : d5.fuse = -1 := by rw [hd5e]; exact hf0
                  have hd5 : d5.down = false := by rw [hd5e]; exact hd0
                  have hW5 : d5.W.length = dn := by rw [hd5e]; omega
                  obtain ⟨V5, hV5e⟩ : ∃ V5, V5 = V := ⟨_, rfl⟩
                  have HV5 : Hid (V5 = fun i => look (d5.S i) (d5.W.take nt) i) := Lib.hid (by rw [hV5e, HV.out, hd5e])
                  rw [← hd5e, ← hV5e] at p5
                  go_roundg (ko - 1)
                  case measure => have := HKO.out; have := HI.out; omega
                  case rel => exact ⟨i + 1, dn, d5, by simp, by simp, by have := HKO.out; have := HI.out; omega, by omega, hf5, hd5, hW5, by rw [← HV5.out]; exact p5⟩
          · have hd3 : decide (i < nl2) = false := by simp; omega
            have C16 := Lib.hid (crashR p (nt : Int))
            obtain ⟨dE, hdE⟩ : ∃ dE, dE = crashed d (nt : Int) := ⟨_, rfl⟩
            have hE1 : dE.S = V := by
              rw [hdE, HV.out]
              unfold crashed
              rw [hd0]
              simp only [Bool.false_eq_true, if_false, Int.toNat_natCast]
              funext j
              exact fin_look _ _ _
            have hE2 : dE.down = true ∧ dE.W.length = 0 := by
              rw [hdE]
              unfold crashed
              rw [hd0]
              exact ⟨rfl, rfl⟩
            rw [← hdE] at C16
            clear hdE HV hf0 hd0 hW0 p
            go_wp2_with (first
              | (go_at_call 16; (with_reducible refine C16.out.mono ?_); rintro e w5 ⟨rfl, p5⟩)
              | (go_at_call 11; (with_reducible refine (image11 _ _ _ _ _ _ p5.dk).mono ?_); rintro e w6 ⟨v6, rfl, o6, b6⟩; rw [← HN5.out] at o6; obtain ⟨qi, ci, rfl, hqi, hql, hqc⟩ := own_pos o6 (by omega); have hci := (own_byt (g := g) o6 p5.dk.lt)))
            have hcn : n5 ≤ ci := by
              obtain ⟨_, _, e, _, h, _⟩ := hci
              injection e with _ _ e
              omega
            have p6 := p5.below b6
            clear hci o6 b6 p5 C16 hqi hql
            go_loopg [19] nn (fun gk v wr => ∃ k : Nat, v = .int .i64 k ∧ k + gk = nn ∧ PR w g b q nn lo2 Os2 dE V wr ∧ (∀ (j : Nat) x, (img dE.S nn)[j]? = some x → wr.cell? ⟨qi, j, none⟩ = some (c8 x)))
            case atStart => exact ⟨0, rfl, by omega, p6, hqc⟩
            case round =>
              clear p6 hqc
              obtain ⟨k, rfl, hk, p7, hqc⟩ := hrel
              have HK := Lib.hid hk
              by_cases hkn : k < nn
              · obtain ⟨t, ht⟩ : ∃ t, t = k * 512 := ⟨_, rfl⟩
                obtain ⟨tp, htp⟩ : ∃ tp, tp = t + 512 := ⟨_, rfl⟩
                obtain ⟨kp, hkp⟩ : ∃ kp, kp = k + 1 := ⟨_, rfl⟩
                have hn5 : tp ≤ n5 := by have := HN5.out; omega
                have k1 : (0 : Int) ≤ (k : Int) := by omega
                have k2 : (k : Int) < (nn : Int) := by omega
                have g1 : (k : Int) + 1 = (kp : Int) := by omega
                have g2 : 512 * (k : Int) = (t : Int) := by omega
                have g3 : 512 * (kp : Int) = (tp : Int) := by omega
                have g4 : IntKind.i64.wrap (t : Int) = (t : Int) := IntWalk.i64_in _ (by omega)
                have g5 : IntKind.i64.wrap (tp : Int) = (tp : Int) := IntWalk.i64_in _ (by omega)
                have g6 : IntKind.i64.wrap (kp : Int) = (kp : Int) := IntWalk.i64_in _ (by omega)
                have g7 : t ≤ tp := by omega
                have g8 : tp ≤ ci := by omega
                have g9 : tp - t = 512 := by omega
                have ga : ¬ ci = t := by omega
                have hlen := p7.wt.len k hkn
                have hlenE : ∀ i, i < nn → (dE.S i).length = 512 := p7.dk.sec.len
                have hri : wr.rangeAt qi t ((V k).map c8) := fun j v hv => by
                  obtain ⟨x, hx, rfl⟩ := c8_at hv
                  refine hqc (t + j) x ?_
                  have hj : j < 512 := by have := (List.getElem?_eq_some_iff.1 hx).1; omega
                  rw [ht, img_at hlenE k j hkn hj nn hkn (Nat.le_refl _), hE1]
                  exact hx
                have c1 := conv_rng (w := wr.drew) (b := qi) (o := t) (c := ci - t) hlen hri
                have c2 := conv_rng (w := wr.drew) (b := q) (o := k * 512) (c := 512) hlen (p7.wt.rng k hkn)
                clear hk ht htp hkp hri hlen hlenE
                go_upto_region 37 with fail
                refine region_monoL (fun z => z = wr.drew) (fun w w' => w' = w) (V537 qi q nn k t kp tp n5 ci (V k)) [(0, some 207), (1, some 208), (2, some 209), (3, some 210), (4, some 211), (5, some 212), (6, some 213), (7, some 214), (8, some 215), (9, some 216), (10, some 217), (11, some 218), (12, some 219), (13, some 220)] (by kernel_rfl) (by kernel_rfl) (by kernel_rfl) (fun _ _ h r => r.trans h) (fun i1 v1 w1 w2 _ h1 r1 => V537_keep qi q nn k t kp tp n5 ci (V k) i1 v1 w1 w2 h1 r1) (rfl) ?_ (fun vs w' hS hV => ?_)
                · refine StepsL.cons0  (by kernel_rfl)  ?_ ?_
                  · rintro w1 hS  K hK
                    subst hS
                    (try simp only [Act.put, List.setIfInBounds_toArray, List.set_cons_zero, List.set_cons_succ])
                    go_simp
                    exact hK.out _ _ rfl (rfl)
                  refine StepsL.cons0  (by kernel_rfl)  ?_ ?_
                  · rintro w1 hS  K hK
                    subst hS
                    (try simp only [Act.put, List.setIfInBounds_toArray, List.set_cons_zero, List.set_cons_succ])
                    go_simp
                    exact hK.out _ _ rfl (rfl)
                  refine StepsL.cons1 1 (some 208) (by kernel_rfl) rfl ?_ ?_
                  · rintro w1 hS _ rfl K hK
                    subst hS
                    (try simp only [Act.put, List.setIfInBounds_toArray, List.set_cons_zero, List.set_cons_succ])
                    go_simp
                    exact hK.out _ _ rfl (rfl)
                  refine StepsL.cons0  (by kernel_rfl)  ?_ ?_
                  · rintro w1 hS  K hK
                    subst hS
                    (try simp only [Act.put, List.setIfInBounds_toArray, List.set_cons_zero, List.set_cons_succ])
                    go_simp
                    exact hK.out _ _ rfl (rfl)
                  refine StepsL.cons1 3 (some 210) (by kernel_rfl) rfl ?_ ?_
                  · rintro w1 hS _ rfl K hK
                    subst hS
                    (try simp only [Act.put, List.setIfInBounds_toArray, List.set_cons_zero, List.set_cons_succ])
                    go_simp
                    exact hK.out _ _ rfl (rfl)
                  refine StepsL.cons1 4 (some 211) (by kernel_rfl) rfl ?_ ?_
                  · rintro w1 hS _ rfl K hK
                    subst hS
                    (try simp only [Act.put, List.setIfInBounds_toArray, List.set_cons_zero, List.set_cons_succ])
                    go_simp
                    exact hK.out _ _ rfl (rfl)
                  refine StepsL.cons3 0 (some 207) 2 (some 209) 5 (some 212) (by kernel_rfl) rfl rfl rfl ?_ ?_
                  · rintro w1 hS _ rfl _ rfl _ rfl K hK
                    subst hS
                    (try simp only [Act.put, List.setIfInBounds_toArray, List.set_cons_zero, List.set_cons_succ])
                    go_simp
                    exact hK.out _ _ rfl (rfl)
                  refine StepsL.cons1 6 (some 213) (by kernel_rfl) rfl ?_ ?_
                  · rintro w1 hS _ rfl K hK
                    subst hS
                    (try simp only [Act.put, List.setIfInBounds_toArray, List.set_cons_zero, List.set_cons_succ])
                    have hcv := c1
                    go_simp
                    exact hK.out _ _ rfl rfl
                  refine StepsL.cons0  (by kernel_rfl)  ?_ ?_
                  · rintro w1 hS  K hK
                    subst hS
                    (try simp only [Act.put, List.setIfInBounds_toArray, List.set_cons_zero, List.set_cons_succ])
                    go_simp
                    exact hK.out _ _ rfl (rfl)
                  refine StepsL.cons0  (by kernel_rfl)  ?_ ?_
                  · rintro w1 hS  K hK
                    subst hS
                    (try simp only [Act.put, List.setIfInBounds_toArray, List.set_cons_zero, List.set_cons_succ])
                    go_simp
                    exact hK.out _ _ rfl (rfl)
                  refine StepsL.cons2 8 (some 215) 9 (some 216) (by kernel_rfl) rfl rfl ?_ ?_
                  · rintro w1 hS _ rfl _ rfl K hK
                    subst hS
                    (try simp only [Act.put, List.setIfInBounds_toArray, List.set_cons_zero, List.set_cons_succ])
                    go_simp
                    exact hK.out _ _ rfl (rfl)
                  refine StepsL.cons1 10 (some 217) (by kernel_rfl) rfl ?_ ?_
                  · rintro w1 hS _ rfl K hK
                    subst hS
                    (try simp only [Act.put, List.setIfInBounds_toArray, List.set_cons_zero, List.set_cons_succ])
                    go_simp
                    exact hK.out _ _ rfl (rfl)
                  refine StepsL.cons1 11 (some 218) (by kernel_rfl) rfl ?_ ?_
                  · rintro w1 hS _ rfl K hK
                    subst hS
                    (try simp only [Act.put, List.setIfInBounds_toArray, List.set_cons_zero, List.set_cons_succ])
                    have hcv := c2
                    go_simp
                    exact hK.out _ _ rfl rfl
                  refine StepsL.cons2 7 (some 214) 12 (some 219) (by kernel_rfl) rfl rfl ?_ ?_
                  · rintro w1 hS _ rfl _ rfl K hK
                    subst hS
                    (try simp only [Act.put, List.setIfInBounds_toArray, List.set_cons_zero, List.set_cons_succ])
                    go_simp
                    exact hK.out _ _ rfl (rfl)
                  exact StepsL.nil
                · have e13 : vs 13 = .bool false := hV 13 (by simp)
                  have hS2 : w' = wr.drew := hS
                  subst hS2
                  simp only [putl, List.foldl_cons, List.foldl_nil, Act.put, List.setIfInBounds_toArray, List.set_cons_zero, List.set_cons_succ, e13]
                  have p9 := p7.drew
                  clear hV e13 c1 c2 p7
                  go_wp2_with fail
                  go_roundg (gk - 1)
                  case measure => have := HK.out; omega
                  case rel => exact ⟨k + 1, by simp; omega, by have := HK.out; omega, p9, hqc⟩
              · have dk2 : decide (k < nn) = false := by simp; omega
                have D17 : Calls Try.prog 17 #[.pointer (some ⟨g, 0, none⟩)] wr fun e w' => e = .returned (.bool true) ∧ w' = wr := by
                  have := down17 p7.dk
                  rwa [hE2.1] at this
                have D18 : Calls Try.prog 18 #[.pointer (some ⟨g, 0, none⟩)] wr fun e w' => e = .returned (.int .i64 (0 : Nat)) ∧ w' = wr := by
                  have := waits18 p7.dk
                  rwa [hE2.2] at this
                have H17 := Lib.hid D17
                have H18 := Lib.hid D18
                clear hk D17 D18
                go_wp2_with (first
                  | (go_at_call 17; (with_reducible refine H17.out.mono ?_); rintro e w8 ⟨rfl, rfl⟩)
                  | (go_at_call 18; (with_reducible refine H18.out.mono ?_); rintro e w9 ⟨rfl, rfl⟩))
                go_ret
                exact ⟨rfl, p7.k⟩
end Go.Proofs.Ytklndocfgbbegaa
