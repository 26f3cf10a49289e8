/- VaultKeeps: the walk. -/
import Derived.Test.YtjabkfccfecmgaaK1
namespace Go.Proofs.Ytjabkfccfecmgaa
open Go.ChangeShapes Go.WideShapes Go.ChangeAt Go.RowKit
set_option linter.unusedSimpArgs false
set_option linter.unusedVariables false
def V13k (z : Int) (fb : Bool) (la : Addr) (len cap i m c vb rm : Nat) (ao : Option Addr) : Nat → Value → World → Prop
  | 0, v, w => v = .int .i64 z
  | 1, v, w => v = .bool fb
  | 2, v, w => v = .slice (some la) len cap
  | 3, v, w => v = .int .i64 (i : Nat)
  | 4, v, w => v = .pointer (some (la.add i))
  | 5, v, w => v = .slice ao m c
  | 6, v, w => v = .int .i64 (m : Nat)
  | 7, v, w => v = .pointer (some ⟨vb, 0, none⟩)
  | 8, v, w => v = .int .i64 (rm : Nat)
  | 9, v, w => v = .bool fb
  | 10, v, w => v = .bool false
  | _, _, _ => True
theorem V13k_keep (z : Int) (fb : Bool) (la : Addr) (len cap i m c vb rm : Nat) (ao : Option Addr) (i1 : Nat) (v : Value) (w w' : World) (h : V13k z fb la len cap i m c vb rm ao i1 v w) (r : (fun w w' => w' = w) w w') : V13k z fb la len cap i m c vb rm ao i1 v w' := by
  rcases i1 with _ | _ | _ | _ | _ | _ | _ | _ | _ | _ | _ | _
  · exact h
  · exact h
  · exact h
  · exact h
  · exact h
  · exact h
  · exact h
  · exact h
  · exact h
  · exact h
  · exact h
  · trivial
set_option maxRecDepth 20000 in
set_option maxHeartbeats 16000000 in
theorem keeps3 (k wr0 la0 op mo len cap lb cb : Nat) (lo bo : Option Addr) (Ls : List (List Byte)) (E : List Byte) (w0 : World) (hk : k < 256) (hwr : wr0 < 256) (hla0 : la0 < 256) (hop : op < 256) (hmo : mo < 256) (hlen : len = Ls.length) (hT : Txt w0 lo Ls) (hlb : lb = E.length) (hcb : lb ≤ cb) (hb : Bys w0 bo E) :
    Calls Try.prog 3 #[.int .u8 (k : Int), .slice lo len cap, .slice bo lb cb, .int .u8 (wr0 : Int), .int .u8 (la0 : Int), .int .u8 (op : Int), .int .u8 (mo : Int)] w0 fun e w' => e = .returned (.bool true) ∧ Below w0.heap.size w0 w' := by
  have HT := Lib.hid (And.intro hlen hT)
  have HE := Lib.hid (And.intro hlb (And.intro hcb hb))
  have H7 := Lib.hid head7
  obtain ⟨n, hn⟩ : ∃ n, n = 4 + k % 12 := ⟨_, rfl⟩
  have HN := Lib.hid (show 4 ≤ n ∧ n ≤ 15 ∧ n = 4 + k % 12 by omega)
  have HU := Lib.hid (And.intro hwr (And.intro hla0 (And.intro hop hmo)))
  clear hlen hT hn hlb hcb hb hwr hla0 hop hmo
  go_enter Try.func3, Try.ntmps3
  go_upto_region 2 with (first
    | (go_at_call 7; (with_reducible refine (H7.out _).mono ?_); rintro e w1 ⟨rfl, b1⟩))
  have en : (4 : Int) + (k : Int) % 12 = (n : Int) := by have := HN.out; omega
  have H8 := new8 n w1 (by have := HN.out; omega)
  go_upto_region 3 with (first
    | (go_at_call 8; (with_reducible refine H8.mono ?_); rintro e w2 ⟨g, b, rfl, hb, hD, b2⟩))
  have v2 := vd_new (w1 := w0) HN.out.1 b1 hb hD b2
  have H9 := open1 v2 HN.out.1 (by have := HN.out; omega) rfl (by omega)
  clear hb hD b2 v2 b1 H8 en
  go_upto_region 4 with (first
    | (go_at_call 9; (with_reducible refine H9.mono ?_); rintro e w3 ⟨A3, d3, vb, a3, c3, o3⟩; obtain rfl := o3.ret))
  have HO := Lib.hid o3
  clear H9 o3
  by_cases h8 : 8 < len ∨ 20000 < lb
  · have hl2 : decide ((len : Int) > 8) = true ∨ (decide ((len : Int) > 8) = false ∧ decide ((lb : Int) > 20000) = true) := by
      by_cases h : 8 < len
      · exact .inl (by simp; omega)
      · exact .inr ⟨by simp; omega, by simp; omega⟩
    clear h8
    rcases hl2 with h1 | ⟨h1, h2⟩
    all_goals
      go_wp2_with fail
      go_ret
      exact ⟨rfl, HO.out.vd.bl⟩
  · have h1 : decide ((len : Int) > 8) = false := by simp; omega
    have h2 : decide ((lb : Int) > 20000) = false := by simp; omega
    have HL := Lib.hid (show len ≤ 8 ∧ lb ≤ 20000 by omega)
    clear h8
    obtain ⟨sc, hsc⟩ : ∃ sc, sc = (n - 2) / 2 := ⟨_, rfl⟩
    obtain ⟨rm, hrm⟩ : ∃ rm, rm = sc * 512 := ⟨_, rfl⟩
    have HR := Lib.hid (show rm = (n - 2) / 2 * 512 by rw [hrm, hsc])
    clear hsc hrm
    go_wp2_with fail
    go_loopg [20, 21, 22] len (fun gk v20 v21 v22 wr => ∃ (i C : Nat) (B : List Byte) (A : Nat → Prop) (d : DS) (s : ByteArray), v20 = .string s ∧ Hid (s = strOf B) ∧ v21 = .int .i64 i ∧ i + gk = len ∧ C ≤ i ∧ Vd w0 A wr g b n C B d ∧ d.fuse = -1 ∧ Vb w0 A wr g b vb C)
    case atStart => exact ⟨0, 0, [], _, _, _, rfl, Lib.hid rfl, rfl, by omega, Nat.le_refl _, HO.out.vd, HO.out.fuse, HO.out.vb⟩
    case round =>
      obtain ⟨i, C, B, A, d, s, rfl, hs, rfl, hig, hCi, hv, hu, hkv⟩ := hrel
      have HIG := Lib.hid (And.intro hig hCi)
      have HV := Lib.hid (And.intro hv (And.intro hu hkv))
      by_cases hil : i < len
      · obtain ⟨D, hD⟩ : ∃ D, Ls[i]? = some D := ⟨_, List.getElem?_eq_getElem (by rw [← HT.out.1]; exact hil)⟩
        obtain ⟨la, hla⟩ : ∃ a, lo = some a := by
          cases e : lo with
          | none => rw [HT.out.2.nil e] at hD; simp at hD
          | some a => exact ⟨a, rfl⟩
        obtain ⟨hlb, hlc⟩ := HT.out.2.cells la hla
        obtain ⟨ao, c, hDc, hcell, hby⟩ := hlc i D hD
        subst hla
        obtain ⟨m, hm⟩ : ∃ m, m = D.length := ⟨_, rfl⟩
        rw [← hm] at hDc hcell
        have HDB := Lib.hid (And.intro hm (And.intro hDc (And.intro hby (And.intro hcell hlb))))
        have old : ∀ W, Below w0.heap.size w0 W → W.cell? (la.add i) = some (.slice ao m c) := fun W bb => (World.cell?_of_block (by rw [add_block]; exact bb.block _ HDB.out.2.2.2.2)).trans HDB.out.2.2.2.1
        have HOL := Lib.hid old
        have hcw := old _ hv.bl
        have i1 : decide (i < len) = true := by simp; omega
        have i2 : (0 : Int) ≤ (i : Int) := by omega
        have i3 : (i : Int) < (len : Int) := by omega
        have i4 : decide ((i : Int) < (len : Int)) = true := by simp; omega
        have wi : IntKind.i64.wrap ((i : Int) + 1) = ((i + 1 : Nat) : Int) := by rw [IntWalk.i64_in _ (by have := HL.out; omega)]; push_cast; rfl
        have HIL := Lib.hid hil
        clear hlb hlc hDc hcell hby hm old hD hig hCi hv hu hkv hil
        by_cases hbig : 20000 < m
        · have m1 : decide ((m : Int) > 20000) = true := by simp; omega
          have m2 : decide (20000 < m) = true := by simp; omega
          clear hbig
          go_wp2_with fail
          go_ret
          exact ⟨rfl, HV.out.1.bl⟩
        · have m1 : decide ((m : Int) > 20000) = false := by simp; omega
          have m2 : decide (20000 < m) = false := by simp; omega
          clear hbig
          by_cases hfit : m ≤ rm
          · have H10 := put1 (D := D) HV.out.1 HV.out.2.2 HN.out.1 (by have := HN.out; omega) HV.out.2.1 (by have := HIG.out; have := HL.out; omega) ao m c HDB.out.1 HDB.out.2.1 (HV.out.1.obs HDB.out.2.2.1 (bys_lt HDB.out.2.2.1)) (by rw [← HR.out]; exact hfit)
            have x1 : decide ((m : Int) ≤ (rm : Int)) = true := by simp; omega
            have x2 : decide (m ≤ rm) = true := by simp; omega
            clear hfit
            go_upto_region 13 with (first
              | (go_at_call 10; (with_reducible refine H10.mono ?_); rintro e w4 ⟨d4, o4⟩; obtain rfl := o4.ret))
            have v4 := o4.vd
            have k4 := o4.vk
            have u4 := o4.fuse
            clear H10 o4
            have H11 := Lib.hid (show Calls Try.prog 11 #[.pointer (some ⟨vb, 0, none⟩)] w4.drew fun e w' => e = .returned (.int .i64 (rm : Int)) ∧ w' = w4.drew by rw [HR.out]; exact room11 v4.dk.drew (by have := HN.out; omega) (by have := HN.out; omega) k4.blk)
            have HC4 := Lib.hid (show w4.drew.cell? (la.add i) = some (.slice ao m c) from HOL.out w4 v4.bl)
            have bd : Below w4.heap.size w4 w4.drew := (Below.refl _ w4).drew
            have HV4 := Lib.hid (And.intro (v4.below bd) (And.intro (k4.below bd) u4))
            have kD := Lib.hid (conv_bys (c := c) HDB.out.1 (HDB.out.2.2.1.below (v4.below bd).bl))
            clear v4 k4 u4 bd hcw
            refine region_monoL (fun x => x = w4.drew) (fun w w' => w' = w) (V13k 0 true la len cap i m c vb rm ao) [(0, some 87), (1, some 88), (2, some 89), (3, some 90), (4, some 91), (5, some 92), (6, some 93), (7, some 94), (8, some 95), (9, some 96), (10, some 97)] (by kernel_rfl) (by kernel_rfl) (by kernel_rfl) (fun _ _ h r => r.trans h) (fun i1 v1 w1 w2 _ h1 r1 => V13k_keep 0 true la len cap i m c vb rm ao i1 v1 w1 w2 h1 r1) (rfl) ?_ (fun vs w5 hS hV => ?_)
            · refine StepsL.cons0  (by kernel_rfl)  ?_ ?_
              · rintro w1 hS  K hK
                subst hS
                (try simp only [Act.put, List.setIfInBounds_toArray, List.set_cons_zero, List.set_cons_succ])
                go_simp
                exact hK.out _ _ rfl (rfl)
              refine StepsL.cons1 0 (some 87) (by kernel_rfl) rfl ?_ ?_
              · rintro w1 hS _ rfl K hK
                subst hS
                (try simp only [Act.put, List.setIfInBounds_toArray, List.set_cons_zero, List.set_cons_succ])
                go_simp
                exact hK.out _ _ rfl rfl
              refine StepsL.cons0  (by kernel_rfl)  ?_ ?_
              · rintro w1 hS  K hK
                subst hS
                (try simp only [Act.put, List.setIfInBounds_toArray, List.set_cons_zero, List.set_cons_succ])
                go_simp
                exact hK.out _ _ rfl (rfl)
              refine StepsL.cons0  (by kernel_rfl)  ?_ ?_
              · rintro w1 hS  K hK
                subst hS
                (try simp only [Act.put, List.setIfInBounds_toArray, List.set_cons_zero, List.set_cons_succ])
                go_simp
                exact hK.out _ _ rfl (rfl)
              refine StepsL.cons2 2 (some 89) 3 (some 90) (by kernel_rfl) rfl rfl ?_ ?_
              · rintro w1 hS _ rfl _ rfl K hK
                subst hS
                (try simp only [Act.put, List.setIfInBounds_toArray, List.set_cons_zero, List.set_cons_succ])
                go_simp
                exact hK.out _ _ rfl (rfl)
              refine StepsL.cons1 4 (some 91) (by kernel_rfl) rfl ?_ ?_
              · rintro w1 hS _ rfl K hK
                subst hS
                (try simp only [Act.put, List.setIfInBounds_toArray, List.set_cons_zero, List.set_cons_succ])
                have hx := HC4.out
                go_simp
                exact hK.out _ _ rfl rfl
              refine StepsL.cons1 5 (some 92) (by kernel_rfl) rfl ?_ ?_
              · rintro w1 hS _ rfl K hK
                subst hS
                (try simp only [Act.put, List.setIfInBounds_toArray, List.set_cons_zero, List.set_cons_succ])
                go_simp
                exact hK.out _ _ rfl (rfl)
              refine StepsL.cons0  (by kernel_rfl)  ?_ ?_
              · rintro w1 hS  K hK
                subst hS
                (try simp only [Act.put, List.setIfInBounds_toArray, List.set_cons_zero, List.set_cons_succ])
                go_simp
                exact hK.out _ _ rfl (rfl)
              refine StepsL.cons1 7 (some 94) (by kernel_rfl) rfl ?_ ?_
              · rintro w1 hS _ rfl K hK
                subst hS
                (try simp only [Act.put, List.setIfInBounds_toArray, List.set_cons_zero, List.set_cons_succ])
                have HC := H11.out
                go_simp
                go_at_call 11
                (with_reducible refine HC.mono ?_)
                rintro e w2 ⟨rfl, hw⟩
                subst hw
                exact hK.out _ _ rfl rfl
              refine StepsL.cons2 6 (some 93) 8 (some 95) (by kernel_rfl) rfl rfl ?_ ?_
              · rintro w1 hS _ rfl _ rfl K hK
                subst hS
                (try simp only [Act.put, List.setIfInBounds_toArray, List.set_cons_zero, List.set_cons_succ])
                go_simp
                exact hK.out _ _ rfl (rfl)
              refine StepsL.cons2 1 (some 88) 9 (some 96) (by kernel_rfl) rfl rfl ?_ ?_
              · rintro w1 hS _ rfl _ rfl K hK
                subst hS
                (try simp only [Act.put, List.setIfInBounds_toArray, List.set_cons_zero, List.set_cons_succ])
                go_simp
                exact hK.out _ _ rfl (rfl)
              exact StepsL.nil
            subst hS
            have e10 : vs 10 = .bool false := hV 10 (by decide)
            simp only [putl, List.foldl_cons, List.foldl_nil, Act.put, List.setIfInBounds_toArray, List.set_cons_zero, List.set_cons_succ]
            rw [e10]
            clear hV e10
            have hcw := HC4.out
            have kDD := kD.out
            go_wp2_with fail
            go_roundg (gk - 1)
            case measure => have := HIG.out.1; have := HIL.out; omega
            case rel => exact ⟨i + 1, C + 1, D, A, d4, strOf D, rfl, Lib.hid rfl, by push_cast; rfl, by have := HIG.out.1; have := HIL.out; omega, by have := HIG.out.2; omega, HV4.out.1, HV4.out.2.2, HV4.out.2.1⟩
          · have H10 := putR HV.out.1.dk HN.out.1 (by have := HN.out; omega) vb HV.out.2.2.blk ao m c (by rw [← HR.out]; exact Nat.lt_of_not_le hfit)
            have x1 : decide ((m : Int) ≤ (rm : Int)) = false := by simp; omega
            have x2 : decide (m ≤ rm) = false := by simp; omega
            clear hfit
            go_upto_region 13 with (first
              | (go_at_call 10; (with_reducible refine H10.mono ?_); rintro e w4 ⟨rfl, b4⟩))
            have v4 := HV.out.1.below b4
            have k4 := HV.out.2.2.below b4
            have u4 := HV.out.2.1
            clear H10 b4
            have H11 := Lib.hid (show Calls Try.prog 11 #[.pointer (some ⟨vb, 0, none⟩)] w4.drew fun e w' => e = .returned (.int .i64 (rm : Int)) ∧ w' = w4.drew by rw [HR.out]; exact room11 v4.dk.drew (by have := HN.out; omega) (by have := HN.out; omega) k4.blk)
            have HC4 := Lib.hid (show w4.drew.cell? (la.add i) = some (.slice ao m c) from HOL.out w4 v4.bl)
            have bd : Below w4.heap.size w4 w4.drew := (Below.refl _ w4).drew
            have HV4 := Lib.hid (And.intro (v4.below bd) (And.intro (k4.below bd) u4))
            have kD := Lib.hid (conv_bys (c := c) HDB.out.1 (HDB.out.2.2.1.below (v4.below bd).bl))
            clear v4 k4 u4 bd hcw
            refine region_monoL (fun x => x = w4.drew) (fun w w' => w' = w) (V13k 211 false la len cap i m c vb rm ao) [(0, some 87), (1, some 88), (2, some 89), (3, some 90), (4, some 91), (5, some 92), (6, some 93), (7, some 94), (8, some 95), (9, some 96), (10, some 97)] (by kernel_rfl) (by kernel_rfl) (by kernel_rfl) (fun _ _ h r => r.trans h) (fun i1 v1 w1 w2 _ h1 r1 => V13k_keep 211 false la len cap i m c vb rm ao i1 v1 w1 w2 h1 r1) (rfl) ?_ (fun vs w5 hS hV => ?_)
            · refine StepsL.cons0  (by kernel_rfl)  ?_ ?_
              · rintro w1 hS  K hK
                subst hS
                (try simp only [Act.put, List.setIfInBounds_toArray, List.set_cons_zero, List.set_cons_succ])
                go_simp
                exact hK.out _ _ rfl (rfl)
              refine StepsL.cons1 0 (some 87) (by kernel_rfl) rfl ?_ ?_
              · rintro w1 hS _ rfl K hK
                subst hS
                (try simp only [Act.put, List.setIfInBounds_toArray, List.set_cons_zero, List.set_cons_succ])
                go_simp
                exact hK.out _ _ rfl rfl
              refine StepsL.cons0  (by kernel_rfl)  ?_ ?_
              · rintro w1 hS  K hK
                subst hS
                (try simp only [Act.put, List.setIfInBounds_toArray, List.set_cons_zero, List.set_cons_succ])
                go_simp
                exact hK.out _ _ rfl (rfl)
              refine StepsL.cons0  (by kernel_rfl)  ?_ ?_
              · rintro w1 hS  K hK
                subst hS
                (try simp only [Act.put, List.setIfInBounds_toArray, List.set_cons_zero, List.set_cons_succ])
                go_simp
                exact hK.out _ _ rfl (rfl)
              refine StepsL.cons2 2 (some 89) 3 (some 90) (by kernel_rfl) rfl rfl ?_ ?_
              · rintro w1 hS _ rfl _ rfl K hK
                subst hS
                (try simp only [Act.put, List.setIfInBounds_toArray, List.set_cons_zero, List.set_cons_succ])
                go_simp
                exact hK.out _ _ rfl (rfl)
              refine StepsL.cons1 4 (some 91) (by kernel_rfl) rfl ?_ ?_
              · rintro w1 hS _ rfl K hK
                subst hS
                (try simp only [Act.put, List.setIfInBounds_toArray, List.set_cons_zero, List.set_cons_succ])
                have hx := HC4.out
                go_simp
                exact hK.out _ _ rfl rfl
              refine StepsL.cons1 5 (some 92) (by kernel_rfl) rfl ?_ ?_
              · rintro w1 hS _ rfl K hK
                subst hS
                (try simp only [Act.put, List.setIfInBounds_toArray, List.set_cons_zero, List.set_cons_succ])
                go_simp
                exact hK.out _ _ rfl (rfl)
              refine StepsL.cons0  (by kernel_rfl)  ?_ ?_
              · rintro w1 hS  K hK
                subst hS
                (try simp only [Act.put, List.setIfInBounds_toArray, List.set_cons_zero, List.set_cons_succ])
                go_simp
                exact hK.out _ _ rfl (rfl)
              refine StepsL.cons1 7 (some 94) (by kernel_rfl) rfl ?_ ?_
              · rintro w1 hS _ rfl K hK
                subst hS
                (try simp only [Act.put, List.setIfInBounds_toArray, List.set_cons_zero, List.set_cons_succ])
                have HC := H11.out
                go_simp
                go_at_call 11
                (with_reducible refine HC.mono ?_)
                rintro e w2 ⟨rfl, hw⟩
                subst hw
                exact hK.out _ _ rfl rfl
              refine StepsL.cons2 6 (some 93) 8 (some 95) (by kernel_rfl) rfl rfl ?_ ?_
              · rintro w1 hS _ rfl _ rfl K hK
                subst hS
                (try simp only [Act.put, List.setIfInBounds_toArray, List.set_cons_zero, List.set_cons_succ])
                go_simp
                exact hK.out _ _ rfl (rfl)
              refine StepsL.cons2 1 (some 88) 9 (some 96) (by kernel_rfl) rfl rfl ?_ ?_
              · rintro w1 hS _ rfl _ rfl K hK
                subst hS
                (try simp only [Act.put, List.setIfInBounds_toArray, List.set_cons_zero, List.set_cons_succ])
                go_simp
                exact hK.out _ _ rfl (rfl)
              exact StepsL.nil
            subst hS
            have e10 : vs 10 = .bool false := hV 10 (by decide)
            simp only [putl, List.foldl_cons, List.foldl_nil, Act.put, List.setIfInBounds_toArray, List.set_cons_zero, List.set_cons_succ]
            rw [e10]
            clear hV e10
            have hcw := HC4.out
            have kDD := kD.out
            go_wp2_with fail
            go_roundg (gk - 1)
            case measure => have := HIG.out.1; have := HIL.out; omega
            case rel => exact ⟨i + 1, C, B, A, d, s, rfl, hs, by push_cast; rfl, by have := HIG.out.1; have := HIL.out; omega, by have := HIG.out.2; omega, HV4.out.1, HV4.out.2.2, HV4.out.2.1⟩
      · have i1 : decide (i < len) = false := by simp; omega
        have i2 : decide ((i : Int) < (len : Int)) = false := by simp; omega
        have i3 : ¬ (i : Int) < (len : Int) := by omega
        clear hig hCi hil hv hu hkv
        have hz1 : -1 ≤ (wr0 : Int) % 40 ∧ (wr0 : Int) % 40 < 9223372036854775808 := by omega
        have H12 := arm_v HV.out.1.vx ((wr0 : Int) % 40) hz1
        clear hz1
        go_upto_region 18 with (first
          | (go_at_call 12; (with_reducible refine H12.mono ?_); rintro e w4 ⟨rfl, x4, f4⟩))
        have v4 := x4.vd HV.out.1.down HV.out.1.kp
        have k4 := HV.out.2.2.frm f4
        clear H12 x4 f4
        by_cases hfit : lb ≤ rm
        · have H10 := put2 (D := E) v4 k4 HN.out.1 (by have := HN.out; omega) (by have := HIG.out; have := HL.out; omega) bo lb cb HE.out.1 HE.out.2.1 (v4.obs HE.out.2.2 (bys_lt HE.out.2.2)) (by rw [← HR.out]; exact hfit)
          clear hfit v4 k4
          go_upto_region 19 with (first
            | (go_at_call 10; (with_reducible refine H10.mono ?_); rintro e w5 ⟨d5, r, C5, B5, rfl, x5, kp5, hdn5, hC5, hr5⟩))
          have HC5 := Lib.hid hC5
          clear H10 hC5
          obtain ⟨sE, hsE⟩ : ∃ sE, sE = strOf E := ⟨_, rfl⟩
          have HSE := Lib.hid hsE
          have KE := Lib.hid (show ∀ W, Below w0.heap.size w0 W → (convert 23 9 (.slice bo lb cb)).run Try.prog W = .ok (.string sE) W from fun W bb => by rw [hsE]; exact conv_bys (c := cb) HE.out.1 (HE.out.2.2.below bb))
          clear hsE
          obtain ⟨hb, hhb⟩ : ∃ hb, (sE.toList == s.toList) = hb := ⟨_, rfl⟩
          have hsg : ∃ sG, sG = strOf B5 ∧ ((r = 0 ∧ sG = sE) ∨ (r = 201 ∧ (sG = s ∨ sG = sE))) := by
            refine ⟨strOf B5, rfl, ?_⟩
            rcases hr5 with ⟨e1, e2⟩ | ⟨e1, e2 | e2⟩
            · exact .inl ⟨e1, by rw [e2, HSE.out]⟩
            · exact .inr ⟨e1, .inl (by rw [e2, hs.out])⟩
            · exact .inr ⟨e1, .inr (by rw [e2, HSE.out])⟩
          clear hr5
          obtain ⟨sG, hsG, hr5⟩ := hsg
          have HSG := Lib.hid hsG
          have HX5 := Lib.hid (And.intro x5 (And.intro kp5 hdn5))
          clear hsG x5 kp5 hdn5
          have hr2 : (r == 211) = false := by rcases hr5 with ⟨e1, _⟩ | ⟨e1, _⟩ <;> rw [e1] <;> rfl
          have HR5 := Lib.hid hr5
          clear hr5
          have H13 := crash_v HX5.out.1 HX5.out.2.2 ((la0 : Int) % 16)
          go_upto_region 22 with (first
            | (go_at_call 13; (with_reducible refine H13.mono ?_); rintro e w6 ⟨rfl, x6, f6⟩))
          have H14 := up_v x6
          clear H13 f6 x6 hr2
          go_upto_region 23 with (first
            | (go_at_call 14; (with_reducible refine H14.mono ?_); rintro e w7 ⟨rfl, x7, f7⟩))
          have H12 := arm_v x7 ((op : Int) % 24) (by omega)
          clear H14 f7 x7
          go_upto_region 24 with (first
            | (go_at_call 12; (with_reducible refine H12.mono ?_); rintro e w8 ⟨rfl, x8, f8⟩))
          have v8 := x8.vd rfl HX5.out.2.1
          have H9 := open2 v8 HN.out.1 (by have := HN.out; omega) (by have := HC5.out; have := HIG.out; have := HL.out; omega)
          clear H12 f8 x8 v8
          go_upto_region 25 with (first
            | (go_at_call 9; (with_reducible refine H9.mono ?_); rintro e w9 ⟨A9, d9, x9, kp9, ⟨rfl, hdn9, hf9⟩ | ⟨hdn9, qv, aq, cq, rfl, kb9, ob9⟩⟩))
          · have H13 := crash_v x9 (fun _ => hf9) ((mo : Int) % 16)
            clear H9
            go_upto_region 27 with (first
              | (go_at_call 13; (with_reducible refine H13.mono ?_); rintro e wB ⟨rfl, xB, fB⟩))
            have H14 := up_v xB
            clear H13 fB xB
            go_upto_region 28 with (first
              | (go_at_call 14; (with_reducible refine H14.mono ?_); rintro e wC ⟨rfl, xC, fC⟩))
            have H9 := open1 (xC.vd rfl kp9) HN.out.1 (by have := HN.out; omega) rfl (by have := HC5.out; have := HIG.out; have := HL.out; omega)
            clear H14 fC xC
            go_upto_region 29 with (first
              | (go_at_call 9; (with_reducible refine H9.mono ?_); rintro e wQ ⟨AQ, dQ, qv, aq, cq, oQ⟩; obtain rfl := oQ.ret))
            have vq := oQ.vd
            have kq := oQ.vb
            have oq := oQ.obs
            clear H9 oQ x9 kp9 hdn9 hf9
            have HG := Lib.hid (And.intro vq (And.intro kq oq))
            have kG : (convert 23 9 (.slice aq B5.length cq)).run Try.prog wQ = .ok (.string sG) wQ := by rw [HSG.out]; exact conv_bys (c := cq) rfl oq.bys
            have kE := KE.out _ vq.bl
            have H12 := arm_v vq.vx (-1) (by omega)
            clear vq kq oq
            have hr5 := HR5.out
            rcases hr5 with ⟨rfl, rfl⟩ | ⟨rfl, rfl | rfl⟩
            all_goals
              cases hb
            all_goals
              go_upto_region 32 with (first
                | (go_at_call 12; (with_reducible refine H12.mono ?_); rintro e wA ⟨rfl, xA, fA⟩))
            all_goals
              have vA := xA.vd HG.out.1.down HG.out.1.kp
              have kA := HG.out.2.1.frm fA
              have oA := HG.out.2.2.frm fA
              have kG2 := conv_bys (c := cq) (n := B5.length) rfl oA.bys
              rw [← HSG.out] at kG2
              have kE2 := KE.out _ vA.bl
              have kc := kcb 122 wA
              obtain ⟨vZ, oZ⟩ := obs_one vA 122#8 (xv := 122) rfl
              have kZ := (kA.below (w' := wA.alloc (.cells #[.int .u8 122] 5 (1, 2))) ((Below.refl _ wA).alloc (Nat.le_refl _) _)).re
              have H10 := put1 (D := [122#8]) vZ kZ HN.out.1 (by have := HN.out; omega) rfl (by have := HC5.out; have := HIG.out; have := HL.out; omega) (some ⟨wA.heap.size, 0, none⟩) 1 1 rfl (Nat.le_refl _) oZ (by have := HN.out; omega)
              clear xA fA vA kA oA vZ oZ kZ H12
              go_wp2_with (first
                | (go_at_call 10; (with_reducible refine H10.mono ?_); rintro e wZ ⟨dZ, oZ⟩; obtain rfl := oZ.ret))
              go_ret
              exact ⟨rfl, oZ.vd.bl⟩
          · have vq := x9.vd hdn9 kp9
            have kq := kb9
            have oq := ob9
            clear H9 x9 kp9 hdn9 kb9 ob9
            go_upto_region 29 with fail
            have HG := Lib.hid (And.intro vq (And.intro kq oq))
            have kG : (convert 23 9 (.slice aq B5.length cq)).run Try.prog w9 = .ok (.string sG) w9 := by rw [HSG.out]; exact conv_bys (c := cq) rfl oq.bys
            have kE := KE.out _ vq.bl
            have H12 := arm_v vq.vx (-1) (by omega)
            clear vq kq oq
            have hr5 := HR5.out
            rcases hr5 with ⟨rfl, rfl⟩ | ⟨rfl, rfl | rfl⟩
            all_goals
              cases hb
            all_goals
              go_upto_region 32 with (first
                | (go_at_call 12; (with_reducible refine H12.mono ?_); rintro e wA ⟨rfl, xA, fA⟩))
            all_goals
              have vA := xA.vd HG.out.1.down HG.out.1.kp
              have kA := HG.out.2.1.frm fA
              have oA := HG.out.2.2.frm fA
              have kG2 := conv_bys (c := cq) (n := B5.length) rfl oA.bys
              rw [← HSG.out] at kG2
              have kE2 := KE.out _ vA.bl
              have kc := kcb 122 wA
              obtain ⟨vZ, oZ⟩ := obs_one vA 122#8 (xv := 122) rfl
              have kZ := (kA.below (w' := wA.alloc (.cells #[.int .u8 122] 5 (1, 2))) ((Below.refl _ wA).alloc (Nat.le_refl _) _)).re
              have H10 := put1 (D := [122#8]) vZ kZ HN.out.1 (by have := HN.out; omega) rfl (by have := HC5.out; have := HIG.out; have := HL.out; omega) (some ⟨wA.heap.size, 0, none⟩) 1 1 rfl (Nat.le_refl _) oZ (by have := HN.out; omega)
              clear xA fA vA kA oA vZ oZ kZ H12
              go_wp2_with (first
                | (go_at_call 10; (with_reducible refine H10.mono ?_); rintro e wZ ⟨dZ, oZ⟩; obtain rfl := oZ.ret))
              go_ret
              exact ⟨rfl, oZ.vd.bl⟩
        · have H10 := putR v4.dk HN.out.1 (by have := HN.out; omega) vb k4.blk bo lb cb (by rw [← HR.out]; exact Nat.lt_of_not_le hfit)
          have x1 : decide ((lb : Int) > (rm : Int)) = true := by simp; omega
          have x2 : decide (rm < lb) = true := by simp; omega
          have HV4 := Lib.hid (And.intro v4 k4)
          clear hfit v4 k4
          go_upto_region 20 with (first
            | (go_at_call 10; (with_reducible refine H10.mono ?_); rintro e w5 ⟨rfl, b5⟩))
          have v5 := HV4.out.1.below b5
          have k5 := HV4.out.2.below b5
          have H11 : Calls Try.prog 11 #[.pointer (some ⟨vb, 0, none⟩)] w5 fun e w' => e = .returned (.int .i64 (rm : Int)) ∧ w' = w5 := by rw [HR.out]; exact room11 v5.dk (by have := HN.out; omega) (by have := HN.out; omega) k5.blk
          have HV5 := Lib.hid v5.bl
          clear v5 k5 b5 H10
          go_wp2_with (first
            | (go_at_call 11; (with_reducible refine H11.mono ?_); rintro e w6 ⟨rfl, hw⟩; obtain rfl : w5 = w6 := hw.symm))
          go_ret
          exact ⟨rfl, HV5.out⟩
end Go.Proofs.Ytjabkfccfecmgaa
