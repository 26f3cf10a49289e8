/- What a leaf has, and the last epoch's secret, one behind the other. -/
import Derived.Test.YtllgdlfdmmdffaaX
import Derived.Test.YtllgdlfdmmdffaaM2
namespace Go.Proofs.Ytllgdlfdmmdffaa
open Go.ChangeShapes Go.WideShapes Go.ChangeAt Go.RowKit Go.MapKept Go.ChangeMaps Go.Maps
set_option linter.unusedSimpArgs false
set_option linter.unusedVariables false
def R6 (A : Value) (k : Nat) (w w' : World) : Prop := (k = 16 → w.grownBy w' A.ownBlock) ∧ (k ≠ 16 → Below w.heap.size w w')
theorem R6.below {A : Value} {k : Nat} {w w' : World} (hk : k ≠ 16) (h : Below w.heap.size w w') : R6 A k w w' := ⟨fun e => absurd e hk, fun _ => h⟩
theorem R6.app {A : Value} {w w' : World} (h : w.grownBy w' A.ownBlock) : R6 A 16 w w' := ⟨fun _ => h, fun e => absurd rfl e⟩
structure S6 (w0 : World) (A : Value) (y : Int) (L : Nat → Bool) (w : World) : Prop where
  bl : Below w0.heap.size w0 w
  ow : L 16 = false → w.ownsRow w0.heap.size 3 1 A 1 [.int .i64 y]
theorem S6.step {w0 w : World} {A : Value} {y : Int} {L : Nat → Bool} (h : S6 w0 A y L w) (i : Nat) (hi : i ≠ 16) : S6 w0 A y (fun j => j == i || L j) w :=
  ⟨h.bl, fun e => h.ow (by simp at e; exact e.2)⟩
theorem S6.alloc {w0 w : World} {A : Value} {y : Int} {L : Nat → Bool} {i : Nat} (h : S6 w0 A y L w) (hi : i ≠ 16) (o : Obj) : S6 w0 A y (fun j => j == i || L j) (w.alloc o) :=
  ⟨h.bl.alloc h.bl.size o, fun e => (h.ow (by simp at e; exact e.2)).alloc o⟩
theorem S6.app {w0 w w' : World} {A : Value} {y : Int} {L : Nat → Bool} (h : S6 w0 A y L w) (hg : w.grownBy w' A.ownBlock) (hL : ∀ b, A.ownBlock = some b → w0.heap.size ≤ b) : S6 w0 A y (fun j => j == 16 || L j) w' :=
  ⟨h.bl.grown hg h.bl.size hL, fun e => by simp at e⟩
theorem one_at {w : World} {q : Nat} {x : Value} (h : w.heap[q]? = some (.cells #[x] 3 (0, 0))) : ∀ j u, [x][j]? = some u → w.cell? ((⟨q, 0, none⟩ : Addr).add j) = some u := fun j u hu => by
  rw [add_zero_mid, cell_of_row _ _ _ _ _ _ h]
  simpa using hu
def V34 (p l c k B : Nat) (A : Value) (ad : Addr) (x y : Int) : Nat → Value → World → Prop
  | 0, v, w => v = A
  | 1, v, w => v = .pointer (some ⟨p, 0, none⟩)
  | 2, v, w => v = .pointer (some ⟨p, 0, none⟩)
  | 3, v, w => v = .pointer (some ⟨p, 0, none⟩)
  | 4, v, w => v = .pointer (some ⟨p, 3, none⟩)
  | 5, v, w => v = .slice (some ad) l c
  | 6, v, w => v = .pointer (some ⟨p, 0, none⟩)
  | 7, v, w => v = .pointer (some ⟨p, 0, none⟩)
  | 8, v, w => v = .pointer (some ⟨p, 0, none⟩)
  | 9, v, w => v = .pointer (some ⟨p, 3, none⟩)
  | 10, v, w => v = .slice (some ad) l c
  | 11, v, w => v = .int .i64 (l : Nat)
  | 12, v, w => v = .int .i64 (k : Nat)
  | 13, v, w => v = .pointer (some (ad.add k))
  | 14, v, w => v = .int .i64 x
  | 15, v, w => ∃ q, v = .slice (some ⟨q, 0, none⟩) 1 1 ∧ w.heap[q]? = some (.cells #[.int .i64 x] 3 (0, 0)) ∧ A.ownBlock ≠ some q
  | 16, v, w => ∃ g cap, v = .slice (some ⟨g, 0, none⟩) 2 cap ∧ w.ownsRow B 3 1 v 2 [.int .i64 y, .int .i64 x]
  | 17, v, w => v = .int .i64 2
  | 18, v, w => v = .int .i64 0
  | _, _, _ => True
theorem V34_keep (p l c k B : Nat) (A : Value) (ad : Addr) (x y : Int) (k1 i1 : Nat) (v : Value) (w w' : World) (hk : k1 ≠ i1) (h : V34 p l c k B A ad x y i1 v w) (r : R6 A k1 w w') : V34 p l c k B A ad x y i1 v w' := by
  rcases i1 with _ | _ | _ | _ | _ | _ | _ | _ | _ | _ | _ | _ | _ | _ | _ | _ | _ | _ | _ | _
  · exact h
  · exact h
  · exact h
  · exact h
  · exact h
  · exact h
  · exact h
  · exact h
  · exact h
  · exact h
  · exact h
  · exact h
  · exact h
  · exact h
  · exact h
  · obtain ⟨q, h1, h2, h3⟩ := h
    refine ⟨q, h1, ?_, h3⟩
    by_cases e : k1 = 16
    · exact ((r.1 e).block q (Array.getElem?_eq_some_iff.1 h2).1 (fun x => h3 x.symm)).trans h2
    · exact ((r.2 e).block q (Array.getElem?_eq_some_iff.1 h2).1).trans h2
  · obtain ⟨g, cap, h1, h2⟩ := h
    exact ⟨g, cap, h1, (KC.of (r.2 hk)).own h2⟩
  · exact h
  · exact h
  · trivial
theorem sorted_one (w : World) (m : Nat) (k : Int) (hm : w.heap[m]? = some (eM k 0)) :
    Calls Try.prog 42 #[.func (.func 53) #[] #[.pointer (some ⟨w.heap.size, 0, none⟩)]] (w.alloc (.cells #[.map (some m)] 66)) fun e w' => ∃ ao c, e = .returned (.slice ao 1 c) ∧ Ilz w'.heap.size w' ao [0] ∧ Below (w.alloc (.cells #[.map (some m)] 66)).heap.size (w.alloc (.cells #[.map (some m)] 66)) w' := by
  refine (sorted42 m 1 _ _ w (owns_one w m 0 (.int .i64 k) (by decide) hm) (by decide) (by decide)).mono ?_
  rintro e w' ⟨v, ss, rfl, hp, ho, hb⟩
  have hss : ss = [0] := by
    have : intKeys (.map [(Lit.int .i64 0, (.nil : DataW Unit))]) = [0] := rfl
    rw [this] at hp
    exact List.perm_singleton.1 hp
  subst hss
  have e1 : ([0] : List Int).mergeSort (fun x y => decide (x ≤ y)) = [0] := by simp
  rw [e1] at ho
  obtain ⟨ao, c, rfl, _, hi⟩ := own_ilz (L := [0]) ho
  exact ⟨ao, c, rfl, hi, hb⟩
theorem last_cell {w : World} {base n : Nat} {v : Value} {L : List Int} {e : Int} (ho : w.ownsRow base 3 1 v n (L.map (Value.int .i64))) (hL : L.getLast? = some e) : ∃ g cap k, v = .slice (some ⟨g, 0, none⟩) n cap ∧ n = k + 1 ∧ g < w.heap.size ∧ w.cell? ((⟨g, 0, none⟩ : Addr).add k) = some (.int .i64 e) := by
  have hl : n = L.length := by have := ho.1; simp at this; omega
  have hne : L ≠ [] := fun h => by rw [h] at hL; cases hL
  have hpos : 0 < n := by
    rw [hl]
    exact List.length_pos_iff.2 hne
  obtain ⟨g, cap, rfl, _, hg⟩ := ho.form hpos
  refine ⟨g, cap, n - 1, rfl, by omega, hg, ?_⟩
  refine ho.cells (g := g) rfl (n - 1) _ ?_
  rw [List.getElem?_map, hl, ← List.getLast?_eq_getElem?, hL]
  rfl
theorem Pty.factsK' {w0 w w2 : World} {p t h n2 : Nat} {many init x : Int} {Rs : List Rl} {Kn Ep : List Int} {ins : Nat → Bool} {c : Nat → Value} {a3 : Option Addr} {c3 g cap2 : Nat} (P1 : Pty w0 w p many Rs Kn Ep ins t h init c) (hc3 : c 2 = .slice a3 n2 c3) (hn : n2 = Kn.length)
    (own2 : w2.ownsRow w0.heap.size 3 1 (.slice (some ⟨g, 0, none⟩) (n2 + 1) cap2) (n2 + 1) (Kn.map (Value.int .i64) ++ [.int .i64 x]))
    (gr2 : (w.alloc (.cells #[.int .i64 x] 3)).grownBy w2 (Value.slice a3 n2 c3).ownBlock) (at2 : (Value.slice a3 n2 c3).ownBlock = some g ∨ g = (w.alloc (.cells #[.int .i64 x] 3)).heap.size) :
    w2.cell? ⟨p, 2, none⟩ = some (.slice a3 n2 c3) ∧ w2.frozen? ⟨p, 2, none⟩ = false ∧ KM w (w2.setCell ⟨p, 2, none⟩ (.slice (some ⟨g, 0, none⟩) (n2 + 1) cap2)) ∧
      Pty w0 (w2.setCell ⟨p, 2, none⟩ (.slice (some ⟨g, 0, none⟩) (n2 + 1) cap2)) p many Rs (Kn ++ [x]) Ep ins t h init (updV c 2 (.slice (some ⟨g, 0, none⟩) (n2 + 1) cap2)) := by
  subst hn
  exact P1.factsK hc3 own2 gr2 at2
def addK (L : List Int) (x : Int) : List Int := if (L.any fun y => decide (x = y)) = true then L else L ++ [x]
section
variable {w0 w w' : World} {p t h m : Nat} {many init k1 k2 e : Int} {Rs : List Rl} {Kn Ep : List Int} {ins : Nat → Bool} {c : Nat → Value}
def Rev (w0 w : World) (p : Nat) (many : Int) (Rs : List Rl) (Kn Ep : List Int) (ins : Nat → Bool) (t h : Nat) (init k2 e : Int) (en : Ending) (w' : World) : Prop :=
  en = .returned (.tuple #[]) ∧ KM w w' ∧ ∃ c', Pty w0 w' p many Rs (addK (addK Kn k2) e) Ep ins t h init c'
set_option maxRecDepth 20000 in
set_option maxHeartbeats 16000000 in
theorem reveal34 (hP : Pty w0 w p many Rs Kn Ep ins t h init c) (hM : Mps w t h m k1 k2 0) (hE : Ep.getLast? = some e) (hEl : Ep.length ≤ 1000) (hKl : Kn.length ≤ 1000) :
    Calls Try.prog 34 #[.pointer (some ⟨p, 0, none⟩), .int .i64 0] w (Rev w0 w p many Rs Kn Ep ins t h init k2 e) := by
  obtain ⟨i0, hin, hz0, hz1, hz2⟩ := info_parts info3
  have c13 := (hP.pc.cell 13 (by decide)).trans (congrArg some hP.ch)
  have lk := run_look1 (T := 52) Try.underlying52 hM.h
  have H43 := keys43 (some m) w
  have H42 := sorted_one w m k2 hM.m
  have kA : Below w.heap.size w (w.alloc (.cells #[.map (some m)] 66)) := (Below.refl _ w).alloc (Nat.le_refl _) _
  have HP := Lib.hid (And.intro hP (And.intro hM kA))
  have HE := Lib.hid (And.intro hE (And.intro hEl hKl))
  clear hP hM hE hEl hKl kA
  go_enter Try.func34, Try.ntmps34
  go_wp2_with (first
    | (go_at_call 43; (with_reducible refine H43.mono ?_); rintro e1 w1 ⟨rfl, rfl⟩)
    | (go_at_call 42; (with_reducible refine H42.mono ?_); rintro e1 w2 ⟨sa, sc, rfl, hs2, b2⟩; have HS2 := Lib.hid (And.intro hs2 (below_then HP.out.2.2 b2)); clear hs2 b2 H42 H43))
  have c13b := ((HP.out.1.below HS2.out.2).pc.cell 13 (by decide)).trans (congrArg some HP.out.1.ch)
  clear c13 lk
  go_loopg [4, 18] 1 (fun gk v4 v18 wr => ∃ k : Nat, v18 = .int .i64 k ∧ k + gk = 1 ∧ wr.ownsRow w2.heap.size 3 1 v4 k (if k = 0 then [] else [.int .i64 k2]) ∧ Below w2.heap.size w2 wr)
  case atStart => exact ⟨0, rfl, by omega, World.ownsRow_nil _ _ _ _, Below.refl _ _⟩
  case round =>
    obtain ⟨k, rfl, hkg, hown, hkb⟩ := hrel
    have HG := Lib.hid hkg
    have BW := Lib.hid (below_then HS2.out.2 hkb)
    obtain ⟨a4, c4, rfl⟩ := row_form hown
    by_cases h1 : k < 1
    · have d1 : decide ((k : Int) < 1) = true := by simp; omega
      obtain rfl : k = 0 := by omega
      obtain ⟨sd, rfl⟩ := HS2.out.1.some_ (by simp)
      have hcs := ((HS2.out.1.below hkb (Nat.le_refl _)).cells sd rfl 0 0 rfl).2
      have hcs0 : wr.cell? sd = some (.int .i64 0) := hcs
      have c13r := ((HP.out.1.below BW.out).pc.cell 13 (by decide)).trans (congrArg some HP.out.1.ch)
      have lk1 := run_look1 (T := 52) Try.underlying52 (HP.out.2.1.keep (KM.of BW.out)).h
      have lk2 := run_look1 (T := 66) Try.underlying66 (HP.out.2.1.keep (KM.of BW.out)).m
      have hbs := hkb.size
      clear hkg c13b
      go_wp2_with (first
        | (at_builtin; refine wpList_append_own _ rfl _ _ 22 rfl w2.heap.size 3 i0 (.int .i64 0) 1 8 Try.underlying22 hin hz0 hz1 hz2 rfl (by decide) _ _ _ rfl (hown.alloc _) ⟨wr.heap.size, 0, none⟩ 1 1 [.int .i64 k2] rfl rfl ?c1 ?c2 ?c3 ?c4 ?c5 ?_; (case c1 => exact cell_one_new _ _ _); (case c2 => simp [Value.oneCell']); (case c3 => unfold maxLen; omega); (case c4 => omega); (case c5 => simp; omega); intro v' w4 o4 g4 _))
      have hkb4 : Below w2.heap.size w2 w4 := (hkb.alloc hbs _).grown g4 (by simp; omega) (fun q hq => (hown.lt q hq).1)
      go_roundg 0
      case measure => have := HG.out; omega
      case rel => exact ⟨1, rfl, rfl, o4, hkb4⟩
    · have d1 : decide ((k : Int) < 1) = false := by simp; omega
      obtain rfl : k = 1 := by have := HG.out; omega
      clear hkg c13b
      obtain ⟨eg, ec, ek, hce, hel, hegl, hecell⟩ := last_cell (HP.out.1.below HS2.out.2).e HE.out.1
      obtain ⟨el, hel2⟩ : ∃ el, el = Ep.length := ⟨_, rfl⟩
      rw [← hel2] at hel hce
      obtain ⟨ad, had⟩ : ∃ ad : Addr, ad = ⟨eg, 0, none⟩ := ⟨_, rfl⟩
      have hadb : (ad.add ek).block < w2.heap.size := by rw [add_block, had]; exact hegl
      rw [← had] at hce hecell
      have HPE := Lib.hid (show p < w2.heap.size ∧ w2.cell? ⟨p, 3, none⟩ = some (.slice (some ad) el ec) from ⟨(HP.out.1.below HS2.out.2).pc.lt, ((HP.out.1.below HS2.out.2).pc.cell 3 (by decide)).trans (congrArg some hce)⟩)
      have HPX := Lib.hid (And.intro hadb hecell)
      have q0 : (0 : Int) ≤ (ek : Int) := by omega
      have q1 : (ek : Int) < (el : Int) := by omega
      have hel3 : el ≤ 1000 := by rw [hel2]; exact HE.out.2.1
      have e12 : IntKind.i64.wrap ((el : Int) - 1) = (ek : Int) := by rw [show (el : Int) - 1 = (ek : Int) by omega]; exact IntWalk.i64_in _ (by omega)
      obtain ⟨A, hA⟩ : ∃ A, A = Value.slice a4 1 c4 := ⟨_, rfl⟩
      have hoA : wr.ownsRow w2.heap.size 3 1 A 1 [.int .i64 k2] := by rw [hA]; exact hown
      clear hce hel hegl hecell had hadb hel2 hown BW
      go_upto_region 6 with (fail)
      rw [← hA]
      have HAQ := Lib.hid hA
      clear hA
      refine region_monoN (S6 w2 A k2) (R6 A) (V34 p el ec ek w2.heap.size A ad e k2) [(0, some 34), (1, some 35), (2, some 36), (3, some 37), (4, some 38), (5, some 39), (6, some 40), (7, some 41), (8, some 42), (9, some 43), (10, some 44), (11, some 45), (12, some 46), (13, some 47), (14, some 48), (15, some 49), (16, some 50), (17, some 51), (18, some 52)] (by kernel_rfl) (by kernel_rfl) (by kernel_rfl) (fun k1 i1 v1 w1 w2 hk1 h1 r1 => V34_keep p el ec ek _ _ ad e k2 k1 i1 v1 w1 w2 hk1 h1 r1) (⟨hkb.drew, fun _ => hoA⟩) ?_ (fun vs w' L hS hLL hV => ?_)
      · refine StepsN.cons0  (by kernel_rfl)  ?_ ?_
        · rintro L hC hL w1 hS  K hK
          (try simp only [Act.put, List.setIfInBounds_toArray, List.set_cons_zero, List.set_cons_succ])
          go_simp
          exact hK.out _ _ rfl ⟨hS.step _ (by decide), R6.below (by decide) (Below.refl _ _)⟩
        refine StepsN.cons0  (by kernel_rfl)  ?_ ?_
        · rintro L hC hL w1 hS  K hK
          (try simp only [Act.put, List.setIfInBounds_toArray, List.set_cons_zero, List.set_cons_succ])
          go_simp
          exact hK.out _ _ rfl ⟨hS.step _ (by decide), R6.below (by decide) (Below.refl _ _)⟩
        refine StepsN.cons1 1 (some 35) (by kernel_rfl) rfl ?_ ?_
        · rintro L hC hL w1 hS _ rfl K hK
          (try simp only [Act.put, List.setIfInBounds_toArray, List.set_cons_zero, List.set_cons_succ])
          go_simp
          exact hK.out _ _ rfl ⟨hS.step _ (by decide), R6.below (by decide) (Below.refl _ _)⟩
        refine StepsN.cons1 2 (some 36) (by kernel_rfl) rfl ?_ ?_
        · rintro L hC hL w1 hS _ rfl K hK
          (try simp only [Act.put, List.setIfInBounds_toArray, List.set_cons_zero, List.set_cons_succ])
          go_simp
          exact hK.out _ _ rfl ⟨hS.step _ (by decide), R6.below (by decide) (Below.refl _ _)⟩
        refine StepsN.cons1 3 (some 37) (by kernel_rfl) rfl ?_ ?_
        · rintro L hC hL w1 hS _ rfl K hK
          (try simp only [Act.put, List.setIfInBounds_toArray, List.set_cons_zero, List.set_cons_succ])
          go_simp
          exact hK.out _ _ rfl ⟨hS.step _ (by decide), R6.below (by decide) (Below.refl _ _)⟩
        refine StepsN.cons1 4 (some 38) (by kernel_rfl) rfl ?_ ?_
        · rintro L hC hL w1 hS _ rfl K hK
          (try simp only [Act.put, List.setIfInBounds_toArray, List.set_cons_zero, List.set_cons_succ])
          have hcE := (hS.bl.cell (p := ⟨p, 3, none⟩) HPE.out.1).trans HPE.out.2
          go_simp
          exact hK.out _ _ rfl ⟨hS.step _ (by decide), R6.below (by decide) (Below.refl _ _)⟩
        refine StepsN.cons0  (by kernel_rfl)  ?_ ?_
        · rintro L hC hL w1 hS  K hK
          (try simp only [Act.put, List.setIfInBounds_toArray, List.set_cons_zero, List.set_cons_succ])
          go_simp
          exact hK.out _ _ rfl ⟨hS.step _ (by decide), R6.below (by decide) (Below.refl _ _)⟩
        refine StepsN.cons1 6 (some 40) (by kernel_rfl) rfl ?_ ?_
        · rintro L hC hL w1 hS _ rfl K hK
          (try simp only [Act.put, List.setIfInBounds_toArray, List.set_cons_zero, List.set_cons_succ])
          go_simp
          exact hK.out _ _ rfl ⟨hS.step _ (by decide), R6.below (by decide) (Below.refl _ _)⟩
        refine StepsN.cons1 7 (some 41) (by kernel_rfl) rfl ?_ ?_
        · rintro L hC hL w1 hS _ rfl K hK
          (try simp only [Act.put, List.setIfInBounds_toArray, List.set_cons_zero, List.set_cons_succ])
          go_simp
          exact hK.out _ _ rfl ⟨hS.step _ (by decide), R6.below (by decide) (Below.refl _ _)⟩
        refine StepsN.cons1 8 (some 42) (by kernel_rfl) rfl ?_ ?_
        · rintro L hC hL w1 hS _ rfl K hK
          (try simp only [Act.put, List.setIfInBounds_toArray, List.set_cons_zero, List.set_cons_succ])
          go_simp
          exact hK.out _ _ rfl ⟨hS.step _ (by decide), R6.below (by decide) (Below.refl _ _)⟩
        refine StepsN.cons1 9 (some 43) (by kernel_rfl) rfl ?_ ?_
        · rintro L hC hL w1 hS _ rfl K hK
          (try simp only [Act.put, List.setIfInBounds_toArray, List.set_cons_zero, List.set_cons_succ])
          have hcE := (hS.bl.cell (p := ⟨p, 3, none⟩) HPE.out.1).trans HPE.out.2
          go_simp
          exact hK.out _ _ rfl ⟨hS.step _ (by decide), R6.below (by decide) (Below.refl _ _)⟩
        refine StepsN.cons1 10 (some 44) (by kernel_rfl) rfl ?_ ?_
        · rintro L hC hL w1 hS _ rfl K hK
          (try simp only [Act.put, List.setIfInBounds_toArray, List.set_cons_zero, List.set_cons_succ])
          go_simp
          exact hK.out _ _ rfl ⟨hS.step _ (by decide), R6.below (by decide) (Below.refl _ _)⟩
        refine StepsN.cons1 11 (some 45) (by kernel_rfl) rfl ?_ ?_
        · rintro L hC hL w1 hS _ rfl K hK
          (try simp only [Act.put, List.setIfInBounds_toArray, List.set_cons_zero, List.set_cons_succ])
          go_simp
          first | exact hK.out _ _ rfl ⟨hS.step _ (by decide), R6.below (by decide) (Below.refl _ _)⟩ | exact hK.out _ _ (congrArg (Value.int .i64) e12) ⟨hS.step _ (by decide), R6.below (by decide) (Below.refl _ _)⟩
        refine StepsN.cons2 5 (some 39) 12 (some 46) (by kernel_rfl) rfl rfl ?_ ?_
        · rintro L hC hL w1 hS _ rfl _ rfl K hK
          (try simp only [Act.put, List.setIfInBounds_toArray, List.set_cons_zero, List.set_cons_succ])
          go_simp
          exact hK.out _ _ rfl ⟨hS.step _ (by decide), R6.below (by decide) (Below.refl _ _)⟩
        refine StepsN.cons1 13 (some 47) (by kernel_rfl) rfl ?_ ?_
        · rintro L hC hL w1 hS _ rfl K hK
          (try simp only [Act.put, List.setIfInBounds_toArray, List.set_cons_zero, List.set_cons_succ])
          have hcX := (hS.bl.cell (p := ad.add ek) HPX.out.1).trans HPX.out.2
          go_simp
          exact hK.out _ _ rfl ⟨hS.step _ (by decide), R6.below (by decide) (Below.refl _ _)⟩
        refine StepsN.cons1 14 (some 48) (by kernel_rfl) rfl ?_ ?_
        · rintro L hC hL w1 hS _ rfl K hK
          (try simp only [Act.put, List.setIfInBounds_toArray, List.set_cons_zero, List.set_cons_succ])
          have h15 : L 15 = false := hL
          have h16 := hC.no h15 (j := 16) rfl (by kernel_rfl)
          go_simp
          exact hK.out _ _ ⟨w1.heap.size, rfl, heap_alloc_new w1 _, fun e => by have := ((hS.ow h16).lt _ e).2; omega⟩ ⟨hS.alloc (by decide) _, R6.below (by decide) ((Below.refl _ _).alloc (Nat.le_refl _) _)⟩
        refine StepsN.cons2 0 (some 34) 15 (some 49) (by kernel_rfl) rfl rfl ?_ ?_
        · rintro L hC hL w1 hS _ e0 _ ⟨q15, rfl, h15, n15⟩ K hK
          (try simp only [Act.put, List.setIfInBounds_toArray, List.set_cons_zero, List.set_cons_succ])
          rw [if_pos (by rfl)]
          have h16 : L 16 = false := hL
          refine wp_append_lies w1 (.tmp 34) (.tmp 49) 22 rfl w2.heap.size 3 i0 (.int .i64 0) 1 8 Try.underlying22 hin hz0 hz1 hz2 rfl (by decide) A 1 [.int .i64 k2] e0 (hS.ow h16) ⟨q15, 0, none⟩ 1 1 [.int .i64 e] rfl rfl (one_at h15) (by simp [Value.oneCell']) (by omega) (by unfold maxLen; omega) (by omega) hS.bl.size _ rfl ?_
          intro g cap w3 own3 gr3 at3 lt3
          exact hK.out _ _ ⟨g, cap, rfl, own3⟩ ⟨hS.app gr3 (fun b hb => ((hS.ow h16).lt b hb).1), R6.app gr3⟩
        refine StepsN.cons1 16 (some 50) (by kernel_rfl) rfl ?_ ?_
        · rintro L hC hL w1 hS _ ⟨g16, c16, rfl, o16⟩ K hK
          (try simp only [Act.put, List.setIfInBounds_toArray, List.set_cons_zero, List.set_cons_succ])
          go_simp
          exact hK.out _ _ rfl ⟨hS.step _ (by decide), R6.below (by decide) (Below.refl _ _)⟩
        refine StepsN.cons0  (by kernel_rfl)  ?_ ?_
        · rintro L hC hL w1 hS  K hK
          (try simp only [Act.put, List.setIfInBounds_toArray, List.set_cons_zero, List.set_cons_succ])
          go_simp
          exact hK.out _ _ rfl ⟨hS.step _ (by decide), R6.below (by decide) (Below.refl _ _)⟩
        exact StepsN.nil
      obtain ⟨gq, cq, hv16, ho16⟩ := hV 16 (by decide)
      have hv17 : vs 17 = .int .i64 2 := hV 17 (by decide)
      have hv18 : vs 18 = .int .i64 0 := hV 18 (by decide)
      have HQ := Lib.hid (And.intro hS.bl ho16)
      have HV16 := Lib.hid (val_block hv16)
      have ho16b := ho16
      rw [hv16] at ho16b
      obtain ⟨aq, cq2, hvq, hlq, hiq⟩ := own_ilz (L := [k2, e]) ho16b
      simp only [putl, List.foldl_cons, List.foldl_nil, Act.put, List.setIfInBounds_toArray, List.set_cons_zero, List.set_cons_succ]
      rw [hv16, hv17, hv18]
      injection hvq with hq1 hq2 hq3
      subst hq1
      have HIQ := Lib.hid hiq
      clear hV hS hv16 hv17 hv18 ho16 ho16b hlq hq2 hq3 hiq
      go_wp2_with fail
      have hbw9 := below_then HS2.out.2 HQ.out.1
      have hgq : gq < w'.heap.size := (HQ.out.2.lt gq HV16.out).2
      have hgq2 : w2.heap.size ≤ gq := (HQ.out.2.lt gq HV16.out).1
      have HP9 := Lib.hid (show Pty w0 w' p many Rs Kn Ep ins t h init c ∧ KM w w' ∧ (c 2).ownBlock ≠ some gq ∧ gq < w'.heap.size from ⟨HP.out.1.below hbw9, KM.of hbw9, (fun e => by have := (HP.out.1.k.lt gq e).2; have := HS2.out.2.size; omega), hgq⟩)
      have HG2 := Lib.hid hgq2
      obtain ⟨wz, hwz⟩ : ∃ wz, wz = w' := ⟨_, rfl⟩
      rw [← hwz] at HP9 HIQ ⊢
      clear hbw9 hgq hgq2 hwz HQ
      go_loopg [52] 2 (fun gk v52 wr => ∃ (k : Nat) (c' : Nat → Value), v52 = .int .i64 k ∧ k + gk = 2 ∧ Pty w0 wr p many Rs (([k2, e].take k).foldl addK Kn) Ep ins t h init c' ∧ KM w wr ∧ (c' 2).ownBlock ≠ some gq ∧ wr.heap[gq]? = wz.heap[gq]? ∧ gq < wr.heap.size ∧ (([k2, e].take k).foldl addK Kn).length ≤ 1000 + k)
      case atStart => exact ⟨0, c, rfl, by omega, HP9.out.1, HP9.out.2.1, HP9.out.2.2.1, rfl, HP9.out.2.2.2, HE.out.2.2⟩
      case round =>
        obtain ⟨k, c', rfl, hkg, hPk, hkm, hne, hsame, hglt, hlen⟩ := hrel
        have HG := Lib.hid (And.intro hkg hlen)
        by_cases h2 : k < 2
        · have d1 : decide ((k : Int) < 2) = true := by simp; omega
          obtain ⟨x, hx⟩ : ∃ x, ([k2, e] : List Int)[k]? = some x := ⟨[k2, e][k]'(by simpa using h2), List.getElem?_eq_getElem _⟩
          have hcx : wr.cell? ((⟨gq, 0, none⟩ : Addr).add k) = some (.int .i64 x) := (World.cell?_of_block (by rw [add_block]; exact hsame)).trans (HIQ.out.cells _ rfl k x hx).2
          rw [add_zero_mid] at hcx
          have hstep : ([k2, e].take (k + 1)).foldl addK Kn = addK (([k2, e].take k).foldl addK Kn) x := by
            rw [List.take_add_one, hx, List.foldl_append]; rfl
          have HST := Lib.hid hstep
          generalize ([k2, e].take k).foldl addK Kn = KK at hPk HST hlen HG
          have cK := hPk.pc.cell 2 (by decide)
          obtain ⟨a2, n2, c2, hc2, hn2, hi2⟩ : ∃ a2 n2 c2, c' 2 = .slice a2 n2 c2 ∧ n2 = KK.length ∧ Ilz wr.heap.size wr a2 KK := by
            obtain ⟨a, cq5, h5, h6, h7⟩ := own_ilz hPk.k
            exact ⟨a, KK.length, cq5, h5, rfl, h7⟩
          rw [hc2] at cK
          have H44 := contains44 x a2 n2 c2 _ KK wr hn2 (by omega) hi2
          have hok := hPk.k
          rw [hc2, ← hn2] at hok
          have hbs : w0.heap.size ≤ wr.heap.size := hPk.bl.size
          have HPK := Lib.hid (And.intro hPk (And.intro hkm (And.intro hne (And.intro hsame (And.intro hglt (And.intro hc2 hn2))))))
          have q0 : (0 : Int) ≤ (k : Int) := by omega
          have q1 : (k : Int) < 2 := by omega
          have hn2b : n2 ≤ 2000 := by omega
          clear hPk hkm hne hsame hglt hlen hkg hx hstep hc2 hi2 hn2
          obtain ⟨q, hq⟩ : ∃ q, (KK.any fun y => decide (x = y)) = q := ⟨_, rfl⟩
          rw [hq] at H44
          have HQQ := Lib.hid hq
          clear hq
          cases q with
          | true =>
            go_wp2_with (go_at_call 44; (with_reducible refine H44.mono ?_); rintro e9 w9 ⟨rfl, hw9⟩; obtain rfl : wr = w9 := hw9.symm)
            go_roundg (gk - 1)
            case measure => have := HG.out.1; omega
            case rel =>
              have e9 : addK KK x = KK := by unfold addK; rw [if_pos HQQ.out]
              exact ⟨k + 1, c', by simp, by have := HG.out.1; omega, by rw [HST.out, e9]; exact HPK.out.1, HPK.out.2.1, HPK.out.2.2.1, HPK.out.2.2.2.1, HPK.out.2.2.2.2.1, by rw [HST.out, e9]; have := HG.out.2; omega⟩
          | false =>
            go_wp2_with (first
              | (go_at_call 44; (with_reducible refine H44.mono ?_); rintro e9 w9 ⟨rfl, hw9⟩; obtain rfl : wr = w9 := hw9.symm)
              | (at_builtin; refine wpList_append_lies _ rfl (.tmp 69) (.tmp 71) 22 rfl w0.heap.size 3 i0 (.int .i64 0) 1 8 Try.underlying22 hin hz0 hz1 hz2 rfl (by decide) (.slice a2 n2 c2) n2 (KK.map (Value.int .i64)) rfl (hok.alloc _) ⟨wr.heap.size, 0, none⟩ 1 1 [.int .i64 x] rfl rfl ?d1 ?d2 ?d3 ?d4 ?d5 ?d6 _ rfl ?_; (case d1 => exact cell_one_new _ _ _); (case d2 => simp [Value.oneCell']); (case d3 => omega); (case d4 => unfold maxLen; omega); (case d5 => omega); (case d6 => simp <;> omega); intro g cap2 w5 own5 gr5 at5 lt5; obtain ⟨hq1, hq2, hm5, hp5⟩ := HPK.out.1.factsK' HPK.out.2.2.2.2.2.1 HPK.out.2.2.2.2.2.2 own5 gr5 at5; have HP5 := Lib.hid (And.intro hp5 (And.intro hm5 (And.intro gr5 (And.intro at5 lt5)))); clear own5 gr5 at5 lt5 hm5 hp5))
            have hP5 := HP5.out.1
            have hne5 : (Value.slice a2 n2 c2).ownBlock ≠ some gq := by have := HPK.out.2.2.1; rwa [HPK.out.2.2.2.2.2.1] at this
            have hng : g ≠ gq := fun e9 => by
              rcases HP5.out.2.2.2.1 with h9 | h9
              · exact hne5 (by rw [h9, e9])
              · have := HPK.out.2.2.2.2.1; simp at h9; omega
            have hpq : gq ≠ p := by have := HG2.out; have := HPE.out.1; omega
            have e9 : addK KK x = KK ++ [x] := by unfold addK; rw [if_neg (by rw [HQQ.out]; simp)]
            have hs5 : (w5.setCell ⟨p, 2, none⟩ (.slice (some ⟨g, 0, none⟩) (n2 + 1) cap2)).heap[gq]? = wz.heap[gq]? :=
              (heap_setCell_other w5 ⟨p, 2, none⟩ gq _ hpq).trans ((HP5.out.2.2.1.block gq (by have := HPK.out.2.2.2.2.1; simp; omega) (fun e8 => hne5 e8.symm)).trans ((Below.heap_alloc _ _ _ HPK.out.2.2.2.2.1).trans HPK.out.2.2.2.1))
            have hl5 : gq < (w5.setCell ⟨p, 2, none⟩ (.slice (some ⟨g, 0, none⟩) (n2 + 1) cap2)).heap.size := by
              have h8 := HP5.out.2.2.1.size
              have h9 := HPK.out.2.2.2.2.1
              simp at h8 ⊢
              omega
            have HREL := Lib.hid (And.intro hP5 (And.intro hng (And.intro e9 (And.intro hs5 hl5))))
            clear hP5 hne5 hng hpq e9 hs5 hl5
            go_roundg (gk - 1)
            case measure => have := HG.out.1; omega
            case rel =>
              exact ⟨k + 1, _, by simp, by have := HG.out.1; omega, by rw [HST.out, HREL.out.2.2.1]; exact HREL.out.1, HPK.out.2.1.trans HP5.out.2.1, fun e8 => HREL.out.2.1 (by injection e8), HREL.out.2.2.2.1, HREL.out.2.2.2.2, by rw [HST.out, HREL.out.2.2.1, List.length_append]; have := HG.out.2; simp; omega⟩
        · have d1 : decide ((k : Int) < 2) = false := by simp; omega
          obtain rfl : k = 2 := by omega
          clear hkg
          go_wp2_with fail
          go_end0
          exact ⟨rfl, hkm, c', hPk⟩
end
end Go.Proofs.Ytllgdlfdmmdffaa
