/- The change of a state, walked. -/
import Derived.Test.YtgjcofneecebjaaDoorB
import Derived.Test.YtgjcofneecebjaaDoorM
import Derived.Outline
import Derived.BigRegion
import Derived.Deep.QuietTactic
import Derived.BigQuiet
import Derived.Deep.DeepCutAuto
import Derived.Deep.LoopGhost
namespace Go.Proofs.YtgjcofneecebjaaDoor
open Go.ChangeShapes Go.WideShapes Go.ChangeAt Go.RowKit
set_option linter.unusedSimpArgs false
set_option linter.unusedVariables false
theorem grownBy_alloc' {w w' : World} {r : Option Nat} (h : w.grownBy w' r) (o : Obj) : w.grownBy (w'.alloc o) r :=
  ⟨h.os, h.tape, h.output, by simp; exact Nat.le_succ_of_le h.size, fun k hk hne => (Below.heap_alloc w' o k (Nat.lt_of_lt_of_le hk h.size)).trans (h.block k hk hne)⟩
theorem grown_below {w w1 w2 : World} {r : Option Nat} (h : w.grownBy w1 r) (j : Below w1.heap.size w1 w2) : w.grownBy w2 r :=
  ⟨j.os.trans h.os, j.tape.trans h.tape, j.output.trans h.output, Nat.le_trans h.size j.size, fun k hk hne => (j.block k (Nat.lt_of_lt_of_le hk h.size)).trans (h.block k hk hne)⟩
theorem grown_set' {w w1 : World} {g : Nat} (h : w.grownBy w1 (some g)) (a : Addr) (v : Value) (ha : a.block = g ∨ w.heap.size ≤ a.block) : w.grownBy (w1.setCell a v) (some g) :=
  ⟨h.os, h.tape, h.output, by simp; exact h.size, fun k hk hne => (heap_setCell_other w1 a k v (fun e => by rcases ha with e2 | e2; exact hne (by rw [e, e2]); omega)).trans (h.block k hk hne)⟩
theorem arrayAt46 (a : Addr) (c : Nat) (w : World) : (Instr.arrayAt 46 (.slice (some a) 5 c)).run Tryd.prog w = .ok (.pointer (some a)) w := by
  simp [Instr.arrayAt, run_underlying Tryd.underlying46]
def Vth (g bs n r4 r1 : Nat) (a s4 s1 : Int) : Nat → Value → World → Prop
  | 0, v, w => v = .pointer (some ⟨g, 2, none⟩)
  | 1, v, w => v = .int .i64 n
  | 2, v, w => v = .pointer (some ⟨g, 2, none⟩)
  | 3, v, w => v = .pointer (some ⟨g, 2 + n, none⟩)
  | 4, v, w => v = .int .u64 a
  | 5, v, w => v = .int .i64 n
  | 6, v, w => v = .int .i64 (n + 4 : Int)
  | 7, v, w => v = .int .i64 r4
  | 8, v, w => v = .pointer (some ⟨bs, r4, none⟩)
  | 9, v, w => v = .int .u64 s4
  | 10, v, w => v = .int .i64 n
  | 11, v, w => v = .int .i64 (n + 1 : Int)
  | 12, v, w => v = .int .i64 r1
  | 13, v, w => v = .pointer (some ⟨bs, r1, none⟩)
  | 14, v, w => v = .int .u64 s1
  | 15, v, w => v = .int .u64 (rol 1 s1)
  | 16, v, w => v = .int .u64 (bits .xor .u64 s4 (rol 1 s1))
  | 17, v, w => v = .int .u64 (bits .xor .u64 a (bits .xor .u64 s4 (rol 1 s1)))
  | 18, v, w => v = .pointer (some ⟨g, 2, none⟩)
  | 19, v, w => v = .pointer (some ⟨g, 2 + n, none⟩)
  | _, _, _ => True
theorem Vth_keep (g bs n r4 r1 : Nat) (a s4 s1 : Int) (i1 : Nat) (v : Value) (w w' : World) (h : Vth g bs n r4 r1 a s4 s1 i1 v w) (r : (fun w w' => Below w.heap.size w w') w w') : Vth g bs n r4 r1 a s4 s1 i1 v w' := by
  rcases i1 with _ | _ | _ | _ | _ | _ | _ | _ | _ | _ | _ | _ | _ | _ | _ | _ | _ | _ | _ | _ | _
  · exact h
  · exact h
  · exact h
  · exact h
  · exact h
  · exact h
  · exact h
  · exact h
  · exact h
  · exact h
  · exact h
  · exact h
  · exact h
  · exact h
  · exact h
  · exact h
  · exact h
  · exact h
  · exact h
  · exact h
  · trivial
def Vrp (g n p tn : Nat) (hd b : Int) : Nat → Value → World → Prop
  | 0, v, w => v = .pointer (some ⟨g, 2, none⟩)
  | 1, v, w => v = .int .i64 p
  | 2, v, w => v = .pointer (some ⟨g, 2, none⟩)
  | 3, v, w => v = .int .i64 p
  | 4, v, w => v = .pointer (some ⟨g, 2, none⟩)
  | 5, v, w => v = .pointer (some ⟨g, 2 + p, none⟩)
  | 6, v, w => v = .int .u64 b
  | 7, v, w => v = .int .u64 hd
  | 8, v, w => v = .int .i64 n
  | 9, v, w => v = .pointer (some ⟨2, n, none⟩)
  | 10, v, w => v = .int .i64 tn
  | 11, v, w => v = .int .u64 (rol tn hd)
  | 12, v, w => v = .int .u64 b
  | 13, v, w => v = .pointer (some ⟨g, 2, none⟩)
  | 14, v, w => v = .pointer (some ⟨g, 2 + p, none⟩)
  | _, _, _ => True
theorem Vrp_keep (g n p tn : Nat) (hd b : Int) (i1 : Nat) (v : Value) (w w' : World) (h : Vrp g n p tn hd b i1 v w) (r : (fun w w' => Below w.heap.size w w') w w') : Vrp g n p tn hd b i1 v w' := by
  rcases i1 with _ | _ | _ | _ | _ | _ | _ | _ | _ | _ | _ | _ | _ | _ | _ | _
  · exact h
  · exact h
  · exact h
  · exact h
  · exact h
  · exact h
  · exact h
  · exact h
  · exact h
  · exact h
  · exact h
  · exact h
  · exact h
  · exact h
  · exact h
  · trivial
def Vchi (g bq q n ra rb : Nat) (a b cc : Int) : Nat → Value → World → Prop
  | 0, v, w => v = .pointer (some ⟨g, 2, none⟩)
  | 1, v, w => v = .int .i64 q
  | 2, v, w => v = .int .i64 n
  | 3, v, w => v = .int .i64 (q + n : Int)
  | 4, v, w => v = .int .i64 n
  | 5, v, w => v = .pointer (some ⟨bq, n, none⟩)
  | 6, v, w => v = .int .u64 a
  | 7, v, w => v = .int .i64 n
  | 8, v, w => v = .int .i64 (n + 1 : Int)
  | 9, v, w => v = .int .i64 ra
  | 10, v, w => v = .pointer (some ⟨bq, ra, none⟩)
  | 11, v, w => v = .int .u64 b
  | 12, v, w => v = .int .u64 (nt b)
  | 13, v, w => v = .int .i64 n
  | 14, v, w => v = .int .i64 (n + 2 : Int)
  | 15, v, w => v = .int .i64 rb
  | 16, v, w => v = .pointer (some ⟨bq, rb, none⟩)
  | 17, v, w => v = .int .u64 cc
  | 18, v, w => v = .int .u64 (bits .and .u64 (nt b) cc)
  | 19, v, w => v = .int .u64 (bits .xor .u64 a (bits .and .u64 (nt b) cc))
  | 20, v, w => v = .pointer (some ⟨g, 2, none⟩)
  | 21, v, w => v = .pointer (some ⟨g, 2 + (q + n), none⟩)
  | _, _, _ => True
theorem Vchi_keep (g bq q n ra rb : Nat) (a b cc : Int) (i1 : Nat) (v : Value) (w w' : World) (h : Vchi g bq q n ra rb a b cc i1 v w) (r : (fun w w' => Below w.heap.size w w') w w') : Vchi g bq q n ra rb a b cc i1 v w' := by
  rcases i1 with _ | _ | _ | _ | _ | _ | _ | _ | _ | _ | _ | _ | _ | _ | _ | _ | _ | _ | _ | _ | _ | _ | _
  · exact h
  · exact h
  · exact h
  · exact h
  · exact h
  · exact h
  · exact h
  · exact h
  · exact h
  · exact h
  · exact h
  · exact h
  · exact h
  · exact h
  · exact h
  · exact h
  · exact h
  · exact h
  · exact h
  · exact h
  · exact h
  · exact h
  · trivial
def Vio (g : Nat) (a c : Int) : Nat → Value → World → Prop
  | 0, v, w => v = .pointer (some ⟨g, 2, none⟩)
  | 1, v, w => v = .pointer (some ⟨g, 2, none⟩)
  | 2, v, w => v = .pointer (some ⟨g, 2, none⟩)
  | 3, v, w => v = .int .u64 a
  | 4, v, w => v = .int .u64 c
  | 5, v, w => v = .int .u64 (bits .xor .u64 a c)
  | 6, v, w => v = .pointer (some ⟨g, 2, none⟩)
  | 7, v, w => v = .pointer (some ⟨g, 2, none⟩)
  | _, _, _ => True
theorem Vio_keep (g : Nat) (a c : Int) (i1 : Nat) (v : Value) (w w' : World) (h : Vio g a c i1 v w) (r : (fun w w' => Below w.heap.size w w') w w') : Vio g a c i1 v w' := by
  rcases i1 with _ | _ | _ | _ | _ | _ | _ | _ | _
  · exact h
  · exact h
  · exact h
  · exact h
  · exact h
  · exact h
  · exact h
  · exact h
  · trivial
set_option maxRecDepth 20000 in
set_option maxHeartbeats 4000000 in
theorem change30 (g : Nat) (rt en at_ : Int) (gv : Bool) (W : Nat → Int) (w : World) (hS : Spg w g rt en W at_ gv) (hK : TK w) (hg : 3 ≤ g) :
    Calls Tryd.prog 30 #[.pointer (some ⟨g, 2, none⟩)] w fun e w' => e = .returned (.tuple #[]) ∧ Spg w' g rt en (prm W 24) at_ gv ∧ w.grownBy w' (some g) := by
  have hz := zero46
  have hgl := hS.lt
  have HK := Lib.hid (fun (x : World) (j : w.grownBy x (some g)) => hK.grown j (fun b e => by injection e with e; omega))
  go_enter Tryd.func30, Tryd.ntmps30
  go_wp2_with (first | (with_reducible refine load57 rfl (.global 0) rfl 0 0 rfl (f := co) (fun i hi => by rw [Nat.zero_add]; exact hK.c.cell i hi) ?_))
  go_loopg [15] 24 (fun k v wr => ∃ i : Nat, v = .int .i64 i ∧ i + k = 24 ∧ Spg wr g rt en (prm W i) at_ gv ∧ w.grownBy wr (some g))
  case atStart => exact ⟨0, rfl, rfl, hS, World.grownBy.refl _ _⟩
  case round =>
    clear hS hK
    obtain ⟨i, rfl, hi, h1, g1⟩ := hrel
    by_cases hlt : i < 24
    · have q0 : (0 : Int) ≤ (i : Int) := by omega
      have q1 : (i : Int) < 24 := by omega
      have hix := fun w => index57 co w i hlt
      obtain ⟨c, hc⟩ : ∃ c, co i = c := ⟨_, rfl⟩
      rw [hc] at hix
      obtain ⟨V, hV⟩ : ∃ V, V = prm W i := ⟨_, rfl⟩
      rw [← hV] at h1
      have HV := Lib.hid (show prm W (i + 1) = rnd c V by rw [hV, ← hc]; rfl)
      obtain ⟨ko, hko⟩ : ∃ ko, ko = gk := ⟨_, rfl⟩
      have HI : Hid (i + ko = 24 ∧ ko = gk) := Lib.hid ⟨by omega, hko⟩
      clear hc hV hko hi
      go_wp2_with fail
      have r0 := Row.new wr 46 .u64 5 (fun _ => 0)
      have h2 := h1.alloc (.cells (arr .u64 5 fun _ => 0) 46)
      have g2 : w.grownBy (wr.alloc (.cells (arr .u64 5 fun _ => 0) 46)) (some g) := grownBy_alloc' g1 _
      obtain ⟨bs, hbs⟩ : ∃ bs, bs = wr.heap.size := ⟨_, rfl⟩
      have hbg : g < bs := by rw [hbs]; exact h1.lt
      have hbw : w.heap.size ≤ bs := by rw [hbs]; exact g1.size
      rw [← hbs] at r0 ⊢
      obtain ⟨w2, hw2⟩ : ∃ w2, w2 = wr.alloc (.cells (arr .u64 5 fun _ => 0) 46) := ⟨_, rfl⟩
      rw [← hw2] at r0 h2 g2 ⊢
      clear hbs hw2 h1 g1
      go_loopg [19] 25 (fun k v wr => ∃ n : Nat, v = .int .i64 n ∧ n + k = 25 ∧ Row wr bs 46 .u64 5 (ssum V n) #[] ∧ Spg wr g rt en V at_ gv ∧ w.grownBy wr (some g))
      case atStart => exact ⟨0, rfl, rfl, r0, h2, g2⟩
      case round =>
        clear r0 h2 g2
        obtain ⟨n, rfl, hn, r1, h1, g1⟩ := hrel
        by_cases hl2 : n < 25
        · have z0 : (0 : Int) ≤ (n : Int) := by omega
          have z1 : (n : Int) < 25 := by omega
          have hc := h1.cell n hl2
          obtain ⟨r, hr⟩ : ∃ r, n % 5 = r := ⟨_, rfl⟩
          have hr5 : r < 5 := by omega
          have t1 : (n : Int) % 5 = (r : Int) := by omega
          have t2 : (n : Int).tmod 5 = (r : Int) := by rw [Int.tmod_eq_emod_of_nonneg (by omega)]; omega
          have z2 : (0 : Int) ≤ (r : Int) := by omega
          have z3 : (r : Int) < 5 := by omega
          have e1 : IntKind.i64.wrap ((n : Int) + 1) = (n : Int) + 1 := IntWalk.i64_in _ (by omega)
          have HN := Lib.hid (And.intro hn hr)
          have HS := Lib.hid (show upd (ssum V n) r (bits .xor .u64 (ssum V n r) (V n)) = ssum V (n + 1) by rw [← hr]; rfl)
          clear hr hn
          obtain ⟨a, ha⟩ : ∃ a, V n = a := ⟨_, rfl⟩
          obtain ⟨s, hs⟩ : ∃ s, ssum V n r = s := ⟨_, rfl⟩
          rw [ha] at hc
          rw [ha, hs] at HS
          have HC := Lib.hid hs
          clear ha hs
          go_wp2_with fail
          go_still (by kernel_rfl)
          change Exit.then _ _ _ _ wr.drew
          have r1 := r1.drew
          have h1 := h1.drew
          have g1 := grown_below g1 ((Below.refl wr.heap.size wr).drew)
          clear hc
          generalize wr.drew = w5 at *
          have hcr := r1.cell r hr5
          rw [HC.out] at hcr
          have hfr := r1.frozen r
          have r2 := r1.set r (bits .xor .u64 s a) hr5
          rw [HS.out] at r2
          have h2 := h1.other ⟨bs, r, none⟩ (.int .u64 (bits .xor .u64 s a)) (by show g ≠ bs; omega)
          have g2 := grown_set' g1 ⟨bs, r, none⟩ (.int .u64 (bits .xor .u64 s a)) (.inr hbw)
          clear r1 h1 g1
          go_wp2_with fail
          go_roundg (gk - 1)
          case measure => have := HN.out; omega
          case rel => exact ⟨n + 1, by simp, by have := HN.out; omega, r2, h2, g2⟩
        · have hd : decide (n < 25) = false := by simp; omega
          obtain rfl : n = 25 := by omega
          clear hn hl2
          go_wp2_with fail
          have h1 : Spg wr g rt en (upto 0 (th V) V) at_ gv := h1.congr (fun i _ => by simp [upto])
          go_loopg [33] 25 (fun k v wr => ∃ n : Nat, v = .int .i64 n ∧ n + k = 25 ∧ Row wr bs 46 .u64 5 (ssum V 25) #[] ∧ Spg wr g rt en (upto n (th V) V) at_ gv ∧ w.grownBy wr (some g))
          case atStart => exact ⟨0, rfl, rfl, r1, h1, g1⟩
          case round =>
            clear r1 h1 g1
            obtain ⟨n, rfl, hn, r1, h1, g1⟩ := hrel
            by_cases hl2 : n < 25
            · have z0 : (0 : Int) ≤ (n : Int) := by omega
              have z1 : (n : Int) < 25 := by omega
              obtain ⟨r4, hr4⟩ : ∃ r, (n + 4) % 5 = r := ⟨_, rfl⟩
              obtain ⟨ro, hro⟩ : ∃ r, (n + 1) % 5 = r := ⟨_, rfl⟩
              have t1 : ((n : Int) + 4) % 5 = (r4 : Int) := by omega
              have t2 : ((n : Int) + 4).tmod 5 = (r4 : Int) := by rw [Int.tmod_eq_emod_of_nonneg (by omega)]; omega
              have t3 : ((n : Int) + 1) % 5 = (ro : Int) := by omega
              have t4 : ((n : Int) + 1).tmod 5 = (ro : Int) := by rw [Int.tmod_eq_emod_of_nonneg (by omega)]; omega
              have z2 : (0 : Int) ≤ (r4 : Int) := by omega
              have z3 : (r4 : Int) < 5 := by omega
              have z4 : (0 : Int) ≤ (ro : Int) := by omega
              have z5 : (ro : Int) < 5 := by omega
              have e1 : IntKind.i64.wrap ((n : Int) + 1) = (n : Int) + 1 := IntWalk.i64_in _ (by omega)
              have e4 : IntKind.i64.wrap ((n : Int) + 4) = (n : Int) + 4 := IntWalk.i64_in _ (by omega)
              have HN := Lib.hid hn
              obtain ⟨a, ha⟩ : ∃ a, V n = a := ⟨_, rfl⟩
              obtain ⟨s4, hs4⟩ : ∃ s, ssum V 25 r4 = s := ⟨_, rfl⟩
              obtain ⟨s1, hs1⟩ : ∃ s, ssum V 25 ro = s := ⟨_, rfl⟩
              have HT := Lib.hid (show upd (upto n (th V) V) n (bits .xor .u64 a (bits .xor .u64 s4 (rol 1 s1))) = upto (n + 1) (th V) V by
                funext x
                unfold upd upto
                by_cases hx : x = n
                · subst hx
                  rw [if_pos rfl, if_pos (by omega), ← ha, ← hs4, ← hs1, ← hr4, ← hro]; rfl
                · rw [if_neg hx]
                  by_cases h : x < n
                  · rw [if_pos h, if_pos (by omega)]
                  · rw [if_neg h, if_neg (by omega)])
              have HA : Hid (some (Value.int .u64 (upto n (th V) V n)) = some (.int .u64 a)) := Lib.hid (by unfold upto; rw [if_neg (by omega), ha])
              have HS4 : Hid (some (Value.int .u64 (ssum V 25 r4)) = some (.int .u64 s4)) := Lib.hid (by rw [hs4])
              have HS1 : Hid (some (Value.int .u64 (ssum V 25 ro)) = some (.int .u64 s1)) := Lib.hid (by rw [hs1])
              clear hr4 hro hn ha hs4 hs1
              go_upto_region 12 with fail
              have r2 := r1.drew
              have h2 := h1.drew
              have g2 := grown_below g1 ((Below.refl wr.heap.size wr).drew)
              clear r1 h1 g1
              refine region_monoT 20 (fun x => Row x bs 46 .u64 5 (ssum V 25) #[] ∧ Spg x g rt en (upto n (th V) V) at_ gv ∧ w.grownBy x (some g)) (fun w w' => Below w.heap.size w w') (Vth g bs n r4 ro a s4 s1) [(0, some 36), (1, some 37), (2, some 38), (3, some 39), (4, some 40), (5, some 41), (6, some 42), (7, some 43), (8, some 44), (9, some 45), (10, some 46), (11, some 47), (12, some 48), (13, some 49), (14, some 50), (15, some 51), (16, some 52), (17, some 53), (18, some 54), (19, some 55)] (by kernel_rfl) (by kernel_rfl) (by kernel_rfl) (by kernel_rfl) (fun _ _ h r => ⟨h.1.below r h.1.lt, h.2.1.below r h.2.1.lt, grown_below h.2.2 r⟩) (fun i1 v1 w1 w2 _ h1 r1 => Vth_keep g bs n r4 ro a s4 s1 i1 v1 w1 w2 h1 r1) (⟨r2, h2, g2⟩) ?_ (fun vs w' hS hV => ?_)
              · refine StepsL.cons0  (by kernel_rfl)  ?_ ?_
                · rintro w1 hS  K hK
                  (try simp only [Act.put, List.setIfInBounds_toArray, List.set_cons_zero, List.set_cons_succ])
                  go_simp
                  exact hK.out _ _ rfl (Below.refl _ _)
                refine StepsL.cons0  (by kernel_rfl)  ?_ ?_
                · rintro w1 hS  K hK
                  (try simp only [Act.put, List.setIfInBounds_toArray, List.set_cons_zero, List.set_cons_succ])
                  go_simp
                  exact hK.out _ _ rfl (Below.refl _ _)
                refine StepsL.cons1 0 (some 36) (by kernel_rfl) rfl ?_ ?_
                · rintro w1 hS _ rfl K hK
                  (try simp only [Act.put, List.setIfInBounds_toArray, List.set_cons_zero, List.set_cons_succ])
                  go_simp
                  exact hK.out _ _ rfl (Below.refl _ _)
                refine StepsL.cons2 1 (some 37) 2 (some 38) (by kernel_rfl) rfl rfl ?_ ?_
                · rintro w1 hS _ rfl _ rfl K hK
                  (try simp only [Act.put, List.setIfInBounds_toArray, List.set_cons_zero, List.set_cons_succ])
                  go_simp
                  exact hK.out _ _ rfl (Below.refl _ _)
                refine StepsL.cons1 3 (some 39) (by kernel_rfl) rfl ?_ ?_
                · rintro w1 hS _ rfl K hK
                  (try simp only [Act.put, List.setIfInBounds_toArray, List.set_cons_zero, List.set_cons_succ])
                  have hcl := hS.2.1.cell n hl2 |>.trans HA.out
                  go_simp
                  exact hK.out _ _ rfl (Below.refl _ _)
                refine StepsL.cons0  (by kernel_rfl)  ?_ ?_
                · rintro w1 hS  K hK
                  (try simp only [Act.put, List.setIfInBounds_toArray, List.set_cons_zero, List.set_cons_succ])
                  go_simp
                  exact hK.out _ _ rfl (Below.refl _ _)
                refine StepsL.cons1 5 (some 41) (by kernel_rfl) rfl ?_ ?_
                · rintro w1 hS _ rfl K hK
                  (try simp only [Act.put, List.setIfInBounds_toArray, List.set_cons_zero, List.set_cons_succ])
                  go_simp
                  exact hK.out _ _ rfl (Below.refl _ _)
                refine StepsL.cons1 6 (some 42) (by kernel_rfl) rfl ?_ ?_
                · rintro w1 hS _ rfl K hK
                  (try simp only [Act.put, List.setIfInBounds_toArray, List.set_cons_zero, List.set_cons_succ])
                  go_simp
                  exact hK.out _ _ rfl (Below.refl _ _)
                refine StepsL.cons1 7 (some 43) (by kernel_rfl) rfl ?_ ?_
                · rintro w1 hS _ rfl K hK
                  (try simp only [Act.put, List.setIfInBounds_toArray, List.set_cons_zero, List.set_cons_succ])
                  go_simp
                  exact hK.out _ _ rfl (Below.refl _ _)
                refine StepsL.cons1 8 (some 44) (by kernel_rfl) rfl ?_ ?_
                · rintro w1 hS _ rfl K hK
                  (try simp only [Act.put, List.setIfInBounds_toArray, List.set_cons_zero, List.set_cons_succ])
                  have hcl := hS.1.cell r4 (by omega) |>.trans HS4.out
                  go_simp
                  exact hK.out _ _ rfl (Below.refl _ _)
                refine StepsL.cons0  (by kernel_rfl)  ?_ ?_
                · rintro w1 hS  K hK
                  (try simp only [Act.put, List.setIfInBounds_toArray, List.set_cons_zero, List.set_cons_succ])
                  go_simp
                  exact hK.out _ _ rfl (Below.refl _ _)
                refine StepsL.cons1 10 (some 46) (by kernel_rfl) rfl ?_ ?_
                · rintro w1 hS _ rfl K hK
                  (try simp only [Act.put, List.setIfInBounds_toArray, List.set_cons_zero, List.set_cons_succ])
                  go_simp
                  exact hK.out _ _ rfl (Below.refl _ _)
                refine StepsL.cons1 11 (some 47) (by kernel_rfl) rfl ?_ ?_
                · rintro w1 hS _ rfl K hK
                  (try simp only [Act.put, List.setIfInBounds_toArray, List.set_cons_zero, List.set_cons_succ])
                  go_simp
                  exact hK.out _ _ rfl (Below.refl _ _)
                refine StepsL.cons1 12 (some 48) (by kernel_rfl) rfl ?_ ?_
                · rintro w1 hS _ rfl K hK
                  (try simp only [Act.put, List.setIfInBounds_toArray, List.set_cons_zero, List.set_cons_succ])
                  go_simp
                  exact hK.out _ _ rfl (Below.refl _ _)
                refine StepsL.cons1 13 (some 49) (by kernel_rfl) rfl ?_ ?_
                · rintro w1 hS _ rfl K hK
                  (try simp only [Act.put, List.setIfInBounds_toArray, List.set_cons_zero, List.set_cons_succ])
                  have hcl := hS.1.cell ro (by omega) |>.trans HS1.out
                  go_simp
                  exact hK.out _ _ rfl (Below.refl _ _)
                refine StepsL.cons1 14 (some 50) (by kernel_rfl) rfl ?_ ?_
                · rintro w1 hS _ rfl K hK
                  (try simp only [Act.put, List.setIfInBounds_toArray, List.set_cons_zero, List.set_cons_succ])
                  go_simp
                  go_at_call 34
                  refine (rotl34 _ 1 (by omega) _).mono ?_
                  rintro e w2 ⟨rfl, rfl⟩
                  exact hK.out _ _ rfl (Below.refl _ _)
                refine StepsL.cons2 9 (some 45) 15 (some 51) (by kernel_rfl) rfl rfl ?_ ?_
                · rintro w1 hS _ rfl _ rfl K hK
                  (try simp only [Act.put, List.setIfInBounds_toArray, List.set_cons_zero, List.set_cons_succ])
                  go_simp
                  exact hK.out _ _ rfl (Below.refl _ _)
                refine StepsL.cons2 4 (some 40) 16 (some 52) (by kernel_rfl) rfl rfl ?_ ?_
                · rintro w1 hS _ rfl _ rfl K hK
                  (try simp only [Act.put, List.setIfInBounds_toArray, List.set_cons_zero, List.set_cons_succ])
                  go_simp
                  exact hK.out _ _ rfl (Below.refl _ _)
                refine StepsL.cons1 0 (some 36) (by kernel_rfl) rfl ?_ ?_
                · rintro w1 hS _ rfl K hK
                  (try simp only [Act.put, List.setIfInBounds_toArray, List.set_cons_zero, List.set_cons_succ])
                  go_simp
                  exact hK.out _ _ rfl (Below.refl _ _)
                refine StepsL.cons2 1 (some 37) 18 (some 54) (by kernel_rfl) rfl rfl ?_ ?_
                · rintro w1 hS _ rfl _ rfl K hK
                  (try simp only [Act.put, List.setIfInBounds_toArray, List.set_cons_zero, List.set_cons_succ])
                  go_simp
                  exact hK.out _ _ rfl (Below.refl _ _)
                exact StepsL.nil
              · have e17 : vs 17 = .int .u64 (bits .xor .u64 a (bits .xor .u64 s4 (rol 1 s1))) := hV 17 (by omega)
                have e19 : vs 19 = .pointer (some ⟨g, 2 + n, none⟩) := hV 19 (by omega)
                simp only [putl, List.foldl_cons, List.foldl_nil, Act.put, List.setIfInBounds_toArray, List.set_cons_zero, List.set_cons_succ, e17, e19]
                simp only [List.drop_succ_cons, List.drop_zero]
                obtain ⟨r3, h3, g3⟩ := hS
                have hcc := h3.cell n hl2
                have hff := h3.frozen (2 + n)
                have r4' := r3.other ⟨g, 2 + n, none⟩ (.int .u64 (bits .xor .u64 a (bits .xor .u64 s4 (rol 1 s1)))) (by show bs ≠ g; omega)
                have h4 := h3.set n (bits .xor .u64 a (bits .xor .u64 s4 (rol 1 s1))) hl2
                rw [HT.out] at h4
                have g4 := grown_set' g3 ⟨g, 2 + n, none⟩ (.int .u64 (bits .xor .u64 a (bits .xor .u64 s4 (rol 1 s1)))) (.inl rfl)
                clear hV e17 e19 r3 h3 g3
                go_wp2_with fail
                go_roundg (gk - 1)
                case measure => have := HN.out; omega
                case rel => exact ⟨n + 1, by simp, by have := HN.out; omega, r4', h4, g4⟩
            · have hd : decide (n < 25) = false := by simp; omega
              obtain rfl : n = 25 := by omega
              have h1 : Spg wr g rt en (th V) at_ gv := h1.congr (fun i hi => by simp [upto, hi])
              clear hn hl2 r1
              have hc1 : wr.cell? ⟨g, 3, none⟩ = some (.int .u64 (rp (th V) 0).1) := h1.cell 1 (by omega)
              have kk := HK.out _ g1
              obtain ⟨hd0, hhd⟩ : ∃ x, (rp (th V) 0).1 = x := ⟨_, rfl⟩
              rw [hhd] at hc1
              have HD0 := Lib.hid hhd.symm
              clear hhd
              go_wp2_with (first | (with_reducible refine load61 rfl (.global 1) rfl 1 0 rfl (f := fun i => (pl i : Int)) (fun i hi => by rw [Nat.zero_add]; exact kk.p.cell i hi) ?_))
              clear kk hc1
              go_loopg [8, 62] 24 (fun k v8 v wr => ∃ (n : Nat) (hd : Int), v = .int .i64 n ∧ v8 = .int .u64 hd ∧ hd = (rp (th V) n).1 ∧ n + k = 24 ∧ Spg wr g rt en (rp (th V) n).2 at_ gv ∧ w.grownBy wr (some g))
              case atStart => exact ⟨0, _, rfl, rfl, HD0.out, rfl, h1, g1⟩
              case round =>
                clear h1 g1
                obtain ⟨n, hd, rfl, rfl, hh, hn, h1, g1⟩ := hrel
                by_cases hl2 : n < 24
                · have z0 : (0 : Int) ≤ (n : Int) := by omega
                  have z1 : (n : Int) < 24 := by omega
                  have hix2 := fun w => index61 (fun i => (pl i : Int)) w n hl2
                  obtain ⟨p, hp⟩ : ∃ p, pl n = p := ⟨_, rfl⟩
                  obtain ⟨tn, htn⟩ : ∃ t, tu n = t := ⟨_, rfl⟩
                  simp only [hp] at hix2
                  have hp25 : p < 25 := by rw [← hp]; exact pl_lt n
                  have HP := Lib.hid hp25
                  have HTN := Lib.hid (show tn < 64 by rw [← htn]; exact tu_lt n)
                  have z2 : (0 : Int) ≤ (p : Int) := by omega
                  have z3 : (p : Int) < 25 := by omega
                  have e1 : IntKind.i64.wrap ((n : Int) + 1) = (n : Int) + 1 := IntWalk.i64_in _ (by omega)
                  obtain ⟨b, hb⟩ : ∃ b, (rp (th V) n).2 p = b := ⟨_, rfl⟩
                  have HB : Hid (some (Value.int .u64 ((rp (th V) n).2 p)) = some (.int .u64 b)) := Lib.hid (by rw [hb])
                  have HT : Hid (some (Value.int .i64 (tu n : Int)) = some (.int .i64 (tn : Int))) := Lib.hid (by rw [htn])
                  have HU := Lib.hid (show upd (rp (th V) n).2 p (rol tn hd) = (rp (th V) (n + 1)).2 by rw [← hp, ← htn, hh]; rfl)
                  have HV1 := Lib.hid (show b = (rp (th V) (n + 1)).1 by rw [← hb, ← hp]; rfl)
                  have HN := Lib.hid hn
                  clear hp htn hb hh hn
                  go_upto_region 18 with fail
                  have h2 := h1.drew
                  have g2 := grown_below g1 ((Below.refl wr.heap.size wr).drew)
                  have kk := HK.out _ g2
                  clear h1 g1 hix2
                  refine region_monoT 15 (fun x => Spg x g rt en (rp (th V) n).2 at_ gv ∧ TK x ∧ w.grownBy x (some g)) (fun w w' => Below w.heap.size w w') (Vrp g n p tn hd b) [(0, some 66), (1, some 67), (2, some 68), (3, some 69), (4, some 70), (5, some 71), (6, some 72), (7, some 73), (8, some 74), (9, some 75), (10, some 76), (11, some 77), (12, some 8), (13, some 78), (14, some 79)] (by kernel_rfl) (by kernel_rfl) (by kernel_rfl) (by kernel_rfl) (fun _ _ h r => ⟨h.1.below r h.1.lt, h.2.1.below r h.2.1.lt, grown_below h.2.2 r⟩) (fun i1 v1 w1 w2 _ h1 r1 => Vrp_keep g n p tn hd b i1 v1 w1 w2 h1 r1) (⟨h2, kk, g2⟩) ?_ (fun vs w' hS hV => ?_)
                  · refine StepsL.cons0  (by kernel_rfl)  ?_ ?_
                    · rintro w1 hS  K hK
                      (try simp only [Act.put, List.setIfInBounds_toArray, List.set_cons_zero, List.set_cons_succ])
                      go_simp
                      exact hK.out _ _ rfl (Below.refl _ _)
                    refine StepsL.cons0  (by kernel_rfl)  ?_ ?_
                    · rintro w1 hS  K hK
                      (try simp only [Act.put, List.setIfInBounds_toArray, List.set_cons_zero, List.set_cons_succ])
                      go_simp
                      exact hK.out _ _ rfl (Below.refl _ _)
                    refine StepsL.cons0  (by kernel_rfl)  ?_ ?_
                    · rintro w1 hS  K hK
                      (try simp only [Act.put, List.setIfInBounds_toArray, List.set_cons_zero, List.set_cons_succ])
                      go_simp
                      exact hK.out _ _ rfl (Below.refl _ _)
                    refine StepsL.cons0  (by kernel_rfl)  ?_ ?_
                    · rintro w1 hS  K hK
                      (try simp only [Act.put, List.setIfInBounds_toArray, List.set_cons_zero, List.set_cons_succ])
                      go_simp
                      exact hK.out _ _ rfl (Below.refl _ _)
                    refine StepsL.cons1 2 (some 68) (by kernel_rfl) rfl ?_ ?_
                    · rintro w1 hS _ rfl K hK
                      (try simp only [Act.put, List.setIfInBounds_toArray, List.set_cons_zero, List.set_cons_succ])
                      go_simp
                      exact hK.out _ _ rfl (Below.refl _ _)
                    refine StepsL.cons2 3 (some 69) 4 (some 70) (by kernel_rfl) rfl rfl ?_ ?_
                    · rintro w1 hS _ rfl _ rfl K hK
                      (try simp only [Act.put, List.setIfInBounds_toArray, List.set_cons_zero, List.set_cons_succ])
                      go_simp
                      exact hK.out _ _ rfl (Below.refl _ _)
                    refine StepsL.cons1 5 (some 71) (by kernel_rfl) rfl ?_ ?_
                    · rintro w1 hS _ rfl K hK
                      (try simp only [Act.put, List.setIfInBounds_toArray, List.set_cons_zero, List.set_cons_succ])
                      have hcl := hS.1.cell p HP.out |>.trans HB.out
                      go_simp
                      exact hK.out _ _ rfl (Below.refl _ _)
                    refine StepsL.cons0  (by kernel_rfl)  ?_ ?_
                    · rintro w1 hS  K hK
                      (try simp only [Act.put, List.setIfInBounds_toArray, List.set_cons_zero, List.set_cons_succ])
                      go_simp
                      exact hK.out _ _ rfl (Below.refl _ _)
                    refine StepsL.cons0  (by kernel_rfl)  ?_ ?_
                    · rintro w1 hS  K hK
                      (try simp only [Act.put, List.setIfInBounds_toArray, List.set_cons_zero, List.set_cons_succ])
                      go_simp
                      exact hK.out _ _ rfl (Below.refl _ _)
                    refine StepsL.cons1 8 (some 74) (by kernel_rfl) rfl ?_ ?_
                    · rintro w1 hS _ rfl K hK
                      (try simp only [Act.put, List.setIfInBounds_toArray, List.set_cons_zero, List.set_cons_succ])
                      go_simp
                      exact hK.out _ _ rfl (Below.refl _ _)
                    refine StepsL.cons1 9 (some 75) (by kernel_rfl) rfl ?_ ?_
                    · rintro w1 hS _ rfl K hK
                      (try simp only [Act.put, List.setIfInBounds_toArray, List.set_cons_zero, List.set_cons_succ])
                      have hcl := hS.2.1.t.cell n hl2 |>.trans HT.out
                      go_simp
                      exact hK.out _ _ rfl (Below.refl _ _)
                    refine StepsL.cons2 7 (some 73) 10 (some 76) (by kernel_rfl) rfl rfl ?_ ?_
                    · rintro w1 hS _ rfl _ rfl K hK
                      (try simp only [Act.put, List.setIfInBounds_toArray, List.set_cons_zero, List.set_cons_succ])
                      go_simp
                      go_at_call 34
                      refine (rotl34 _ tn HTN.out _).mono ?_
                      rintro e w2 ⟨rfl, rfl⟩
                      exact hK.out _ _ rfl (Below.refl _ _)
                    refine StepsL.cons1 6 (some 72) (by kernel_rfl) rfl ?_ ?_
                    · rintro w1 hS _ rfl K hK
                      (try simp only [Act.put, List.setIfInBounds_toArray, List.set_cons_zero, List.set_cons_succ])
                      go_simp
                      exact hK.out _ _ rfl (Below.refl _ _)
                    refine StepsL.cons1 0 (some 66) (by kernel_rfl) rfl ?_ ?_
                    · rintro w1 hS _ rfl K hK
                      (try simp only [Act.put, List.setIfInBounds_toArray, List.set_cons_zero, List.set_cons_succ])
                      go_simp
                      exact hK.out _ _ rfl (Below.refl _ _)
                    refine StepsL.cons2 1 (some 67) 13 (some 78) (by kernel_rfl) rfl rfl ?_ ?_
                    · rintro w1 hS _ rfl _ rfl K hK
                      (try simp only [Act.put, List.setIfInBounds_toArray, List.set_cons_zero, List.set_cons_succ])
                      go_simp
                      exact hK.out _ _ rfl (Below.refl _ _)
                    exact StepsL.nil
                  · have e11 : vs 11 = .int .u64 (rol tn hd) := hV 11 (by omega)
                    have e12 : vs 12 = .int .u64 b := hV 12 (by omega)
                    have e14 : vs 14 = .pointer (some ⟨g, 2 + p, none⟩) := hV 14 (by omega)
                    simp only [putl, List.foldl_cons, List.foldl_nil, Act.put, List.setIfInBounds_toArray, List.set_cons_zero, List.set_cons_succ, e11, e12, e14]
                    simp only [List.drop_succ_cons, List.drop_zero]
                    obtain ⟨h3, -, g3⟩ := hS
                    have hcc := h3.cell p hp25
                    have hff := h3.frozen (2 + p)
                    have h4 := h3.set p (rol tn hd) hp25
                    rw [HU.out] at h4
                    have g4 := grown_set' g3 ⟨g, 2 + p, none⟩ (.int .u64 (rol tn hd)) (.inl rfl)
                    clear hV e11 e12 e14 h3 g3 kk
                    go_wp2_with fail
                    go_roundg (gk - 1)
                    case measure => have := HN.out; omega
                    case rel => exact ⟨n + 1, _, by simp, rfl, HV1.out, by have := HN.out; omega, h4, g4⟩
                · have hdn : decide (n < 24) = false := by simp; omega
                  obtain rfl : n = 24 := by omega
                  obtain ⟨V3, hV3⟩ : ∃ V3, V3 = (rp (th V) 24).2 := ⟨_, rfl⟩
                  rw [← hV3] at h1
                  have HV3 := Lib.hid hV3
                  clear hn hl2 hh hV3
                  go_wp2_with fail
                  go_loopg [11] 5 (fun k v wr => ∃ j q : Nat, v = .int .i64 q ∧ q = 5 * j ∧ j + k = 5 ∧ Spg wr g rt en (chi V3 j) at_ gv ∧ w.grownBy wr (some g))
                  case atStart => exact ⟨0, 0, rfl, rfl, rfl, h1, g1⟩
                  case round =>
                    clear h1 g1
                    obtain ⟨j, q, rfl, hq, hj, h1, g1⟩ := hrel
                    by_cases hl5 : j < 5
                    · have z0 : (0 : Int) ≤ (q : Int) := by omega
                      have z1 : (q : Int) < 25 := by omega
                      have z2 : (q : Int) + 5 ≤ 25 := by omega
                      have z3 : (q : Int) ≤ (q : Int) + 5 := by omega
                      have z4 : ((q : Int) + 5).toNat = q + 5 := by omega
                      have e5 : IntKind.i64.wrap ((q : Int) + 5) = (q : Int) + 5 := IntWalk.i64_in _ (by omega)
                      have HQ := Lib.hid (And.intro hq hj)
                      obtain ⟨kj, hkj⟩ : ∃ kj, kj = gk := ⟨_, rfl⟩
                      have HKJ := Lib.hid hkj
                      have hq25 : q + 5 ≤ 25 := by omega
                      clear hkj
                      have hq20 : q ≤ 20 := by omega
                      have haa := arrayAt46 ⟨g, 2 + q, none⟩ (25 - q)
                      obtain ⟨w1, hw1⟩ : ∃ w1, w1 = wr := ⟨_, rfl⟩
                      rw [← hw1] at h1 g1 ⊢
                      clear hw1 hq hj
                      go_upto_region 24 with (first
                        | ((with_reducible refine load46 rfl (.tmp 91) rfl g (2 + q) rfl (f := fun x => chi V3 j (q + x)) ?hl ?_); (case hl => intro i hi; rw [Nat.add_assoc]; exact h1.cell (q + i) (by omega)))
                        | (with_reducible refine store46 rfl (.tmp 12) (.tmp 92) rfl w1.heap.size _ rfl rfl (Row.new w1 46 .u64 5 (fun _ => 0)) ?_))
                      have r0 := (Row.new w1 46 .u64 5 (fun _ => 0)).setRow (m := 5) (fun x => chi V3 j (q + x))
                      obtain ⟨w3, hw3⟩ : ∃ w3, w3 = (w1.alloc (.cells (arr .u64 5 fun _ => 0) 46)).setRow w1.heap.size (arr .u64 5 fun x => chi V3 j (q + x)) := ⟨_, rfl⟩
                      have hb3 : Below w1.heap.size w1 w3 := by rw [hw3]; exact below_setRow ((Below.refl _ _).alloc (Nat.le_refl _) _) (Nat.le_refl _) _
                      rw [← hw3] at r0 ⊢
                      have h2 := h1.below hb3 h1.lt
                      have g2 := grown_below g1 hb3
                      have hgb := h1.lt
                      have hwb := g1.size
                      obtain ⟨bq, hbq⟩ : ∃ bq, bq = w1.heap.size := ⟨_, rfl⟩
                      rw [← hbq] at r0 hgb hwb ⊢
                      clear hw3 hb3 hbq h1 g1 haa
                      go_wp2_with fail
                      go_loopg [93] 5 (fun k v wr => ∃ n : Nat, v = .int .i64 n ∧ n + k = 5 ∧ Row wr bq 46 .u64 5 (fun x => chi V3 j (q + x)) #[] ∧ Spg wr g rt en (chs (chi V3 j) j n) at_ gv ∧ w.grownBy wr (some g))
                      case atStart => exact ⟨0, rfl, rfl, r0, h2, g2⟩
                      case round =>
                        clear r0 h2 g2
                        obtain ⟨n, rfl, hn, r1, h1, g1⟩ := hrel
                        by_cases hl2 : n < 5
                        · have y0 : (0 : Int) ≤ (n : Int) := by omega
                          have y1 : (n : Int) < 5 := by omega
                          obtain ⟨ra, hra⟩ : ∃ r, (n + 1) % 5 = r := ⟨_, rfl⟩
                          obtain ⟨rb, hrb⟩ : ∃ r, (n + 2) % 5 = r := ⟨_, rfl⟩
                          have t1 : ((n : Int) + 1) % 5 = (ra : Int) := by omega
                          have t2 : ((n : Int) + 1).tmod 5 = (ra : Int) := by rw [Int.tmod_eq_emod_of_nonneg (by omega)]; omega
                          have t3 : ((n : Int) + 2) % 5 = (rb : Int) := by omega
                          have t4 : ((n : Int) + 2).tmod 5 = (rb : Int) := by rw [Int.tmod_eq_emod_of_nonneg (by omega)]; omega
                          have y2 : (0 : Int) ≤ (ra : Int) := by omega
                          have y3 : (ra : Int) < 5 := by omega
                          have y4 : (0 : Int) ≤ (rb : Int) := by omega
                          have y5 : (rb : Int) < 5 := by omega
                          have e1 : IntKind.i64.wrap ((n : Int) + 1) = (n : Int) + 1 := IntWalk.i64_in _ (by omega)
                          have e2 : IntKind.i64.wrap ((n : Int) + 2) = (n : Int) + 2 := IntWalk.i64_in _ (by omega)
                          have e3 : IntKind.i64.wrap ((q : Int) + (n : Int)) = (q : Int) + (n : Int) := IntWalk.i64_in _ (by omega)
                          have y6 : (0 : Int) ≤ (q : Int) + (n : Int) := by omega
                          have y7 : (q : Int) + (n : Int) < 25 := by omega
                          have y8 : ((q : Int) + (n : Int)).toNat = q + n := by omega
                          have hqn : q + n < 25 := by omega
                          have HN := Lib.hid hn
                          obtain ⟨a, ha⟩ : ∃ a, chi V3 j (q + n) = a := ⟨_, rfl⟩
                          obtain ⟨b, hb⟩ : ∃ a, chi V3 j (q + ra) = a := ⟨_, rfl⟩
                          obtain ⟨cc, hcc⟩ : ∃ a, chi V3 j (q + rb) = a := ⟨_, rfl⟩
                          have HA : Hid (some (Value.int .u64 (chi V3 j (q + n))) = some (.int .u64 a)) := Lib.hid (by rw [ha])
                          have HB : Hid (some (Value.int .u64 (chi V3 j (q + ra))) = some (.int .u64 b)) := Lib.hid (by rw [hb])
                          have HC : Hid (some (Value.int .u64 (chi V3 j (q + rb))) = some (.int .u64 cc)) := Lib.hid (by rw [hcc])
                          have HT := Lib.hid (show upd (chs (chi V3 j) j n) (q + n) (bits .xor .u64 a (bits .and .u64 (nt b) cc)) = chs (chi V3 j) j (n + 1) by
                            rw [← ha, ← hb, ← hcc, ← hra, ← hrb, HQ.out.1]; rfl)
                          clear hra hrb hn ha hb hcc
                          go_upto_region 27 with fail
                          have r2 := r1.drew
                          have h2 := h1.drew
                          have g2 := grown_below g1 ((Below.refl wr.heap.size wr).drew)
                          clear r1 h1 g1
                          refine region_monoT 22 (fun x => Row x bq 46 .u64 5 (fun x => chi V3 j (q + x)) #[] ∧ Spg x g rt en (chs (chi V3 j) j n) at_ gv ∧ w.grownBy x (some g)) (fun w w' => Below w.heap.size w w') (Vchi g bq q n ra rb a b cc) [(0, some 96), (1, some 97), (2, some 98), (3, some 99), (4, some 100), (5, some 101), (6, some 102), (7, some 103), (8, some 104), (9, some 105), (10, some 106), (11, some 107), (12, some 108), (13, some 109), (14, some 110), (15, some 111), (16, some 112), (17, some 113), (18, some 114), (19, some 115), (20, some 116), (21, some 117)] (by kernel_rfl) (by kernel_rfl) (by kernel_rfl) (by kernel_rfl) (fun _ _ h r => ⟨h.1.below r h.1.lt, h.2.1.below r h.2.1.lt, grown_below h.2.2 r⟩) (fun i1 v1 w1 w2 _ h1 r1 => Vchi_keep g bq q n ra rb a b cc i1 v1 w1 w2 h1 r1) (⟨r2, h2, g2⟩) ?_ (fun vs w' hS hV => ?_)
                          · refine StepsL.cons0  (by kernel_rfl)  ?_ ?_
                            · rintro w1 hS  K hK
                              (try simp only [Act.put, List.setIfInBounds_toArray, List.set_cons_zero, List.set_cons_succ])
                              go_simp
                              exact hK.out _ _ rfl (Below.refl _ _)
                            refine StepsL.cons0  (by kernel_rfl)  ?_ ?_
                            · rintro w1 hS  K hK
                              (try simp only [Act.put, List.setIfInBounds_toArray, List.set_cons_zero, List.set_cons_succ])
                              go_simp
                              exact hK.out _ _ rfl (Below.refl _ _)
                            refine StepsL.cons0  (by kernel_rfl)  ?_ ?_
                            · rintro w1 hS  K hK
                              (try simp only [Act.put, List.setIfInBounds_toArray, List.set_cons_zero, List.set_cons_succ])
                              go_simp
                              exact hK.out _ _ rfl (Below.refl _ _)
                            refine StepsL.cons2 1 (some 97) 2 (some 98) (by kernel_rfl) rfl rfl ?_ ?_
                            · rintro w1 hS _ rfl _ rfl K hK
                              (try simp only [Act.put, List.setIfInBounds_toArray, List.set_cons_zero, List.set_cons_succ])
                              go_simp
                              exact hK.out _ _ rfl (Below.refl _ _)
                            refine StepsL.cons0  (by kernel_rfl)  ?_ ?_
                            · rintro w1 hS  K hK
                              (try simp only [Act.put, List.setIfInBounds_toArray, List.set_cons_zero, List.set_cons_succ])
                              go_simp
                              exact hK.out _ _ rfl (Below.refl _ _)
                            refine StepsL.cons1 4 (some 100) (by kernel_rfl) rfl ?_ ?_
                            · rintro w1 hS _ rfl K hK
                              (try simp only [Act.put, List.setIfInBounds_toArray, List.set_cons_zero, List.set_cons_succ])
                              go_simp
                              exact hK.out _ _ rfl (Below.refl _ _)
                            refine StepsL.cons1 5 (some 101) (by kernel_rfl) rfl ?_ ?_
                            · rintro w1 hS _ rfl K hK
                              (try simp only [Act.put, List.setIfInBounds_toArray, List.set_cons_zero, List.set_cons_succ])
                              have hcl := hS.1.cell n hl2 |>.trans HA.out
                              go_simp
                              exact hK.out _ _ rfl (Below.refl _ _)
                            refine StepsL.cons0  (by kernel_rfl)  ?_ ?_
                            · rintro w1 hS  K hK
                              (try simp only [Act.put, List.setIfInBounds_toArray, List.set_cons_zero, List.set_cons_succ])
                              go_simp
                              exact hK.out _ _ rfl (Below.refl _ _)
                            refine StepsL.cons1 7 (some 103) (by kernel_rfl) rfl ?_ ?_
                            · rintro w1 hS _ rfl K hK
                              (try simp only [Act.put, List.setIfInBounds_toArray, List.set_cons_zero, List.set_cons_succ])
                              go_simp
                              exact hK.out _ _ rfl (Below.refl _ _)
                            refine StepsL.cons1 8 (some 104) (by kernel_rfl) rfl ?_ ?_
                            · rintro w1 hS _ rfl K hK
                              (try simp only [Act.put, List.setIfInBounds_toArray, List.set_cons_zero, List.set_cons_succ])
                              go_simp
                              exact hK.out _ _ rfl (Below.refl _ _)
                            refine StepsL.cons1 9 (some 105) (by kernel_rfl) rfl ?_ ?_
                            · rintro w1 hS _ rfl K hK
                              (try simp only [Act.put, List.setIfInBounds_toArray, List.set_cons_zero, List.set_cons_succ])
                              go_simp
                              exact hK.out _ _ rfl (Below.refl _ _)
                            refine StepsL.cons1 10 (some 106) (by kernel_rfl) rfl ?_ ?_
                            · rintro w1 hS _ rfl K hK
                              (try simp only [Act.put, List.setIfInBounds_toArray, List.set_cons_zero, List.set_cons_succ])
                              have hcl := hS.1.cell ra (by omega) |>.trans HB.out
                              go_simp
                              exact hK.out _ _ rfl (Below.refl _ _)
                            refine StepsL.cons1 11 (some 107) (by kernel_rfl) rfl ?_ ?_
                            · rintro w1 hS _ rfl K hK
                              (try simp only [Act.put, List.setIfInBounds_toArray, List.set_cons_zero, List.set_cons_succ])
                              go_simp
                              exact hK.out _ _ rfl (Below.refl _ _)
                            refine StepsL.cons0  (by kernel_rfl)  ?_ ?_
                            · rintro w1 hS  K hK
                              (try simp only [Act.put, List.setIfInBounds_toArray, List.set_cons_zero, List.set_cons_succ])
                              go_simp
                              exact hK.out _ _ rfl (Below.refl _ _)
                            refine StepsL.cons1 13 (some 109) (by kernel_rfl) rfl ?_ ?_
                            · rintro w1 hS _ rfl K hK
                              (try simp only [Act.put, List.setIfInBounds_toArray, List.set_cons_zero, List.set_cons_succ])
                              go_simp
                              exact hK.out _ _ rfl (Below.refl _ _)
                            refine StepsL.cons1 14 (some 110) (by kernel_rfl) rfl ?_ ?_
                            · rintro w1 hS _ rfl K hK
                              (try simp only [Act.put, List.setIfInBounds_toArray, List.set_cons_zero, List.set_cons_succ])
                              go_simp
                              exact hK.out _ _ rfl (Below.refl _ _)
                            refine StepsL.cons1 15 (some 111) (by kernel_rfl) rfl ?_ ?_
                            · rintro w1 hS _ rfl K hK
                              (try simp only [Act.put, List.setIfInBounds_toArray, List.set_cons_zero, List.set_cons_succ])
                              go_simp
                              exact hK.out _ _ rfl (Below.refl _ _)
                            refine StepsL.cons1 16 (some 112) (by kernel_rfl) rfl ?_ ?_
                            · rintro w1 hS _ rfl K hK
                              (try simp only [Act.put, List.setIfInBounds_toArray, List.set_cons_zero, List.set_cons_succ])
                              have hcl := hS.1.cell rb (by omega) |>.trans HC.out
                              go_simp
                              exact hK.out _ _ rfl (Below.refl _ _)
                            refine StepsL.cons2 12 (some 108) 17 (some 113) (by kernel_rfl) rfl rfl ?_ ?_
                            · rintro w1 hS _ rfl _ rfl K hK
                              (try simp only [Act.put, List.setIfInBounds_toArray, List.set_cons_zero, List.set_cons_succ])
                              go_simp
                              exact hK.out _ _ rfl (Below.refl _ _)
                            refine StepsL.cons2 6 (some 102) 18 (some 114) (by kernel_rfl) rfl rfl ?_ ?_
                            · rintro w1 hS _ rfl _ rfl K hK
                              (try simp only [Act.put, List.setIfInBounds_toArray, List.set_cons_zero, List.set_cons_succ])
                              go_simp
                              exact hK.out _ _ rfl (Below.refl _ _)
                            refine StepsL.cons1 0 (some 96) (by kernel_rfl) rfl ?_ ?_
                            · rintro w1 hS _ rfl K hK
                              (try simp only [Act.put, List.setIfInBounds_toArray, List.set_cons_zero, List.set_cons_succ])
                              go_simp
                              exact hK.out _ _ rfl (Below.refl _ _)
                            refine StepsL.cons2 3 (some 99) 20 (some 116) (by kernel_rfl) rfl rfl ?_ ?_
                            · rintro w1 hS _ rfl _ rfl K hK
                              (try simp only [Act.put, List.setIfInBounds_toArray, List.set_cons_zero, List.set_cons_succ])
                              go_simp
                              exact hK.out _ _ rfl (Below.refl _ _)
                            exact StepsL.nil
                          · have e19 : vs 19 = .int .u64 (bits .xor .u64 a (bits .and .u64 (nt b) cc)) := hV 19 (by omega)
                            have e21 : vs 21 = .pointer (some ⟨g, 2 + (q + n), none⟩) := hV 21 (by omega)
                            simp only [putl, List.foldl_cons, List.foldl_nil, Act.put, List.setIfInBounds_toArray, List.set_cons_zero, List.set_cons_succ, e19, e21]
                            simp only [List.drop_succ_cons, List.drop_zero]
                            obtain ⟨r3, h3, g3⟩ := hS
                            have hcl := h3.cell (q + n) hqn
                            have hff := h3.frozen (2 + (q + n))
                            obtain ⟨v, hv⟩ : ∃ v, v = bits .xor .u64 a (bits .and .u64 (nt b) cc) := ⟨_, rfl⟩
                            have r4 := r3.other ⟨g, 2 + (q + n), none⟩ (.int .u64 v) (by show bq ≠ g; omega)
                            have h4 := h3.set (q + n) v hqn
                            rw [hv, HT.out, ← hv] at h4
                            have g4 := grown_set' g3 ⟨g, 2 + (q + n), none⟩ (.int .u64 v) (.inl rfl)
                            rw [← hv]
                            clear hV e19 e21 r3 h3 g3 hv
                            go_wp2_with fail
                            go_roundg (gk - 1)
                            case measure => have := HN.out; omega
                            case rel => exact ⟨n + 1, by simp, by have := HN.out; omega, r4, h4, g4⟩
                        · have hd6 : decide (n < 5) = false := by simp; omega
                          obtain rfl : n = 5 := by omega
                          have h1 : Spg wr g rt en (chi V3 (j + 1)) at_ gv := h1
                          clear hn hl2 r1
                          go_wp2_with fail
                          go_roundg (kj - 1)
                          case measure => have := HKJ.out; have := HQ.out; omega
                          case rel => exact ⟨j + 1, q + 5, by simp, by have := HQ.out; omega, by have := HKJ.out; have := HQ.out; omega, h1, g1⟩
                    · have hd5 : decide (q < 25) = false := by simp; omega
                      have hd5i : decide ((q : Int) < 25) = false := by simp; omega
                      have hd5n : ¬ (q : Int) < 25 := by omega
                      obtain rfl : j = 5 := by omega
                      obtain ⟨V4, hV4⟩ : ∃ V4, V4 = chi V3 5 := ⟨_, rfl⟩
                      rw [← hV4] at h1
                      obtain ⟨a, ha⟩ : ∃ a, V4 0 = a := ⟨_, rfl⟩
                      have HA : Hid (some (Value.int .u64 (V4 0)) = some (.int .u64 a)) := Lib.hid (by rw [ha])
                      have HR := Lib.hid (show upd V4 0 (bits .xor .u64 a c) = prm W (i + 1) by rw [HV.out, ← ha, hV4, HV3.out]; rfl)
                      clear hV4 ha hj hl5 hq
                      go_upto_region 29 with fail
                      have h2 := h1.drew
                      have g2 := grown_below g1 ((Below.refl wr.heap.size wr).drew)
                      clear h1 g1
                      refine region_monoT 8 (fun x => Spg x g rt en V4 at_ gv ∧ w.grownBy x (some g)) (fun w w' => Below w.heap.size w w') (Vio g a c) [(0, some 119), (1, some 120), (2, some 121), (3, some 122), (4, some 123), (5, some 124), (6, some 125), (7, some 126)] (by kernel_rfl) (by kernel_rfl) (by kernel_rfl) (by kernel_rfl) (fun _ _ h r => ⟨h.1.below r h.1.lt, grown_below h.2 r⟩) (fun i1 v1 w1 w2 _ h1 r1 => Vio_keep g a c i1 v1 w1 w2 h1 r1) (⟨h2, g2⟩) ?_ (fun vs w' hS hV => ?_)
                      · refine StepsL.cons0  (by kernel_rfl)  ?_ ?_
                        · rintro w1 hS  K hK
                          (try simp only [Act.put, List.setIfInBounds_toArray, List.set_cons_zero, List.set_cons_succ])
                          go_simp
                          exact hK.out _ _ rfl (Below.refl _ _)
                        refine StepsL.cons1 0 (some 119) (by kernel_rfl) rfl ?_ ?_
                        · rintro w1 hS _ rfl K hK
                          (try simp only [Act.put, List.setIfInBounds_toArray, List.set_cons_zero, List.set_cons_succ])
                          go_simp
                          exact hK.out _ _ rfl (Below.refl _ _)
                        refine StepsL.cons1 1 (some 120) (by kernel_rfl) rfl ?_ ?_
                        · rintro w1 hS _ rfl K hK
                          (try simp only [Act.put, List.setIfInBounds_toArray, List.set_cons_zero, List.set_cons_succ])
                          go_simp
                          exact hK.out _ _ rfl (Below.refl _ _)
                        refine StepsL.cons1 2 (some 121) (by kernel_rfl) rfl ?_ ?_
                        · rintro w1 hS _ rfl K hK
                          (try simp only [Act.put, List.setIfInBounds_toArray, List.set_cons_zero, List.set_cons_succ])
                          have hcl := hS.1.cell 0 (by omega) |>.trans HA.out
                          go_simp
                          exact hK.out _ _ rfl (Below.refl _ _)
                        refine StepsL.cons0  (by kernel_rfl)  ?_ ?_
                        · rintro w1 hS  K hK
                          (try simp only [Act.put, List.setIfInBounds_toArray, List.set_cons_zero, List.set_cons_succ])
                          go_simp
                          exact hK.out _ _ rfl (Below.refl _ _)
                        refine StepsL.cons2 3 (some 122) 4 (some 123) (by kernel_rfl) rfl rfl ?_ ?_
                        · rintro w1 hS _ rfl _ rfl K hK
                          (try simp only [Act.put, List.setIfInBounds_toArray, List.set_cons_zero, List.set_cons_succ])
                          go_simp
                          exact hK.out _ _ rfl (Below.refl _ _)
                        refine StepsL.cons1 0 (some 119) (by kernel_rfl) rfl ?_ ?_
                        · rintro w1 hS _ rfl K hK
                          (try simp only [Act.put, List.setIfInBounds_toArray, List.set_cons_zero, List.set_cons_succ])
                          go_simp
                          exact hK.out _ _ rfl (Below.refl _ _)
                        refine StepsL.cons1 6 (some 125) (by kernel_rfl) rfl ?_ ?_
                        · rintro w1 hS _ rfl K hK
                          (try simp only [Act.put, List.setIfInBounds_toArray, List.set_cons_zero, List.set_cons_succ])
                          go_simp
                          exact hK.out _ _ rfl (Below.refl _ _)
                        exact StepsL.nil
                      · have e5 : vs 5 = .int .u64 (bits .xor .u64 a c) := hV 5 (by omega)
                        have e7 : vs 7 = .pointer (some ⟨g, 2, none⟩) := hV 7 (by omega)
                        simp only [putl, List.foldl_cons, List.foldl_nil, Act.put, List.setIfInBounds_toArray, List.set_cons_zero, List.set_cons_succ, e5, e7]
                        simp only [List.drop_succ_cons, List.drop_zero]
                        obtain ⟨h3, g3⟩ := hS
                        have hcl : w'.cell? ⟨g, 2, none⟩ = some (.int .u64 (V4 0)) := h3.cell 0 (by omega)
                        have hff := h3.frozen 2
                        have h4 : Spg (w'.setCell ⟨g, 2, none⟩ (.int .u64 (bits .xor .u64 a c))) g rt en (upd V4 0 (bits .xor .u64 a c)) at_ gv := h3.set 0 (bits .xor .u64 a c) (by omega)
                        rw [HR.out] at h4
                        have g4 := grown_set' g3 ⟨g, 2, none⟩ (.int .u64 (bits .xor .u64 a c)) (.inl rfl)
                        clear hV e5 e7 h3 g3
                        go_wp2_with fail
                        go_roundg (ko - 1)
                        case measure => have := HI.out; omega
                        case rel => exact ⟨i + 1, by simp, by have := HI.out; omega, h4, g4⟩
    · have hdo : decide (i < 24) = false := by simp; omega
      obtain rfl : i = 24 := by omega
      go_wp2_with fail
      go_end0
      exact ⟨rfl, h1, g1⟩
end Go.Proofs.YtgjcofneecebjaaDoor
