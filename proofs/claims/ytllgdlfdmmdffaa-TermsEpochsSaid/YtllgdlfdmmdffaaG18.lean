/- TermsEpochs, walked. -/
import Derived.Test.YtllgdlfdmmdffaaG17
import Derived.Test.YtllgdlfdmmdffaaZ4
namespace Go.Proofs.Ytllgdlfdmmdffaa
open Go.ChangeShapes Go.WideShapes Go.ChangeAt Go.RowKit Go.MapKept Go.ChangeMaps
set_option linter.unusedSimpArgs false
set_option linter.unusedVariables false
/-- Eight bools. -/
def bA (f : Nat → Bool) : Array Value := ((List.range 8).map fun i => Value.bool (f i)).toArray
theorem bA_size (f : Nat → Bool) : (bA f).size = 8 := by simp [bA]
theorem bA_get (f : Nat → Bool) (i : Nat) (hi : i < 8) : (bA f)[i]? = some (.bool (f i)) := by simp [bA, hi]
theorem bA_congr {f g : Nat → Bool} (h : ∀ i, i < 8 → f i = g i) : bA f = bA g := by
  unfold bA
  congr 1
  exact List.map_congr_left fun i hi => by rw [h i (List.mem_range.1 hi)]
theorem bA_set (f : Nat → Bool) (i : Nat) (q : Bool) : (bA f).setIfInBounds i (.bool q) = bA (setL f i q) := by
  apply Array.ext
  · simp [bA]
  · intro j h1 h2
    have h3 : j < 8 := by simpa [bA] using h2
    simp only [bA, Array.getElem_setIfInBounds, List.getElem_toArray, List.getElem_map, List.getElem_range, setL]
    by_cases e : i = j
    · subst e; simp
    · have e2 : j ≠ i := fun x => e x.symm
      simp [e, e2]
theorem run_equalIn_ba {P : Program} (w : World) (d : Nat) (t e : TypeId) (ht : P.underlying t = some (.array 8 e)) (he : P.underlying e = some .bool) (hsz : ∀ w, (sizeOf e).run P w = .ok 1 w)
    (f : Nat → Bool) : (Op.equalIn (d + 2) t (.agg (bA f)) (.agg (bA f))).run P w = .ok true w := by
  rw [Op.equalIn]
  simp only [Sem.run_bind, run_underlying ht, Result.andThen_ok, hsz, Std.Legacy.Range.forIn_eq_forIn_range', Std.Legacy.Range.size, Nat.sub_zero, Nat.add_sub_cancel, Nat.div_one]
  have hl : ∀ i ∈ List.range' 0 8 1, i < 8 := fun i hi => by simpa using (List.mem_range'_1.1 hi).2
  generalize List.range' 0 8 1 = l at hl ⊢
  induction l with
  | nil => simp
  | cons i l ih =>
    have hi : i < 8 := hl i (by simp)
    have px : (Go.part e (bA f) (i * 1)).run P w = .ok (.bool (f i)) w := by
      simp [Go.part, isAgg, run_underlying he, bA_get f i hi]
    have pe : (Op.equalIn (d + 1) e (.bool (f i)) (.bool (f i))).run P w = .ok true w := by
      rw [Op.equalIn]
      simp [run_underlying he]
    simp only [List.forIn_cons, Sem.run_bind, px, pe, Result.andThen_ok]
    simp only [Bool.not_true, Bool.false_eq_true, if_false, Sem.run_pure, Result.andThen_ok]
    exact ih fun j hj => hl j (by simp [hj])
theorem size4' (w : World) : (sizeOf 4).run Try.prog w = .ok 1 w := by kernel_rfl
theorem eql35 (f : Nat → Bool) (w : World) : (Op.equalIn 10000 35 (.agg (bA f)) (.agg (bA f))).run Try.prog w = .ok true w :=
  run_equalIn_ba w 9998 35 4 Try.underlying35 Try.underlying4 size4' f
theorem info35' : (Try.prog.info? 35).map (·.size) = some 8 := by kernel_rfl
theorem load35m {ops : Array Oper} {rest : List Oper} {op : Oper} {a : Act} {w : World} {Q : Exit → Act → World → Prop} (hgd : op.guard = none) (x : Operand) (ho : op.op = .load 35 x)
    (b o : Nat) (hx : a.eval x = .pointer (some ⟨b, o, none⟩)) (f : Nat → Bool) (hc : w.rangeAt b o (bA f).toList)
    (h : wpList Try.prog ops Q rest (a.put op.dst (.agg (bA f))) w) : wpList Try.prog ops Q (op :: rest) a w :=
  wpList_load_mid hgd 35 x ho b o hx _ _ hc Try.underlying35 rfl (by rw [Array.length_toList, bA_size]; exact info35') h
theorem zero35 (w : World) : (zeroValue 35).run Try.prog w = .ok (.agg #[.bool false, .bool false, .bool false, .bool false, .bool false, .bool false, .bool false, .bool false]) w := by kernel_rfl
theorem bits7 (o : Nat) (ho : o < 8) : bits BinOp.and IntKind.i64 (o : Int) 7 = (o : Int) := by
  rcases (by omega : o = 0 ∨ o = 1 ∨ o = 2 ∨ o = 3 ∨ o = 4 ∨ o = 5 ∨ o = 6 ∨ o = 7) with rfl | rfl | rfl | rfl | rfl | rfl | rfl | rfl <;> decide
theorem can_other {m : Md} {a : Ac} (h : canM m a = true) (hk : a.kind = 2 ∨ a.kind = 4) : isL a.other = true := by
  unfold canM at h
  simp only [Bool.and_eq_true] at h
  have h2 := h.2
  rcases hk with e | e
  · rw [if_neg (by omega), if_neg (by omega), if_pos e] at h2
    simp only [Bool.and_eq_true] at h2
    exact h2.1
  · rw [if_neg (by omega), if_neg (by omega), if_neg (by omega), if_pos (.inr e)] at h2
    simp only [Bool.and_eq_true] at h2
    exact h2.1.1
/-- What Play answers, in one form. -/
theorem Ply.form {w w' : World} {As : List Ac} {e : Ending} (h : Ply w As e w') : ∃ (a err : Int) (lo : Option Addr) (rl lc : Nat) (ka : Option Addr) (kl kc : Nat) (ea : Option Addr) (el ec : Nat) (f : Nat → Bool),
    e = .returned (.tuple #[.agg #[.int .i64 a, .slice lo rl lc, .slice ka kl kc, .slice ea el ec, .bool (f 0), .bool (f 1), .bool (f 2), .bool (f 3), .bool (f 4), .bool (f 5), .bool (f 6), .bool (f 7)], .int .i64 err]) ∧ Below w.heap.size w w' ∧
    ((err ≠ 0 ∧ a = 0 ∧ rl = 0) ∨ (err = 0 ∧ As.length ≤ 64 ∧ ∃ m, plyM staM As = some m ∧ a = m.many ∧ el = m.Ep.length ∧ f = m.ins ∧ Ilz w'.heap.size w' ea m.Ep)) := by
  obtain ⟨b, h⟩ := h
  rcases h with ⟨_, rfl⟩ | ⟨_, _, rfl⟩ | ⟨h64, m, V, hm, rfl, lo, lc, ka, kc, ea, ec, rfl, h1, h2, h3⟩
  · exact ⟨0, 2, none, 0, 0, none, 0, 0, none, 0, 0, fun _ => false, rfl, b, .inl ⟨by decide, rfl, rfl⟩⟩
  · exact ⟨0, 1, none, 0, 0, none, 0, 0, none, 0, 0, fun _ => false, rfl, b, .inl ⟨by decide, rfl, rfl⟩⟩
  · exact ⟨_, 0, lo, _, lc, ka, _, kc, ea, _, ec, m.ins, rfl, b, .inr ⟨rfl, h64, m, hm, rfl, rfl, rfl, h3⟩⟩
set_option maxRecDepth 20000 in
set_option maxHeartbeats 16000000 in
theorem law6 (w : World) (ao : Option Addr) (n c k0 : Nat) (As : List Ac) (hn : n = As.length) (hA : Acz k0 w ao As) (hk0 : k0 ≤ w.heap.size) (hn63 : n ≤ 9223372036854775807) :
    Calls Try.prog 6 #[.slice ao n c] w fun e w' => e = .returned (.bool true) ∧ Below w.heap.size w w' := by
  have H7 := Lib.hid (head7 w)
  have HP := Lib.hid (fun (W : World) (b : Below w.heap.size w W) => play15g W ao n c k0 As hn (hA.below b hk0) (Nat.le_trans hk0 b.size) hn63)
  have HA := Lib.hid (And.intro hn (And.intro hA (And.intro hk0 hn63)))
  clear hn hA hk0
  go_enter Try.func6, Try.ntmps6
  go_upto_region 3 with (first
    | (go_at_call 7; (with_reducible refine H7.out.mono ?_); rintro e w1 ⟨rfl, b1⟩; have HB1 := Lib.hid b1; have H15 := HP.out w1 b1; clear b1)
    | (go_at_call 15; (with_reducible refine H15.mono ?_); rintro e w2 hp; obtain ⟨a, err, lo, rl, lc, ka, kl, kc, ea, el, ec, f, rfl, b2, hc⟩ := hp.form; have HB2 := Lib.hid (And.intro (below_then HB1.out b2) hc); clear b2 hc hp H15))
  have kA : Below w2.heap.size w2 (w2.alloc (.cells #[.int .i64 a, .slice lo rl lc, .slice ka kl kc, .slice ea el ec, .bool (f 0), .bool (f 1), .bool (f 2), .bool (f 3), .bool (f 4), .bool (f 5), .bool (f 6), .bool (f 7)] 37)) := (Below.refl _ w2).alloc (Nat.le_refl _) _
  have hrow := heap_alloc_new w2 (.cells #[.int .i64 a, .slice lo rl lc, .slice ka kl kc, .slice ea el ec, .bool (f 0), .bool (f 1), .bool (f 2), .bool (f 3), .bool (f 4), .bool (f 5), .bool (f 6), .bool (f 7)] 37)
  change Code.wp Try.prog _ _ _ (w2.alloc (.cells #[.int .i64 a, .slice lo rl lc, .slice ka kl kc, .slice ea el ec, .bool (f 0), .bool (f 1), .bool (f 2), .bool (f 3), .bool (f 4), .bool (f 5), .bool (f 6), .bool (f 7)] 37))
  obtain ⟨q, hq⟩ : ∃ q, q = w2.heap.size := ⟨_, rfl⟩
  rw [← hq] at hrow ⊢
  generalize w2.alloc (.cells #[.int .i64 a, .slice lo rl lc, .slice ka kl kc, .slice ea el ec, .bool (f 0), .bool (f 1), .bool (f 2), .bool (f 3), .bool (f 4), .bool (f 5), .bool (f 6), .bool (f 7)] 37) = w3 at kA hrow ⊢
  have c0 : w3.cell? ⟨q, 0, none⟩ = some (.int .i64 a) := by rw [cell_of_row _ _ _ _ _ _ hrow]; rfl
  have c1 : w3.cell? ⟨q, 1, none⟩ = some (.slice lo rl lc) := by rw [cell_of_row _ _ _ _ _ _ hrow]; rfl
  have HB3 := Lib.hid (And.intro (below_then HB2.out.1 kA) (And.intro kA (And.intro hrow hq)))
  clear kA hrow hq
  rcases HB2.out.2 with ⟨he, ha, hr⟩ | ⟨he, h64, m, hm, ha, hel, hf, hi⟩
  · have d0 : (err != 0) = true := by simpa using he
    subst ha
    subst hr
    clear he
    go_wp2_with fail
    go_ret
    exact ⟨rfl, HB3.out.1⟩
  · subst he
    subst hf
    have hz35 := zero35
    have HM := Lib.hid (And.intro h64 (And.intro hm (And.intro ha (And.intro hel hi))))
    clear h64 hm ha hel hi c0 c1
    go_upto_region 8 with fail
    obtain ⟨b6, hb6⟩ : ∃ b6, b6 = w3.heap.size := ⟨_, rfl⟩
    rw [← hb6]
    have k4 : Below w3.heap.size w3 (w3.alloc (.cells #[.bool true, .bool false, .bool false, .bool false, .bool false, .bool false, .bool false, .bool false] 35)) := (Below.refl _ w3).alloc (Nat.le_refl _) _
    have hr4 : (w3.alloc (.cells #[.bool true, .bool false, .bool false, .bool false, .bool false, .bool false, .bool false, .bool false] 35)).heap[b6]? = some (.cells (bA staM.ins) 35 (0, 0)) := by rw [hb6]; exact heap_alloc_new w3 _
    generalize w3.alloc (.cells #[.bool true, .bool false, .bool false, .bool false, .bool false, .bool false, .bool false, .bool false] 35) = w4 at k4 hr4 ⊢
    have H4 := Lib.hid (And.intro k4 (And.intro hr4 hb6))
    clear k4 hr4 hb6
    go_loopg [7, 8] n (fun gk v7 v8 wr => ∃ (i : Nat) (mi : Md), v8 = .int .i64 i ∧ v7 = .int .i64 (mi.Ep.length : Int) ∧ i + gk = n ∧ plyM staM (As.take i) = some mi ∧ wr.heap[b6]? = some (.cells (bA mi.ins) 35 (0, 0)) ∧ Below w3.heap.size w3 wr)
    case atStart => exact ⟨0, staM, rfl, rfl, by omega, rfl, H4.out.2.1, H4.out.1⟩
    case round =>
      obtain ⟨i, mi, rfl, rfl, hig, hpl, hrb, hbl⟩ := hrel
      have HG := Lib.hid (And.intro hig (And.intro hpl (And.intro hrb hbl)))
      by_cases hi : i < n
      · have d1 : decide ((i : Int) < (n : Int)) = true := by simp; omega
        have d2 : decide (i < n) = true := by simp; omega
        have q0 : (0 : Int) ≤ (i : Int) := by omega
        have q1 : (i : Int) < (n : Int) := by omega
        obtain ⟨x, hx⟩ : ∃ x, As[i]? = some x := ⟨_, List.getElem?_eq_getElem (by rw [← HA.out.1]; exact hi)⟩
        have hAr := HA.out.2.1.below (HB3.out.1.trans (hbl.mono HB3.out.1.size)) HA.out.2.2.1
        obtain ⟨ad, rfl⟩ : ∃ ad, ao = some ad := by
          cases ao with
          | some ad => exact ⟨ad, rfl⟩
          | none =>
            have := hAr.nil rfl
            rw [this] at hx
            cases hx
        obtain ⟨_, x0, x1, x2⟩ := hAr.cells ad rfl i x hx
        obtain ⟨pb, po, hpa⟩ : ∃ pb po, ad.add (i * 3) = ⟨pb, po, none⟩ := ⟨_, _, at_none x0⟩
        rw [hpa] at x0 x1 x2
        rw [Addr.add_mid] at x1 x2
        have kB : Below wr.heap.size wr (wr.alloc (.cells #[.int .i64 x.kind, .int .i64 x.leaf, .int .i64 x.other] 42)) := (Below.refl _ wr).alloc (Nat.le_refl _) _
        have hrow9 := heap_alloc_new wr (.cells #[.int .i64 x.kind, .int .i64 x.leaf, .int .i64 x.other] 42)
        have HX := Lib.hid (And.intro hx (And.intro hi (And.intro kB hrow9)))
        clear hAr kB hrow9 hig hpl hrb hbl hx hi
        go_upto_region 11 with fail
        have hcan : canM mi x = true := by
          cases hcx : canM mi x with
          | true => rfl
          | false =>
            have := plyM_none HG.out.2.1 HX.out.1 hcx
            rw [HM.out.2.1] at this; cases this
        have HCN := Lib.hid hcan
        obtain ⟨K, L⟩ := plyM_ok _ _ _ 0 staM_ok staM_lm HG.out.2.1
        have HFX := Lib.hid (actM_fx K x hcan)
        have HLO := Lib.hid (fun (h : x.kind = 2 ∨ x.kind = 4) => can_other hcan h)
        have hle := L.ep
        rw [List.length_take] at hle
        obtain ⟨el2, hel2⟩ : ∃ el2, mi.Ep.length = el2 := ⟨_, rfl⟩
        have HEL := Lib.hid (And.intro hel2 (show el2 ≤ 65 by have := HM.out.1; omega))
        rw [hel2]
        have e9 : IntKind.i64.wrap ((el2 : Int) + 1) = ((el2 : Int) + 1) := IntWalk.i64_in _ (by have := HEL.out.2; omega)
        have yy := box_cells HX.out.2.2.2
        have hr5 : (wr.alloc (.cells #[.int .i64 x.kind, .int .i64 x.leaf, .int .i64 x.other] 42)).heap[b6]? = some (.cells (bA mi.ins) 35 (0, 0)) := (HX.out.2.2.1.block b6 (Array.getElem?_eq_some_iff.1 HG.out.2.2.1).1).trans HG.out.2.2.1
        have HR5 := Lib.hid (And.intro hr5 (HG.out.2.2.2.trans (HX.out.2.2.1.mono HG.out.2.2.2.size)))
        have y0 := yy.1
        have y2 := yy.2.2
        generalize wr.alloc (.cells #[.int .i64 x.kind, .int .i64 x.leaf, .int .i64 x.other] 42) = w5 at HR5 y0 y2 ⊢
        clear hcan K L hle hel2 yy hr5 x0 x1 x2
        by_cases k5 : x.kind = 5
        · have z5 : (x.kind != 5) = false := by simpa using k5
          have z2 : (x.kind == 2) = false := by simp; omega
          have z4 : (x.kind == 4) = false := by simp; omega
          have HR6 := Lib.hid (show w5.heap[b6]? = some (.cells (bA (actM mi x).ins) 35 (0, 0)) by
            rw [HR5.out.1, bA_congr (f := mi.ins) (g := (actM mi x).ins) (fun j hj => by rw [HFX.out.2.2.2.2 j, if_neg (by omega), if_neg (by omega)])])
          have HB6 := Lib.hid HR5.out.2
          go_wp2_with fail
          go_roundg (gk - 1)
          case measure => have := HG.out.1; have := HX.out.2.1; omega
          case rel => exact ⟨i + 1, actM mi x, by push_cast; rfl, by have h4 := HFX.out.2.2.2.1; rw [if_pos k5] at h4; rw [h4, HEL.out.1]; rfl, by have := HG.out.1; have := HX.out.2.1; omega, by rw [plyM_step HG.out.2.1 HX.out.1, if_pos HCN.out], HR6.out, HB6.out⟩
        have z5 : (x.kind != 5) = true := by simpa using k5
        by_cases k2 : x.kind = 2
        · have z2 : (x.kind == 2) = true := by simpa using k2
          have z4 : (x.kind == 4) = false := by simp; omega
          obtain ⟨o, ho, ho8⟩ := isL_yes (HLO.out (by omega))
          rw [ho] at y2
          have hb7 : bits BinOp.and IntKind.i64 (o : Int) 7 = (o : Int) := bits7 o ho8
          have s0 : (0 : Int) ≤ (o : Int) := by omega
          have s1 : (o : Int) < 8 := by omega
          have hco : w5.cell? ⟨b6, o, none⟩ = some (.bool (mi.ins o)) := by rw [cell_of_row _ _ _ _ _ _ HR5.out.1]; exact bA_get _ _ ho8
          have hfo : w5.frozen? ⟨b6, o, none⟩ = false := frozen_of_row _ _ _ _ _ HR5.out.1
          have hrow6 : (w5.setCell ⟨b6, o, none⟩ (.bool true)).heap[b6]? = some (.cells (bA (actM mi x).ins) 35 (0, 0)) := by
            rw [heap_setCell_same _ _ _ _ _ _ HR5.out.1, bA_set]
            congr 2
            refine bA_congr fun j hj => ?_
            rw [HFX.out.2.2.2.2 j]
            unfold setL
            by_cases e : j = o
            · rw [if_pos e, if_pos ⟨k2, by rw [ho]; omega⟩]
            · rw [if_neg e, if_neg (fun x => e (by have := x.2; rw [ho] at this; omega)), if_neg (by omega)]
          have HR6 := Lib.hid hrow6
          have HB6 := Lib.hid (HR5.out.2.setCell (p := ⟨b6, o, none⟩) (u := .bool true) (by have := H4.out.2.2; show w3.heap.size ≤ b6; omega))
          have hby : b6 ≠ wr.heap.size := by have := (Array.getElem?_eq_some_iff.1 HG.out.2.2.1).1; omega
          have y0' : (w5.setCell ⟨b6, o, none⟩ (.bool true)).cell? ⟨wr.heap.size, 0, none⟩ = some (.int .i64 x.kind) := (World.cell?_of_block (heap_setCell_other _ _ _ _ (fun e => hby e.symm))).trans y0
          clear hby
          clear hrow6 ho
          go_wp2_with fail
          go_roundg (gk - 1)
          case measure => have := HG.out.1; have := HX.out.2.1; omega
          case rel => exact ⟨i + 1, actM mi x, by push_cast; rfl, by have h4 := HFX.out.2.2.2.1; rw [if_neg k5] at h4; rw [h4, ← HEL.out.1]; push_cast; rfl, by have := HG.out.1; have := HX.out.2.1; omega, by rw [plyM_step HG.out.2.1 HX.out.1, if_pos HCN.out], HR6.out, HB6.out⟩
        have z2 : (x.kind == 2) = false := by simpa using k2
        by_cases k4 : x.kind = 4
        · have z4 : (x.kind == 4) = true := by simpa using k4
          obtain ⟨o, ho, ho8⟩ := isL_yes (HLO.out (by omega))
          rw [ho] at y2
          have hb7 : bits BinOp.and IntKind.i64 (o : Int) 7 = (o : Int) := bits7 o ho8
          have s0 : (0 : Int) ≤ (o : Int) := by omega
          have s1 : (o : Int) < 8 := by omega
          have hco : w5.cell? ⟨b6, o, none⟩ = some (.bool (mi.ins o)) := by rw [cell_of_row _ _ _ _ _ _ HR5.out.1]; exact bA_get _ _ ho8
          have hfo : w5.frozen? ⟨b6, o, none⟩ = false := frozen_of_row _ _ _ _ _ HR5.out.1
          have hrow6 : (w5.setCell ⟨b6, o, none⟩ (.bool false)).heap[b6]? = some (.cells (bA (actM mi x).ins) 35 (0, 0)) := by
            rw [heap_setCell_same _ _ _ _ _ _ HR5.out.1, bA_set]
            congr 2
            refine bA_congr fun j hj => ?_
            rw [HFX.out.2.2.2.2 j]
            unfold setL
            by_cases e : j = o
            · rw [if_pos e, if_neg (by omega), if_pos ⟨k4, by rw [ho]; omega⟩]
            · rw [if_neg e, if_neg (by omega), if_neg (fun x => e (by have := x.2; rw [ho] at this; omega))]
          have HR6 := Lib.hid hrow6
          have HB6 := Lib.hid (HR5.out.2.setCell (p := ⟨b6, o, none⟩) (u := .bool false) (by have := H4.out.2.2; show w3.heap.size ≤ b6; omega))
          clear hrow6 ho
          go_wp2_with fail
          go_roundg (gk - 1)
          case measure => have := HG.out.1; have := HX.out.2.1; omega
          case rel => exact ⟨i + 1, actM mi x, by push_cast; rfl, by have h4 := HFX.out.2.2.2.1; rw [if_neg k5] at h4; rw [h4, ← HEL.out.1]; push_cast; rfl, by have := HG.out.1; have := HX.out.2.1; omega, by rw [plyM_step HG.out.2.1 HX.out.1, if_pos HCN.out], HR6.out, HB6.out⟩
        · have z4 : (x.kind == 4) = false := by simpa using k4
          have HR6 := Lib.hid (show w5.heap[b6]? = some (.cells (bA (actM mi x).ins) 35 (0, 0)) by
            rw [HR5.out.1, bA_congr (f := mi.ins) (g := (actM mi x).ins) (fun j hj => by rw [HFX.out.2.2.2.2 j, if_neg (by omega), if_neg (by omega)])])
          have HB6 := Lib.hid HR5.out.2
          go_wp2_with fail
          go_roundg (gk - 1)
          case measure => have := HG.out.1; have := HX.out.2.1; omega
          case rel => exact ⟨i + 1, actM mi x, by push_cast; rfl, by have h4 := HFX.out.2.2.2.1; rw [if_neg k5] at h4; rw [h4, ← HEL.out.1]; push_cast; rfl, by have := HG.out.1; have := HX.out.2.1; omega, by rw [plyM_step HG.out.2.1 HX.out.1, if_pos HCN.out], HR6.out, HB6.out⟩
      · have d1 : decide ((i : Int) < (n : Int)) = false := by simp; omega
        have d2 : decide (i < n) = false := by simp; omega
        have hall : As.take i = As := List.take_of_length_le (by rw [← HA.out.1]; omega)
        rw [hall, HM.out.2.1] at hpl
        have hpl := Option.some.inj hpl
        subst hpl
        obtain ⟨K, L⟩ := plyM_ok _ _ _ 0 staM_ok staM_lm HM.out.2.1
        obtain ⟨wL, hwL⟩ : ∃ wL, wL = wr := ⟨_, rfl⟩
        obtain ⟨eln, heln⟩ : ∃ eln, m.Ep.length = eln := ⟨_, rfl⟩
        have HK := Lib.hid (And.intro K (And.intro (show eln ≤ 65 by have h1 := L.ep; have h2 := HM.out.1; omega) (And.intro heln (show el = eln by rw [HM.out.2.2.2.1]; exact heln))))
        rw [heln]
        have HWL := Lib.hid (show wL.heap[b6]? = some (.cells (bA m.ins) 35 (0, 0)) ∧ Below w3.heap.size w3 wL from by rw [hwL]; exact ⟨hrb, hbl⟩)
        rw [← hwL]
        clear hig hrb hbl K L hall heln HG
        have hel0 := HK.out.2.2.2
        subst hel0
        have hqrow := (HWL.out.2.block q (Array.getElem?_eq_some_iff.1 HB3.out.2.2.1).1).trans HB3.out.2.2.1
        have HQR := Lib.hid hqrow
        have hc3 : wL.cell? ⟨q, 3, none⟩ = some (.slice ea el ec) := by rw [cell_of_row _ _ _ _ _ _ hqrow]; rfl
        clear hwL hqrow
        go_upto_region 18 with fail
        go_loopg [10] el (fun gk v10 wr => ∃ j : Nat, v10 = .int .i64 j ∧ j + gk = el ∧ Below wL.heap.size wL wr)
        case atStart => exact ⟨0, rfl, by omega, Below.refl _ _⟩
        case round =>
          obtain ⟨j, rfl, hjg, hjb⟩ := hrel
          have HJ := Lib.hid (And.intro hjg hjb)
          have hqr := (hjb.block q (Array.getElem?_eq_some_iff.1 HQR.out).1).trans HQR.out
          have hb6r := (hjb.block b6 (Array.getElem?_eq_some_iff.1 HWL.out.1).1).trans HWL.out.1
          have g0 : wr.cell? ⟨q, 0, none⟩ = some (.int .i64 a) := by rw [cell_of_row _ _ _ _ _ _ hqr]; rfl
          have g3 : wr.cell? ⟨q, 3, none⟩ = some (.slice ea el ec) := by rw [cell_of_row _ _ _ _ _ _ hqr]; rfl
          by_cases hj : j < el
          · have d3 : decide ((j : Int) < (el : Int)) = true := by simp; omega
            have d4 : decide (j < el) = true := by simp; omega
            have q0 : (0 : Int) ≤ (j : Int) := by omega
            have q1 : (j : Int) < (el : Int) := by omega
            obtain ⟨x, hx⟩ : ∃ x, m.Ep[j]? = some x := ⟨_, List.getElem?_eq_getElem (by rw [HK.out.2.2.1]; exact hj)⟩
            have hil := HM.out.2.2.2.2
            have hxr := HK.out.1.ep x (List.mem_of_getElem? hx)
            rw [← HM.out.2.2.1] at hxr
            obtain ⟨ad, rfl⟩ : ∃ ad, ea = some ad := by
              cases ea with
              | some ad => exact ⟨ad, rfl⟩
              | none =>
                have := hil.nil rfl
                rw [this] at hx
                cases hx
            have b3r : Below w2.heap.size w2 wr := (below_then HB3.out.2.1 HWL.out.2).trans (hjb.mono (Nat.le_trans HB3.out.2.1.size HWL.out.2.size))
            have hcx : ∀ (k : Nat) y, m.Ep[k]? = some y → wr.cell? (ad.add k) = some (.int .i64 y) := fun k y hy => by
              obtain ⟨h1, h2⟩ := hil.cells ad rfl k y hy
              exact (World.cell?_of_block (by rw [add_block]; exact b3r.block _ h1)).trans h2
            have hcj := hcx j x hx
            have dx : decide (x < 0) = false := by have := hxr.1; simp; omega
            have dg : decide (x ≥ a) = false := by have := hxr.2; simp; omega
            by_cases hj0 : j = 0
            · have di : decide ((j : Int) > 0) = false := by simp; omega
              have di2 : decide (0 < j) = false := by simp; omega
              have di3 : decide ((0 : Int) < (j : Int)) = false := by simp; omega
              have HJ2 := Lib.hid hj
              clear hjg hjb hqr hb6r hx hil hxr b3r hcx hj hj0
              go_upto_region 20 with fail
              go_quiet (fail)
              have HQ2 := Lib.hid (show Below wL.heap.size wL (wr.drewN nq) from ⟨HJ.out.2.os, HJ.out.2.tape, HJ.out.2.output, HJ.out.2.size, HJ.out.2.block⟩)
              go_wp2_with fail
              go_roundg (gk - 1)
              case measure => have := HJ.out.1; have := HJ2.out; omega
              case rel => exact ⟨j + 1, by have h1 := HJ2.out; have h2 := HK.out.2.1; rw [IntWalk.wrap64_in _ (by omega)]; push_cast; rfl, by have := HJ.out.1; have := HJ2.out; omega, HQ2.out⟩
            · have di : decide ((j : Int) > 0) = true := by simp; omega
              have di2 : decide (0 < j) = true := by simp; omega
              have di3 : decide ((0 : Int) < (j : Int)) = true := by simp; omega
              obtain ⟨j2, hj2⟩ : ∃ j2, j = j2 + 1 := ⟨j - 1, by omega⟩
              obtain ⟨y, hy⟩ : ∃ y, m.Ep[j2]? = some y := ⟨_, List.getElem?_eq_getElem (by rw [HK.out.2.2.1]; omega)⟩
              have hcy := hcx j2 y hy
              have hyx : y < x := by
                have h1 := List.pairwise_iff_getElem.1 HK.out.1.up j2 j (by rw [HK.out.2.2.1]; omega) (by rw [HK.out.2.2.1]; omega) (by omega)
                rw [List.getElem?_eq_some_iff] at hx hy
                obtain ⟨_, rfl⟩ := hx
                obtain ⟨_, rfl⟩ := hy
                exact h1
              have dl : decide (x ≤ y) = false := by simp; omega
              have e12 : IntKind.i64.wrap ((j : Int) - 1) = (j2 : Int) := by rw [show (j : Int) - 1 = (j2 : Int) by omega]; exact IntWalk.i64_in _ (by have := HK.out.2.1; omega)
              have s0 : (0 : Int) ≤ (j2 : Int) := by omega
              have s1 : (j2 : Int) < (el : Int) := by omega
              have HJ2 := Lib.hid hj
              clear hj2 hy hyx
              clear hjg hjb hqr hb6r hx hil hxr b3r hcx hj hj0
              go_upto_region 20 with fail
              go_quiet (fail)
              have HQ2 := Lib.hid (show Below wL.heap.size wL (wr.drewN nq) from ⟨HJ.out.2.os, HJ.out.2.tape, HJ.out.2.output, HJ.out.2.size, HJ.out.2.block⟩)
              go_wp2_with fail
              go_roundg (gk - 1)
              case measure => have := HJ.out.1; have := HJ2.out; omega
              case rel => exact ⟨j + 1, by have h1 := HJ2.out; have h2 := HK.out.2.1; rw [IntWalk.wrap64_in _ (by omega)]; push_cast; rfl, by have := HJ.out.1; have := HJ2.out; omega, HQ2.out⟩
          · have d3 : decide ((j : Int) < (el : Int)) = false := by simp; omega
            have d4 : decide (j < el) = false := by simp; omega
            have f0 : wr.cell? ⟨q, 4, none⟩ = some (.bool (m.ins 0)) := by rw [cell_of_row _ _ _ _ _ _ hqr]; rfl
            have f1 : wr.cell? ⟨q, 5, none⟩ = some (.bool (m.ins 1)) := by rw [cell_of_row _ _ _ _ _ _ hqr]; rfl
            have f2 : wr.cell? ⟨q, 6, none⟩ = some (.bool (m.ins 2)) := by rw [cell_of_row _ _ _ _ _ _ hqr]; rfl
            have f3 : wr.cell? ⟨q, 7, none⟩ = some (.bool (m.ins 3)) := by rw [cell_of_row _ _ _ _ _ _ hqr]; rfl
            have f4 : wr.cell? ⟨q, 8, none⟩ = some (.bool (m.ins 4)) := by rw [cell_of_row _ _ _ _ _ _ hqr]; rfl
            have f5 : wr.cell? ⟨q, 9, none⟩ = some (.bool (m.ins 5)) := by rw [cell_of_row _ _ _ _ _ _ hqr]; rfl
            have f6 : wr.cell? ⟨q, 10, none⟩ = some (.bool (m.ins 6)) := by rw [cell_of_row _ _ _ _ _ _ hqr]; rfl
            have f7 : wr.cell? ⟨q, 11, none⟩ = some (.bool (m.ins 7)) := by rw [cell_of_row _ _ _ _ _ _ hqr]; rfl
            have h0 : wr.cell? ⟨b6, 0, none⟩ = some (.bool (m.ins 0)) := by rw [cell_of_row _ _ _ _ _ _ hb6r]; rfl
            have h1 : wr.cell? ⟨b6, 1, none⟩ = some (.bool (m.ins 1)) := by rw [cell_of_row _ _ _ _ _ _ hb6r]; rfl
            have h2 : wr.cell? ⟨b6, 2, none⟩ = some (.bool (m.ins 2)) := by rw [cell_of_row _ _ _ _ _ _ hb6r]; rfl
            have h3 : wr.cell? ⟨b6, 3, none⟩ = some (.bool (m.ins 3)) := by rw [cell_of_row _ _ _ _ _ _ hb6r]; rfl
            have h4 : wr.cell? ⟨b6, 4, none⟩ = some (.bool (m.ins 4)) := by rw [cell_of_row _ _ _ _ _ _ hb6r]; rfl
            have h5 : wr.cell? ⟨b6, 5, none⟩ = some (.bool (m.ins 5)) := by rw [cell_of_row _ _ _ _ _ _ hb6r]; rfl
            have h6 : wr.cell? ⟨b6, 6, none⟩ = some (.bool (m.ins 6)) := by rw [cell_of_row _ _ _ _ _ _ hb6r]; rfl
            have h7 : wr.cell? ⟨b6, 7, none⟩ = some (.bool (m.ins 7)) := by rw [cell_of_row _ _ _ _ _ _ hb6r]; rfl
            have hq35 : ∀ w, (Op.equalIn 10000 35 (.agg #[.bool (m.ins 0), .bool (m.ins 1), .bool (m.ins 2), .bool (m.ins 3), .bool (m.ins 4), .bool (m.ins 5), .bool (m.ins 6), .bool (m.ins 7)]) (.agg #[.bool (m.ins 0), .bool (m.ins 1), .bool (m.ins 2), .bool (m.ins 3), .bool (m.ins 4), .bool (m.ins 5), .bool (m.ins 6), .bool (m.ins 7)])).run Try.prog w = .ok true w := fun w => eql35 m.ins w
            clear hjg hjb hqr hb6r hj
            go_wp2_with fail
            go_ret
            exact ⟨by simp, HB3.out.1.trans ((HWL.out.2.trans (HJ.out.2.mono HWL.out.2.size)).mono HB3.out.1.size)⟩
end Go.Proofs.Ytllgdlfdmmdffaa
