/- slices.Concat, of bytes and of steps. -/
import Derived.Test.YtjabkfccfecmgaaJ
namespace Go.Proofs.Ytjabkfccfecmgaa
open Go.ChangeShapes Go.WideShapes Go.ChangeAt Go.RowKit
set_option linter.unusedSimpArgs false
set_option linter.unusedVariables false
section
variable {P : Program}
theorem run_app_any (w : World) (base : Nat) (t ty e : TypeId) (i : TypeInfo) (z : Value) (size bytes : Nat) (ht : P.underlying t = some (.slice e)) (hi : P.info? e = some i) (hz : i.zero = some z)
    (hsize : i.size = size) (hby : i.bytes = bytes) (hzs : z.cells.size = size) (hsz : 0 < size)
    (v : Value) (n : Nat) (xs : List Value) (hown : w.ownsRow base e size v n xs)
    (ao : Option Addr) (m c : Nat) (news : List Value) (hl : news.length = m * size) (hnil : ao = none → m = 0) (hnews : ∀ ad, ao = some ad → ∀ j u, news[j]? = some u → w.cell? (ad.add j) = some u) (h1 : ∀ u ∈ news, u.oneCell' = true)
    (h63 : n + m ≤ maxLen) (hbytes : (n + m) * bytes ≤ 140737488355328) (hbase : base ≤ w.heap.size) :
    ∃ v' w', (Builtin.append_ #[t, t] ty #[v, .slice ao m c]).run P w = .ok v' w' ∧ w'.ownsRow base e size v' (n + m) (xs ++ news) ∧ w.grownBy w' v.ownBlock := by
  cases ao with
  | none =>
    obtain rfl : m = 0 := hnil rfl
    obtain rfl : news = [] := List.eq_nil_of_length_eq_zero (by simpa using hl)
    refine ⟨v, w, ?_, by simpa using hown, World.grownBy.refl _ _⟩
    rcases hown.2 with ⟨rfl, rfl⟩ | ⟨b, cap, cur, rfl, _, _, hnc, _⟩
    · simp [Builtin.append_, run_underlying ht, sizeOf, typeInfo, hi, Builtin.lenOf, Builtin.firstCells]
    · simp [Builtin.append_, run_underlying ht, sizeOf, typeInfo, hi, Builtin.lenOf, Builtin.firstCells, hnc, storeCells]
  | some a =>
    obtain ⟨v', w', hr, k1, k2, _⟩ := run_append_own (P := P) w base t ty e i z size bytes ht hi hz hsize hby hzs hsz v n xs hown a m c news hl (hnews a rfl) h1 h63 hbytes hbase
    exact ⟨v', w', hr, k1, k2⟩
theorem wp_app_any {o : Oper} {a : Act} {w : World} {K : Act → World → Prop} {Q : Exit → Act → World → Prop} (s x : Operand) (t : TypeId)
    (ho : o.op = .call { callee := .builtin .append, args := #[s, x], argTypes := #[t, t] })
    (base : Nat) (e : TypeId) (i : TypeInfo) (z : Value) (size bytes : Nat) (ht : P.underlying t = some (.slice e)) (hi : P.info? e = some i) (hz : i.zero = some z)
    (hsize : i.size = size) (hby : i.bytes = bytes) (hzs : z.cells.size = size) (hsz : 0 < size)
    (v : Value) (n : Nat) (xs : List Value) (hs : a.eval s = v) (hown : w.ownsRow base e size v n xs)
    (ao : Option Addr) (m c : Nat) (news : List Value) (hx : a.eval x = .slice ao m c) (hl : news.length = m * size) (hnil : ao = none → m = 0) (hnews : ∀ ad, ao = some ad → ∀ j u, news[j]? = some u → w.cell? (ad.add j) = some u) (h1 : ∀ u ∈ news, u.oneCell' = true)
    (h63 : n + m ≤ maxLen) (hbytes : (n + m) * bytes ≤ 140737488355328) (hbase : base ≤ w.heap.size)
    (h : ∀ v' w', w'.ownsRow base e size v' (n + m) (xs ++ news) → w.grownBy w' v.ownBlock → K (a.put o.dst v') w') : o.wp P a w K Q := by
  obtain ⟨v', w', hr, h2, h3⟩ := run_app_any (P := P) w base t o.type e i z size bytes ht hi hz hsize hby hzs hsz v n xs hown ao m c news hl hnil hnews h1 h63 hbytes hbase
  unfold Oper.wp execOp
  simp only [ho, resolve, invoke, builtin, Sem.run_bind, Sem.run_pure, Result.andThen_ok, List.map_toArray, List.map_cons, List.map_nil, hs, hx, hr]
  exact h v' w' h2 h3
theorem wpList_app_any {ops : Array Oper} {rest : List Oper} {o : Oper} {a : Act} {w : World} {Q : Exit → Act → World → Prop} (hgd : o.guard = none) (s x : Operand) (t : TypeId)
    (ho : o.op = .call { callee := .builtin .append, args := #[s, x], argTypes := #[t, t] })
    (base : Nat) (e : TypeId) (i : TypeInfo) (z : Value) (size bytes : Nat) (ht : P.underlying t = some (.slice e)) (hi : P.info? e = some i) (hz : i.zero = some z)
    (hsize : i.size = size) (hby : i.bytes = bytes) (hzs : z.cells.size = size) (hsz : 0 < size)
    (v : Value) (n : Nat) (xs : List Value) (hs : a.eval s = v) (hown : w.ownsRow base e size v n xs)
    (ao : Option Addr) (m c : Nat) (news : List Value) (hx : a.eval x = .slice ao m c) (hl : news.length = m * size) (hnil : ao = none → m = 0) (hnews : ∀ ad, ao = some ad → ∀ j u, news[j]? = some u → w.cell? (ad.add j) = some u) (h1 : ∀ u ∈ news, u.oneCell' = true)
    (h63 : n + m ≤ maxLen) (hbytes : (n + m) * bytes ≤ 140737488355328) (hbase : base ≤ w.heap.size)
    (h : ∀ v' w', w'.ownsRow base e size v' (n + m) (xs ++ news) → w.grownBy w' v.ownBlock → wpList P ops Q rest (a.put o.dst v') w') : wpList P ops Q (o :: rest) a w :=
  wpList_plain hgd fun _ hK => wp_app_any s x t ho base e i z size bytes ht hi hz hsize hby hzs hsz v n xs hs hown ao m c news hx hl hnil hnews h1 h63 hbytes hbase fun v' w' h2 h3 => hK _ _ (h v' w' h2 h3)
theorem wp_app_run {o : Oper} {a : Act} {w : World} {K : Act → World → Prop} {Q : Exit → Act → World → Prop} (s x : Operand) (t tn : TypeId)
    (ho : o.op = .call { callee := .builtin .append, args := #[s, x], argTypes := #[t, tn] }) (vs vx v' : Value) (w' : World) (hs : a.eval s = vs) (hx : a.eval x = vx)
    (hr : (Builtin.append_ #[t, tn] o.type #[vs, vx]).run P w = .ok v' w') (h : K (a.put o.dst v') w') : o.wp P a w K Q := by
  unfold Oper.wp execOp
  simp only [ho, resolve, invoke, builtin, Sem.run_bind, Sem.run_pure, Result.andThen_ok, List.map_toArray, List.map_cons, List.map_nil, hs, hx, hr]
  exact h
theorem wpList_app_run {ops : Array Oper} {rest : List Oper} {o : Oper} {a : Act} {w : World} {Q : Exit → Act → World → Prop} (hgd : o.guard = none) (s x : Operand) (t tn : TypeId)
    (ho : o.op = .call { callee := .builtin .append, args := #[s, x], argTypes := #[t, tn] }) (vs vx v' : Value) (w' : World) (hs : a.eval s = vs) (hx : a.eval x = vx)
    (hr : (Builtin.append_ #[t, tn] o.type #[vs, vx]).run P w = .ok v' w') (h : wpList P ops Q rest (a.put o.dst v') w') : wpList P ops Q (o :: rest) a w :=
  wpList_plain hgd fun _ hK => wp_app_run s x t tn ho vs vx v' w' hs hx hr (hK _ _ h)
end
structure Srow (w : World) (ao : Option Addr) (m : Nat) (xs : List Value) : Prop where
  len : xs.length = m
  nil : ao = none → m = 0
  news : ∀ ad, ao = some ad → ∀ j u, xs[j]? = some u → w.cell? (ad.add j) = some u
  one : ∀ u ∈ xs, u.oneCell' = true
theorem Srow.below {w w' : World} {ao : Option Addr} {m : Nat} {xs : List Value} (h : Srow w ao m xs) (b : Below w.heap.size w w') : Srow w' ao m xs :=
  ⟨h.len, h.nil, fun ad ha j u hu => by
    have h1 := h.news ad ha j u hu
    exact (World.cell?_of_block (b.block _ (World.block_lt_of_cell? _ _ h1))).trans h1, h.one⟩
theorem cell_below {w w' : World} {a : Addr} {v : Value} (h : w.cell? a = some v) (b : Below w.heap.size w w') : w'.cell? a = some v :=
  (World.cell?_of_block (b.block _ (World.block_lt_of_cell? _ _ h))).trans h
abbrev Srcs := List (Option Addr × Nat × Nat × List Value)
def tot (L : Srcs) : Nat := (L.map fun x => x.2.1).sum
theorem tot_snoc (L : Srcs) (x : Option Addr × Nat × Nat × List Value) : tot (L ++ [x]) = tot L + x.2.1 := by simp [tot]
theorem tot_take (L : Srcs) : ∀ i, tot (L.take i) ≤ tot L := fun i => by
  have : tot L = tot (L.take i) + tot (L.drop i) := by
    unfold tot
    rw [← List.sum_append, ← List.map_append, List.take_append_drop]
  omega
def flat (L : Srcs) : List Value := L.flatMap fun x => x.2.2.2
theorem flat_snoc (L : Srcs) (x : Option Addr × Nat × Nat × List Value) : flat (L ++ [x]) = flat L ++ x.2.2.2 := by simp [flat]
theorem info68 : (Try.prog.info? 68).map (fun i => (i.zero, i.size, i.bytes)) = some (some .nilFunc, 1, 8) := by kernel_rfl
theorem own_lead5 {w : World} {base q n cap : Nat} {xs : List Value} (h : w.ownsRow base 5 1 (.slice (some ⟨q, 0, none⟩) n cap) n xs) : w.ownsRow base 5 1 (.slice (some ⟨q, 0, none⟩) 0 cap) 0 [] := by
  rcases h.2 with ⟨e, _⟩ | ⟨g, cap2, cur, e, h1, h2, h3, h4, h5, _⟩
  · cases e
  · injection e with e1 _ e3
    injection e1 with e1
    injection e1 with e1
    subst e1; subst e3
    exact ⟨by simp, .inr ⟨_, cap, cur, rfl, h1, h2, Nat.zero_le _, h4, h5, by simp⟩⟩
set_option maxHeartbeats 4000000 in
theorem grow48 (w : World) (n : Nat) (hn : n ≤ 100000) : Calls Try.prog 48 #[.slice none 0 0, .int .i64 (n : Int)] w fun e w' => ∃ v, e = .returned v ∧ w'.ownsRow w.heap.size 5 1 v 0 [] ∧ Below w.heap.size w w' := by
  obtain ⟨i0, hi, hz0, hz1, hz2⟩ := info_parts info5
  have d0 : decide ((n : Int) < 0) = false := by simp
  have e0 : IntKind.i64.wrap (n : Int) = n := IntWalk.i64_in _ (by omega)
  rcases Nat.eq_zero_or_pos n with h0 | h0
  · subst h0
    go_enter Try.func48, Try.ntmps48
    go_wp2_with fail
    go_ret
    exact ⟨_, rfl, World.ownsRow_nil _ _ _ _, Below.refl _ _⟩
  · have d1 : decide ((0 : Int) < (n : Int)) = true := by simp; omega
    obtain ⟨v, hv⟩ : ∃ v : World, v = w.drew.alloc (.cells (Builtin.zeroCells ((.int .u8 0) : Value).cells n ++ Builtin.zeroCells ((.int .u8 0) : Value).cells (grownCap w n 0 5 - n)) 5) := ⟨_, rfl⟩
    have hr := Lib.run_append_nil_zeros (P := Try.prog) w 23 3 23 5 i0 (.int .u8 0) .i64 .i64 Try.underlying23 Try.underlying3 hi hz0 n h0 (by omega) (by omega) (by rw [hz2]; omega)
    have hge := grownCap_ge w n 0 5
    have hcm : grownCap w n 0 5 ≤ maxLen := grownCap_le_maxLen w n 0 5 (by unfold maxLen; omega)
    have hown : v.ownsRow w.heap.size 5 1 (.slice (some ⟨w.heap.size, 0, none⟩) 0 (grownCap w n 0 5)) 0 [] := by
      rw [hv]
      exact ⟨by simp, .inr ⟨w.heap.size, _, _, rfl, Nat.le_refl _, heap_alloc_new w.drew _, Nat.zero_le _, hcm, by simp only [Array.size_append, size_zeroCells, show ((.int .u8 0) : Value).cells.size = 1 from rfl]; omega, by simp⟩⟩
    have hb : Below w.heap.size w v := by rw [hv]; exact (Below.refl _ w).drew.alloc (Nat.le_refl _) _
    rw [← hv] at hr
    obtain ⟨cap, hcap⟩ : ∃ cap, grownCap w n 0 5 = cap := ⟨_, rfl⟩
    rw [hcap] at hr hown hge
    have HO := Lib.hid (And.intro hown hb)
    have hge0 : (0 : Int) ≤ (cap : Int) := by omega
    have hgc : ¬ cap = 0 := by omega
    have HR := Lib.hid hr
    clear hown hb hcm hcap hv hr
    go_enter Try.func48, Try.ntmps48
    go_wp2_with (first
      | (at_builtin; refine wpList_app_run rfl (.tmp 20) (.tmp 21) 23 3 rfl (.slice none 0 0) (.int .i64 (n : Int)) (.slice (some ⟨w.heap.size, 0, none⟩) n cap) v rfl rfl HR.out ?_))
    go_ret
    exact ⟨_, rfl, HO.out.1, HO.out.2⟩
set_option maxRecDepth 20000 in
set_option maxHeartbeats 4000000 in
theorem concat41 (L : Srcs) (p : Nat) (w : World) (hp : ∀ j x, L[j]? = some x → w.cell? ⟨p, j, none⟩ = some (.slice x.1 x.2.1 x.2.2.1)) (hs : ∀ x ∈ L, Srow w x.1 x.2.1 x.2.2.2) (ht : tot L ≤ 100000) (k : Nat) (hk : k = L.length) (hk2 : k ≤ 100) :
    Calls Try.prog 41 #[.slice (some ⟨p, 0, none⟩) k k] w fun e w' => ∃ v, e = .returned v ∧ w'.ownsRow w.heap.size 5 1 v (tot L) (flat L) ∧ Below w.heap.size w w' := by
  obtain ⟨i0, hin, hz0, hz1, hz2⟩ := info_parts info5
  have HP := Lib.hid (And.intro hp (And.intro hs (And.intro ht hk)))
  clear hp hs ht hk
  go_enter Try.func41, Try.ntmps41
  go_wp2_with fail
  go_loopg [3, 5, 11] k (fun gk v3 v5 v11 wr => ∃ i : Nat, v3 = .int .i64 (tot (L.take i)) ∧ v11 = .int .i64 i ∧ i + gk = k ∧ wr = w)
  case atStart => exact ⟨0, rfl, rfl, by omega, rfl⟩
  case round =>
    obtain ⟨i, rfl, rfl, hig, hw⟩ := hrel
    obtain rfl : w = wr := hw.symm
    have HIG := Lib.hid hig
    by_cases h1 : i < k
    · have z1 : decide ((i : Int) < (k : Int)) = true := by simp; omega
      have e1 : IntKind.i64.wrap ((i : Int) + 1) = (i : Int) + 1 := IntWalk.i64_in _ (by omega)
      have q0 : (0 : Int) ≤ (i : Int) := by omega
      have q1 : (i : Int) < (k : Int) := by omega
      obtain ⟨x, hx⟩ : ∃ x, L[i]? = some x := ⟨_, List.getElem?_eq_getElem (by rw [← HP.out.2.2.2]; exact h1)⟩
      have hcx := HP.out.1 i x hx
      have hsn : tot (L.take (i + 1)) = tot (L.take i) + x.2.1 := by rw [List.take_add_one, hx]; exact tot_snoc _ _
      have hle := tot_take L (i + 1)
      have htt := HP.out.2.2.1
      obtain ⟨ao, m, c, xs⟩ := x
      obtain ⟨u, hu⟩ : ∃ u, tot (L.take i) = u := ⟨_, rfl⟩
      rw [hu] at hsn ⊢
      have hsn : tot (L.take (i + 1)) = u + m := hsn
      have e2 : IntKind.i64.wrap ((u : Int) + (m : Int)) = (u : Int) + (m : Int) := IntWalk.i64_in _ (by omega)
      have z2 : decide ((u : Int) + (m : Int) < 0) = false := by simp; omega
      have HS := Lib.hid hsn
      clear hig hx hsn hle htt hu
      go_wp2_with fail
      go_roundg (gk - 1)
      case measure => have := HIG.out; omega
      case rel => exact ⟨i + 1, by rw [HS.out]; push_cast; rfl, by simp, by have := HIG.out; omega, rfl⟩
    · have z1 : decide ((i : Int) < (k : Int)) = false := by simp; omega
      obtain rfl : i = k := by omega
      have e : L.take i = L := List.take_of_length_le (by rw [← HP.out.2.2.2]; exact Nat.le_refl _)
      rw [e]
      have HG := grow48 w (tot L) HP.out.2.2.1
      clear hig e
      go_wp2_with (first
        | (go_at_call 48; (with_reducible refine HG.mono ?_); rintro e w1 ⟨v1, rfl, o1, b1⟩; have B1 := Lib.hid (And.intro o1 b1); clear o1 b1 HG))
      go_loopg [6, 8, 27] i (fun gk v6 v8 v27 wr => ∃ j : Nat, v27 = .int .i64 j ∧ j + gk = i ∧ wr.ownsRow w.heap.size 5 1 v6 (tot (L.take j)) (flat (L.take j)) ∧ Below w.heap.size w wr)
      case atStart => exact ⟨0, rfl, by omega, B1.out.1, B1.out.2⟩
      case round =>
        obtain ⟨j, rfl, hjg, ho, hb⟩ := hrel
        have HJG := Lib.hid hjg
        by_cases h2 : j < i
        · have z2 : decide ((j : Int) < (i : Int)) = true := by simp; omega
          have e1 : IntKind.i64.wrap ((j : Int) + 1) = (j : Int) + 1 := IntWalk.i64_in _ (by omega)
          have q0 : (0 : Int) ≤ (j : Int) := by omega
          have q1 : (j : Int) < (i : Int) := by omega
          obtain ⟨x, hx⟩ : ∃ x, L[j]? = some x := ⟨_, List.getElem?_eq_getElem (by rw [← HP.out.2.2.2]; exact h2)⟩
          have hcx := cell_below (HP.out.1 j x hx) hb
          have hsx := (HP.out.2.1 x (List.mem_of_getElem? hx)).below hb
          have hsn : tot (L.take (j + 1)) = tot (L.take j) + x.2.1 := by rw [List.take_add_one, hx]; exact tot_snoc _ _
          have hfl : flat (L.take (j + 1)) = flat (L.take j) ++ x.2.2.2 := by rw [List.take_add_one, hx]; exact flat_snoc _ _
          have hle := tot_take L (j + 1)
          have htt := HP.out.2.2.1
          obtain ⟨ao, m, c, xs⟩ := x
          obtain ⟨u, hu⟩ : ∃ u, tot (L.take j) = u := ⟨_, rfl⟩
          obtain ⟨f, hf⟩ : ∃ f, flat (L.take j) = f := ⟨_, rfl⟩
          rw [hu, hf] at ho
          rw [hu] at hsn
          rw [hf] at hfl
          have hum : u + m ≤ 100000 := by have e : tot (L.take (j + 1)) = u + m := hsn; omega
          have HS := Lib.hid (And.intro hsn (And.intro hfl (And.intro ho (And.intro hb hsx))))
          obtain ⟨a6, c6, rfl⟩ := row_form ho
          clear hjg hx hsn hle htt hu hf hfl ho hb hsx
          go_wp2_with (first
            | (at_builtin; refine wpList_app_any rfl (.tmp 31) (.tmp 32) 23 rfl w.heap.size 5 i0 (.int .u8 0) 1 1 Try.underlying23 hin hz0 hz1 hz2 rfl (by decide) (.slice a6 u c6) u f rfl HS.out.2.2.1 ao m c xs rfl ?c1 ?c2 ?c3 ?c4 ?c5 ?c6 ?c7 ?_; (case c1 => rw [HS.out.2.2.2.2.len, Nat.mul_one]); (case c2 => exact HS.out.2.2.2.2.nil); (case c3 => exact HS.out.2.2.2.2.news); (case c4 => exact HS.out.2.2.2.2.one); (case c5 => unfold maxLen; omega); (case c6 => omega); (case c7 => exact HS.out.2.2.2.1.size); intro v7 w7 o7 g7; (have C7 := Lib.hid (And.intro o7 (HS.out.2.2.2.1.grown g7 HS.out.2.2.2.1.size (fun q hq => (HS.out.2.2.1.lt q hq).1)))); clear o7 g7))
          go_roundg (gk - 1)
          case measure => have := HJG.out; omega
          case rel => exact ⟨j + 1, by simp, by have := HJG.out; omega, by rw [HS.out.1, HS.out.2.1]; exact C7.out.1, C7.out.2⟩
        · have z2 : decide ((j : Int) < (i : Int)) = false := by simp; omega
          obtain rfl : j = i := by omega
          have e : L.take j = L := List.take_of_length_le (by rw [← HP.out.2.2.2]; exact Nat.le_refl _)
          rw [e] at ho
          have HO := Lib.hid (And.intro ho hb)
          clear hjg e ho hb
          go_wp2_with fail
          go_ret
          exact ⟨_, rfl, HO.out⟩
theorem own_lead68 {w : World} {base q n cap : Nat} {xs : List Value} (h : w.ownsRow base 68 1 (.slice (some ⟨q, 0, none⟩) n cap) n xs) : w.ownsRow base 68 1 (.slice (some ⟨q, 0, none⟩) 0 cap) 0 [] := by
  rcases h.2 with ⟨e, _⟩ | ⟨g, cap2, cur, e, h1, h2, h3, h4, h5, _⟩
  · cases e
  · injection e with e1 _ e3
    injection e1 with e1
    injection e1 with e1
    subst e1; subst e3
    exact ⟨by simp, .inr ⟨_, cap, cur, rfl, h1, h2, Nat.zero_le _, h4, h5, by simp⟩⟩
set_option maxHeartbeats 4000000 in
theorem grow45 (w : World) (n : Nat) (hn : n ≤ 100000) : Calls Try.prog 45 #[.slice none 0 0, .int .i64 (n : Int)] w fun e w' => ∃ v, e = .returned v ∧ w'.ownsRow w.heap.size 68 1 v 0 [] ∧ Below w.heap.size w w' := by
  obtain ⟨i0, hi, hz0, hz1, hz2⟩ := info_parts info68
  have d0 : decide ((n : Int) < 0) = false := by simp
  have e0 : IntKind.i64.wrap (n : Int) = n := IntWalk.i64_in _ (by omega)
  rcases Nat.eq_zero_or_pos n with h0 | h0
  · subst h0
    go_enter Try.func45, Try.ntmps45
    go_wp2_with fail
    go_ret
    exact ⟨_, rfl, World.ownsRow_nil _ _ _ _, Below.refl _ _⟩
  · have d1 : decide ((0 : Int) < (n : Int)) = true := by simp; omega
    obtain ⟨v, hv⟩ : ∃ v : World, v = w.drew.alloc (.cells (Builtin.zeroCells (.nilFunc : Value).cells n ++ Builtin.zeroCells (.nilFunc : Value).cells (grownCap w n 0 68 - n)) 68) := ⟨_, rfl⟩
    have hr := Lib.run_append_nil_zeros (P := Try.prog) w 51 3 51 68 i0 .nilFunc .i64 .i64 Try.underlying51 Try.underlying3 hi hz0 n h0 (by omega) (by omega) (by rw [hz2]; omega)
    have hge := grownCap_ge w n 0 68
    have hcm : grownCap w n 0 68 ≤ maxLen := grownCap_le_maxLen w n 0 68 (by unfold maxLen; omega)
    have hown : v.ownsRow w.heap.size 68 1 (.slice (some ⟨w.heap.size, 0, none⟩) 0 (grownCap w n 0 68)) 0 [] := by
      rw [hv]
      exact ⟨by simp, .inr ⟨w.heap.size, _, _, rfl, Nat.le_refl _, heap_alloc_new w.drew _, Nat.zero_le _, hcm, by simp only [Array.size_append, size_zeroCells, show (.nilFunc : Value).cells.size = 1 from rfl]; omega, by simp⟩⟩
    have hb : Below w.heap.size w v := by rw [hv]; exact (Below.refl _ w).drew.alloc (Nat.le_refl _) _
    rw [← hv] at hr
    obtain ⟨cap, hcap⟩ : ∃ cap, grownCap w n 0 68 = cap := ⟨_, rfl⟩
    rw [hcap] at hr hown hge
    have HO := Lib.hid (And.intro hown hb)
    have hge0 : (0 : Int) ≤ (cap : Int) := by omega
    have hgc : ¬ cap = 0 := by omega
    have HR := Lib.hid hr
    clear hown hb hcm hcap hv hr
    go_enter Try.func45, Try.ntmps45
    go_wp2_with (first
      | (at_builtin; refine wpList_app_run rfl (.tmp 20) (.tmp 21) 51 3 rfl (.slice none 0 0) (.int .i64 (n : Int)) (.slice (some ⟨w.heap.size, 0, none⟩) n cap) v rfl rfl HR.out ?_))
    go_ret
    exact ⟨_, rfl, HO.out.1, HO.out.2⟩
set_option maxRecDepth 20000 in
set_option maxHeartbeats 4000000 in
theorem concat36 (L : Srcs) (p : Nat) (w : World) (hp : ∀ j x, L[j]? = some x → w.cell? ⟨p, j, none⟩ = some (.slice x.1 x.2.1 x.2.2.1)) (hs : ∀ x ∈ L, Srow w x.1 x.2.1 x.2.2.2) (ht : tot L ≤ 100000) (k : Nat) (hk : k = L.length) (hk2 : k ≤ 100) :
    Calls Try.prog 36 #[.slice (some ⟨p, 0, none⟩) k k] w fun e w' => ∃ v, e = .returned v ∧ w'.ownsRow w.heap.size 68 1 v (tot L) (flat L) ∧ Below w.heap.size w w' := by
  obtain ⟨i0, hin, hz0, hz1, hz2⟩ := info_parts info68
  have HP := Lib.hid (And.intro hp (And.intro hs (And.intro ht hk)))
  clear hp hs ht hk
  go_enter Try.func36, Try.ntmps36
  go_wp2_with fail
  go_loopg [3, 5, 11] k (fun gk v3 v5 v11 wr => ∃ i : Nat, v3 = .int .i64 (tot (L.take i)) ∧ v11 = .int .i64 i ∧ i + gk = k ∧ wr = w)
  case atStart => exact ⟨0, rfl, rfl, by omega, rfl⟩
  case round =>
    obtain ⟨i, rfl, rfl, hig, hw⟩ := hrel
    obtain rfl : w = wr := hw.symm
    have HIG := Lib.hid hig
    by_cases h1 : i < k
    · have z1 : decide ((i : Int) < (k : Int)) = true := by simp; omega
      have e1 : IntKind.i64.wrap ((i : Int) + 1) = (i : Int) + 1 := IntWalk.i64_in _ (by omega)
      have q0 : (0 : Int) ≤ (i : Int) := by omega
      have q1 : (i : Int) < (k : Int) := by omega
      obtain ⟨x, hx⟩ : ∃ x, L[i]? = some x := ⟨_, List.getElem?_eq_getElem (by rw [← HP.out.2.2.2]; exact h1)⟩
      have hcx := HP.out.1 i x hx
      have hsn : tot (L.take (i + 1)) = tot (L.take i) + x.2.1 := by rw [List.take_add_one, hx]; exact tot_snoc _ _
      have hle := tot_take L (i + 1)
      have htt := HP.out.2.2.1
      obtain ⟨ao, m, c, xs⟩ := x
      obtain ⟨u, hu⟩ : ∃ u, tot (L.take i) = u := ⟨_, rfl⟩
      rw [hu] at hsn ⊢
      have hsn : tot (L.take (i + 1)) = u + m := hsn
      have e2 : IntKind.i64.wrap ((u : Int) + (m : Int)) = (u : Int) + (m : Int) := IntWalk.i64_in _ (by omega)
      have z2 : decide ((u : Int) + (m : Int) < 0) = false := by simp; omega
      have HS := Lib.hid hsn
      clear hig hx hsn hle htt hu
      go_wp2_with fail
      go_roundg (gk - 1)
      case measure => have := HIG.out; omega
      case rel => exact ⟨i + 1, by rw [HS.out]; push_cast; rfl, by simp, by have := HIG.out; omega, rfl⟩
    · have z1 : decide ((i : Int) < (k : Int)) = false := by simp; omega
      obtain rfl : i = k := by omega
      have e : L.take i = L := List.take_of_length_le (by rw [← HP.out.2.2.2]; exact Nat.le_refl _)
      rw [e]
      have HG := grow45 w (tot L) HP.out.2.2.1
      clear hig e
      go_wp2_with (first
        | (go_at_call 45; (with_reducible refine HG.mono ?_); rintro e w1 ⟨v1, rfl, o1, b1⟩; have B1 := Lib.hid (And.intro o1 b1); clear o1 b1 HG))
      go_loopg [6, 8, 27] i (fun gk v6 v8 v27 wr => ∃ j : Nat, v27 = .int .i64 j ∧ j + gk = i ∧ wr.ownsRow w.heap.size 68 1 v6 (tot (L.take j)) (flat (L.take j)) ∧ Below w.heap.size w wr)
      case atStart => exact ⟨0, rfl, by omega, B1.out.1, B1.out.2⟩
      case round =>
        obtain ⟨j, rfl, hjg, ho, hb⟩ := hrel
        have HJG := Lib.hid hjg
        by_cases h2 : j < i
        · have z2 : decide ((j : Int) < (i : Int)) = true := by simp; omega
          have e1 : IntKind.i64.wrap ((j : Int) + 1) = (j : Int) + 1 := IntWalk.i64_in _ (by omega)
          have q0 : (0 : Int) ≤ (j : Int) := by omega
          have q1 : (j : Int) < (i : Int) := by omega
          obtain ⟨x, hx⟩ : ∃ x, L[j]? = some x := ⟨_, List.getElem?_eq_getElem (by rw [← HP.out.2.2.2]; exact h2)⟩
          have hcx := cell_below (HP.out.1 j x hx) hb
          have hsx := (HP.out.2.1 x (List.mem_of_getElem? hx)).below hb
          have hsn : tot (L.take (j + 1)) = tot (L.take j) + x.2.1 := by rw [List.take_add_one, hx]; exact tot_snoc _ _
          have hfl : flat (L.take (j + 1)) = flat (L.take j) ++ x.2.2.2 := by rw [List.take_add_one, hx]; exact flat_snoc _ _
          have hle := tot_take L (j + 1)
          have htt := HP.out.2.2.1
          obtain ⟨ao, m, c, xs⟩ := x
          obtain ⟨u, hu⟩ : ∃ u, tot (L.take j) = u := ⟨_, rfl⟩
          obtain ⟨f, hf⟩ : ∃ f, flat (L.take j) = f := ⟨_, rfl⟩
          rw [hu, hf] at ho
          rw [hu] at hsn
          rw [hf] at hfl
          have hum : u + m ≤ 100000 := by have e : tot (L.take (j + 1)) = u + m := hsn; omega
          have HS := Lib.hid (And.intro hsn (And.intro hfl (And.intro ho (And.intro hb hsx))))
          obtain ⟨a6, c6, rfl⟩ := row_form ho
          clear hjg hx hsn hle htt hu hf hfl ho hb hsx
          go_wp2_with (first
            | (at_builtin; refine wpList_app_any rfl (.tmp 31) (.tmp 32) 51 rfl w.heap.size 68 i0 .nilFunc 1 8 Try.underlying51 hin hz0 hz1 hz2 rfl (by decide) (.slice a6 u c6) u f rfl HS.out.2.2.1 ao m c xs rfl ?c1 ?c2 ?c3 ?c4 ?c5 ?c6 ?c7 ?_; (case c1 => rw [HS.out.2.2.2.2.len, Nat.mul_one]); (case c2 => exact HS.out.2.2.2.2.nil); (case c3 => exact HS.out.2.2.2.2.news); (case c4 => exact HS.out.2.2.2.2.one); (case c5 => unfold maxLen; omega); (case c6 => omega); (case c7 => exact HS.out.2.2.2.1.size); intro v7 w7 o7 g7; (have C7 := Lib.hid (And.intro o7 (HS.out.2.2.2.1.grown g7 HS.out.2.2.2.1.size (fun q hq => (HS.out.2.2.1.lt q hq).1)))); clear o7 g7))
          go_roundg (gk - 1)
          case measure => have := HJG.out; omega
          case rel => exact ⟨j + 1, by simp, by have := HJG.out; omega, by rw [HS.out.1, HS.out.2.1]; exact C7.out.1, C7.out.2⟩
        · have z2 : decide ((j : Int) < (i : Int)) = false := by simp; omega
          obtain rfl : j = i := by omega
          have e : L.take j = L := List.take_of_length_le (by rw [← HP.out.2.2.2]; exact Nat.le_refl _)
          rw [e] at ho
          have HO := Lib.hid (And.intro ho hb)
          clear hjg e ho hb
          go_wp2_with fail
          go_ret
          exact ⟨_, rfl, HO.out⟩
end Go.Proofs.Ytjabkfccfecmgaa
