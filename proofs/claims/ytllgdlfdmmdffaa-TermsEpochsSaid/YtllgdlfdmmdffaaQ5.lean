/- Appends of whole slices; rules copied; what fits, as a Bool; what is found, as numbers. -/
import Derived.Test.YtllgdlfdmmdffaaL3
import Derived.Test.YtllgdlfdmmdffaaLP
import Derived.Test.YtllgdlfdmmdffaaM3
namespace Go.Proofs.Ytllgdlfdmmdffaa
open Go.ChangeShapes Go.WideShapes Go.ChangeAt Go.RowKit
set_option linter.unusedSimpArgs false
set_option linter.unusedVariables false
section
variable {P : Program}
theorem run_app_any (w : World) (base : Nat) (t ty e : TypeId) (i : TypeInfo) (z : Value) (size bytes : Nat) (ht : P.underlying t = some (.slice e)) (hi : P.info? e = some i) (hz : i.zero = some z)
    (hsize : i.size = size) (hby : i.bytes = bytes) (hzs : z.cells.size = size) (hsz : 0 < size)
    (v : Value) (n : Nat) (xs : List Value) (hown : w.ownsRow base e size v n xs)
    (ao : Option Addr) (m c : Nat) (news : List Value) (hl : news.length = m * size) (hnil : ao = none → m = 0) (hnews : ∀ ad, ao = some ad → ∀ j u, news[j]? = some u → w.cell? (ad.add j) = some u) (h1 : ∀ u ∈ news, u.oneCell' = true)
    (h63 : n + m ≤ maxLen) (hbytes : (n + m) * bytes ≤ 140737488355328) (hbase : base ≤ w.heap.size) :
    ∃ v' w', (Builtin.append_ #[t, t] ty #[v, .slice ao m c]).run P w = .ok v' w' ∧ w'.ownsRow base e size v' (n + m) (xs ++ news) ∧ w.grownBy w' v.ownBlock := by
  cases ao with
  | none =>
    obtain rfl : m = 0 := hnil rfl
    obtain rfl : news = [] := List.eq_nil_of_length_eq_zero (by simpa using hl)
    refine ⟨v, w, ?_, by simpa using hown, World.grownBy.refl _ _⟩
    rcases hown.2 with ⟨rfl, rfl⟩ | ⟨b, cap, cur, rfl, _, _, hnc, _⟩
    · simp [Builtin.append_, run_underlying ht, sizeOf, typeInfo, hi, Builtin.lenOf, Builtin.firstCells]
    · simp [Builtin.append_, run_underlying ht, sizeOf, typeInfo, hi, Builtin.lenOf, Builtin.firstCells, hnc, storeCells]
  | some a =>
    obtain ⟨v', w', hr, k1, k2, _⟩ := run_append_own (P := P) w base t ty e i z size bytes ht hi hz hsize hby hzs hsz v n xs hown a m c news hl (hnews a rfl) h1 h63 hbytes hbase
    exact ⟨v', w', hr, k1, k2⟩
theorem wp_app_any {o : Oper} {a : Act} {w : World} {K : Act → World → Prop} {Q : Exit → Act → World → Prop} (s x : Operand) (t : TypeId)
    (ho : o.op = .call { callee := .builtin .append, args := #[s, x], argTypes := #[t, t] })
    (base : Nat) (e : TypeId) (i : TypeInfo) (z : Value) (size bytes : Nat) (ht : P.underlying t = some (.slice e)) (hi : P.info? e = some i) (hz : i.zero = some z)
    (hsize : i.size = size) (hby : i.bytes = bytes) (hzs : z.cells.size = size) (hsz : 0 < size)
    (v : Value) (n : Nat) (xs : List Value) (hs : a.eval s = v) (hown : w.ownsRow base e size v n xs)
    (ao : Option Addr) (m c : Nat) (news : List Value) (hx : a.eval x = .slice ao m c) (hl : news.length = m * size) (hnil : ao = none → m = 0) (hnews : ∀ ad, ao = some ad → ∀ j u, news[j]? = some u → w.cell? (ad.add j) = some u) (h1 : ∀ u ∈ news, u.oneCell' = true)
    (h63 : n + m ≤ maxLen) (hbytes : (n + m) * bytes ≤ 140737488355328) (hbase : base ≤ w.heap.size)
    (h : ∀ v' w', w'.ownsRow base e size v' (n + m) (xs ++ news) → w.grownBy w' v.ownBlock → K (a.put o.dst v') w') : o.wp P a w K Q := by
  obtain ⟨v', w', hr, h2, h3⟩ := run_app_any (P := P) w base t o.type e i z size bytes ht hi hz hsize hby hzs hsz v n xs hown ao m c news hl hnil hnews h1 h63 hbytes hbase
  unfold Oper.wp execOp
  simp only [ho, resolve, invoke, builtin, Sem.run_bind, Sem.run_pure, Result.andThen_ok, List.map_toArray, List.map_cons, List.map_nil, hs, hx, hr]
  exact h v' w' h2 h3
theorem wpList_app_any {ops : Array Oper} {rest : List Oper} {o : Oper} {a : Act} {w : World} {Q : Exit → Act → World → Prop} (hgd : o.guard = none) (s x : Operand) (t : TypeId)
    (ho : o.op = .call { callee := .builtin .append, args := #[s, x], argTypes := #[t, t] })
    (base : Nat) (e : TypeId) (i : TypeInfo) (z : Value) (size bytes : Nat) (ht : P.underlying t = some (.slice e)) (hi : P.info? e = some i) (hz : i.zero = some z)
    (hsize : i.size = size) (hby : i.bytes = bytes) (hzs : z.cells.size = size) (hsz : 0 < size)
    (v : Value) (n : Nat) (xs : List Value) (hs : a.eval s = v) (hown : w.ownsRow base e size v n xs)
    (ao : Option Addr) (m c : Nat) (news : List Value) (hx : a.eval x = .slice ao m c) (hl : news.length = m * size) (hnil : ao = none → m = 0) (hnews : ∀ ad, ao = some ad → ∀ j u, news[j]? = some u → w.cell? (ad.add j) = some u) (h1 : ∀ u ∈ news, u.oneCell' = true)
    (h63 : n + m ≤ maxLen) (hbytes : (n + m) * bytes ≤ 140737488355328) (hbase : base ≤ w.heap.size)
    (h : ∀ v' w', w'.ownsRow base e size v' (n + m) (xs ++ news) → w.grownBy w' v.ownBlock → wpList P ops Q rest (a.put o.dst v') w') : wpList P ops Q (o :: rest) a w :=
  wpList_plain hgd fun _ hK => wp_app_any s x t ho base e i z size bytes ht hi hz hsize hby hzs hsz v n xs hs hown ao m c news hx hl hnil hnews h1 h63 hbytes hbase fun v' w' h2 h3 => hK _ _ (h v' w' h2 h3)
end
/-- Whole numbers as cells. -/
def ivs (L : List Int) : List Value := L.map (Value.int .i64)
theorem ivs_one (L : List Int) : ∀ u ∈ ivs L, u.oneCell' = true := fun u hu => by obtain ⟨x, _, rfl⟩ := List.mem_map.1 hu; rfl
theorem Ilz.news {n : Nat} {w : World} {ao : Option Addr} {L : List Int} (h : Ilz n w ao L) : ∀ ad, ao = some ad → ∀ j u, (ivs L)[j]? = some u → w.cell? (ad.add j) = some u := fun ad ha j u hu => by
  rw [ivs, List.getElem?_map] at hu
  cases hx : L[j]? with
  | none => rw [hx] at hu; cases hu
  | some x => rw [hx] at hu; exact (h.cells ad ha j x hx).2.trans (by simpa using hu)
theorem Ilz.none_ {n m : Nat} {w : World} {ao : Option Addr} {L : List Int} (h : Ilz n w ao L) (hm : m = L.length) : ao = none → m = 0 := fun e => by rw [hm, h.nil e]; rfl
theorem Rlz.mono {n m : Nat} {w : World} {lo : Option Addr} {Rs : List Rl} (h : Rlz n w lo Rs) (hm : n ≤ m) : Rlz m w lo Rs :=
  ⟨h.nil, h.lens, fun a ha j r hr => by
    obtain ⟨h1, ⟨ao, c, h2, h3, h4⟩, h5⟩ := h.cells a ha j r hr
    exact ⟨Nat.lt_of_lt_of_le h1 hm, ⟨ao, c, h2, h3, h4.mono hm⟩, h5⟩⟩
theorem news_below {w w' : World} {lo : Option Addr} {cs : List Value} (h : ∀ ad, lo = some ad → ∀ j u, cs[j]? = some u → w.cell? (ad.add j) = some u) (b : Below w.heap.size w w') : ∀ ad, lo = some ad → ∀ j u, cs[j]? = some u → w'.cell? (ad.add j) = some u := fun ad ha j u hu => by
  have h1 := h ad ha j u hu
  exact (World.cell?_of_block (b.block _ (World.block_lt_of_cell? _ _ h1))).trans h1
/-- The cells of rules. -/
structure Rcs (k : Nat) (w : World) (cs : List Value) (Rs : List Rl) : Prop where
  len : cs.length = Rs.length * 2
  lens : ∀ r ∈ Rs, r.needs.length ≤ 9223372036854775807
  cell : ∀ (j : Nat) r, Rs[j]? = some r → (∃ ao c, r.needs.length ≤ c ∧ cs[j * 2]? = some (.slice ao r.needs.length c) ∧ Ilz k w ao r.needs) ∧ cs[j * 2 + 1]? = some (.int .i64 r.gives)
theorem Rlz.rcs {n : Nat} {w : World} {lo : Option Addr} {Rs : List Rl} (h : Rlz n w lo Rs) : ∃ cs, Rcs n w cs Rs ∧ (∀ ad, lo = some ad → ∀ j u, cs[j]? = some u → w.cell? (ad.add j) = some u) ∧ ∀ u ∈ cs, u.oneCell' = true := by
  cases lo with
  | none =>
    obtain rfl := h.nil rfl
    exact ⟨[], ⟨rfl, by simp, by simp⟩, (fun _ e => by cases e), by simp⟩
  | some a =>
    have key : ∀ j, j < Rs.length * 2 → ∃ u, w.cell? (a.add j) = some u ∧ u.oneCell' = true := fun j hj => by
      have hi : j / 2 < Rs.length := by omega
      obtain ⟨-, ⟨ao, c, -, h0, -⟩, h1⟩ := h.cells a rfl (j / 2) Rs[j / 2] (List.getElem?_eq_getElem hi)
      rw [add_add] at h1
      rcases Nat.mod_two_eq_zero_or_one j with e | e
      · exact ⟨_, (by rw [show j = j / 2 * 2 by omega]; exact h0), rfl⟩
      · exact ⟨_, (by rw [show j = j / 2 * 2 + 1 by omega]; exact h1), rfl⟩
    have at_ : ∀ j, j < Rs.length * 2 → ((List.range (Rs.length * 2)).map fun j => (w.cell? (a.add j)).getD undef)[j]? = w.cell? (a.add j) := fun j hj => by
      obtain ⟨u, hu, _⟩ := key j hj
      rw [List.getElem?_map, List.getElem?_range hj, hu]
      simp [hu]
    refine ⟨(List.range (Rs.length * 2)).map fun j => (w.cell? (a.add j)).getD undef, ⟨by simp, h.lens, fun j r hr => ?_⟩, fun ad ha j u hu => ?_, fun u hu => ?_⟩
    · have hj := (List.getElem?_eq_some_iff.1 hr).1
      obtain ⟨-, ⟨ao, c, hc, h0, hI⟩, h1⟩ := h.cells a rfl j r hr
      rw [add_add] at h1
      rw [at_ _ (by omega), at_ _ (by omega)]
      exact ⟨⟨ao, c, hc, h0, hI⟩, h1⟩
    · injection ha with ha
      subst ha
      have hj : j < Rs.length * 2 := by have := (List.getElem?_eq_some_iff.1 hu).1; simpa using this
      rw [← at_ j hj]; exact hu
    · obtain ⟨j, hj, rfl⟩ := List.mem_map.1 hu
      obtain ⟨u, hu, h1⟩ := key j (by simpa using hj)
      rw [hu]; exact h1
theorem Rcs.snoc {k : Nat} {w : World} {cs : List Value} {Rs : List Rl} (h : Rcs k w cs Rs) {r : Rl} {ao : Option Addr} {c : Nat} (hl : r.needs.length ≤ 9223372036854775807) (hc : r.needs.length ≤ c) (hI : Ilz k w ao r.needs) :
    Rcs k w (cs ++ [.slice ao r.needs.length c, .int .i64 r.gives]) (Rs ++ [r]) := by
  refine ⟨by simp [h.len]; omega, fun q hq => ?_, fun j q hq => ?_⟩
  · rcases List.mem_append.1 hq with hq | hq
    · exact h.lens q hq
    · simp at hq; rw [hq]; exact hl
  · have hlen := h.len
    rcases Nat.lt_or_ge j Rs.length with g | g
    · rw [List.getElem?_append_left g] at hq
      rw [List.getElem?_append_left (by omega), List.getElem?_append_left (by omega)]
      exact h.cell j q hq
    · rw [List.getElem?_append_right g] at hq
      have hj : j = Rs.length := by
        have := (List.getElem?_eq_some_iff.1 hq).1
        simp at this; omega
      subst hj
      simp at hq
      subst hq
      rw [List.getElem?_append_right (by omega), List.getElem?_append_right (by omega), hlen]
      exact ⟨⟨ao, c, hc, by simp, hI⟩, by simp⟩
theorem Rcs.rlz {k base : Nat} {w w' : World} {cs : List Value} {Rs : List Rl} {v : Value} {n : Nat} (h : Rcs k w cs Rs) (ho : w'.ownsRow base 32 2 v n cs) (hn : n = Rs.length) (hb : Below k w w') (hk : k ≤ w.heap.size) : ∃ lo c, v = .slice lo n c ∧ Rlz w'.heap.size w' lo Rs := by
  subst hn
  rcases ho.2 with ⟨rfl, h0⟩ | ⟨q, cap, cur, rfl, hbq, hh, hnc, hrest⟩
  · refine ⟨none, 0, by rw [h0], fun _ => List.eq_nil_of_length_eq_zero h0, h.lens, fun _ e => by cases e⟩
  · refine ⟨some ⟨q, 0, none⟩, cap, rfl, (fun e => by cases e), h.lens, fun a ha j r hr => ?_⟩
    injection ha with ha
    subst ha
    obtain ⟨⟨ao, c, h1, h2, h3⟩, h4⟩ := h.cell j r hr
    rw [add_add]
    exact ⟨(Array.getElem?_eq_some_iff.1 hh).1, ⟨ao, c, h1, ho.cells (g := q) rfl _ _ h2, (h3.below hb (Nat.le_refl _)).mono (Nat.le_trans hk hb.size)⟩, ho.cells (g := q) rfl _ _ h4⟩
/-- What fits, fits. -/
theorem Fits.fitsB {n : Nat} {Ks : List Int} {Rs : List Rl} (h : Fits n Ks Rs) : fitsB n Ks Rs = true := by
  have nat : ∀ {x : Int}, (∃ k : Nat, x = k ∧ k < n) → inB n x = true := fun ⟨k, e, hk⟩ => by rw [e, inB]; simp; omega
  simp only [Ytllgdlfdmmdffaa.fitsB, fitR, Bool.and_eq_true, decide_eq_true_eq, List.all_eq_true]
  exact ⟨⟨⟨⟨by omega, by have := h.hi; omega⟩, h.len⟩, fun x hx => nat (h.ks x hx)⟩, fun r hr => ⟨nat (h.gs r hr), fun x hx => nat (h.ns r hr x hx)⟩⟩
theorem Fits.clo {n : Nat} {Ks : List Int} {Rs : List Rl} (h : Fits n Ks Rs) : cloB n Ks Rs = (fin n Ks Rs).1 := by rw [cloB, h.fitsB]; rfl
/-- The numbers of what is found. -/
def nums (F : List Bool) (i : Nat) : List Int := ((List.range i).filter fun (k : Nat) => has F (k : Int)).map fun (k : Nat) => (k : Int)
theorem nums_succ (F : List Bool) (i : Nat) : nums F (i + 1) = nums F i ++ (if has F (i : Int) = true then [(i : Int)] else []) := by
  unfold nums
  rw [List.range_succ, List.filter_append, List.map_append]
  congr 1
  by_cases h : has F (i : Int) = true
  · rw [if_pos h]; simp [h]
  · rw [if_neg h]; simp [h]
theorem nums_len (F : List Bool) (i : Nat) : (nums F i).length ≤ i := by
  unfold nums
  rw [List.length_map]
  exact Nat.le_trans (List.length_filter_le _ _) (by simp)
theorem nums_mem {F : List Bool} {i : Nat} {x : Int} (h : x ∈ nums F i) : ∃ k : Nat, x = k ∧ k < i ∧ has F x = true := by
  unfold nums at h
  obtain ⟨k, hk, rfl⟩ := List.mem_map.1 h
  rw [List.mem_filter, List.mem_range] at hk
  exact ⟨k, rfl, hk.1, hk.2⟩
theorem fits_nums {n : Nat} {Ks : List Int} {Rs : List Rl} (h : Fits n Ks Rs) (F : List Bool) : Fits n (Ks ++ nums F n) Rs :=
  ⟨h.hi, h.len, fun x hx => by
    rcases List.mem_append.1 hx with hx | hx
    · exact h.ks x hx
    · obtain ⟨k, h1, h2, _⟩ := nums_mem hx; exact ⟨k, h1, h2⟩, h.gs, h.ns⟩
/-- What is found, known as well, finds nothing more. -/
theorem clo_again {n : Nat} {Ks : List Int} {Rs : List Rl} (h : Fits n Ks Rs) : cloB n (Ks ++ nums (fin n Ks Rs).1 n) Rs = (fin n Ks Rs).1 := by
  rw [(fits_nums h _).clo]
  exact fin_again h (fits_nums h _) fun x hx => (nums_mem hx).elim fun k hk => hk.2.2
/-- With more known and more rules: nothing, or nothing less. -/
theorem clo_more {n : Nat} {Ks : List Int} {Rs : List Rl} (h : Fits n Ks Rs) (x : Int) (r : Rl) : cloB n (Ks ++ [x]) (Rs ++ [r]) = [] ∨ ((cloB n (Ks ++ [x]) (Rs ++ [r])).length = n ∧ Leq (fin n Ks Rs).1 (cloB n (Ks ++ [x]) (Rs ++ [r]))) := by
  cases hq : fitsB n (Ks ++ [x]) (Rs ++ [r]) with
  | false => left; rw [cloB, hq]; rfl
  | true =>
    right
    obtain ⟨k, hk, hF⟩ := fits_nat hq
    obtain rfl : n = k := by omega
    rw [hF.clo]
    exact ⟨(fin_sum hF).1, fin_more hF⟩
end Go.Proofs.Ytllgdlfdmmdffaa
