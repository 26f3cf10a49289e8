/- A disk, what a reader expects of it, and the calls that came in. -/
import Derived.Test.YtklndocfgbbegaaJ
import Derived.Test.YtklndocfgbbegaaK3
namespace Go.Proofs.Ytklndocfgbbegaa
open Go.ChangeShapes Go.WideShapes Go.ChangeAt Go.RowKit
set_option linter.unusedSimpArgs false
set_option linter.unusedVariables false
theorem fin_look (S : Nat → Sct) (W : List Wt) (i : Nat) : fin S W i = look (S i) W i := by
  unfold fin look
  induction W generalizing S with
  | nil => rfl
  | cons q W ih =>
    rw [List.foldl_cons, List.foldl_cons, ih]
    congr 1
    unfold updS
    by_cases e : i = q.1
    · rw [if_pos e, if_pos e.symm]
    · rw [if_neg e, if_neg (fun h => e h.symm)]
theorem look_snoc (D : Sct) (W : List Wt) (p : Wt) (i : Nat) : look D (W ++ [p]) i = if p.1 = i then p.2 else look D W i := by
  unfold look
  rw [List.foldl_append]
  rfl
theorem info37 : (Try.prog.info? 37).map (fun i => (i.zero, i.size, i.bytes)) = some (some (.agg (List.replicate 512 (.int .u8 0)).toArray), 512, 512) := by kernel_rfl
theorem info37' : (Try.prog.info? 37).map (·.size) = some 512 := by kernel_rfl
theorem zero37 (w : World) : (zeroValue 37).run Try.prog w = .ok (.agg (zs.map c8).toArray) w := by kernel_rfl
theorem sec_made37 {w : World} {b n cap : Nat} {base : Nat} (ho : w.ownsRow base 37 512 (.slice (some ⟨b, 0, none⟩) n cap) n (madeCells (Value.agg (List.replicate 512 (.int .u8 0)).toArray).cells (n * 512)).toList) : Sec w b n (fun _ => zs) := by
  have made := made58 n
  generalize (madeCells (Value.agg (List.replicate 512 (.int .u8 0)).toArray).cells (n * 512)).toList = L at ho made
  rcases ho.2 with ⟨e, _⟩ | ⟨q, cap', cur, e, hb, hq, hc, hm, hcs, htake⟩
  · cases e
  · injection e with e1 e2 e3
    injection e1 with e1
    injection e1 with e1
    subst e1
    have hcell : ∀ k, k < n * 512 → w.cell? ⟨b, k, none⟩ = some (.int .u8 0) := fun k hk => by
      have := ho.cells (g := b) rfl k _ (made k hk)
      rwa [Addr.add_mid, Nat.zero_add] at this
    refine ⟨fun i hi j v hv => ?_, fun i hi => zs_len, fun j hj => ?_, (Array.getElem?_eq_some_iff.1 hq).1⟩
    · have hj : j < 512 := by have := (List.getElem?_eq_some_iff.1 hv).1; rwa [List.length_map, zs_len] at this
      rw [hcell _ (by omega), zs_at j v hv]
    · rw [Nat.zero_add]
      exact ⟨by rw [hcell j hj]; rfl, frozen_of_row w b j _ 37 hq⟩
theorem store37m {ops : Array Oper} {rest : List Oper} {o : Oper} {a : Act} {w : World} {Q : Exit → Act → World → Prop} (hgd : o.guard = none) (x y : Operand) (ho : o.op = .store 37 x y)
    (b off : Nat) (D : Sct) (hx : a.eval x = .pointer (some ⟨b, off, none⟩)) (hy : a.eval y = .agg (D.map c8).toArray) (hp : D.length = 512) (ht : w.there b off 512)
    (h : wpList Try.prog ops Q rest (a.put o.dst undef) (w.setCells b off (D.map c8))) : wpList Try.prog ops Q (o :: rest) a w :=
  wpList_store_mid hgd 37 x y ho b off _ hx hy (by rw [List.size_toArray, List.length_map, hp]; exact ht) (by rw [List.size_toArray, List.length_map, hp]; exact info37') (one_c8 D) (by simpa using h)
/-- A sector of zeros, and bytes over its head. -/
theorem Sec.over {w : World} {b n : Nat} {S : Nat → Sct} (h : Sec w b n S) (i : Nat) (hi : i < n) (hz : S i = zs) (B : Sct) (hB : B.length ≤ 512) : Sec (w.setCells b (i * 512) (B.map c8)) b n (updS S i (padd B)) := by
  have hl : (B.map c8).length = B.length := List.length_map _
  have ht := h.thereAt i hi
  refine ⟨fun k hk => ?_, fun k hk => ?_, World.there_setCells h.there _ _ _, by rw [sz_setCells]; exact h.lt⟩
  · unfold updS
    by_cases e : k = i
    · subst e
      rw [if_pos rfl]
      intro j v hv
      by_cases hj : j < B.length
      · have := World.cell?_setCells_in b (B.map c8) (k * 512) w (fun m hm => by rw [hl] at hm; exact (ht m (by omega)).1) j (by rw [hl]; exact hj)
        rw [this]
        unfold padd at hv
        rw [List.map_append, List.getElem?_append_left (by rw [hl]; exact hj), List.getElem?_eq_getElem (by rw [hl]; exact hj)] at hv
        exact hv
      · rw [World.cell?_setCells_out b (B.map c8) (k * 512) w ⟨b, k * 512 + j, none⟩ (fun _ _ => .inr (by rw [hl]; show k * 512 + B.length ≤ k * 512 + j; omega))]
        have hj5 : j < 512 := by
          have := (List.getElem?_eq_some_iff.1 hv).1
          rwa [List.length_map, padd_len hB] at this
        refine h.rng k hk j v ?_
        rw [hz]
        unfold padd at hv
        rw [List.map_append, List.getElem?_append_right (by rw [hl]; omega)] at hv
        have e : v = c8 0#8 := by
          obtain ⟨y, hy, rfl⟩ := c8_at hv
          rw [List.getElem?_replicate] at hy
          split at hy
          · injection hy with hy; rw [hy]
          · cases hy
        subst e
        unfold zs
        rw [List.map_replicate, List.getElem?_replicate, if_pos hj5]
    · rw [if_neg e]
      refine World.rangeAt_setCells_apart (h.rng k hk) _ _ _ (.inr ?_)
      have h2 : ((S k).map c8).length = 512 := by simpa using h.len k hk
      rw [hl, h2]
      omega
  · unfold updS
    by_cases e : k = i
    · rw [if_pos e]; exact padd_len hB
    · rw [if_neg e]; exact h.len k hk
def tot (Os : List Opn) : Nat := (Os.map fun o => 600 + min o.D.length 200000).sum
theorem tot_snoc (Os : List Opn) (i : Nat) (o : Opn) (h : Os[i]? = some o) : tot (Os.take (i + 1)) = tot (Os.take i) + (600 + min o.D.length 200000) := by
  rw [List.take_add_one, h]
  simp [tot]
theorem tot_le (Os : List Opn) (i : Nat) : tot (Os.take i) ≤ tot Os := by
  have h := List.take_append_drop i Os
  have e : tot (Os.take i ++ Os.drop i) = tot (Os.take i) + tot (Os.drop i) := by simp only [tot, List.map_append, List.sum_append]
  rw [h] at e
  omega
theorem tot_ge (Os : List Opn) : 600 * Os.length ≤ tot Os := by
  induction Os with
  | nil => simp [tot]
  | cons o Os ih =>
    have : tot (o :: Os) = (600 + min o.D.length 200000) + tot Os := by simp [tot]
    rw [this, List.length_cons]
    omega
def grt (Os : List Opn) : Bool := decide (200000 ≤ tot Os)
theorem grt_len {Os : List Opn} (h : grt Os = false) : Os.length ≤ 333 := by
  have := tot_ge Os
  unfold grt at h
  simp at h
  omega
set_option maxRecDepth 8000 in
/-- Whether there are too many calls. -/
theorem great13 (Os : List Opn) (lo : Option Addr) (n lc N0 : Nat) (w : World) (hn : n = Os.length) (hL : Opl N0 w lo Os) :
    Calls Try.prog 13 #[.slice lo n lc] w fun e w' => e = .returned (.bool (grt Os)) ∧ w' = w := by
  have HN := Lib.hid hn
  clear hn
  go_enter Try.func13, Try.ntmps13
  go_wp2_with fail
  go_loopg [3, 4] 334 (fun gk v v4 wr => ∃ (i t : Nat), v = .int .i64 t ∧ v4 = .int .i64 i ∧ i ≤ n ∧ t = tot (Os.take i) ∧ t ≤ 400600 ∧ 334 ≤ i + gk ∧ wr = w)
  case atStart => exact ⟨0, 0, rfl, rfl, Nat.zero_le _, by simp [tot], by omega, by omega, rfl⟩
  case round =>
    obtain ⟨i, t, rfl, rfl, hin, ht, ht2, hgk, rfl⟩ := hrel
    have hi334 : 600 * i ≤ t := by
      have := tot_ge (Os.take i)
      rw [← ht, List.length_take, Nat.min_eq_left (by have := HN.out; omega)] at this
      exact this
    have HT := Lib.hid ht
    clear ht
    have HG := Lib.hid hgk
    by_cases h1 : i < n
    · have d1 : decide ((i : Int) < (n : Int)) = true := by simp; omega
      by_cases h2 : t < 200000
      · have d2 : decide ((t : Int) < 200000) = true := by simp; omega
        obtain ⟨a, rfl⟩ : ∃ a, lo = some a := by
          cases lo with
          | none => have e1 := hL.nil rfl; have := HN.out; rw [e1] at this; simp at this; omega
          | some a => exact ⟨a, rfl⟩
        obtain ⟨o, hD⟩ : ∃ o, Os[i]? = some o := ⟨Os[i]'(by rw [← HN.out]; exact h1), List.getElem?_eq_getElem _⟩
        obtain ⟨-, hcl⟩ := hL.cells a rfl
        obtain ⟨-, -, ⟨ao, c, hDc, hc2, -⟩, -⟩ := hcl i o hD
        obtain ⟨m, hm⟩ : ∃ m, o.D.length = m := ⟨_, rfl⟩
        have hts := tot_snoc Os i o hD
        rw [hm, ← HT.out] at hts
        have HS := Lib.hid hts
        rw [hm] at hc2 hDc
        have hc2 : wr.cell? ⟨(a.add (i * 3)).block, (a.add (i * 3)).off + 2, none⟩ = some (.slice ao m c) := hc2
        have q0 : (0 : Int) ≤ (i : Int) := by omega
        have q1 : (i : Int) < (n : Int) := by omega
        have e1 : IntKind.i64.wrap ((t : Int) + 600) = (t : Int) + 600 := IntWalk.i64_in _ (by omega)
        clear hm hcl hD hgk hts
        by_cases hmg : m < 200000
        · have d3 : decide ((m : Int) < 200000) = true := by simp; omega
          have d4 : decide ((200000 : Int) < (m : Int)) = false := by simp; omega
          have e2 : IntKind.i64.wrap ((t : Int) + 600 + (m : Int)) = (t : Int) + 600 + (m : Int) := IntWalk.i64_in _ (by omega)
          go_wp2_with fail
          go_roundg (gk - 1)
          case measure => have := HG.out; omega
          case rel => exact ⟨i + 1, t + 600 + m, by simp, by simp, by omega, by rw [HS.out]; omega, by omega, by have := HG.out; omega, rfl⟩
        · have d3 : decide ((m : Int) < 200000) = false := by simp; omega
          have e2 : IntKind.i64.wrap ((t : Int) + 600 + 200000) = (t : Int) + 600 + 200000 := IntWalk.i64_in _ (by omega)
          by_cases hm2 : 200000 < m
          · have d4 : decide ((200000 : Int) < (m : Int)) = true := by simp; omega
            clear d3
            go_wp2_with fail
            go_roundg (gk - 1)
            case measure => have := HG.out; omega
            case rel => exact ⟨i + 1, t + 600 + 200000, by simp, by simp, by omega, by rw [HS.out]; omega, by omega, by have := HG.out; omega, rfl⟩
          · have d4 : decide ((200000 : Int) < (m : Int)) = false := by simp; omega
            have e3 : IntKind.i64.wrap ((t : Int) + 600 + (m : Int)) = (t : Int) + 600 + (m : Int) := IntWalk.i64_in _ (by omega)
            go_wp2_with fail
            go_roundg (gk - 1)
            case measure => have := HG.out; omega
            case rel => exact ⟨i + 1, t + 600 + m, by simp, by simp, by omega, by rw [HS.out]; omega, by omega, by have := HG.out; omega, rfl⟩
      · have d2 : decide ((t : Int) < 200000) = false := by simp; omega
        have d5 : decide ((t : Int) ≥ 200000) = true := by simp; omega
        have d6 : decide ((200000 : Int) ≤ (t : Int)) = true := by simp; omega
        go_wp2_with fail
        go_ret
        exact ⟨by have := tot_le Os i; rw [← HT.out] at this; rw [show grt Os = true by unfold grt; simp; omega]; rfl, rfl⟩
    · have d1 : decide (i < n) = false := by simp; omega
      by_cases h2 : t < 200000
      · have d5 : decide ((t : Int) ≥ 200000) = false := by simp; omega
        go_wp2_with fail
        go_ret
        have e9 := HT.out
        rw [List.take_of_length_le (by have := HN.out; omega)] at e9
        exact ⟨by rw [show grt Os = false by unfold grt; simp; omega]; rfl, rfl⟩
      · have d5 : decide ((t : Int) ≥ 200000) = true := by simp; omega
        go_wp2_with fail
        go_ret
        have e9 := HT.out
        rw [List.take_of_length_le (by have := HN.out; omega)] at e9
        exact ⟨by rw [show grt Os = true by unfold grt; simp; omega]; rfl, rfl⟩
/-- The blocks of what waits: not the reader's own. -/
def AQ (w0 : World) (q : Nat) : Nat → Prop := fun k => w0.heap.size ≤ k ∧ k ≠ q
/-- A disk; what its reader expects (block q); the calls that came in. -/
structure PR (w0 : World) (g b q n : Nat) (lo : Option Addr) (Os : List Opn) (d : DS) (V : Nat → Sct) (w : World) : Prop where
  dk : Dk (AQ w0 q) w g b n d
  wt : Sec w q n V
  ox : Opl w0.heap.size w lo Os
  k : Below w0.heap.size w0 w
  o1 : w0.heap.size ≤ b
  o2 : w0.heap.size ≤ q
  qg : q ≠ g
  qb : q ≠ b
section
variable {w0 w w' : World} {g b q n : Nat} {lo : Option Addr} {Os : List Opn} {d d' : DS} {V V' : Nat → Sct}
theorem PR.hA (p : PR w0 g b q n lo Os d V w) : ∀ k, w.heap.size ≤ k → AQ w0 q k := fun k hk => ⟨Nat.le_trans p.k.size hk, fun e => by have := p.wt.lt; omega⟩
theorem PR.og (p : PR w0 g b q n lo Os d V w) : w0.heap.size ≤ g := Nat.le_trans p.o1 (Nat.le_of_lt p.dk.bg)
theorem PR.frm (p : PR w0 g b q n lo Os d V w) (j : Frm (AQ w0 q) g b w w') (h : Dk (AQ w0 q) w' g b n d') : PR w0 g b q n lo Os d' V w' := by
  have hB : Below w0.heap.size w w' := j.toBelow p.k.size p.og p.o1 (fun k hk h => by have := h.1; omega)
  exact ⟨h, p.wt.keep j.size (j.block q p.wt.lt p.qg p.qb (fun h => h.2 rfl)), p.ox.below hB (Nat.le_refl _), p.k.trans hB, p.o1, p.o2, p.qg, p.qb⟩
theorem PR.below (p : PR w0 g b q n lo Os d V w) (j : Below w.heap.size w w') : PR w0 g b q n lo Os d V w' :=
  ⟨p.dk.below j, p.wt.keep j.size (j.block q p.wt.lt), p.ox.below j p.k.size, p.k.trans (j.mono p.k.size), p.o1, p.o2, p.qg, p.qb⟩
/-- A store into what the reader expects. -/
theorem PR.wr (p : PR w0 g b q n lo Os d V w) (i : Nat) (vs : List Value) (h : Sec (w.setCells q i vs) q n V') : PR w0 g b q n lo Os d V' (w.setCells q i vs) := by
  have hj : w.grownBy (w.setCells q i vs) (some q) := ⟨World.os_setCells _ _ _ _, tape_setCells _ _ _ _, World.output_setCells _ _ _ _, by rw [sz_setCells]; exact Nat.le_refl _, fun k hk hne => World.heap_setCells_other w q i vs hk (fun e => hne (by rw [e]))⟩
  exact ⟨p.dk.grown hj (fun r e => by injection e with e; subst e; exact ⟨p.qg, p.qb, fun h => h.2 rfl⟩), h, p.ox.grown hj (fun r e => by injection e with e; have := p.o2; omega), p.k.grown hj p.k.size (fun r e => by injection e with e; have := p.o2; omega), p.o1, p.o2, p.qg, p.qb⟩
theorem PR.drew (p : PR w0 g b q n lo Os d V w) : PR w0 g b q n lo Os d V w.drew := p.below ((Below.refl _ _).drew)
theorem syncR (p : PR w0 g b q n lo Os d V w) (hd : d.down = false) : Calls Try.prog 14 #[.pointer (some ⟨g, 0, none⟩)] w fun e w' => e = .returned (.int .i64 0) ∧ PR w0 g b q n lo Os { d with S := fin d.S d.W, W := [] } V w' :=
  (sync14 _ w g b n d p.dk p.hA hd).mono fun e w' ⟨h1, h2, h3⟩ => ⟨h1, p.frm h3 h2⟩
theorem writeR (p : PR w0 g b q n lo Os d V w) (i : Int) (ao : Option Addr) (m c : Nat) (B : Sct) (hm : m = B.length) (hB : Olz w0.heap.size w ao B) (hW : d.W.length ≤ 1000000) :
    Calls Try.prog 10 #[.pointer (some ⟨g, 0, none⟩), .int .i64 i, .slice ao m c] w fun e w' => e = .returned (.int .i64 (wrote n d i B).1) ∧ PR w0 g b q n lo Os (wrote n d i B).2 V w' :=
  (write10 _ w g b n d p.dk p.hA i ao m c B hm (hB.byg p.og) hW).mono fun e w' ⟨h1, h2, h3⟩ => ⟨h1, p.frm h3 h2⟩
theorem readR (p : PR w0 g b q n lo Os d V w) (k : Nat) (hk : k < n) (hd : d.down = false) (hW : d.W.length ≤ 1000000) :
    Calls Try.prog 15 #[.pointer (some ⟨g, 0, none⟩), .int .i64 k] w fun e w' => ∃ r, e = .returned (.tuple #[.slice (some ⟨r, 0, none⟩) 512 512, .int .i64 0]) ∧ w'.rangeAt r 0 ((look (d.S k) d.W k).map c8) ∧ PR w0 g b q n lo Os d V w' :=
  (read15 _ w g b n d p.dk k hk hd hW).mono fun e w' ⟨r, h1, _, _, h2, h3⟩ => ⟨r, h1, h2, p.below h3⟩
end
/-- What a Write answers on a disk that is up and has no fuse. -/
theorem wrote_up (n : Nat) (d : DS) (i : Int) (B : Sct) (hd : d.down = false) (hf : d.fuse = -1) :
    ((0 ≤ i ∧ i < n ∧ B.length ≤ 512) ∧ wrote n d i B = (0, { d with W := d.W ++ [(i.toNat, padd B)] })) ∨ (¬ (0 ≤ i ∧ i < n ∧ B.length ≤ 512) ∧ wrote n d i B = (1, d)) := by
  have hm : Mayc n d i = if i < 0 ∨ (n : Int) ≤ i then 1 else 0 := by unfold Mayc; rw [hd, if_neg (by simp)]
  unfold wrote
  by_cases h1 : i < 0 ∨ (n : Int) ≤ i
  · right
    rw [hm, if_pos h1, if_pos (by decide)]
    exact ⟨by omega, rfl⟩
  · rw [hm, if_neg h1, if_neg (by simp)]
    by_cases h2 : 512 < B.length
    · right
      rw [if_pos h2]
      exact ⟨by omega, rfl⟩
    · left
      rw [if_neg h2, hf, if_neg (by decide), if_neg (by decide)]
      exact ⟨⟨by omega, by omega, by omega⟩, by rw [← hf]⟩
end Go.Proofs.Ytklndocfgbbegaa
