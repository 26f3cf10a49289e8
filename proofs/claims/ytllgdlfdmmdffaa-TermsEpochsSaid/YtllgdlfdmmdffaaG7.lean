/- The keys of what a leaf has, sorted; look-ups. -/
import Derived.Test.YtllgdlfdmmdffaaG5
import Derived.Test.YtllgdlfdmmdffaaY
namespace Go.Proofs.Ytllgdlfdmmdffaa
open Go.ChangeShapes Go.WideShapes Go.ChangeAt Go.RowKit Go.MapKept Go.ChangeMaps
set_option linter.unusedSimpArgs false
set_option linter.unusedVariables false
section
variable {w0 w : World} {p t h : Nat} {m : Md} {c : Nat → Value} {mb : Nat → Nat}
/-- A leaf goes: what it has, and that it is in. -/
def lvM (m : Md) (l : Nat) : Md := { m with ins := setL m.ins l false, H := setL m.H l (fun _ => none) }
theorem Gp.leave (G : Gp w0 w p m t h c mb) (l : Nat) (hl : l < 8) :
    ∃ es' cl, (∀ ty t2, (Builtin.delete_ #[52, t2] ty #[.map (some h), .int .i64 (l : Int)]).run Try.prog w = .ok (.tuple #[]) (setBlock w h (.map es' cl))) ∧ Pty w0 (setBlock w h (.map es' cl)) p m.many m.Rs m.Kn m.Ep m.ins t h m.init c ∧
      Gp w0 ((setBlock w h (.map es' cl)).setCell ⟨p, 4 + l, none⟩ (.bool false)) p (lvM m l) t h (updV c (4 + l) (.bool false)) mb ∧ KC w (setBlock w h (.map es' cl)) := by
  obtain ⟨eh, ch, u1, u2, u3⟩ := G.ha.out
  obtain ⟨es', r, v1, v2⟩ := mp_del (T := 52) Try.underlying52 u1 u2 u3 (l : Int)
  have PB := G.P.keep (set_kc u1 (.map es' ch)) (set_below G.P.bl G.lh _)
  have e2 : updV c (4 + l) (.bool false) 2 = c 2 := by simp only [updV]; rw [if_neg (by omega)]
  have e3 : updV c (4 + l) (.bool false) 3 = c 3 := by simp only [updV]; rw [if_neg (by omega)]
  have km := KM.setp (k := 4 + l) PB.pc (.bool false)
  have kn := kn_setp (kv := c 2) (ev := c 3) PB.pc (4 + l) (.bool false)
  refine ⟨es', ch, r, PB, ⟨PB.setIn l hl false, ?_, ?_, G.th, G.lt, G.lh⟩, set_kc u1 _⟩
  · rw [e2, e3]
    exact (G.tr.set u1 (.map es' ch) G.th).km km kn
  · refine Ha.km ⟨⟨es', ch, set_same u1 _, v1, by rw [← show _ = inM (lvM m l).ins mb from inM_del m.ins mb l hl]; exact v2⟩, fun j hj hi => ?_, fun j j' hj hj' hi hi' e => ?_⟩ km
    · by_cases e : j = l
      · simp [lvM, setL, e] at hi
      · simp only [lvM, setL, if_neg e] at hi ⊢
        obtain ⟨q1, q2, q3, q4⟩ := G.ha.bs j hj hi
        exact ⟨q1, q2, q3, q4.set u1 _ q2⟩
    · have f : ∀ i, (lvM m l).ins i = true → m.ins i = true := fun i hi => by
        by_cases e : i = l
        · simp [lvM, setL, e] at hi
        · simpa [lvM, setL, e] using hi
      exact G.ha.inj j j' hj hj' (f j hi) (f j' hi') e
set_option maxRecDepth 20000 in
set_option maxHeartbeats 8000000 in
theorem remove37g (G : Gp w0 w p m t h c mb) (l : Nat) (hl : l < 8) :
    Calls Try.prog 37 #[.pointer (some ⟨p, 0, none⟩), .int .i64 (l : Int)] w (Ek w0 w p (remM m l) t h) := by
  have H36 := blank36k G l hl
  have HL := Lib.hid hl
  have w2l : IntKind.i64.wrap (2 * (l : Int)) = 2 * (l : Int) := IntWalk.i64_in _ (by omega)
  clear G hl
  go_enter Try.func37, Try.ntmps37
  go_upto_region 1 with (first
    | (go_at_call 36; (with_reducible refine H36.mono ?_); rintro e w1 ⟨rfl, G1, _, k1⟩))
  clear H36
  obtain ⟨e2, c2, r2, G2, k2, _⟩ := G1.delT (2 * (l : Int))
  have HK2 := Lib.hid ((k7_kc k1).trans (k7_kc k2))
  clear k1 k2
  have h12 := G1.P.pc.cell 12 (by decide)
  rw [G1.P.ct] at h12
  clear G1
  go_upto_region 2 with (fail)
  generalize setBlock w1 t (.map e2 c2) = w2 at G2 HK2 ⊢
  clear h12 r2
  obtain ⟨e3, c3, r3, P3, G3, k3⟩ := G2.leave l HL.out
  have h13 := G2.P.pc.cell 13 (by decide)
  rw [G2.P.ch] at h13
  have h4 := P3.pc.cell (4 + l) (by have := HL.out; omega)
  have f4 := P3.pc.frozen (4 + l)
  have hl := HL.out
  have HG3 := Lib.hid (And.intro G3 (HK2.out.trans ((k7_kc k3).trans (k7_setp P3.pc (4 + l) (.bool false)))))
  clear G2 P3 G3 k3
  go_wp2_with fail
  go_end0
  exact ⟨rfl, ⟨_, _, HG3.out.1⟩, HG3.out.2⟩
end
end Go.Proofs.Ytllgdlfdmmdffaa
namespace Go.Proofs.Ytllgdlfdmmdffaa
open Go.ChangeShapes Go.WideShapes Go.ChangeAt Go.RowKit Go.MapKept Go.ChangeMaps Go.Maps
set_option linter.unusedSimpArgs false
set_option linter.unusedVariables false
/-- What is asked of what a leaf has. -/
def FOk (F : Int → Option Int) : Prop := ∀ k z, F k = some z → (0 : Int) ≤ k ∧ k < 15
def keysF (F : Int → Option Int) : List Int := ((List.range 15).filter (fun (i : Nat) => (F (i : Int)).isSome)).map (fun (i : Nat) => (i : Int))
theorem keysF_mem (F : Int → Option Int) (h : FOk F) (x : Int) : x ∈ keysF F ↔ ∃ z, F x = some z := by
  unfold keysF
  simp only [List.mem_map, List.mem_filter, List.mem_range]
  constructor
  · rintro ⟨i, ⟨h1, h2⟩, rfl⟩
    exact Option.isSome_iff_exists.1 h2
  · rintro ⟨z, hz⟩
    have h1 := h x z hz
    have e : ((x.toNat : Nat) : Int) = x := by omega
    exact ⟨x.toNat, ⟨by omega, by rw [e, hz]; rfl⟩, e⟩
theorem keysF_sorted (F : Int → Option Int) : (keysF F).Pairwise (· < ·) := by
  unfold keysF
  rw [List.pairwise_map]
  exact ((List.pairwise_lt_range).sublist List.filter_sublist).imp (fun h => by omega)
theorem keysF_nodup (F : Int → Option Int) : (keysF F).Nodup := (keysF_sorted F).imp (fun h => by omega)
theorem keysF_len (F : Int → Option Int) : (keysF F).length ≤ 15 := by
  unfold keysF
  rw [List.length_map]
  exact Nat.le_trans (List.length_filter_le _ _) (by simp)
theorem allH_keys (F : Int → Option Int) : allH F = (keysF F).map (fun i => (F i).getD 0) := by
  unfold allH keysF
  rw [List.map_map]
  induction List.range 15 with
  | nil => rfl
  | cons a l ih =>
    rw [List.filterMap_cons, List.filter_cons]
    cases h : F (a : Int) with
    | none => simpa [h] using ih
    | some z => simp [h, ih]
/-- A key's number. -/
def kzv : Value → Int
  | .int _ a => a
  | _ => 0
/-- A map's keys. -/
def kzs (es : Array MapEntry) : List Int := es.toList.map fun x => kzv x.key
theorem rg_key {x : MapEntry} {k : Int} (e : x.key = .int .i64 k) (b : -9223372036854775808 ≤ k ∧ k < 9223372036854775808) : (Go.WideElems.rd (H := Unit) Try.prog 3 (fun _ => some (.nil, [])) x) = some (.int .i64 k, .nil) := by
  have g1 : IntKind.i64.min = -9223372036854775808 := by decide
  have g2 : IntKind.i64.max = 9223372036854775807 := by decide
  have hwf : (Lit.int .i64 k).wf = true := by simp [Lit.wf, g1, g2]; omega
  have hk : keyOf Try.prog 3 x.key = some (.int .i64 k) := by
    rw [e]
    exact keyOf_int_mk Try.underlying3 hwf
  simp [Go.WideElems.rd, hk]
section
variable {w : World} {m : Nat} {F : Int → Option Int} {es : Array MapEntry} {cl : Nat}
theorem kzs_key (h : FOk F) (o : Mo es cl) (p : Mp es F (fun z v => v = .int .i64 z)) {x : MapEntry} (hx : x ∈ es.toList) : ∃ k z, x.key = .int .i64 k ∧ F k = some z ∧ Go.WideElems.rd (H := Unit) Try.prog 3 (fun _ => some (.nil, [])) x = some (.int .i64 k, .nil) ∧ kzv x.key = k := by
  obtain ⟨k, a, e, ha, _⟩ := p.mem o hx
  have h1 := h k a ha
  have h2 := rg_key (x := x) e (by omega)
  exact ⟨k, a, e, ha, h2, by rw [e]; rfl⟩
theorem kzs_perm (h : FOk F) (o : Mo es cl) (p : Mp es F (fun z v => v = .int .i64 z)) : (kzs es).Perm (keysF F) := by
  refine (List.perm_ext_iff_of_nodup ?_ (keysF_nodup F)).2 fun x => ?_
  · unfold kzs
    refine List.pairwise_map.2 (o.one.imp_of_mem fun {a b} ha hb hne e => hne ?_)
    obtain ⟨k1, _, e1, _, _, g1⟩ := kzs_key h o p ha
    obtain ⟨k2, _, e2, _, _, g2⟩ := kzs_key h o p hb
    rw [g1, g2] at e
    rw [e1, e2, e]
  · rw [keysF_mem F h]
    unfold kzs
    rw [List.mem_map]
    constructor
    · rintro ⟨y, hy, rfl⟩
      obtain ⟨k, z, _, hz, _, g⟩ := kzs_key h o p hy
      exact ⟨z, by rw [g]; exact hz⟩
    · rintro ⟨z, hz⟩
      obtain ⟨y, hy, ey, _⟩ := p.yes x z hz
      obtain ⟨k, _, e1, _, _, g⟩ := kzs_key h o p hy
      refine ⟨y, hy, ?_⟩
      rw [g]
      rw [e1] at ey
      injection ey
set_option maxRecDepth 20000 in
theorem In1.owns (I : In1 w m F) (h : FOk F) : ∃ D, w.ownsMap (H := Unit) Try.prog 3 (fun _ => some (.nil, [])) m 15 D ∧ (intKeys D).Perm (keysF F) := by
  obtain ⟨es, cl, h1, h2, h3⟩ := I
  have hp := kzs_perm h h2 h3
  have hs : es.size ≤ 15 := by
    have h4 := hp.length_eq
    have h5 := keysF_len F
    unfold kzs at h4
    rw [List.length_map, Array.length_toList] at h4
    omega
  refine ⟨_, ⟨es, cl, h1, ⟨by unfold maxLen; omega, ⟨h2.old, h2.nd, ?_⟩, fun x hx => ?_⟩, hs, rfl⟩, ?_⟩
  · rw [List.nodup_iff_pairwise_ne, List.pairwise_map]
    exact h2.one
  · obtain ⟨k, _, _, _, g, _⟩ := kzs_key h h2 h3 hx
    exact ⟨_, g⟩
  · refine List.Perm.trans ?_ hp
    have e1 : kzs es = (es.toList.map (Go.WideElems.rg (H := Unit) Try.prog 3 (fun _ => some (.nil, [])))).map (fun p => Go.intOf p.1) := by
      unfold kzs
      rw [List.map_map]
      refine List.map_congr_left fun x hx => ?_
      obtain ⟨k, _, _, _, g, e⟩ := kzs_key h h2 h3 hx
      exact e.trans (congrArg (fun q : Lit × DataW Unit => Go.intOf q.1) (Go.WideElems.rg_of g)).symm
    rw [e1]
    exact (sorted_perm _).map _
theorem sortedg (w : World) (m : Nat) (F : Int → Option Int) (I : In1 w m F) (h : FOk F) :
    Calls Try.prog 42 #[.func (.func 53) #[] #[.pointer (some ⟨w.heap.size, 0, none⟩)]] (w.alloc (.cells #[.map (some m)] 66)) fun e w' => ∃ v, e = .returned v ∧ Ro (w.alloc (.cells #[.map (some m)] 66)).heap.size w' v (keysF F) ∧ Below (w.alloc (.cells #[.map (some m)] 66)).heap.size (w.alloc (.cells #[.map (some m)] 66)) w' := by
  obtain ⟨D, hD, hDk⟩ := I.owns h
  have hsz := hD.size_le
  refine (sorted42 m 15 _ _ w hD (by unfold maxLen; omega) (by omega)).mono ?_
  rintro e w' ⟨v, ss, rfl, hp, ho, hb⟩
  have hl : (ss.mergeSort (fun x y => decide (x ≤ y))).length = ss.length := List.length_mergeSort _
  have hpk : ss.Perm (keysF F) := hp.trans hDk
  have hse : ss.mergeSort (fun x y => decide (x ≤ y)) = keysF F := by
    rw [show ss.mergeSort (fun x y => decide (x ≤ y)) = ss.mergeSort leI from rfl, mergeSort_of_perm_i hpk]
    have tr : ∀ a b c : Int, leI a b = true → leI b c = true → leI a c = true := fun a b c h1 h2 => by simp only [leI, decide_eq_true_eq] at *; exact Int.le_trans h1 h2
    have tot : ∀ a b : Int, (leI a b || leI b a) = true := fun a b => by simp only [leI, Bool.or_eq_true, decide_eq_true_eq]; exact Int.le_total a b
    refine List.Perm.eq_of_pairwise (le := fun a b => leI a b = true) (fun a b _ _ h1 h2 => ?_) (List.pairwise_mergeSort tr tot _) ((keysF_sorted F).imp (fun h => by simp only [leI, decide_eq_true_eq]; omega)) (List.mergeSort_perm _ leI)
    simp only [leI, decide_eq_true_eq] at h1 h2
    exact Int.le_antisymm h1 h2
  refine ⟨v, rfl, ?_, hb⟩
  unfold Ro
  rw [← hse, hl]
  exact ho
end
section
variable {w0 w : World} {p t h : Nat} {m : Md} {c : Nat → Value} {mb : Nat → Nat}
theorem zero66 (w : World) : (zeroValue 66).run Try.prog w = .ok (.map none) w := by kernel_rfl
theorem has_leaf (G : Gp w0 w p m t h c mb) (l : Nat) (hl : l < 8) (hi : m.ins l = true) :
    (Instr.lookup 52 (.map (some h)) (.int .i64 (l : Int)) false).run Try.prog w = .ok (.map (some (mb l))) w := by
  obtain ⟨es, cl, h1, h2, h3⟩ := G.ha.out
  have hM : inM m.ins mb (l : Int) = some (mb l) := by unfold inM; rw [if_pos ⟨by omega, by omega, by simpa using hi⟩]; simp
  rcases mp_look (T := 52) Try.underlying52 h1 h2 h3 (zero66 w) (l : Int) with ⟨a, v, ha, rfl, hrun⟩ | ⟨hn, _⟩
  · rw [hM] at ha
    have ha := Option.some.inj ha
    subst ha
    exact hrun false
  · rw [hM] at hn; cases hn
theorem in_look {b : Nat} {F : Int → Option Int} (I : In1 w b F) (i : Int) : (Instr.lookup 66 (.map (some b)) (.int .i64 i) false).run Try.prog w = .ok (.int .i64 ((F i).getD 0)) w := by
  obtain ⟨es, cl, h1, h2, h3⟩ := I
  rcases mp_look (T := 66) Try.underlying66 h1 h2 h3 (zero3 w) i with ⟨a, v, ha, rfl, hrun⟩ | ⟨hn, hrun⟩
  · rw [ha]; exact hrun false
  · rw [hn]; exact hrun false
theorem kn_known {many init : Int} {Rs : List Rl} {Kn Ep : List Int} {ins : Nat → Bool} (P1 : Pty w0 w p many Rs Kn Ep ins t h init c) {x : Int} {a3 : Option Addr} {n2 c3 g cap2 : Nat} {w2 : World} (hc3 : c 2 = .slice a3 n2 c3)
    (gr2 : (w.alloc (.cells #[.int .i64 x] 3)).grownBy w2 (Value.slice a3 n2 c3).ownBlock) (at2 : (Value.slice a3 n2 c3).ownBlock = some g ∨ g = (w.alloc (.cells #[.int .i64 x] 3)).heap.size) :
    KN (c 2) (c 3) w (.slice (some ⟨g, 0, none⟩) (n2 + 1) cap2) (c 3) (w2.setCell ⟨p, 2, none⟩ (.slice (some ⟨g, 0, none⟩) (n2 + 1) cap2)) := by
  have P2 := P1.below ((Below.refl _ w).alloc (Nat.le_refl _) (.cells #[.int .i64 x] 3))
  rw [← hc3] at gr2 at2
  have hp2 := grow_pc P2.pc P2.k (by decide) gr2
  have hk : KN (c 2) (c 3) w (.slice (some ⟨g, 0, none⟩) (n2 + 1) cap2) (c 3) w2 := fun k cs f h1 h2 h3 => by
    have hl := (Array.getElem?_eq_some_iff.1 h1).1
    refine ⟨(gr2.block k (by simp; omega) (fun e => h2 e.symm)).trans ((Below.heap_alloc w _ k hl).trans h1), fun e => ?_, h3⟩
    have e : g = k := by injection e
    rcases at2 with q | q
    · exact h2 (by rw [q, e])
    · rw [q] at e; simp at e; omega
  exact hk.trans (kn_setp hp2 _ _)
end
end Go.Proofs.Ytllgdlfdmmdffaa
