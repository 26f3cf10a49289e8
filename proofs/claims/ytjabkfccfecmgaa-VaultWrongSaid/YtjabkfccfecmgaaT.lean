/- Steps that erase a part. -/
import Derived.Test.YtjabkfccfecmgaaC2
namespace Go.Proofs.Ytjabkfccfecmgaa
open Go.ChangeShapes Go.WideShapes Go.ChangeAt Go.RowKit
set_option linter.unusedSimpArgs false
set_option linter.unusedVariables false
def chk (D : List Byte) (j : Nat) : List Byte := (D.drop (512 * j)).take 512
theorem chk_len (D : List Byte) (j : Nat) : (chk D j).length = pl D.length j := by simp [chk, pl]
/-- Steps that write bytes from a sector on. -/
def layA (at_ : Nat) (D : List Byte) : List Ac := (List.range (nP D.length)).map fun j => Ac.wr (at_ + j) (chk D j)
theorem layA_len (at_ : Nat) (D : List Byte) : (layA at_ D).length = nP D.length := by simp [layA]
/-- Function values that do steps. -/
structure Fv (A : Nat → Prop) (g b : Nat) (w : World) (vals : List Value) (L : List Ac) : Prop where
  len : vals.length = L.length
  each : ∀ (j : Nat) a, L[j]? = some a → ∃ v, vals[j]? = some v ∧ Fs A g b w v a
section
variable {A : Nat → Prop} {w w' : World} {g b n : Nat} {d : DS}
theorem Fv.frm {vals : List Value} {L : List Ac} (h : Fv A g b w vals L) (f : Frm A g b w w') : Fv A g b w' vals L :=
  ⟨h.len, fun j a ha => by obtain ⟨v, h1, h2⟩ := h.each j a ha; exact ⟨v, h1, h2.frm f⟩⟩
theorem Fv.app {v1 v2 : List Value} {L1 L2 : List Ac} (h : Fv A g b w v1 L1) (k : Fv A g b w v2 L2) : Fv A g b w (v1 ++ v2) (L1 ++ L2) := by
  refine ⟨by rw [List.length_append, List.length_append, h.len, k.len], fun j a ha => ?_⟩
  rcases Nat.lt_or_ge j L1.length with g1 | g1
  · rw [List.getElem?_append_left g1] at ha
    rw [List.getElem?_append_left (by rw [h.len]; exact g1)]
    exact h.each j a ha
  · rw [List.getElem?_append_right g1] at ha
    rw [List.getElem?_append_right (by rw [h.len]; exact g1), h.len]
    exact k.each _ a ha
theorem Fs.one {v : Value} {a : Ac} (h : Fs A g b w v a) : v.oneCell' = true := by
  cases a with
  | sy => rw [show v = _ from h]; rfl
  | wr i B =>
    rcases h with ⟨xd, xt, xp, ao, c, rfl, _⟩ | ⟨_, xd, xi, rfl, _⟩ | ⟨c, l, xv, vb, xp, xh, rfl, _⟩ <;> rfl
theorem Fv.one {vals : List Value} {L : List Ac} (h : Fv A g b w vals L) : ∀ u ∈ vals, u.oneCell' = true := fun u hu => by
  obtain ⟨j, hj⟩ := List.getElem?_of_mem hu
  have hl := (List.getElem?_eq_some_iff.1 hj).1
  obtain ⟨a, ha⟩ : ∃ a, L[j]? = some a := ⟨_, List.getElem?_eq_getElem (by rw [← h.len]; exact hl)⟩
  obtain ⟨v, h1, h2⟩ := h.each j a ha
  rw [hj] at h1
  injection h1 with h1
  rw [h1]; exact h2.one
theorem own_le {w : World} {base base' size n : Nat} {e : TypeId} {v : Value} {xs : List Value} (h : w.ownsRow base e size v n xs) (hb : base' ≤ base) : w.ownsRow base' e size v n xs :=
  ⟨h.1, h.2.elim Or.inl (fun ⟨g, cap, cur, hv, hg, r⟩ => Or.inr ⟨g, cap, cur, hv, Nat.le_trans hb hg, r⟩)⟩
theorem fv_nil : Fv A g b w [] [] := ⟨rfl, fun j a h => by simp at h⟩
theorem fv_one {v : Value} {a : Ac} (h : Fs A g b w v a) : Fv A g b w [v] [a] := ⟨rfl, fun j x hx => by
  rcases j with _ | j
  · simp at hx; subst hx; exact ⟨v, rfl, h⟩
  · simp at hx⟩
theorem Fv.fl {vals : List Value} {L : List Ac} (h : Fv A g b w vals L) {base n : Nat} {v : Value} (ho : w.ownsRow base 68 1 v n vals) (hk : ∀ k, base ≤ k → k < w.heap.size → Ok A g b w k) : ∃ so c, v = .slice so n c ∧ n = L.length ∧ Fl A g b w so L := by
  have hl : n = L.length := by rw [← h.len]; have := ho.1; omega
  rcases ho.2 with ⟨rfl, h0⟩ | ⟨q, cap, cur, rfl, hb, hh, hnc, hrest⟩
  · exact ⟨none, 0, by rw [h0], hl, fun _ => List.eq_nil_of_length_eq_zero (by omega), fun _ e => by cases e⟩
  · refine ⟨some ⟨q, 0, none⟩, cap, rfl, hl, (fun e => by cases e), fun ad ha j a hj => ?_⟩
    injection ha with ha
    subst ha
    obtain ⟨u, h1, h2⟩ := h.each j a hj
    exact ⟨hk q hb (Array.getElem?_eq_some_iff.1 hh).1, u, ho.cells (g := q) rfl j u h1, h2⟩
/-- What lay leaves are steps. -/
theorem LI.fv {w0 Y X : World} {ql qa qd g at_ : Nat} {ad : Addr} {ao : Option Addr} {D : List Byte} (h : LI w0 Y ql qa qd g at_ ad D.length (List.range (nP D.length)) X) {lv : Value} (hl : X.heap[ql]? = some (.cells #[lv] 51 (0, 0))) (hqd : w0.heap.size ≤ qd) (hY : w0.heap.size ≤ Y.heap.size)
    (hao : 0 < D.length → ao = some ad) : ∃ vals, X.ownsRow Y.heap.size 68 1 lv (nP D.length) vals ∧ ∀ (A : Nat → Prop) (b : Nat), (∀ k, w0.heap.size ≤ k → k < X.heap.size → Ok A g b X k) → Obs A g b X ao D → Fv A g b X vals (layA at_ D) := by
  obtain ⟨lv2, vals, h1, h2, h3⟩ := h.l
  rw [hl] at h1
  injection h1 with h1
  injection h1 with h1
  have e : lv = lv2 := by simpa using h1
  subst e
  rw [List.length_range] at h2
  refine ⟨vals, h2, fun A b hk hB => ⟨by rw [layA_len]; have := h2.1; omega, fun j a ha => ?_⟩⟩
  rw [layA, List.getElem?_map] at ha
  have hj : j < nP D.length := by
    rcases Nat.lt_or_ge j (nP D.length) with x | x
    · exact x
    · rw [List.getElem?_eq_none (by simpa using x)] at ha; cases ha
  rw [List.getElem?_range hj] at ha
  simp only [Option.map_some, Option.some.injEq] at ha
  subst ha
  obtain ⟨v, e1, xt, xp, e2, e3, e4, e5, e6⟩ := h3 j j (List.getElem?_range hj)
  have l5 := (Array.getElem?_eq_some_iff.1 e5).1
  have l6 := (Array.getElem?_eq_some_iff.1 e6).1
  have ld := (Array.getElem?_eq_some_iff.1 h.d).1
  refine ⟨v, e1, .inl ⟨qd, xt, xp, some (ad.add (512 * j)), pl D.length j, e2, hk qd hqd ld, hk xt (by omega) l5, hk xp (by omega) l6, by rw [cell_of_row _ _ _ _ _ _ h.d]; rfl, by rw [cell_of_row _ _ _ _ _ _ e5]; rfl, by rw [cell_of_row _ _ _ _ _ _ e6, chk_len]; rfl, (fun e => by cases e), fun x hx i y hy => ?_⟩⟩
  injection hx with hx
  subst hx
  unfold chk at hy
  rw [List.getElem?_take] at hy
  split at hy
  · rw [List.getElem?_drop] at hy
    have hDl := (List.getElem?_eq_some_iff.1 hy).1
    obtain ⟨k1, k2⟩ := hB.cells ad (hao (by omega)) (512 * j + i) y hy
    exact ⟨by rw [add_block]; exact k1, by rw [add_add]; exact k2⟩
  · cases hy
end
/-- Steps that erase a part. -/
def eraseA (n p : Nat) : List Ac := [.wr p [], .sy] ++ layA (2 + p * ((n - 2) / 2)) (List.replicate ((n - 2) / 2 * 512) 0#8) ++ [.sy]
theorem three3 (h : Array Obj) (a b c : Obj) : (((h.push a).push b).push c)[h.size]? = some a ∧ (((h.push a).push b).push c)[h.size + 1]? = some b ∧ (((h.push a).push b).push c)[h.size + 2]? = some c := by
  refine ⟨?_, ?_, ?_⟩ <;> simp only [Array.getElem?_push, Array.size_push]
  · rw [if_neg (by omega), if_neg (by omega), if_pos trivial]
  · rw [if_neg (by omega), if_pos trivial]
  · rw [if_pos trivial]
theorem srow_cells {w : World} {q n : Nat} {C : Array Value} {t : TypeId} {fz : Nat × Nat} {xs : List Value} (h : w.heap[q]? = some (.cells C t fz)) (hn : xs.length = n) (hc : C = xs.toArray) (h1 : ∀ u ∈ xs, u.oneCell' = true) : Srow w (some ⟨q, 0, none⟩) n xs :=
  ⟨hn, (fun e => by cases e), fun ad ha j u hu => by
    injection ha with ha
    subst ha
    rw [Addr.add_mid, Nat.zero_add, cell_of_row _ _ _ _ _ _ h, hc]
    simpa using hu, h1⟩
theorem srow_own {w : World} {base n c : Nat} {e : TypeId} {ao : Option Addr} {xs : List Value} (h : w.ownsRow base e 1 (.slice ao n c) n xs) (h1 : ∀ u ∈ xs, u.oneCell' = true) : Srow w ao n xs := by
  have hl : xs.length = n := by have := h.1; omega
  refine ⟨hl, fun ea => ?_, fun ad ha j u hu => ?_, h1⟩
  · rcases h.2 with ⟨_, h0⟩ | ⟨q, cap, cur, e2, _⟩
    · exact h0
    · injection e2 with e2; rw [ea] at e2; cases e2
  · rcases h.2 with ⟨e2, h0⟩ | ⟨q, cap, cur, e2, _⟩
    · injection e2 with e2; rw [ha] at e2; cases e2
    · injection e2 with e2
      rw [ha] at e2
      injection e2 with e2
      subst e2
      exact h.cells (g := q) (by rw [ha]; rfl) j u hu
theorem src3s {w : World} {q : Nat} {a b c : Option Addr} {m1 m2 m3 c1 c2 c3 : Nat} {x1 x2 x3 : List Value} (h : w.heap[q]? = some (.cells #[.slice a m1 c1, .slice b m2 c2, .slice c m3 c3] 51 (0, 0))) :
    ∀ (j : Nat) x, ([(a, m1, c1, x1), (b, m2, c2, x2), (c, m3, c3, x3)] : Srcs)[j]? = some x → w.cell? ⟨q, j, none⟩ = some (.slice x.1 x.2.1 x.2.2.1) := fun j x hx => by
  rw [cell_of_row _ _ _ _ _ _ h]
  rcases j with _ | _ | _ | j
  · simp at hx; subst hx; rfl
  · simp at hx; subst hx; rfl
  · simp at hx; subst hx; rfl
  · simp at hx
def V21 (g qd qp p pc sc mm : Nat) (w8 : World) : Nat → Value → World → Prop
  | 0, v, w => v = .pointer (some ⟨g, 0, none⟩)
  | 1, v, w => v = .pointer (some ⟨g, 0, none⟩)
  | 2, v, w => v = .int .i64 (p : Nat)
  | 3, v, w => v = .int .i64 (pc : Nat)
  | 4, v, w => v = .pointer (some ⟨g, 0, none⟩)
  | 5, v, w => v = .int .i64 (sc : Nat)
  | 6, v, w => v = .int .i64 (mm : Nat)
  | 7, v, w => ∃ q, v = .slice (some ⟨q, 0, none⟩) mm mm ∧ w8.heap.size ≤ q ∧ Nb w q (List.replicate mm 0#8)
  | 8, v, w => ∃ (Y : World) (q : World × Nat), LI q.1 Y (q.1.heap.size + 2) (q.1.heap.size + 1) q.1.heap.size g pc ⟨q.2, 0, none⟩ mm (List.range (nP mm)) w ∧ w.heap[q.1.heap.size + 2]? = some (.cells #[v] 51 (0, 0)) ∧ q.1.heap.size + 5 ≤ Y.heap.size ∧ w8.heap.size ≤ q.1.heap.size ∧ w8.heap.size ≤ q.2 ∧ q.2 < q.1.heap.size ∧ Nb w q.2 (List.replicate mm 0#8)
  | 9, v, w => ∃ (Y : World) (q : World × Nat), LI q.1 Y (q.1.heap.size + 2) (q.1.heap.size + 1) q.1.heap.size g pc ⟨q.2, 0, none⟩ mm (List.range (nP mm)) w ∧ w.heap[q.1.heap.size + 2]? = some (.cells #[v] 51 (0, 0)) ∧ q.1.heap.size + 5 ≤ Y.heap.size ∧ w8.heap.size ≤ q.1.heap.size ∧ w8.heap.size ≤ q.2 ∧ q.2 < q.1.heap.size ∧ Nb w q.2 (List.replicate mm 0#8)
  | _, _, _ => True
theorem V21_keep (g qd qp p pc sc mm : Nat) (w8 : World) (i1 : Nat) (v : Value) (w w' : World) (h : V21 g qd qp p pc sc mm w8 i1 v w) (r : (fun w w' => Below w.heap.size w w') w w') : V21 g qd qp p pc sc mm w8 i1 v w' := by
  rcases i1 with _ | _ | _ | _ | _ | _ | _ | _ | _ | _ | _
  · exact h
  · exact h
  · exact h
  · exact h
  · exact h
  · exact h
  · exact h
  · obtain ⟨q, h1, h2, h3⟩ := h
    exact ⟨q, h1, h2, ⟨kc_below r _ _ _ _ h3.row⟩⟩
  · obtain ⟨Y, q, i1, i2, i3, i4, i5, i6, i7⟩ := h
    exact ⟨Y, q, i1.kc (kc_below r) (i1.b.trans (r.mono i1.b.size)) r.size, kc_below r _ _ _ _ i2, i3, i4, i5, i6, ⟨kc_below r _ _ _ _ i7.row⟩⟩
  · obtain ⟨Y, q, i1, i2, i3, i4, i5, i6, i7⟩ := h
    exact ⟨Y, q, i1.kc (kc_below r) (i1.b.trans (r.mono i1.b.size)) r.size, kc_below r _ _ _ _ i2, i3, i4, i5, i6, ⟨kc_below r _ _ _ _ i7.row⟩⟩
  · trivial
section
variable {A : Nat → Prop} {w w' : World} {g b n : Nat} {d : DS}
set_option maxRecDepth 20000 in
set_option maxHeartbeats 8000000 in
theorem erase21 (hD : Dk A w g b n d) (hn : 4 ≤ n) (hn2 : n ≤ 100) (p : Nat) (hp : p < 2) :
    Calls Try.prog 21 #[.pointer (some ⟨g, 0, none⟩), .int .i64 (p : Int)] w fun e w' => ∃ v m vals, e = .returned v ∧ w'.ownsRow w.heap.size 68 1 v m vals ∧ Below w.heap.size w w' ∧ ∀ A' : Nat → Prop, (∀ k, w.heap.size ≤ k → k < w'.heap.size → ¬ A' k) → Fv A' g b w' vals (eraseA n p) := by
  obtain ⟨w8, hw8⟩ : ∃ w8, (w.alloc (.cells #[.pointer (some ⟨g, 0, none⟩)] 25)).alloc (.cells #[.int .i64 (p : Int)] 3) = w8 := ⟨_, rfl⟩
  have h8d : w8.heap[w.heap.size]? = some (.cells #[.pointer (some ⟨g, 0, none⟩)] 25 (0, 0)) := by rw [← hw8]; exact (Below.heap_alloc _ _ _ (by simp)).trans (heap_alloc_new w _)
  have h8p : w8.heap[w.heap.size + 1]? = some (.cells #[.int .i64 (p : Int)] 3 (0, 0)) := by rw [← hw8]; have := heap_alloc_new (w.alloc (.cells #[.pointer (some ⟨g, 0, none⟩)] 25)) (.cells #[.int .i64 (p : Int)] 3); rwa [World.size_alloc] at this
  have h8b : Below w.heap.size w w8 := by rw [← hw8]; exact ((Below.refl _ w).alloc (Nat.le_refl _) _).alloc (by simp) _
  have h8s : w.heap.size + 2 = w8.heap.size := by rw [← hw8]; simp
  have hgl := hD.lt
  have hbl := hD.sec.lt
  obtain ⟨qd, hqd⟩ : ∃ qd, qd = w.heap.size := ⟨_, rfl⟩
  obtain ⟨qp, hqp⟩ : ∃ qp, qp = w.heap.size + 1 := ⟨_, rfl⟩
  rw [← hqd] at h8d
  rw [← hqp] at h8p
  have HD := Lib.hid (And.intro (hD.below h8b) (And.intro hn hp))
  have HW := Lib.hid (And.intro h8d (And.intro h8p (And.intro h8b (And.intro h8s (And.intro hqd (And.intro hqp (And.intro hgl hbl)))))))
  have KEY := Lib.hid (show ∀ W, Below w8.heap.size w8 W → W.cell? ⟨qd, 0, none⟩ = some (.pointer (some ⟨g, 0, none⟩)) ∧ W.cell? ⟨qp, 0, none⟩ = some (.int .i64 (p : Int)) from fun W bb =>
    ⟨cell_below (by rw [cell_of_row _ _ _ _ _ _ h8d]; rfl) bb, cell_below (by rw [cell_of_row _ _ _ _ _ _ h8p]; rfl) bb⟩)
  obtain ⟨sc, hsc⟩ : ∃ sc, (n - 2) / 2 = sc := ⟨_, rfl⟩
  obtain ⟨pc, hpc⟩ : ∃ pc, 2 + p * ((n - 2) / 2) = pc := ⟨_, rfl⟩
  obtain ⟨mm, hmm⟩ : ∃ mm, sc * 512 = mm := ⟨_, rfl⟩
  have hpl : pc ≤ 1000 := by
    rw [← hpc, hsc]
    have : p * sc ≤ 1 * sc := Nat.mul_le_mul_right _ (by omega)
    omega
  have HE := Lib.hid (And.intro hpc (And.intro hsc (And.intro hmm (And.intro hpl (show mm ≤ 50000 ∧ sc ≤ 50 by omega)))))
  clear hD h8d h8p h8b h8s hgl hbl hsc hpc hmm hpl
  go_enter Try.func21, Try.ntmps21
  go_upto_region 2 with fail
  rw [← hqp, ← hqd]
  clear hw8 hqd hqp
  refine region_monoL (fun w1 => Below w8.heap.size w8 w1) (fun w w' => Below w.heap.size w w') (V21 g qd qp p pc sc mm w8) [(0, some 8), (1, some 9), (2, some 10), (3, some 11), (4, some 12), (5, some 13), (6, some 14), (7, some 15), (8, some 16), (9, some 6)] (by kernel_rfl) (by kernel_rfl) (by kernel_rfl) (fun _ _ h r => below_then h r) (fun i1 v1 w1 w2 _ h1 r1 => V21_keep g qd qp p pc sc mm w8 i1 v1 w1 w2 h1 r1) ((Below.refl _ w8).drew) ?_ (fun vs WQ hS hV => ?_)
  · refine StepsL.cons0  (by kernel_rfl)  ?_ ?_
    · rintro w1 hS  K hK
      (try simp only [Act.put, List.setIfInBounds_toArray, List.set_cons_zero, List.set_cons_succ])
      have hk := KEY.out _ hS
      have hx := hk.1
      go_simp
      exact hK.out _ _ rfl (Below.refl _ _)
    refine StepsL.cons0  (by kernel_rfl)  ?_ ?_
    · rintro w1 hS  K hK
      (try simp only [Act.put, List.setIfInBounds_toArray, List.set_cons_zero, List.set_cons_succ])
      have hk := KEY.out _ hS
      have hx := hk.1
      go_simp
      exact hK.out _ _ rfl (Below.refl _ _)
    refine StepsL.cons0  (by kernel_rfl)  ?_ ?_
    · rintro w1 hS  K hK
      (try simp only [Act.put, List.setIfInBounds_toArray, List.set_cons_zero, List.set_cons_succ])
      have hk := KEY.out _ hS
      have hx := hk.2
      go_simp
      exact hK.out _ _ rfl (Below.refl _ _)
    refine StepsL.cons2 1 (some 9) 2 (some 10) (by kernel_rfl) rfl rfl ?_ ?_
    · rintro w1 hS _ rfl _ rfl K hK
      (try simp only [Act.put, List.setIfInBounds_toArray, List.set_cons_zero, List.set_cons_succ])
      have HC := (show _ from HE.out.1 ▸ place22 (HD.out.1.below hS) (by have := HD.out.2.1; omega) p HD.out.2.2)
      go_simp
      go_at_call 22
      (with_reducible refine HC.mono ?_)
      rintro e w2 ⟨rfl, hw⟩
      obtain rfl : w1 = w2 := hw.symm
      exact hK.out _ _ rfl (Below.refl _ _)
    refine StepsL.cons0  (by kernel_rfl)  ?_ ?_
    · rintro w1 hS  K hK
      (try simp only [Act.put, List.setIfInBounds_toArray, List.set_cons_zero, List.set_cons_succ])
      have hk := KEY.out _ hS
      have hx := hk.1
      go_simp
      exact hK.out _ _ rfl (Below.refl _ _)
    refine StepsL.cons1 4 (some 12) (by kernel_rfl) rfl ?_ ?_
    · rintro w1 hS _ rfl K hK
      (try simp only [Act.put, List.setIfInBounds_toArray, List.set_cons_zero, List.set_cons_succ])
      have HC := (show _ from HE.out.2.1 ▸ sectors29 (HD.out.1.below hS) (by have := HD.out.2.1; omega))
      go_simp
      go_at_call 29
      (with_reducible refine HC.mono ?_)
      rintro e w2 ⟨rfl, hw⟩
      obtain rfl : w1 = w2 := hw.symm
      exact hK.out _ _ rfl (Below.refl _ _)
    refine StepsL.cons1 5 (some 13) (by kernel_rfl) rfl ?_ ?_
    · rintro w1 hS _ rfl K hK
      (try simp only [Act.put, List.setIfInBounds_toArray, List.set_cons_zero, List.set_cons_succ])
      have em : IntKind.i64.wrap ((sc : Int) * 512) = (mm : Int) := by rw [IntWalk.i64_in _ (by have := HE.out.2.2; omega), ← HE.out.2.2.1]; push_cast; rfl
      go_simp
      exact hK.out _ _ rfl (Below.refl _ _)
    refine StepsL.cons1 6 (some 14) (by kernel_rfl) rfl ?_ ?_
    · rintro w1 hS _ rfl K hK
      (try simp only [Act.put, List.setIfInBounds_toArray, List.set_cons_zero, List.set_cons_succ])
      have hmk := make28 w1 mm (by have := HE.out.2.2; omega)
      have hnb := nb_made w1 mm
      go_simp
      exact hK.out _ _ ⟨w1.heap.size, rfl, hS.size, hnb⟩ ((Below.refl _ _).alloc (Nat.le_refl _) _)
    refine StepsL.cons3 0 (some 8) 3 (some 11) 7 (some 15) (by kernel_rfl) rfl rfl rfl ?_ ?_
    · rintro w1 hS _ rfl _ rfl _ ⟨q7, rfl, k7, n7⟩ K hK
      (try simp only [Act.put, List.setIfInBounds_toArray, List.set_cons_zero, List.set_cons_succ])
      have HC := lay24 w1 g pc (some ⟨q7, 0, none⟩) mm mm ⟨q7, 0, none⟩ (fun _ => rfl) (Nat.le_refl _) (by have := HE.out.2.2; omega) (by have := HE.out.2.2; omega)
      go_simp
      go_at_call 24
      (with_reducible refine HC.mono ?_)
      rintro e w2 ⟨lv, rfl, Y, i1, i2, i3⟩
      have hql := (Array.getElem?_eq_some_iff.1 n7.row).1
      exact hK.out _ _ ⟨Y, (w1, q7), i1, i2, i3, hS.size, k7, hql, ⟨(i1.b.block _ hql).trans n7.row⟩⟩ i1.b
    refine StepsL.cons1 8 (some 16) (by kernel_rfl) rfl ?_ ?_
    · rintro w1 hS _ ⟨Y, q, i1, i2, i3, i4, i5, i6, i7⟩ K hK
      (try simp only [Act.put, List.setIfInBounds_toArray, List.set_cons_zero, List.set_cons_succ])
      go_simp
      exact hK.out _ _ ⟨Y, q, i1, i2, i3, i4, i5, i6, i7⟩ (Below.refl _ _)
    exact StepsL.nil
  obtain ⟨Y, q, i1, i2, i3, i4, i5, i6, i7⟩ := hV 9 (by decide)
  obtain ⟨lv, hlv⟩ : ∃ lv, vs 9 = lv := ⟨_, rfl⟩
  have HV := Lib.hid (And.intro i1 (And.intro (by rw [hlv] at i2; exact i2) (And.intro i3 (And.intro i4 (And.intro i5 (And.intro i6 (And.intro i7 (show Below w8.heap.size w8 WQ from hS))))))))
  simp only [putl, List.foldl_cons, List.foldl_nil, Act.put, List.setIfInBounds_toArray, List.set_cons_zero, List.set_cons_succ]
  rw [hlv]
  clear hV hS i1 i2 i3 i4 i5 i6 i7 hlv
  obtain ⟨i1, i2, i3, i4, i5, i6, i7, bS⟩ := HV.out
  have hml : mm = (List.replicate mm 0#8).length := by simp
  have i1' : LI q.1 Y (q.1.heap.size + 2) (q.1.heap.size + 1) q.1.heap.size g pc ⟨q.2, 0, none⟩ (List.replicate mm 0#8).length (List.range (nP (List.replicate mm 0#8).length)) WQ := by rw [← hml]; exact i1
  obtain ⟨vals, ho, hfv⟩ := i1'.fv (ao := some ⟨q.2, 0, none⟩) i2 (Nat.le_refl _) (by omega) (fun _ => rfl)
  rw [← hml] at ho
  obtain ⟨la, lc, rfl⟩ := row_form ho
  have hNP : nP mm ≤ 1000 := by have := HE.out.2.2; unfold nP; omega
  obtain ⟨NP, hNPe⟩ : ∃ NP, nP mm = NP := ⟨_, rfl⟩
  rw [hNPe] at ho hNP ⊢
  obtain ⟨f35, hf35⟩ : ∃ f35 : Value, f35 = .func (.func 35) #[] #[.pointer (some ⟨qd, 0, none⟩), .pointer (some ⟨qp, 0, none⟩)] := ⟨_, rfl⟩
  obtain ⟨fs, hfs⟩ : ∃ fs : Value, fs = .func (.func 25) #[.pointer (some ⟨g, 0, none⟩)] #[] := ⟨_, rfl⟩
  have bX3 : Below WQ.heap.size WQ (((WQ.alloc (.cells #[f35, fs] 68)).alloc (.cells #[fs] 68)).alloc (.cells #[.slice (some ⟨WQ.heap.size, 0, none⟩) 2 2, .slice la NP lc, .slice (some ⟨WQ.heap.size + 1, 0, none⟩) 1 1] 51)) := (((Below.refl _ WQ).alloc (Nat.le_refl _) _).alloc (by simp) _).alloc (by simp; omega) _
  obtain ⟨h3a, h3b, h3c⟩ := three3 WQ.heap (.cells #[f35, fs] 68) (.cells #[fs] 68) (.cells #[.slice (some ⟨WQ.heap.size, 0, none⟩) 2 2, .slice la NP lc, .slice (some ⟨WQ.heap.size + 1, 0, none⟩) 1 1] 51)
  obtain ⟨X3, hX3⟩ : ∃ X3, ((WQ.alloc (.cells #[f35, fs] 68)).alloc (.cells #[fs] 68)).alloc (.cells #[.slice (some ⟨WQ.heap.size, 0, none⟩) 2 2, .slice la NP lc, .slice (some ⟨WQ.heap.size + 1, 0, none⟩) 1 1] 51) = X3 := ⟨_, rfl⟩
  have k3a : X3.heap[WQ.heap.size]? = some (.cells #[f35, fs] 68 (0, 0)) := by rw [← hX3]; exact h3a
  have k3b : X3.heap[WQ.heap.size + 1]? = some (.cells #[fs] 68 (0, 0)) := by rw [← hX3]; exact h3b
  have k3c : X3.heap[WQ.heap.size + 2]? = some (.cells #[.slice (some ⟨WQ.heap.size, 0, none⟩) 2 2, .slice la NP lc, .slice (some ⟨WQ.heap.size + 1, 0, none⟩) 1 1] 51 (0, 0)) := by rw [← hX3]; exact h3c
  rw [hX3] at bX3
  have one35 : f35.oneCell' = true := by rw [hf35]; rfl
  have ones : fs.oneCell' = true := by rw [hfs]; rfl
  have hgw := HW.out.2.2.2.2.2.2.1
  have hbw := HW.out.2.2.2.2.2.2.2
  have hw8s := HW.out.2.2.1.size
  have hobs : ∀ A' : Nat → Prop, (∀ k, w.heap.size ≤ k → k < WQ.heap.size → ¬ A' k) → Fv A' g b WQ vals (layA pc (List.replicate mm 0#8)) := fun A' hA' => by
    have hok : ∀ k, w.heap.size ≤ k → k < WQ.heap.size → Ok A' g b WQ k := fun k h1 h2 => ⟨h2, by omega, by omega, hA' k h1 h2⟩
    refine hfv A' b (fun k h1 h2 => hok k (by omega) h2) ⟨(fun e => by cases e), fun a ha j x hx => ?_⟩
    injection ha with ha
    subst ha
    refine ⟨hok q.2 (by omega) (Array.getElem?_eq_some_iff.1 i7.row).1, ?_⟩
    have hjl := (List.getElem?_eq_some_iff.1 hx).1
    rw [add_zero_mid, i7.cell hjl]
    congr 2
    rw [List.getElem?_eq_getElem hjl] at hx
    exact Option.some.inj hx
  have sv : Srow X3 la NP vals := (srow_own ho (hobs (fun _ => False) (fun _ _ _ h => h)).one).below bX3
  have HC := concat36 [(some ⟨WQ.heap.size, 0, none⟩, 2, 2, [f35, fs]), (la, NP, lc, vals), (some ⟨WQ.heap.size + 1, 0, none⟩, 1, 1, [fs])] (WQ.heap.size + 2) X3 (src3s k3c) (by
    intro x hx
    simp only [List.mem_cons, List.not_mem_nil, or_false] at hx
    rcases hx with rfl | rfl | rfl
    · exact srow_cells k3a rfl rfl (by simp [one35, ones])
    · exact sv
    · exact srow_cells k3b rfl rfl (by simp [ones])) (by show 2 + (NP + (1 + 0)) ≤ 100000; omega) 3 rfl (by omega)
  have HX := Lib.hid (And.intro bX3 (And.intro k3a (And.intro k3b hobs)))
  have HF := Lib.hid (And.intro hf35 (And.intro hfs (And.intro hX3 hNPe)))
  clear i1 i1' hf35 hfs hX3 i2 i3 i4 i5 i6 i7 bS hml ho hfv hNPe bX3 k3a k3b k3c h3a h3b h3c sv hobs one35 ones hgw hbw hw8s
  have hx0 := (KEY.out _ HV.out.2.2.2.2.2.2.2).1
  have hx1 := cell_below hx0 ((Below.refl WQ.heap.size WQ).alloc (Nat.le_refl _) (.cells #[.func (.func 35) #[] #[.pointer (some ⟨qd, 0, none⟩), .pointer (some ⟨qp, 0, none⟩)], .func (.func 25) #[.pointer (some ⟨g, 0, none⟩)] #[]] 68))
  go_wp2_with (first
    | (go_at_call 36; (rw [← HF.out.1, ← HF.out.2.1, show WQ.heap.size + 1 + 1 = WQ.heap.size + 2 from rfl, HF.out.2.2.1]); (with_reducible refine HC.mono ?_); rintro e w2 ⟨v2, rfl, o2, b2⟩; have HO := Lib.hid (And.intro o2 b2); clear o2 b2 HC))
  go_ret
  have bW := HV.out.2.2.2.2.2.2.2
  have b1 : Below w.heap.size w WQ := below_then HW.out.2.2.1 bW
  have b3 : Below w.heap.size w X3 := below_then b1 HX.out.1
  have b4 : Below WQ.heap.size WQ w2 := below_then HX.out.1 HO.out.2
  refine ⟨v2, _, _, rfl, own_le HO.out.1 b3.size, below_then b3 HO.out.2, fun A' hA' => ?_⟩
  have hs1 := b1.size
  have hs4 := b4.size
  have hgw := HW.out.2.2.2.2.2.2.1
  have hbw := HW.out.2.2.2.2.2.2.2
  have hk : ∀ k, w.heap.size ≤ k → k < w2.heap.size → Ok A' g b w2 k := fun k h1 h2 => ⟨h2, by omega, by omega, hA' k h1 h2⟩
  have hq1 := HW.out.2.2.2.1
  have hq2 := HW.out.2.2.2.2.1
  have hq3 := HW.out.2.2.2.2.2.1
  have hws := bW.size
  have s35 : Fs A' g b w2 f35 (.wr p []) := by
    have hc := KEY.out w2 (below_then bW b4)
    exact .inr (.inl ⟨rfl, qd, qp, HF.out.1, hk qd (by omega) (by omega), hk qp (by omega) (by omega), hc.1, hc.2⟩)
  have sS : Fs A' g b w2 fs .sy := HF.out.2.1
  have sV := (HX.out.2.2.2 A' (fun k h1 h2 => hA' k h1 (by omega))).frm (w' := w2) (Frm.of_below b4)
  have e1 : eraseA n p = [.wr p [], .sy] ++ layA pc (List.replicate mm 0#8) ++ [.sy] := by
    unfold eraseA; rw [HE.out.1, HE.out.2.1, HE.out.2.2.1]
  rw [e1]
  have e2 : flat [(some (⟨WQ.heap.size, 0, none⟩ : Addr), 2, 2, [f35, fs]), (la, NP, lc, vals), (some ⟨WQ.heap.size + 1, 0, none⟩, 1, 1, [fs])] = ([f35] ++ [fs]) ++ vals ++ [fs] := by simp [flat]
  rw [e2]
  exact (((fv_one s35).app (fv_one sS)).app sV).app (fv_one sS)
end
end Go.Proofs.Ytjabkfccfecmgaa
