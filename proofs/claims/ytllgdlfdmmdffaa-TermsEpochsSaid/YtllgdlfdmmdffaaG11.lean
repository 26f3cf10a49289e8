/- A range over what all leaves have: what a round leaves. -/
import Derived.Test.YtllgdlfdmmdffaaG10
namespace Go.Proofs.Ytllgdlfdmmdffaa
open Go.ChangeShapes Go.WideShapes Go.ChangeAt Go.RowKit Go.MapKept Go.ChangeMaps
set_option linter.unusedSimpArgs false
set_option linter.unusedVariables false
section
variable {w0 w w' : World} {p t h : Nat} {m : Md} {c c' : Nat → Value} {mb : Nat → Nat}
theorem kn_kc {kv ev : Value} (k : KC w w') : KN kv ev w kv ev w' := fun i cs f h1 h2 h3 => ⟨k.block _ _ _ _ h1, h2, h3⟩
/-- Cells and maps stay. -/
theorem Gp.kcm (G : Gp w0 w p m t h c mb) (k : KC w w') (km : KM w w') (b : Below w0.heap.size w0 w') : Gp w0 w' p m t h c mb :=
  ⟨G.P.keep k b, G.tr.km km (kn_kc k), G.ha.km km, G.th, G.lt, G.lh⟩
/-- A range's block is written. -/
theorem it_kc {r : Nat} {b : Option Nat} {s : Nat} {seen : Array Nat} {n : Nat} (hr : w.heap[r]? = some (.mapIter b s seen n)) (o : Obj) : KC w (setBlock w r o) := ⟨rfl, rfl, rfl, by rw [set_size]; exact Nat.le_refl _, fun k cs t f x => by
  show (w.heap.setIfInBounds r o)[k]? = _
  rw [Array.getElem?_setIfInBounds_ne (fun e => by rw [e, x] at hr; cases hr)]
  exact x⟩
theorem it_km {r : Nat} {b : Option Nat} {s : Nat} {seen : Array Nat} {n : Nat} (hr : w.heap[r]? = some (.mapIter b s seen n)) (o : Obj) : KM w (setBlock w r o) := fun k es cl x => by
  show (w.heap.setIfInBounds r o)[k]? = _
  rw [Array.getElem?_setIfInBounds_ne (fun e => by rw [e, x] at hr; cases hr)]
  exact x
theorem it_same {r : Nat} {b : Option Nat} {s : Nat} {seen : Array Nat} {n : Nat} (hr : w.heap[r]? = some (.mapIter b s seen n)) (o : Obj) : (setBlock w r o).heap[r]? = some o := by
  have := (Array.getElem?_eq_some_iff.1 hr).1
  show (w.heap.setIfInBounds r o)[r]? = _
  simp [this]
theorem km_drew (w : World) : KM w w.drew := fun _ _ _ h => h
theorem Gp.congr {w0 w : World} {p t h : Nat} {m m' : Md} {c : Nat → Value} {mb : Nat → Nat} (G : Gp w0 w p m t h c mb) (h1 : m'.many = m.many) (h2 : m'.Rs = m.Rs) (h3 : m'.Kn = m.Kn) (h4 : m'.Ep = m.Ep) (h5 : m'.ins = m.ins) (h6 : m'.init = m.init) (h7 : m'.T = m.T) (h8 : ∀ l, l < 8 → m.ins l = true → m'.H l = m.H l) : Gp w0 w p m' t h c mb := by
  refine ⟨by rw [h1, h2, h3, h4, h5, h6]; exact G.P, by rw [h7]; exact G.tr, ⟨by rw [h5]; exact G.ha.out, fun l hl hi => ?_, by rw [h5]; exact G.ha.inj⟩, G.th, G.lt, G.lh⟩
  rw [h5] at hi
  rw [h8 l hl hi]
  exact G.ha.bs l hl hi
theorem setL_setL {α : Type} (f : Nat → α) (l : Nat) (a b : α) : setL (setL f l a) l b = setL f l b := by
  funext j
  unfold setL
  split <;> rfl
/-- What some leaves have is other than it was. -/
def dnH (H : Nat → Int → Option Int) (l k : Nat) (keys : Int → Option Int) (dn : Nat → Bool) : Nat → Int → Option Int := fun j => if dn j = true then hasS l k j keys (H j) else H j
/-- A range over what all leaves have, on its way: the leaves of seen entries have what comes of this node. -/
structure Rng (w0 wx : World) (p : Nat) (M : Md) (t h : Nat) (c : Nat → Value) (mb : Nat → Nat) (mk l k : Nat) (keys : Int → Option Int) (es : Array MapEntry) (cl rr since : Nat) (seen : Array Nat) (wp : World) : Prop where
  G : ∃ dn, Gp w0 wx p { M with H := dnH M.H l k keys dn } t h c mb ∧ ∀ x ∈ es.toList, ∀ j : Nat, x.key = .int .i64 (j : Int) → dn j = seen.contains x.born
  out : wx.heap[h]? = some (.map es cl)
  it : ∃ c0, since ≤ c0 ∧ wx.heap[rr]? = some (.mapIter (some h) since seen c0)
  ks : In1 wx mk keys
  kc : KC wp wx
/-- What stays during a range. -/
structure Rns (w0 : World) (M : Md) (t h : Nat) (mb : Nat → Nat) (mk : Nat) (es : Array MapEntry) (cl rr since : Nat) : Prop where
  mo : Mo es cl
  mp : Mp es (inM M.ins mb) (fun b v => v = .map (some b))
  old : ∀ x ∈ es.toList, x.born < since
  lo : w0.heap.size ≤ rr
  sc : since ≤ cl
  nt : mk ≠ t
  nh : mk ≠ h
  nm : ∀ j, j < 8 → M.ins j = true → mk ≠ mb j
theorem inM_some {ins : Nat → Bool} {mb : Nat → Nat} {k : Int} {b : Nat} (h : inM ins mb k = some b) : ∃ j : Nat, k = (j : Int) ∧ j < 8 ∧ ins j = true ∧ b = mb j := by
  unfold inM at h
  split at h
  · rename_i h1
    injection h with h
    exact ⟨k.toNat, by omega, by omega, h1.2.2, h.symm⟩
  · cases h
variable {M : Md} {mk l k : Nat} {keys : Int → Option Int} {es : Array MapEntry} {cl rr since : Nat} {seen : Array Nat} {wp wx : World}
/-- The end of a range. -/
theorem Rng.done (R : Rng w0 wx p M t h c mb mk l k keys es cl rr since seen wp) (S : Rns w0 M t h mb mk es cl rr since) (h0 : (leftOf es seen).size = 0) : Gp w0 wx p { M with H := fun j => if M.ins j = true then hasS l k j keys (M.H j) else M.H j } t h c mb := by
  obtain ⟨dn, G, hd⟩ := R.G
  refine G.congr rfl rfl rfl rfl rfl rfl rfl fun j hj hi => ?_
  have hi : M.ins j = true := hi
  have hM : inM M.ins mb (j : Int) = some (mb j) := by unfold inM; rw [if_pos ⟨by omega, by omega, by simpa using hi⟩]; simp
  obtain ⟨x, hx, e, _⟩ := S.mp.yes _ _ hM
  have h1 := hd x hx j e
  rw [all_seen es seen h0 x hx] at h1
  show (if M.ins j = true then hasS l k j keys (M.H j) else M.H j) = dnH M.H l k keys dn j
  unfold dnH
  rw [if_pos hi, if_pos h1]
/-- The next entry, and what deleting and storing leave. -/
theorem Rng.step (R : Rng w0 wx p M t h c mb mk l k keys es cl rr since seen wp) (S : Rns w0 M t h mb mk es cl rr since) {e : MapEntry} (he : e ∈ (leftOf es seen).toList) {w1 : World} (hw : w1 = wx ∨ w1 = wx.drew) :
    ∃ j : Nat, e.key = .int .i64 (j : Int) ∧ e.val = .map (some (mb j)) ∧ j < 8 ∧
      (∃ wy, wy = setBlock w1 rr (.mapIter (some h) since (seen.push e.born) cl) ∧ (Instr.entry (.pointer (some ⟨rr, 0, none⟩))).run Try.prog wy = .ok (.tuple #[.int .i64 (j : Int), .map (some (mb j))]) wy ∧
        ∃ wd, (∀ ty t2, (Builtin.delete_ #[66, t2] ty #[.map (some (mb j)), .int .i64 (upn l k)]).run Try.prog wy = .ok (.tuple #[]) wd) ∧
          ((keys (upn l k) = none ∨ ovr l k j = false) → Rng w0 wd p M t h c mb mk l k keys es cl rr since (seen.push e.born) wp) ∧
          (∀ key, keys (upn l k) = some key → ovr l k j = true → ∃ wu, (Instr.mapUpdate 66 (.map (some (mb j))) (.int .i64 (upn l k)) (.int .i64 key)).run Try.prog wd = .ok () wu ∧ Rng w0 wu p M t h c mb mk l k keys es cl rr since (seen.push e.born) wp)) := by
  obtain ⟨hem, hes⟩ := mem_left he
  obtain ⟨kk, b, hk, hb, hv⟩ := S.mp.mem S.mo hem
  obtain ⟨j, rfl, hj, hi, rfl⟩ := inM_some hb
  obtain ⟨dn, G, hd⟩ := R.G
  obtain ⟨c0, hc0, hit⟩ := R.it
  have hit1 : w1.heap[rr]? = some (.mapIter (some h) since seen c0) := by rcases hw with rfl | rfl <;> exact hit
  have k1 : KC wx w1 := by rcases hw with rfl | rfl; exact KC.refl _; exact kc_drew _
  have m1 : KM wx w1 := by rcases hw with rfl | rfl; exact KM.refl _; exact km_drew _
  have b1 : Below w0.heap.size wx w1 := by rcases hw with rfl | rfl; exact Below.refl _ _; exact (Below.refl _ _).drew
  have kx := k1.trans (it_kc hit1 (.mapIter (some h) since (seen.push e.born) cl))
  have mx := m1.trans (it_km hit1 (.mapIter (some h) since (seen.push e.born) cl))
  have hdj : dn j = false := by rw [hd e hem j hk]; exact hes
  have bx : Below w0.heap.size w0 (setBlock w1 rr (.mapIter (some h) since (seen.push e.born) cl)) := (G.P.bl.trans b1).trans ⟨rfl, rfl, rfl, by rw [set_size]; exact Nat.le_refl _, fun i hi => by
    show (w1.heap.setIfInBounds rr _)[i]? = w1.heap[i]?
    rw [Array.getElem?_setIfInBounds_ne (by have := S.lo; omega)]⟩
  have GX := G.kcm kx mx bx
  have hity := it_same hit1 (.mapIter (some h) since (seen.push e.born) cl)
  have hout := mx _ _ _ R.out
  have hks := R.ks.km mx
  have kc := R.kc.trans kx
  refine ⟨j, hk, hv, hj, _, rfl, ?_, ?_⟩
  · have := run_entry_at (P := Try.prog) _ rr h since seen es cl e hity hout hem S.mo.nd
    rw [hk, hv] at this
    exact this
  generalize setBlock w1 rr (.mapIter (some h) since (seen.push e.born) cl) = wy at kx mx bx GX hity hout hks kc
  obtain ⟨q1, q2, q3, es1, cl1, u1, u2, u3⟩ := GX.ha.bs j hj hi
  have u3 : Mp es1 (M.H j) (fun z v => v = .int .i64 z) := by
    have e2 : dnH M.H l k keys dn j = M.H j := by unfold dnH; rw [if_neg (by rw [hdj]; simp)]
    rw [← e2]; exact u3
  obtain ⟨es2, r2, o2, p2⟩ := mp_del (T := 66) Try.underlying66 u1 u2 u3 (upn l k)
  have nmr : mb j ≠ rr := fun e2 => by rw [e2, hity] at u1; cases u1
  have GD := GX.setM hj hi u1 o2 p2
  have hd2 : ∀ x ∈ es.toList, ∀ i : Nat, x.key = .int .i64 (i : Int) → setL dn j true i = (seen.push e.born).contains x.born := fun x hx i hki => by
    by_cases ei : i = j
    · subst ei
      have : x = e := pair_key S.mo.one hx hem (hki.trans hk.symm)
      subst this
      simp [setL]
    · have hne : x.born ≠ e.born := fun eb => by
        have := nodup_inj S.mo.nd hx hem eb
        rw [this, hk] at hki
        injection hki with _ hki
        omega
      simp only [setL, if_neg ei]
      rw [hd x hx i hki]
      simp [hne]
  have hset : ∀ (F : Int → Option Int), F = hasS l k j keys (M.H j) → setL (dnH M.H l k keys dn) j F = dnH M.H l k keys (setL dn j true) := fun F hF => by
    funext i
    by_cases ei : i = j
    · subst ei
      unfold dnH setL
      rw [if_pos rfl, if_pos (if_pos rfl), hF]
    · unfold dnH setL
      rw [if_neg ei, if_neg ei]
  have hitd := (set_other u1 (.map es2 cl1) (fun x => nmr x.symm)).trans hity
  have houtd := (set_other u1 (.map es2 cl1) (fun x => q2 x.symm)).trans hout
  have hksd := hks.set u1 (.map es2 cl1) (S.nm j hj hi)
  have kcd := kc.trans (set_kc u1 (.map es2 cl1))
  refine ⟨_, r2, fun hn => ⟨⟨setL dn j true, ?_, hd2⟩, houtd, ⟨cl, S.sc, hitd⟩, hksd, kcd⟩, fun key hkey hov => ?_⟩
  · rw [← hset (upd (M.H j) (upn l k) none) (by
      unfold hasS
      rcases hn with hn | hn
      · rw [hn]; simp
      · rw [hn]; simp)]
    exact GD
  · obtain ⟨es3, cl3, r3, o3, p3⟩ := mp_upd (T := 66) Try.underlying66 (set_same u1 (.map es2 cl1)) o2 p2 (upn l k) key (.int .i64 key) rfl
    have GU := GD.setM hj hi (set_same u1 (.map es2 cl1)) o3 p3
    refine ⟨_, r3, ⟨setL dn j true, ?_, hd2⟩, (set_other (set_same u1 (.map es2 cl1)) (.map es3 cl3) (fun x => q2 x.symm)).trans houtd, ⟨cl, S.sc, (set_other (set_same u1 (.map es2 cl1)) (.map es3 cl3) (fun x => nmr x.symm)).trans hitd⟩, hksd.set (set_same u1 (.map es2 cl1)) (.map es3 cl3) (S.nm j hj hi), kcd.trans (set_kc (set_same u1 (.map es2 cl1)) (.map es3 cl3))⟩
    · rw [← hset (upd (upd (M.H j) (upn l k) none) (upn l k) (some key)) (by
        unfold hasS
        rw [hov, if_pos rfl, hkey]
        funext i
        unfold upd
        split <;> rfl)]
      have GU2 := GU
      dsimp only at GU2
      rw [setL_setL] at GU2
      exact GU2
end
end Go.Proofs.Ytllgdlfdmmdffaa
