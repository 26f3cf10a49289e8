/- The law for drawn regions whose operations write, where what a value leaves is said of the operations that are done. -/
import Derived.Test.YtllgdlfdmmdffaaM2
namespace Go.Proofs.Ytllgdlfdmmdffaa

set_option linter.unusedSimpArgs false
section
variable {P : Program} {ops : Array Oper}
theorem mono_anyP {n g : Nat} {Q : Exit → Act → World → Prop} {S : (Nat → Bool) → World → Prop} {R : Nat → World → World → Prop} {V : (Nat → Bool) → Nat → Value → World → Prop} {a0 : Act} (hn : n ≤ ops.size) (hF : MonoFacts ops a0.tmps.size)
    (hVR : ∀ L k i v w w', k ≠ i → Closed ops L → Closed ops (fun j => j == k || L j) → L k = false → L i = true → V L i v w → R k w w' → V (fun j => j == k || L j) i v w') (hVI : ∀ L i v w, L i = false → V L i v w → V (fun j => j == i || L j) i v w) (hst : ∀ i o, i < n → ops[i]? = some o → ∀ L, Closed ops L → L i = false → StepAt P ops Q (S L) (fun w w' => S (fun j => j == i || L j) w' ∧ R i w w') (V L) a0 i o ((List.range i).filter (needs ops o)))
    (htail : ∀ listed i t, HeadInv .any ops n listed → i < n → listed.getD i false = false → t ∈ Region.ready .any ops listed → t < n)
    (hdone : ∀ vs w listed, S (fun j => listed.getD j false) w → (∀ i, i < n → V (fun j => listed.getD j false) i (vs i) w) → HeadInv .any ops n listed → (∀ j, j < n → listed.getD j false = true) → wpAny P .any ops Q g listed (fill ops vs (fun _ => true) n a0) w) :
    ∀ (f : Nat) (listed : Array Bool) (vs : Nat → Value) (w : World), HeadInv .any ops n listed → un listed n = f → S (fun j => listed.getD j false) w → (∀ j, j < n → listed.getD j false = true → V (fun j => listed.getD j false) j (vs j) w) →
      wpAny P .any ops Q (f + g) listed (fill ops vs (fun j => listed.getD j false) n a0) w := by
  intro f
  induction f with
  | zero =>
    intro listed vs w inv hc hS hV
    rw [Nat.zero_add, fill_congr (vs' := vs) (L' := fun _ => true) fun j hj => ⟨un_zero hc j hj, rfl⟩]
    exact hdone vs w listed hS (fun i hi => hV i hi (un_zero hc i hi)) inv (un_zero hc)
  | succ f ih =>
    intro listed vs w inv hc hS hV
    rw [show f + 1 + g = (f + g) + 1 by omega]
    obtain ⟨j0, hj0, hl0⟩ := un_pos hc
    have hsz := inv.size
    refine ⟨fun hr => ?_, fun i hi => ?_⟩
    · exfalso
      have all : ∀ m, m ≤ n → ∀ j, j < m → listed.getD j false = true := by
        intro m
        induction m with
        | zero => intro _ j hj; omega
        | succ m ihm =>
          intro hm j hj
          have ihm := ihm (by omega)
          rcases Nat.lt_or_ge j m with h | h
          · exact ihm j h
          obtain rfl : j = m := by omega
          cases hl : listed.getD j false with
          | true => rfl
          | false =>
            have hj' : j < ops.size := by omega
            have : j ∈ Region.ready .any ops listed := by
              rw [mem_ready]
              refine ⟨?_, ops[j], Array.getElem?_eq_getElem hj', fun e he hb => ?_⟩
              · have hj2 : j < listed.size := by omega
                simpa [hj2] using hl
              · exact ihm _ (hF.low j _ e.on (Array.getElem?_eq_getElem hj') (waits_iff.2 ⟨e, he, hb, rfl⟩))
            rw [hr] at this; cases this
      rw [all n (Nat.le_refl _) j0 hj0] at hl0
      cases hl0
    have hin : i < n := htail listed j0 i inv hj0 hl0 hi
    have inv' := inv.set hi hin
    obtain ⟨h0, o, ho, hall⟩ := mem_ready.1 hi
    have his : i < ops.size := (Array.getElem?_eq_some_iff.1 ho).1
    have hil : i < listed.size := by omega
    have hLi : listed.getD i false = false := by simpa [hil] using h0
    have hw : ∀ j, waits o j = true → listed.getD j false = true := fun j hj => by
      obtain ⟨e, he, hb, rfl⟩ := waits_iff.1 hj
      exact hall e he hb
    have hsame : Same (o.looksAt ops) (fill ops vs (fun j => listed.getD j false) n a0) (puts ops vs ((List.range i).filter (needs ops o)) a0) := by
      rw [← needs_low hF ho n (by omega), ← fill_puts]
      refine fill_same vs _ _ _ _ (fun j _ hj => ?_) (fun j hj hl hnn d hd hm => ?_)
      · unfold needs at hj
        rw [Bool.and_eq_true] at hj
        exact hw j hj.1
      · have hji : j ≠ i := fun e => by rw [e] at hl; rw [hl] at hLi; cases hLi
        have hlk : looks ops o j = true := by unfold looks; rw [hd]; simpa using hm
        have h1 : waits o j = false := by
          unfold needs at hnn
          rw [hlk, Bool.and_true] at hnn
          exact hnn
        have hjs : j < ops.size := by omega
        have h2 : waits ops[j] i = false := by
          cases h : waits ops[j] i with
          | false => rfl
          | true =>
            obtain ⟨e, he, hb, hon⟩ := waits_iff.1 h
            have := inv.closed j ops[j] (Array.getElem?_eq_getElem hjs) hl e he hb
            rw [hon, hLi] at this; cases this
        have := hF.ind i j o ops[j] ho (Array.getElem?_eq_getElem hjs) hji h1 h2
        rw [this] at hlk; cases hlk
    have hst := hst i o hin ho (fun j => listed.getD j false) (fun j oj hoj hl e he => by obtain ⟨e2, h1, h2, h3⟩ := waits_iff.1 he; subst h3; exact inv.closed j oj hoj hl e2 h1 h2) hLi vs w hS (fun j hj => by
      simp only [List.mem_filter, List.mem_range] at hj
      refine hV j (by omega) (hw j ?_)
      have := hj.2
      unfold needs at this
      rw [Bool.and_eq_true] at this
      exact this.1)
    have hcnt : un (listed.setIfInBounds i true) n = f := by
      have := un_set hil hLi n
      rw [if_pos hin, hc] at this
      omega
    have hgd : ∀ j, (listed.setIfInBounds i true).getD j false = (j == i || listed.getD j false) := fun j => by
      by_cases e : j = i
      · subst e; simp [hil]
      · rw [getD_set_ne false (Ne.symm e)]; simp [e]
    have hdo : dstOf ops i = o.dst := by simp [dstOf, ho]
    have next : ∀ (v : Value) (w' : World), V (fun j => listed.getD j false) i v w' → (S (fun j => j == i || listed.getD j false) w' ∧ R i w w') → wpAny P .any ops Q (f + g) (listed.setIfInBounds i true) ((fill ops vs (fun j => listed.getD j false) n a0).put o.dst v) w' := fun v w' hv hr => by
      rw [← hdo, fill_put vs _ i v hLi a0 n hin (fun j d hj hne hd => hF.dne i j d his (by omega) hne hd)]
      rw [fill_congr (vs' := fun j => if j = i then v else vs j) (L' := fun j => (listed.setIfInBounds i true).getD j false) (fun j _ => ⟨(hgd j).symm, rfl⟩)]
      refine ih _ _ _ inv' hcnt ((congrArg (fun L => S L w') (funext hgd)).mpr hr.1) (fun j hj hl => ?_)
      rw [hgd] at hl
      rw [show (fun j => (listed.setIfInBounds i true).getD j false) = (fun j => j == i || listed.getD j false) from funext hgd]
      by_cases e : j = i
      · subst e; rw [if_pos rfl]; exact hVI _ _ _ _ hLi hv
      · have : listed.getD j false = true := by simpa [e] using hl
        simp only [e, if_false]
        exact hVR _ i j _ w w' (Ne.symm e) (fun j oj hoj hl e he => by obtain ⟨e2, h1, h2, h3⟩ := waits_iff.1 he; subst h3; exact inv.closed j oj hoj hl e2 h1 h2) (by rw [show (fun j => j == i || listed.getD j false) = (fun j => (listed.setIfInBounds i true).getD j false) from (funext hgd).symm]; exact fun j oj hoj hl e he => by obtain ⟨e2, h1, h2, h3⟩ := waits_iff.1 he; subst h3; exact inv'.closed j oj hoj hl e2 h1 h2) hLi this (hV j hj this) hr.2
    unfold wpOp
    rw [ho]
    simp only
    rw [wanted_same hsame]
    have H := hst (fun x w' => ∃ v, x = (puts ops vs ((List.range i).filter (needs ops o)) a0).put o.dst v ∧ V (fun j => listed.getD j false) i v w' ∧ (S (fun j => j == i || listed.getD j false) w' ∧ R i w w')) (fun v w' h1 h2 => ⟨v, rfl, h1, h2⟩)
    have hd : ∀ t, o.dst = some t → t < (puts ops vs ((List.range i).filter (needs ops o)) a0).tmps.size := fun t ht => by
      rw [← needs_low hF ho n (by omega), ← fill_puts, fill_size]
      exact hF.dst i t (by rw [hdo, ht])
    split
    · rename_i hwt
      rw [if_pos hwt] at H
      left
      unfold Oper.wp at H
      have H2 := upon_same (a := fill ops vs (fun j => listed.getD j false) n a0) (W := fun v w' => V (fun j => listed.getD j false) i v w' ∧ (S (fun j => j == i || listed.getD j false) w' ∧ R i w w')) hd H
      have H3 : Oper.wp P o (fill ops vs (fun j => listed.getD j false) n a0) w (fun x w' => ∃ v, x = (fill ops vs (fun j => listed.getD j false) n a0).put o.dst v ∧ V (fun j => listed.getD j false) i v w' ∧ (S (fun j => j == i || listed.getD j false) w' ∧ R i w w')) Q := by
        unfold Oper.wp
        rw [execOp_congr o (fun cs b => Region.noSelect_spec hF.sel i o cs b ho) (fun x hx => eval_same hsame x hx)]
        exact H2
      exact Oper.wp_mono (fun x w' ⟨v, e, h1, h2⟩ => by rw [e]; exact next v w' h1 h2) H3
    · rename_i hwt
      rw [if_neg hwt] at H
      obtain ⟨v, e, h1, h2⟩ := H
      rcases put_inj hd e with h | h
      · have := next v w h1 h2
        rw [h] at this ⊢
        exact this
      · rw [h]; exact next v w h1 h2


def StepsP (P : Program) (ops : Array Oper) (Q : Exit → Act → World → Prop) (S : (Nat → Bool) → World → Prop) (R : Nat → World → World → Prop) (V : (Nat → Bool) → Nat → Value → World → Prop) (a0 : Act) (i : Nat) (l : List Oper) : Prop :=
  ∀ k o, l[k]? = some o → ∀ L, Closed ops L → L (i + k) = false → StepAt P ops Q (S L) (fun w w' => S (fun j => j == (i + k) || L j) w' ∧ R (i + k) w w') (V L) a0 (i + k) o ((List.range (i + k)).filter (needs ops o))
theorem StepsP.nil {Q : Exit → Act → World → Prop} {S : (Nat → Bool) → World → Prop} {R : Nat → World → World → Prop} {V : (Nat → Bool) → Nat → Value → World → Prop} {a0 : Act} {i : Nat} : StepsP P ops Q S R V a0 i [] := fun k o h => by simp at h
theorem StepsP.cons {Q : Exit → Act → World → Prop} {S : (Nat → Bool) → World → Prop} {R : Nat → World → World → Prop} {V : (Nat → Bool) → Nat → Value → World → Prop} {a0 : Act} {i : Nat} {o : Oper} {l : List Oper}
    (h : ∀ L, Closed ops L → L i = false → StepAt P ops Q (S L) (fun w w' => S (fun j => j == i || L j) w' ∧ R i w w') (V L) a0 i o ((List.range i).filter (needs ops o))) (hs : StepsP P ops Q S R V a0 (i + 1) l) : StepsP P ops Q S R V a0 i (o :: l) := fun k o' hk => by
  cases k with
  | zero => simp at hk; subst hk; exact h
  | succ k => rw [show i + (k + 1) = i + 1 + k by omega]; exact hs k o' (by simpa using hk)
theorem StepsP.cons0 {Q : Exit → Act → World → Prop} {S : (Nat → Bool) → World → Prop} {R : Nat → World → World → Prop} {V : (Nat → Bool) → Nat → Value → World → Prop} {a0 : Act} {l : List Oper} {i : Nat} {o : Oper} 
    (hds : (List.range i).filter (needs ops o) = []) 
    (h : ∀ L, Closed ops L → L i = false → ∀ w, S L w →  ∀ K : Act → World → Prop, Shut (∀ v w', V L i v w' → (S (fun j => j == i || L j) w' ∧ R i w w') → K (a0.put o.dst v) w') →
      if Region.wanted o (yielded ops a0.tmps) = true then Oper.wp P o a0 w K (NoPanic Q) else K (a0.put o.dst undef) w)
    (hs : StepsP P ops Q S R V a0 (i + 1) l) : StepsP P ops Q S R V a0 i (o :: l) :=
  StepsP.cons (fun L hC hL => (StepsL.cons0 (l := [])  hds  (h L hC hL) StepsL.nil : StepsL P ops Q (S L) (fun w w' => S (fun j => j == i || L j) w' ∧ R i w w') (V L) a0 i [o]) 0 o rfl) hs
theorem StepsP.cons1 {Q : Exit → Act → World → Prop} {S : (Nat → Bool) → World → Prop} {R : Nat → World → World → Prop} {V : (Nat → Bool) → Nat → Value → World → Prop} {a0 : Act} {l : List Oper} {i : Nat} {o : Oper} (j0 : Nat) (d0 : Option Tmp)
    (hds : (List.range i).filter (needs ops o) = [j0]) (h0 : dstOf ops j0 = d0)
    (h : ∀ L, Closed ops L → L i = false → ∀ w, S L w → ∀ x0, V L j0 x0 w → ∀ K : Act → World → Prop, Shut (∀ v w', V L i v w' → (S (fun j => j == i || L j) w' ∧ R i w w') → K ((a0.put d0 x0).put o.dst v) w') →
      if Region.wanted o (yielded ops (a0.put d0 x0).tmps) = true then Oper.wp P o (a0.put d0 x0) w K (NoPanic Q) else K ((a0.put d0 x0).put o.dst undef) w)
    (hs : StepsP P ops Q S R V a0 (i + 1) l) : StepsP P ops Q S R V a0 i (o :: l) :=
  StepsP.cons (fun L hC hL => (StepsL.cons1 (l := []) j0 d0 hds h0 (h L hC hL) StepsL.nil : StepsL P ops Q (S L) (fun w w' => S (fun j => j == i || L j) w' ∧ R i w w') (V L) a0 i [o]) 0 o rfl) hs
theorem StepsP.cons2 {Q : Exit → Act → World → Prop} {S : (Nat → Bool) → World → Prop} {R : Nat → World → World → Prop} {V : (Nat → Bool) → Nat → Value → World → Prop} {a0 : Act} {l : List Oper} {i : Nat} {o : Oper} (j0 : Nat) (d0 : Option Tmp) (j1 : Nat) (d1 : Option Tmp)
    (hds : (List.range i).filter (needs ops o) = [j0, j1]) (h0 : dstOf ops j0 = d0) (h1 : dstOf ops j1 = d1)
    (h : ∀ L, Closed ops L → L i = false → ∀ w, S L w → ∀ x0, V L j0 x0 w → ∀ x1, V L j1 x1 w → ∀ K : Act → World → Prop, Shut (∀ v w', V L i v w' → (S (fun j => j == i || L j) w' ∧ R i w w') → K (((a0.put d0 x0).put d1 x1).put o.dst v) w') →
      if Region.wanted o (yielded ops ((a0.put d0 x0).put d1 x1).tmps) = true then Oper.wp P o ((a0.put d0 x0).put d1 x1) w K (NoPanic Q) else K (((a0.put d0 x0).put d1 x1).put o.dst undef) w)
    (hs : StepsP P ops Q S R V a0 (i + 1) l) : StepsP P ops Q S R V a0 i (o :: l) :=
  StepsP.cons (fun L hC hL => (StepsL.cons2 (l := []) j0 d0 j1 d1 hds h0 h1 (h L hC hL) StepsL.nil : StepsL P ops Q (S L) (fun w w' => S (fun j => j == i || L j) w' ∧ R i w w') (V L) a0 i [o]) 0 o rfl) hs
theorem StepsP.cons3 {Q : Exit → Act → World → Prop} {S : (Nat → Bool) → World → Prop} {R : Nat → World → World → Prop} {V : (Nat → Bool) → Nat → Value → World → Prop} {a0 : Act} {l : List Oper} {i : Nat} {o : Oper} (j0 : Nat) (d0 : Option Tmp) (j1 : Nat) (d1 : Option Tmp) (j2 : Nat) (d2 : Option Tmp)
    (hds : (List.range i).filter (needs ops o) = [j0, j1, j2]) (h0 : dstOf ops j0 = d0) (h1 : dstOf ops j1 = d1) (h2 : dstOf ops j2 = d2)
    (h : ∀ L, Closed ops L → L i = false → ∀ w, S L w → ∀ x0, V L j0 x0 w → ∀ x1, V L j1 x1 w → ∀ x2, V L j2 x2 w → ∀ K : Act → World → Prop, Shut (∀ v w', V L i v w' → (S (fun j => j == i || L j) w' ∧ R i w w') → K ((((a0.put d0 x0).put d1 x1).put d2 x2).put o.dst v) w') →
      if Region.wanted o (yielded ops (((a0.put d0 x0).put d1 x1).put d2 x2).tmps) = true then Oper.wp P o (((a0.put d0 x0).put d1 x1).put d2 x2) w K (NoPanic Q) else K ((((a0.put d0 x0).put d1 x1).put d2 x2).put o.dst undef) w)
    (hs : StepsP P ops Q S R V a0 (i + 1) l) : StepsP P ops Q S R V a0 i (o :: l) :=
  StepsP.cons (fun L hC hL => (StepsL.cons3 (l := []) j0 d0 j1 d1 j2 d2 hds h0 h1 h2 (h L hC hL) StepsL.nil : StepsL P ops Q (S L) (fun w w' => S (fun j => j == i || L j) w' ∧ R i w w') (V L) a0 i [o]) 0 o rfl) hs
theorem StepsP.cons4 {Q : Exit → Act → World → Prop} {S : (Nat → Bool) → World → Prop} {R : Nat → World → World → Prop} {V : (Nat → Bool) → Nat → Value → World → Prop} {a0 : Act} {l : List Oper} {i : Nat} {o : Oper} (j0 : Nat) (d0 : Option Tmp) (j1 : Nat) (d1 : Option Tmp) (j2 : Nat) (d2 : Option Tmp) (j3 : Nat) (d3 : Option Tmp)
    (hds : (List.range i).filter (needs ops o) = [j0, j1, j2, j3]) (h0 : dstOf ops j0 = d0) (h1 : dstOf ops j1 = d1) (h2 : dstOf ops j2 = d2) (h3 : dstOf ops j3 = d3)
    (h : ∀ L, Closed ops L → L i = false → ∀ w, S L w → ∀ x0, V L j0 x0 w → ∀ x1, V L j1 x1 w → ∀ x2, V L j2 x2 w → ∀ x3, V L j3 x3 w → ∀ K : Act → World → Prop, Shut (∀ v w', V L i v w' → (S (fun j => j == i || L j) w' ∧ R i w w') → K (((((a0.put d0 x0).put d1 x1).put d2 x2).put d3 x3).put o.dst v) w') →
      if Region.wanted o (yielded ops ((((a0.put d0 x0).put d1 x1).put d2 x2).put d3 x3).tmps) = true then Oper.wp P o ((((a0.put d0 x0).put d1 x1).put d2 x2).put d3 x3) w K (NoPanic Q) else K (((((a0.put d0 x0).put d1 x1).put d2 x2).put d3 x3).put o.dst undef) w)
    (hs : StepsP P ops Q S R V a0 (i + 1) l) : StepsP P ops Q S R V a0 i (o :: l) :=
  StepsP.cons (fun L hC hL => (StepsL.cons4 (l := []) j0 d0 j1 d1 j2 d2 j3 d3 hds h0 h1 h2 h3 (h L hC hL) StepsL.nil : StepsL P ops Q (S L) (fun w w' => S (fun j => j == i || L j) w' ∧ R i w w') (V L) a0 i [o]) 0 o rfl) hs
theorem StepsP.cons5 {Q : Exit → Act → World → Prop} {S : (Nat → Bool) → World → Prop} {R : Nat → World → World → Prop} {V : (Nat → Bool) → Nat → Value → World → Prop} {a0 : Act} {l : List Oper} {i : Nat} {o : Oper} (j0 : Nat) (d0 : Option Tmp) (j1 : Nat) (d1 : Option Tmp) (j2 : Nat) (d2 : Option Tmp) (j3 : Nat) (d3 : Option Tmp) (j4 : Nat) (d4 : Option Tmp)
    (hds : (List.range i).filter (needs ops o) = [j0, j1, j2, j3, j4]) (h0 : dstOf ops j0 = d0) (h1 : dstOf ops j1 = d1) (h2 : dstOf ops j2 = d2) (h3 : dstOf ops j3 = d3) (h4 : dstOf ops j4 = d4)
    (h : ∀ L, Closed ops L → L i = false → ∀ w, S L w → ∀ x0, V L j0 x0 w → ∀ x1, V L j1 x1 w → ∀ x2, V L j2 x2 w → ∀ x3, V L j3 x3 w → ∀ x4, V L j4 x4 w → ∀ K : Act → World → Prop, Shut (∀ v w', V L i v w' → (S (fun j => j == i || L j) w' ∧ R i w w') → K ((((((a0.put d0 x0).put d1 x1).put d2 x2).put d3 x3).put d4 x4).put o.dst v) w') →
      if Region.wanted o (yielded ops (((((a0.put d0 x0).put d1 x1).put d2 x2).put d3 x3).put d4 x4).tmps) = true then Oper.wp P o (((((a0.put d0 x0).put d1 x1).put d2 x2).put d3 x3).put d4 x4) w K (NoPanic Q) else K ((((((a0.put d0 x0).put d1 x1).put d2 x2).put d3 x3).put d4 x4).put o.dst undef) w)
    (hs : StepsP P ops Q S R V a0 (i + 1) l) : StepsP P ops Q S R V a0 i (o :: l) :=
  StepsP.cons (fun L hC hL => (StepsL.cons5 (l := []) j0 d0 j1 d1 j2 d2 j3 d3 j4 d4 hds h0 h1 h2 h3 h4 (h L hC hL) StepsL.nil : StepsL P ops Q (S L) (fun w w' => S (fun j => j == i || L j) w' ∧ R i w w') (V L) a0 i [o]) 0 o rfl) hs
/-- The law: S says what holds of the world when the operations of L are done. -/
theorem region_monoP {id : Nat} {Q : Exit → Act → World → Prop} {a0 : Act} {w : World} {l : List Oper} (S : (Nat → Bool) → World → Prop) (R : Nat → World → World → Prop) (V : (Nat → Bool) → Nat → Value → World → Prop) (ds : List (Nat × Option Tmp))
    (hm : P.follows .mixedOrders = true) (hB : monoB l.toArray a0.tmps.size = true) (hds : ((List.range l.toArray.size).map fun j => (j, dstOf l.toArray j)) = ds)
    (hVR : ∀ L k i v w w', k ≠ i → Closed l.toArray L → Closed l.toArray (fun j => j == k || L j) → L k = false → L i = true → V L i v w → R k w w' → V (fun j => j == k || L j) i v w') (hVI : ∀ L i v w, L i = false → V L i v w → V (fun j => j == i || L j) i v w) (hS : S (fun _ => false) w.drew)
    (hst : StepsP P l.toArray Q S R V a0 0 l)
    (hdone : ∀ vs w L, S L w → (∀ i, i < l.length → L i = true) → (∀ i, i < l.length → V L i (vs i) w) → Q .normal (putl vs ds a0) w) : (Code.region id l.toArray true).wp P Q a0 w := by
  have H := mono_anyP (n := l.toArray.size) (g := 0) (Q := Q) (Nat.le_refl _) (monoB_facts hB) hVR hVI (fun i o _ ho => by
      have := hst i o (by simpa using ho)
      rw [Nat.zero_add] at this
      exact this) (fun listed i t inv _ _ ht => by
      obtain ⟨_, o, ho, _⟩ := mem_ready.1 ht
      exact (Array.getElem?_eq_some_iff.1 ho).1) (fun vs w listed hS hV inv hall => ⟨?_, ?_⟩) (l.toArray.size) (Array.replicate l.toArray.size false) (fun _ => undef) w.drew headInv0 (un_replicate _ _) (by
      have e : (fun j => (Array.replicate l.toArray.size false).getD j false) = (fun _ => false) := funext fun j => getD_replicate_false _ _
      rw [e]; exact hS)
      (fun j hj hl => by rw [getD_replicate_false] at hl; cases hl)
  · rw [fill_congr (vs' := fun _ => undef) (L' := fun _ => false) (fun j hj => ⟨getD_replicate_false _ _, rfl⟩), fill_puts, List.filter_eq_nil_iff.2 (by simp)] at H
    exact wp_region_any hm H
  · apply List.eq_nil_iff_forall_not_mem.2
    intro j hj
    obtain ⟨h0, o, ho, _⟩ := mem_ready.1 hj
    have hj2 := (Array.getElem?_eq_some_iff.1 ho).1
    have := hall j hj2
    rw [getD_both h0] at this
    cases this
  · rw [fill_puts, List.filter_eq_self.2 (fun _ _ => rfl), ← putl_puts, hds]
    exact hdone vs w _ hS (fun i hi => hall i (by simpa using hi)) fun i hi => hV i (by simpa using hi)
end
end Go.Proofs.Ytllgdlfdmmdffaa
