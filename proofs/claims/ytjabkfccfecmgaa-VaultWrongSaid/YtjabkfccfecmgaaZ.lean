/- A vault: Open and Put. -/
import Derived.Test.YtjabkfccfecmgaaY
namespace Go.Proofs.Ytjabkfccfecmgaa
open Go.ChangeShapes Go.WideShapes Go.ChangeAt Go.RowKit
set_option linter.unusedSimpArgs false
set_option linter.unusedVariables false
section
variable {A : Nat → Prop} {w w' : World} {g b n C : Nat} {d : DS} {B D : List Byte}
theorem Hw.read (hD : Dk A w g b n d) (hd0 : d.down = false) (hW : d.W = []) (hn : 4 ≤ n) (hn2 : n ≤ 100) {p c l : Nat} (hp : p < 2) (h : Hw n p (d.S p) c l) :
    Calls Try.prog 19 #[.pointer (some ⟨g, 0, none⟩), .int .i64 (p : Int)] w fun e w' => e = .returned (.tuple #[.agg #[.int .i64 (c : Int), .int .i64 (l : Int)], .bool true]) ∧ Below w.heap.size w w' := by
  rcases h with ⟨rfl, rfl, hz⟩ | ⟨h1, h2, h3, h4, h5⟩
  · exact read19z hD hd0 (by rw [hW]; exact Nat.zero_le _) hn hn2 p hp (by rw [hW]; exact hz)
  · refine (read19a hD hd0 (by rw [hW]; exact Nat.zero_le _) hn hn2 p c l hp h1 h2 (by omega) h4 (d.S p) (by rw [hW]; rfl) (by rw [h5]; exact hd_zs c l) (by rw [h5]; exact hd_take c l) h3).mono ?_
    rintro e w1 ⟨rfl, hb⟩
    exact ⟨by rw [h5]; simp, hb⟩
/-- Blocks that hold what waits. -/
def A76 (A : Nat → Prop) (w : World) : Nat → Prop := fun k => A k ∧ (k < w.heap.size → ∃ cs, w.heap[k]? = some (.cells cs 76 (0, 0)))
theorem Dk.a76 (h : Dk A w g b n d) : Dk (A76 A w) w g b n d := h.re fun k hk ha hc => ⟨ha, fun _ => hc⟩
theorem not76 {k : Nat} {cs : Array Value} {t : TypeId} {f : Nat × Nat} (h : w.heap[k]? = some (.cells cs t f)) (ht : t ≠ 76) : ¬ A76 A w k := fun e => by
  obtain ⟨cs', e⟩ := e.2 (Array.getElem?_eq_some_iff.1 h).1
  rw [h] at e
  injection e with e
  injection e with e1 e2
  exact ht e2
/-- What Open leaves. -/
structure OpK (A : Nat → Prop) (w : World) (g b n C : Nat) (B : List Byte) (d : DS) (A' : Nat → Prop) (d' : DS) (e : Ending) (w' : World) : Prop where
  sub : ∀ k, A' k → A k
  new : ∀ k, w'.heap.size ≤ k → A' k
  dk : Dk A' w' g b n d'
  frm : Frm A g b w w'
  W : d'.W = []
  kp : Kp n C B d'.S
  res : (d.fuse ≠ -1 ∧ d'.down = true ∧ d'.fuse = -1 ∧ e = .returned (.tuple #[.pointer none, .slice none 0 0, .int .i64 201])) ∨
    (d'.down = false ∧ -1 ≤ d'.fuse ∧ (d.fuse = -1 → d'.fuse = -1) ∧ (∀ k, d'.S k = d.S k ∨ (d'.S k = zs ∧ vst n C B k = zs)) ∧
      ∃ qv ao cap, e = .returned (.tuple #[.pointer (some ⟨qv, 0, none⟩), .slice ao B.length cap, .int .i64 0]) ∧ w.heap.size ≤ qv ∧ Ok A' g b w' qv ∧ w'.heap[qv]? = some (.cells #[.pointer (some ⟨g, 0, none⟩), .int .i64 (C : Int), .bool false] 57 (0, 0)) ∧ Obs A' g b w' ao B)
theorem openK (hD : Dk A w g b n d) (hA : ∀ k, w.heap.size ≤ k → A k) (hd0 : d.down = false) (hn : 4 ≤ n) (hn2 : n ≤ 100) (hW : d.W = []) (hK : Kp n C B d.S) (hC : C < 4611686018427387904) :
    Calls Try.prog 9 #[.pointer (some ⟨g, 0, none⟩)] w fun e w' => ∃ A' d', OpK A w g b n C B d A' d' e w' := by
  obtain ⟨cs, ls, hw, hgd, htc, htl, hers⟩ := hK.heads hC
  have hc : ∀ p, p < 2 → cs p < 4611686018427387904 ∧ ls p ≤ (n - 2) / 2 * 512 := fun p hp => by
    rcases hw p hp with ⟨h1, h2, _⟩ | ⟨_, h2, _, h4, _⟩
    · omega
    · exact ⟨h2, h4⟩
  have hz : ∀ p, p < 2 → cs p = 0 → ls p = 0 := fun p hp e => by
    rcases hw p hp with ⟨_, h2, _⟩ | ⟨h1, _⟩
    · exact h2
    · omega
  refine (open9 hD hA hd0 hn hn2 (by rw [hW]; exact Nat.zero_le _) cs ls (fun _ => true) (fun W p hp hb => (hw p hp).read (hD.below hb) hd0 hW hn hn2 hp) rfl rfl hc hz hgd).mono ?_
  rintro e w1 ⟨h1, h2, h3⟩
  rw [htc, htl] at h3
  rw [htc] at h1
  have hL : ∀ a ∈ ers n cs C 0 ++ ers n cs C 1, Va n a := fun a ha => by
    rcases List.mem_append.1 ha with ha | ha
    · exact ers_va hn (by omega) a ha
    · exact ers_va hn (by omega) a ha
  have hharm : ∀ p, p < 2 → ∀ a ∈ ers n cs C p, Harm n C a := fun p hp a ha => by
    unfold ers at ha
    split at ha
    · rename_i h
      exact eraseA_harm (fun hc0 => by rcases (hers p hp).1 h with e | e <;> omega) a ha
    · cases ha
  have hLh : ∀ a ∈ ers n cs C 0 ++ ers n cs C 1, Harm n C a := fun a ha => by
    rcases List.mem_append.1 ha with ha | ha
    · exact hharm 0 (by omega) a ha
    · exact hharm 1 (by omega) a ha
  have hvs : ∀ p, p < 2 → ∀ (S : Nat → Sct) k, app S (ers n cs C p) k = S k ∨ (app S (ers n cs C p) k = zs ∧ vst n C B k = zs) := fun p hp S k => by
    unfold ers
    split
    · rename_i h
      exact vst_erase hK.len ((hers p hp).1 h) hp k
    · exact .inl rfl
  have hl := run_law n (ers n cs C 0 ++ ers n cs C 1) d hd0 hD.fb.1 hL
  have hf0 : fin d.S d.W = d.S := by rw [hW]; rfl
  rw [hf0] at hl
  have hs := hD.lt
  have hbl := hD.sec.lt
  have hfs := h2.size
  refine ⟨A76 A w1, (er2 n cs C d).2, fun k e => e.1, fun k hk => ⟨hA k (by omega), fun e => by omega⟩, h1.a76, h2, ?_, ?_, ?_⟩
  · rcases hl with ⟨l1, ⟨k, l2⟩, l3⟩ | l1
    · rw [er2_ers, l2]
    · exact er2_W hW (by rw [er2_ers]; exact l1.1)
  · rcases hl with ⟨l1, ⟨k, l2⟩, l3⟩ | l1
    · rw [er2_ers, l2]
      exact hK.all fun a ha => hLh a (List.mem_of_mem_take ha)
    · have hw0 := er2_W (cs := cs) (C := C) (n := n) hW (by rw [er2_ers]; exact l1.1)
      rw [er2_ers] at hw0 ⊢
      have := l1.2.2.1
      rw [hw0] at this
      rw [show (runA n d (ers n cs C 0 ++ ers n cs C 1)).2.S = fin (runA n d (ers n cs C 0 ++ ers n cs C 1)).2.S [] from rfl, this]
      exact hK.all hLh
  · rcases h3 with ⟨l1, rfl⟩ | ⟨l1, qv, ao, cap, rfl, hg⟩
    · left
      rw [er2_ers] at l1
      rcases hl with ⟨_, ⟨k, l2⟩, l3⟩ | l4
      · rw [er2_ers, l2]; exact ⟨l3, rfl, rfl, rfl⟩
      · rw [l1] at l4; cases l4.1
    · right
      rw [er2_ers] at l1
      rcases hl with ⟨l4, _⟩ | ⟨_, l2, l3, l4, l5⟩
      · rw [l1] at l4; cases l4
      · have hw0 := er2_W (cs := cs) (C := C) (n := n) hW (by rw [er2_ers]; exact l1)
        have hkp : keptB n (er2 n cs C d).2 C B.length = B := by
          refine Kp.kept (C := C) (B := B) ?_ hw0
          rw [er2_ers] at hw0 ⊢
          rw [hw0] at l3
          rw [show (runA n d (ers n cs C 0 ++ ers n cs C 1)).2.S = fin (runA n d (ers n cs C 0 ++ ers n cs C 1)).2.S [] from rfl, l3]
          exact hK.all hLh
        have hby := hg.bys
        rw [hkp] at hby
        have hblk := hg.blk
        refine ⟨by rw [er2_ers]; exact l2, by rw [er2_ers]; exact l5, by rw [er2_ers]; exact l4, fun k => ?_, qv, ao, cap, rfl, hg.lt, ⟨(Array.getElem?_eq_some_iff.1 hblk).1, by have := hg.lt; omega, by have := hg.lt; omega, not76 hblk (by decide)⟩, hblk, hby.nil, fun a ha j x hx => ?_⟩
        · rw [er2_ers] at hw0 ⊢
          rw [hw0] at l3
          rw [show (runA n d (ers n cs C 0 ++ ers n cs C 1)).2.S = fin (runA n d (ers n cs C 0 ++ ers n cs C 1)).2.S [] from rfl, l3, app_app]
          rcases hvs 1 (by omega) (app d.S (ers n cs C 0)) k with e | e
          · rw [e]; exact hvs 0 (by omega) d.S k
          · exact .inr e
        · obtain ⟨r1, cs5, r2⟩ := hg.row a ha
          exact ⟨⟨(Array.getElem?_eq_some_iff.1 r2).1, by omega, by omega, not76 r2 (by decide)⟩, hby.cells a ha j x hx⟩
/-- What Put leaves. -/
structure PuK (A : Nat → Prop) (w : World) (g b n vb C : Nat) (B D : List Byte) (d : DS) (d' : DS) (e : Ending) (w' : World) : Prop where
  dk : Dk A w' g b n d'
  frm : Frm (fun k => A k ∨ k = vb) g b w w'
  W : d'.W = []
  res : (d.fuse ≠ -1 ∧ d'.down = true ∧ d'.fuse = -1 ∧ e = .returned (.int .i64 201) ∧ (Kp n C B d'.S ∨ Kp n (C + 1) D d'.S)) ∨
    (d'.down = false ∧ -1 ≤ d'.fuse ∧ (d.fuse = -1 → d'.fuse = -1) ∧ e = .returned (.int .i64 0) ∧ Kp n (C + 1) D d'.S ∧ d'.S = app d.S (putS n (C + 1) D) ∧
      w'.heap[vb]? = some (.cells #[.pointer (some ⟨g, 0, none⟩), .int .i64 ((C + 1 : Nat) : Int), .bool false] 57 (0, 0)))
theorem putS_sync (n c : Nat) (D : List Byte) : ∃ L, putS n c D = L ++ [.sy] := by
  unfold putS eraseA
  exact ⟨putA n c D ++ ([.wr (1 - c % 2) [], .sy] ++ layA (2 + (1 - c % 2) * ((n - 2) / 2)) (List.replicate ((n - 2) / 2 * 512) 0#8)), by simp⟩
theorem putK (hD : Dk A w g b n d) (hA : ∀ k, w.heap.size ≤ k → A k) (hd0 : d.down = false) (hn : 4 ≤ n) (hn2 : n ≤ 100) (hW : d.W = []) (hK : Kp n C B d.S) (vb : Nat) (hv : w.heap[vb]? = some (.cells #[.pointer (some ⟨g, 0, none⟩), .int .i64 (C : Int), .bool false] 57 (0, 0)))
    (hva : ¬ A vb) (hcn : C + 1 < 4611686018427387904) (ao : Option Addr) (m c : Nat) (hm : m = D.length) (hmc : m ≤ c) (hO : Obs A g b w ao D) (hfit : m ≤ (n - 2) / 2 * 512) :
    Calls Try.prog 10 #[.pointer (some ⟨vb, 0, none⟩), .slice ao m c] w fun e w' => ∃ d', PuK A w g b n vb C B D d d' e w' := by
  refine (put10 hD hA hn hn2 (by rw [hW]; exact Nat.zero_le _) vb C hv hva hcn ao m c D hm hmc hO hfit).mono ?_
  rintro e w1 ⟨h1, h2, h3, h4⟩
  have hf : D.length ≤ (n - 2) / 2 * 512 := by rw [← hm]; exact hfit
  have hl := run_law n (putS n (C + 1) D) d hd0 hD.fb.1 (putS_va hn hf)
  rw [show fin d.S d.W = d.S by rw [hW]; rfl] at hl
  refine ⟨_, h1, h2, ?_, ?_⟩
  · rcases hl with ⟨l1, ⟨k, l2⟩, l3⟩ | l1
    · rw [l2]
    · obtain ⟨L, e⟩ := putS_sync n (C + 1) D
      have := l1.1
      rw [e] at this ⊢
      exact run_sync this
  · rcases hl with ⟨l1, ⟨k, l2⟩, l3⟩ | ⟨l1, l2, l3, l4, l5⟩
    · left
      rw [l2]
      exact ⟨l3, rfl, rfl, (h4 l1).1, hK.puts hf k⟩
    · right
      have hw0 : (runA n d (putS n (C + 1) D)).2.W = [] := by
        obtain ⟨L, e⟩ := putS_sync n (C + 1) D
        rw [e] at l1 ⊢
        exact run_sync l1
      rw [hw0] at l3
      have l3 : (runA n d (putS n (C + 1) D)).2.S = app d.S (putS n (C + 1) D) := l3
      exact ⟨l2, l5, l4, (h3 l1).1, by rw [l3]; exact hK.put hf, l3, (h3 l1).2⟩
/-- Too much. -/
theorem putR (hD : Dk A w g b n d) (hn : 4 ≤ n) (hn2 : n ≤ 100) {cv : Value} (vb : Nat) (hv : w.heap[vb]? = some (.cells #[.pointer (some ⟨g, 0, none⟩), cv, .bool false] 57 (0, 0)))
    (ao : Option Addr) (m c : Nat) (hfit : (n - 2) / 2 * 512 < m) :
    Calls Try.prog 10 #[.pointer (some ⟨vb, 0, none⟩), .slice ao m c] w fun e w' => e = .returned (.int .i64 211) ∧ Below w.heap.size w w' := by
  have hvl := (Array.getElem?_eq_some_iff.1 hv).1
  obtain ⟨w1, hw1⟩ : ∃ w1, w.alloc (.cells #[.pointer (some ⟨vb, 0, none⟩)] 27) = w1 := ⟨_, rfl⟩
  have b1 : Below w.heap.size w w1 := by rw [← hw1]; exact (Below.refl _ w).alloc (Nat.le_refl _) _
  have v1 := (b1.block vb hvl).trans hv
  have H11 := room11 (hD.below b1) (by omega) hn2 v1
  obtain ⟨xv, hxv⟩ : ∃ xv, xv = w.heap.size := ⟨_, rfl⟩
  have x1 : w1.heap[xv]? = some (.cells #[.pointer (some ⟨vb, 0, none⟩)] 27 (0, 0)) := by rw [← hw1, hxv]; exact heap_alloc_new w _
  have c0 : w1.cell? ⟨xv, 0, none⟩ = some (.pointer (some ⟨vb, 0, none⟩)) := by rw [cell_of_row _ _ _ _ _ _ x1]; rfl
  have c3 : w1.cell? ⟨vb, 2, none⟩ = some (.bool false) := by rw [cell_of_row _ _ _ _ _ _ v1]; rfl
  obtain ⟨rm, hrm⟩ : ∃ rm, rm = (n - 2) / 2 * 512 := ⟨_, rfl⟩
  rw [← hrm] at H11 hfit
  have f1 : decide ((m : Int) > (rm : Int)) = true := by simp; omega
  have f2 : decide (rm < m) = true := by simp; omega
  have HB := Lib.hid b1
  clear hD hn hn2 hv hvl b1 v1 hrm x1 hfit
  go_enter Try.func10, Try.ntmps10
  go_upto_region 1 with fail
  rw [← hxv]
  clear hw1 hxv
  go_wp2_with (first
    | (go_at_call 11; (with_reducible refine H11.mono ?_); rintro e w3 ⟨rfl, hw⟩; obtain rfl : w1 = w3 := hw.symm))
  go_ret
  exact ⟨rfl, HB.out⟩
end
end Go.Proofs.Ytjabkfccfecmgaa
