/- A disk of bytes. -/
import Derived.Test.YtjabkfccfecmgaaI
import Derived.BigRegion
namespace Go.Proofs.Ytjabkfccfecmgaa
open Go.ChangeShapes Go.WideShapes Go.ChangeAt Go.RowKit
set_option linter.unusedSimpArgs false
set_option linter.unusedVariables false
def sec (D : List Byte) (i : Nat) : Sct := (D.drop (i * 512)).take 512
def SI (D : List Byte) (j : Nat) (k : Nat) : Sct := if k < j then sec D k else zs
theorem SI_zero (D : List Byte) : SI D 0 = fun _ => zs := funext fun k => if_neg (by omega)
theorem SI_succ (D : List Byte) (j : Nat) : SI D (j + 1) = updS (SI D j) j (sec D j) := funext fun k => by
  by_cases e : k = j
  · subst e; simp [SI, updS]
  · by_cases h : k < j
    · have h2 : k < j + 1 := by omega
      simp [SI, updS, e, h, h2]
    · have h2 : ¬ k < j + 1 := by omega
      simp [SI, updS, e, h, h2]
def dOf (D : List Byte) (j : Nat) : DS := ⟨SI D j, [], -1, false⟩
theorem run_arrayAt58 (w : World) (a : Option Addr) (l k : Nat) (h : 512 ≤ l) : (Instr.arrayAt 63 (.slice a l k)).run Try.prog w = .ok (.pointer a) w := by
  have h2 : ¬ l < 512 := by omega
  simp [Instr.arrayAt, run_underlying Try.underlying63, h2]
theorem sec_len {D : List Byte} {n i : Nat} (h : D.length = n * 512) (hi : i < n) : (sec D i).length = 512 := by
  unfold sec
  rw [List.length_take, List.length_drop, h]
  have : (i + 1) * 512 ≤ n * 512 := Nat.mul_le_mul_right _ hi
  omega
theorem sec_rng {w : World} {x o : Nat} {D : List Byte} (h : w.rangeAt x o (D.map c8)) (i : Nat) : w.rangeAt x (o + i * 512) ((sec D i).map c8) := fun j v hv => by
  have hj : (D.map c8)[i * 512 + j]? = some v := by
    unfold sec at hv
    rw [List.getElem?_map] at hv ⊢
    rw [List.getElem?_take] at hv
    split at hv
    · rwa [List.getElem?_drop] at hv
    · cases hv
  have := h _ v hj
  rwa [← Nat.add_assoc] at this
def V19 (g b n i x o m c p : Nat) (D : Sct) : Nat → Value → World → Prop
  | 0, v, w => v = .pointer (some ⟨g, 0, none⟩)
  | 1, v, w => v = .pointer (some ⟨g, 0, none⟩)
  | 2, v, w => v = .pointer (some ⟨g, 0, none⟩)
  | 3, v, w => v = .slice (some ⟨b, 0, none⟩) n n
  | 4, v, w => v = .int .i64 (i : Nat)
  | 5, v, w => v = .slice (some ⟨x, o, none⟩) m c
  | 6, v, w => v = .int .i64 (i : Nat)
  | 7, v, w => v = .int .i64 (p : Nat)
  | 8, v, w => ∃ l k, v = .slice (some ⟨x, o + p, none⟩) l k ∧ 512 ≤ l
  | 9, v, w => v = .pointer (some ⟨x, o + p, none⟩)
  | 10, v, w => v = .agg (D.map c8).toArray
  | 11, v, w => v = .pointer (some ⟨b, i * 512, none⟩)
  | _, _, _ => True
theorem V19_keep (g b n i x o m c p : Nat) (D : Sct) (i1 : Nat) (v : Value) (w w' : World) (h : V19 g b n i x o m c p D i1 v w) (r : (fun w w' => w' = w) w w') : V19 g b n i x o m c p D i1 v w' := by
  rcases i1 with _ | _ | _ | _ | _ | _ | _ | _ | _ | _ | _ | _ | _
  · exact h
  · exact h
  · exact h
  · exact h
  · exact h
  · exact h
  · exact h
  · exact h
  · exact h
  · exact h
  · exact h
  · exact h
  · trivial
set_option maxRecDepth 4000 in
set_option maxHeartbeats 4000000 in
theorem of19 (w : World) (x0 o0 c m n : Nat) (D : List Byte) (hm : m = D.length) (hn : D.length = n * 512) (h1 : 1 ≤ n ∧ n ≤ 4096) (hc : m ≤ c) (hr : w.rangeAt x0 o0 (D.map c8)) (hx : x0 < w.heap.size) :
    Calls Try.prog 16 #[.slice (some ⟨x0, o0, none⟩) m c] w fun e w' => ∃ g b, e = .returned (.pointer (some ⟨g, 0, none⟩)) ∧ w.heap.size ≤ b ∧ (∀ A, Dk A w' g b n (dOf D n)) ∧ Below w.heap.size w w' := by
  have e1 : ((m : Int).tmod 512 != 0) = false := by rw [Int.tmod_eq_emod_of_nonneg (by omega)]; simp; omega
  have e2 : ((m : Int) % 512 != 0) = false := by simp; omega
  have e3 : (m : Int).tdiv 512 = n := by rw [Int.tdiv_eq_ediv_of_nonneg (by omega)]; omega
  have e4 : (m : Int) / 512 = n := by omega
  have ew : IntKind.i64.wrap (n : Int) = n := IntWalk.i64_in _ (by omega)
  have N8 := Lib.hid (new8 n w h1)
  have HM := Lib.hid hm
  have HN := Lib.hid hn
  have hz : m = n * 512 := by omega
  have HZ := Lib.hid hz
  clear hm hn hz
  go_enter Try.func16, Try.ntmps16
  go_wp2_with (first | (go_at_call 8; (with_reducible refine N8.out.mono ?_); rintro e w1 ⟨g, b, rfl, hb, hD0, hB⟩; have hc0 := (hD0 (fun _ => False)).c0))
  go_loopg [4, 20] n (fun gk v4 v20 wr => ∃ i : Nat, v20 = .int .i64 i ∧ i + gk = n ∧ Dk (fun _ => False) wr g b n (dOf D i) ∧ Frm (fun _ => False) g b w1 wr)
  case atStart => exact ⟨0, rfl, by omega, by have := hD0 (fun _ => False); unfold dOf; rw [SI_zero]; exact this, Frm.refl _ _ _ _⟩
  case round =>
    obtain ⟨i, rfl, hi, hDk, hF⟩ := hrel
    have HI := Lib.hid hi
    by_cases hin : i < n
    · have d1 : decide (i < n) = true := by simp; omega
      have d2 : decide ((i : Int) < (n : Int)) = true := by simp; omega
      obtain ⟨p, hp⟩ : ∃ p, p = i * 512 := ⟨_, rfl⟩
      have HP : Hid (IntKind.i64.wrap ((i : Int) * 512) = (p : Int)) := Lib.hid (by rw [IntWalk.i64_in _ (by omega)]; omega)
      obtain ⟨T, hT⟩ : ∃ T, T = sec D i := ⟨_, rfl⟩
      have HT : Hid (T.length = 512) := Lib.hid (by rw [hT]; exact sec_len HN.out hin)
      have HR : Hid (wr.drew.rangeAt x0 (o0 + p) (T.map c8)) := Lib.hid (by
        have h9 : wr.rangeAt x0 o0 (D.map c8) := fun j v hv => (World.cell?_of_block (a := ⟨x0, _, none⟩) ((hF.block x0 (by have := hB.size; omega) (by have := (hD0 (fun _ => False)).bg; omega) (by omega) (fun e => e)).trans (hB.block x0 hx))).trans (hr j v hv)
        rw [hp, hT]
        simpa using sec_rng h9 i)
      have HL : Hid (p + 512 ≤ m ∧ m ≤ c) := Lib.hid ⟨by have := HZ.out; have : (i + 1) * 512 ≤ n * 512 := Nat.mul_le_mul_right _ hin; omega, hc⟩
      have hl1 : (p : Int) ≤ (m : Int) := by have := HL.out; omega
      have z1 : (0 : Int) ≤ (i : Int) := by omega
      have z2 : (i : Int) < (n : Int) := by omega
      have HPP := Lib.hid hp
      have HTT := Lib.hid hT
      clear hi hp hT
      go_upto_region 8 with fail
      refine region_monoT 12 (fun x => x = wr.drew) (fun w w' => w' = w) (V19 g b n i x0 o0 m c p T) [(0, some 23), (1, some 24), (2, some 25), (3, some 26), (4, some 27), (5, some 28), (6, some 29), (7, some 30), (8, some 31), (9, some 32), (10, some 33), (11, some 34)] (by kernel_rfl) (by kernel_rfl) (by kernel_rfl) (by kernel_rfl) (fun _ _ h r => r.trans h) (fun i1 v1 w1 w2 _ h1 r1 => V19_keep g b n i x0 o0 m c p T i1 v1 w1 w2 h1 r1) (rfl) ?_ (fun vs w3 hS3 hV => ?_)
      · refine StepsL.cons0  (by kernel_rfl)  ?_ ?_
        · rintro w1 hS  K hK
          subst hS
          (try simp only [Act.put, List.setIfInBounds_toArray, List.set_cons_zero, List.set_cons_succ])
          go_simp
          exact hK.out _ _ rfl (rfl)
        refine StepsL.cons1 0 (some 23) (by kernel_rfl) rfl ?_ ?_
        · rintro w1 hS _ rfl K hK
          subst hS
          (try simp only [Act.put, List.setIfInBounds_toArray, List.set_cons_zero, List.set_cons_succ])
          go_simp
          exact hK.out _ _ rfl (rfl)
        refine StepsL.cons1 1 (some 24) (by kernel_rfl) rfl ?_ ?_
        · rintro w1 hS _ rfl K hK
          subst hS
          (try simp only [Act.put, List.setIfInBounds_toArray, List.set_cons_zero, List.set_cons_succ])
          go_simp
          exact hK.out _ _ rfl (rfl)
        refine StepsL.cons1 2 (some 25) (by kernel_rfl) rfl ?_ ?_
        · rintro w1 hS _ rfl K hK
          subst hS
          (try simp only [Act.put, List.setIfInBounds_toArray, List.set_cons_zero, List.set_cons_succ])
          have hc0 := hDk.drew.c0
          go_simp
          exact hK.out _ _ rfl rfl
        refine StepsL.cons0  (by kernel_rfl)  ?_ ?_
        · rintro w1 hS  K hK
          subst hS
          (try simp only [Act.put, List.setIfInBounds_toArray, List.set_cons_zero, List.set_cons_succ])
          go_simp
          exact hK.out _ _ rfl (rfl)
        refine StepsL.cons0  (by kernel_rfl)  ?_ ?_
        · rintro w1 hS  K hK
          subst hS
          (try simp only [Act.put, List.setIfInBounds_toArray, List.set_cons_zero, List.set_cons_succ])
          go_simp
          exact hK.out _ _ rfl (rfl)
        refine StepsL.cons0  (by kernel_rfl)  ?_ ?_
        · rintro w1 hS  K hK
          subst hS
          (try simp only [Act.put, List.setIfInBounds_toArray, List.set_cons_zero, List.set_cons_succ])
          go_simp
          exact hK.out _ _ rfl (rfl)
        refine StepsL.cons1 6 (some 29) (by kernel_rfl) rfl ?_ ?_
        · rintro w1 hS _ rfl K hK
          subst hS
          (try simp only [Act.put, List.setIfInBounds_toArray, List.set_cons_zero, List.set_cons_succ])
          have ew := HP.out
          go_simp
          exact hK.out _ _ rfl rfl
        refine StepsL.cons2 5 (some 28) 7 (some 30) (by kernel_rfl) rfl rfl ?_ ?_
        · rintro w1 hS _ rfl _ rfl K hK
          subst hS
          (try simp only [Act.put, List.setIfInBounds_toArray, List.set_cons_zero, List.set_cons_succ])
          have h1 := HL.out
          go_simp
          exact hK.out _ _ ⟨m - p, c - p, congrArg (fun q => Value.slice q (m - p) (c - p)) (if_neg (by omega)), by omega⟩ rfl
        refine StepsL.cons1 8 (some 31) (by kernel_rfl) rfl ?_ ?_
        · rintro w1 hS _ ⟨l8, k8, rfl, h8⟩ K hK
          subst hS
          (try simp only [Act.put, List.setIfInBounds_toArray, List.set_cons_zero, List.set_cons_succ])
          have hr := fun w => run_arrayAt58 w (some ⟨x0, o0 + p, none⟩) l8 k8 h8
          go_simp
          exact hK.out _ _ rfl rfl
        refine StepsL.cons1 9 (some 32) (by kernel_rfl) rfl ?_ ?_
        · rintro w1 hS _ rfl K hK
          subst hS
          (try simp only [Act.put, List.setIfInBounds_toArray, List.set_cons_zero, List.set_cons_succ])
          rw [if_pos (by rfl)]
          refine wp_load58 (.tmp 32) rfl x0 (o0 + p) T rfl HT.out HR.out ?_
          exact hK.out _ _ rfl rfl
        refine StepsL.cons2 3 (some 26) 4 (some 27) (by kernel_rfl) rfl rfl ?_ ?_
        · rintro w1 hS _ rfl _ rfl K hK
          subst hS
          (try simp only [Act.put, List.setIfInBounds_toArray, List.set_cons_zero, List.set_cons_succ])
          go_simp
          exact hK.out _ _ rfl (rfl)
        exact StepsL.nil
      · have hS2 : w3 = wr.drew := hS3
        subst hS2
        have v10 : vs 10 = .agg (T.map c8).toArray := hV 10 (by simp)
        have v11 : vs 11 = .pointer (some ⟨b, i * 512, none⟩) := hV 11 (by simp)
        simp only [putl, List.foldl_cons, List.foldl_nil, Act.put, List.setIfInBounds_toArray, List.set_cons_zero, List.set_cons_succ, v10, v11]
        simp only [List.drop_succ_cons, List.drop_zero]
        have hth := hDk.drew.sec.thereAt i hin
        have hDs := hDk.drew.setSec i hin T HT.out
        have hFs := Frm.setCells (hF.trans (Frm.of_below ((Below.refl _ wr).drew))) b (.inr (.inl rfl)) (T.map c8) (i * 512) wr.drew (hF.trans (Frm.of_below ((Below.refl _ wr).drew)))
        clear hV v10 v11
        go_wp2_with (first | (with_reducible refine store58m rfl (.tmp 34) (.tmp 33) rfl b (i * 512) T rfl rfl HT.out hth ?_))
        go_roundg (gk - 1)
        case measure => have := HI.out; omega
        case rel =>
          refine ⟨i + 1, by simp, by have := HI.out; omega, ?_, hFs⟩
          unfold dOf
          rw [SI_succ, ← HTT.out]
          exact hDs
    · have d1 : decide (i < n) = false := by simp; omega
      have d2 : decide ((i : Int) < (n : Int)) = false := by simp; omega
      obtain rfl : i = n := by omega
      clear hi
      go_wp2_with fail
      go_ret
      refine ⟨g, rfl, b, hb, fun A => hDk.re (fun k _ h => h.elim), ?_⟩
      have h8 := hF.toBelow hB.size (by have := (hD0 (fun _ => False)).bg; omega) hb (fun _ _ h => h)
      exact ⟨h8.os.trans hB.os, h8.tape.trans hB.tape, h8.output.trans hB.output, Nat.le_trans hB.size h8.size, fun k hk => (h8.block k hk).trans (hB.block k hk)⟩
end Go.Proofs.Ytjabkfccfecmgaa
