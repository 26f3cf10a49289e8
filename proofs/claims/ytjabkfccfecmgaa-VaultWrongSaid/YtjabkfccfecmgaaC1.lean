/- slices.Chunk: the pieces of some bytes, one behind the other. -/
import Derived.Test.YtjabkfccfecmgaaS2
namespace Go.Proofs.Ytjabkfccfecmgaa
open Go.ChangeShapes Go.WideShapes Go.ChangeAt Go.RowKit Go.Shelf
set_option linter.unusedSimpArgs false
set_option linter.unusedVariables false
attribute [local go_sem] Oper.semAt_some
/-- How long a piece is; its slice. -/
def pl (m j : Nat) : Nat := min 512 (m - 512 * j)
def encC (ad : Addr) (m : Nat) (j : Nat) : Array Value := #[.slice (some (ad.add (512 * j))) (pl m j) (pl m j)]
structure KS (Bs Bn : Nat) (A B : World) : Prop where
  s : ∀ v, A.cell? ⟨Bs, 0, none⟩ = some v → B.cell? ⟨Bs, 0, none⟩ = some v
  n : ∀ v, A.cell? ⟨Bn, 0, none⟩ = some v → B.cell? ⟨Bn, 0, none⟩ = some v
theorem KS.refl (Bs Bn : Nat) (A : World) : KS Bs Bn A A := ⟨fun _ h => h, fun _ h => h⟩
theorem KS.trans {Bs Bn : Nat} {A B C : World} (h : KS Bs Bn A B) (k : KS Bs Bn B C) : KS Bs Bn A C := ⟨fun v x => k.s v (h.s v x), fun v x => k.n v (h.n v x)⟩
def nP (m : Nat) : Nat := (m + 511) / 512
set_option maxRecDepth 100000 in
set_option maxHeartbeats 4000000 in
theorem chunk1 (n : Nat) (hn : 1 ≤ n) (l Bs Bn : Nat) (ad : Addr) (ao : Option Addr) (m c : Nat) (hao : 0 < m → ao = some ad) (hmc : m ≤ c) (hml : m ≤ 100000) (J Jx : List Nat → World → Prop) (hJd : ∀ pre X, J pre X → J pre X.drew)
    (hY : ∀ pre x X, J pre X → pre.length < nP m → YieldAt Fence.wide (n - 1) Try.prog l (encC ad m x) X fun e X' =>
      (e = .returned (.bool true) ∧ J (pre ++ [x]) X' ∧ KS Bs Bn X X') ∨ (e = .returned (.bool false) ∧ Jx (pre ++ [x]) X'))
    (X : World) (hBs : X.cell? ⟨Bs, 0, none⟩ = some (.slice ao m c)) (hBn : X.cell? ⟨Bn, 0, none⟩ = some (.int .i64 512)) (h0 : J [] X) :
    CallsIn Fence.wide n Try.prog 47 #[.func (.yield l) #[] #[], .pointer (some ⟨Bs, 0, none⟩), .pointer (some ⟨Bn, 0, none⟩)] X fun e X' => (∃ v, e = .returned v) ∧
      ((∃ ys, ys = List.range (nP m) ∧ J ys X') ∨ (∃ pre, (∃ k, k ≤ nP m ∧ pre = List.range k) ∧ Jx pre X')) := by
  refine callsIn_of_wp Try.func47 rfl trivial ?_ rfl
  simp only [Try.ntmps47, List.size_toArray, List.length_cons, List.length_nil, Nat.reduceAdd, Nat.reduceSub, Array.replicate_succ, Array.replicate_zero, List.push_toArray, List.append_toArray, List.nil_append, List.cons_append]
  gi_wp2
  gi_loopw [4] (fun i wr => ∃ k : Nat, k ≤ nP m ∧ i = .int .i64 ((512 * k : Nat) : Int) ∧ J (List.range k) wr ∧ KS Bs Bn X wr)
    (fun i _ => (m - (intOf i).toNat))
  case atStart => exact ⟨0, Nat.zero_le _, by simp, h0, KS.refl _ _ _⟩
  case round =>
    obtain ⟨k, hk, rfl, hJs, hnx⟩ := hrel
    have hb1 := hnx.s _ hBs
    have hb2 := hnx.n _ hBn
    obtain ⟨p, hp⟩ : ∃ p, p = 512 * k := ⟨_, rfl⟩
    rw [← hp]
    have HP := Lib.hid hp
    clear hp
    by_cases hlt : p < m
    · have d1 : decide ((p : Int) < (m : Int)) = true := by simp; omega
      obtain rfl := hao (by omega)
      have q0 : (0 : Int) ≤ (p : Int) := by omega
      have q1 : (p : Int) ≤ (m : Int) := by omega
      gi_wp2
      refine wpIn_wide.2 ?_
      go_still (by kernel_rfl)
      change Exit.then _ _ _ _ wr.drew
      have hJ1 := hJd _ _ hJs
      have hn1 : KS Bs Bn X wr.drew := ⟨fun v h => hnx.s v h, fun v h => hnx.n v h⟩
      have hb1 := hn1.s _ hBs
      have hb2 := hn1.n _ hBn
      obtain ⟨wd, hwd⟩ : ∃ wd, wr.drew = wd := ⟨_, rfl⟩
      rw [hwd] at hJ1 hn1 hb1 hb2 ⊢
      clear hwd hJs hnx
      obtain ⟨fn, tmps, assign, body, hy, hR⟩ := hY _ k wd hJ1 (by rw [List.length_range]; have := HP.out; unfold nP; omega)
      obtain ⟨e, he⟩ : ∃ e, e = pl m k := ⟨_, rfl⟩
      have he1 : (if ((m - p : Nat) : Int) < 512 then ((m - p : Nat) : Int) else 512) = (e : Int) := by
        have := HP.out
        rw [he]; unfold pl
        split <;> omega
      rw [he1]
      have hel : 1 ≤ e ∧ e ≤ 512 ∧ p + e ≤ m ∧ (e < 512 → p + e = m) := by rw [he, HP.out]; unfold pl; have := HP.out; omega
      have e2 : IntKind.i64.wrap ((p : Int) + (e : Int)) = (p : Int) + (e : Int) := IntWalk.i64_in _ (by omega)
      have e3 : IntKind.i64.wrap ((p : Int) + 512) = (p : Int) + 512 := IntWalk.i64_in _ (by omega)
      have q2 : (0 : Int) ≤ (p : Int) + (e : Int) := by omega
      have q3 : (p : Int) ≤ (p : Int) + (e : Int) := by omega
      have q4 : (p : Int) + (e : Int) ≤ (c : Int) := by omega
      have z1 : ¬ c = p := by omega
      have z2 : ¬ e = 0 := by omega
      dsimp only [encC] at hy
      rw [← he, ← HP.out] at hy
      have HE := Lib.hid (And.intro he hel)
      clear he1 he hel
      gi_wp2
      refine hR.mono ?_
      rintro en X3 (⟨rfl, hJ3, hk3⟩ | ⟨rfl, hJx3⟩)
      · have hb2' := hk3.n _ hb2
        gi_wp2
        go_roundw
        case rel => exact ⟨k + 1, by have := HP.out; unfold nP; omega, by have := HP.out; congr 1; omega, by rw [List.range_succ]; exact hJ3, hn1.trans hk3⟩
        case measure => have := HP.out; simp [intOf]; omega
      · gi_wp2
        refine bodyPost_ret (results_none rfl _ _ _) rfl ?_
        exact ⟨⟨_, rfl⟩, .inr ⟨_, ⟨k + 1, by have := HP.out; unfold nP; omega, (List.range_succ).symm⟩, hJx3⟩⟩
    · have d1 : decide ((p : Int) < (m : Int)) = false := by simp; omega
      obtain rfl : k = nP m := by have := HP.out; unfold nP at *; omega
      gi_wp2
      go_end0
      exact ⟨⟨_, rfl⟩, .inl ⟨_, rfl, hJs⟩⟩
end Go.Proofs.Ytjabkfccfecmgaa
