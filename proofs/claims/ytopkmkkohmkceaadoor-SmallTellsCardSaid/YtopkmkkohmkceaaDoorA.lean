/- Arrays of 256 numbers in memory, and the contracts of the small functions that work number by number. -/
import Derived.Test.YtopkmkkohmkceaaDoorRows
import Derived.WalkKit
import Derived.ProofKit
import Derived.OpenShut
import Derived.Lib.Hide
import Derived.Deep.QuietTactic
import Derived.BigQuiet
import Derived.StillTailTactics
import Derived.Deep.RegionWith
import Derived.Deep.LoopGhost
namespace Go.Proofs.YtopkmkkohmkceaaDoor
open Go.ChangeShapes Go.WideShapes Go.ChangeAt Go.RowKit
/-- n numbers as the cells of an array. -/
def arr (n : Nat) (f : Nat → Int) : Array Value := ((List.range n).map fun i => Value.int .i64 (f i)).toArray
theorem arr_size (n : Nat) (f : Nat → Int) : (arr n f).size = n := by simp [arr]
theorem arr_get (n : Nat) (f : Nat → Int) (i : Nat) (h : i < n) : (arr n f)[i]? = some (.int .i64 (f i)) := by
  simp [arr, h]
theorem arr_congr {n : Nat} {f g : Nat → Int} (h : ∀ i, i < n → f i = g i) : arr n f = arr n g := by
  unfold arr; congr 1; apply List.map_congr_left; intro i hi; rw [h i (List.mem_range.1 hi)]
def upd (f : Nat → Int) (k : Nat) (v : Int) : Nat → Int := fun i => if i = k then v else f i
theorem upd_at (f : Nat → Int) (k : Nat) (v : Int) : upd f k v k = v := by simp [upd]
theorem upd_ne (f : Nat → Int) (k i : Nat) (v : Int) (h : i ≠ k) : upd f k v i = f i := by simp [upd, h]
theorem arr_set (n : Nat) (f : Nat → Int) (i : Nat) (v : Int) : (arr n f).setIfInBounds i (.int .i64 v) = arr n (upd f i v) := by
  apply Array.ext
  · simp [arr]
  · intro j h1 h2
    by_cases h : i = j
    · subst h; simp [arr, upd]
    · have h' : j ≠ i := fun e => h e.symm
      simp [arr, upd, h, h']
structure Row (w : World) (b : Nat) (t : TypeId) (n : Nat) (f : Nat → Int) : Prop where
  at_ : w.heap[b]? = some (.cells (arr n f) t (0, 0))
theorem Row.lt {w : World} {b n : Nat} {t : TypeId} {f : Nat → Int} (h : Row w b t n f) : b < w.heap.size := by
  rcases Nat.lt_or_ge b w.heap.size with g | g
  · exact g
  · have := h.at_; rw [Array.getElem?_eq_none g] at this; cases this
theorem Row.cell {w : World} {b n : Nat} {t : TypeId} {f : Nat → Int} (h : Row w b t n f) (i : Nat) (hi : i < n) : w.cell? ⟨b, i, none⟩ = some (.int .i64 (f i)) := by
  rw [cell_of_row w b i _ t _ h.at_, arr_get n f i hi]
theorem Row.frozen {w : World} {b n : Nat} {t : TypeId} {f : Nat → Int} (h : Row w b t n f) (i : Nat) : w.frozen? ⟨b, i, none⟩ = false := frozen_of_row w b i _ t h.at_
theorem Row.set {w : World} {b n : Nat} {t : TypeId} {f : Nat → Int} (h : Row w b t n f) (i : Nat) (v : Int) : Row (w.setCell ⟨b, i, none⟩ (.int .i64 v)) b t n (upd f i v) :=
  ⟨by rw [heap_setCell_same w b i _ t _ h.at_, arr_set]⟩
theorem Row.other {w : World} {b n : Nat} {t : TypeId} {f : Nat → Int} (h : Row w b t n f) (a : Addr) (v : Value) (hb : b ≠ a.block) : Row (w.setCell a v) b t n f :=
  ⟨by rw [heap_setCell_other w a b v hb]; exact h.at_⟩
theorem Row.alloc {w : World} {b n : Nat} {t : TypeId} {f : Nat → Int} (h : Row w b t n f) (o : Obj) : Row (w.alloc o) b t n f :=
  ⟨(Below.heap_alloc w o b h.lt).trans h.at_⟩
theorem Row.new (w : World) (t : TypeId) (n : Nat) (f : Nat → Int) : Row (w.alloc (.cells (arr n f) t)) w.heap.size t n f := ⟨heap_alloc_new w _⟩
theorem Row.drew {w : World} {b n : Nat} {t : TypeId} {f : Nat → Int} (h : Row w b t n f) : Row w.drew b t n f := ⟨h.at_⟩
theorem Row.drewN {w : World} {b n : Nat} {t : TypeId} {f : Nat → Int} (h : Row w b t n f) (k : Nat) : Row (w.drewN k) b t n f := ⟨h.at_⟩
theorem Row.below {w w' : World} {B b n : Nat} {t : TypeId} {f : Nat → Int} (h : Row w b t n f) (k : Below B w w') (hb : b < B) : Row w' b t n f :=
  ⟨by rw [k.block b hb]; exact h.at_⟩
theorem Row.congr {w : World} {b n : Nat} {t : TypeId} {f g : Nat → Int} (h : Row w b t n f) (e : ∀ i, i < n → f i = g i) : Row w b t n g :=
  ⟨by rw [← arr_congr e]; exact h.at_⟩

theorem zero23 (w : World) : (zeroValue 23).run Tryd.prog w = .ok (.agg (arr 256 fun _ => 0)) w := by kernel_rfl
theorem info23 : (Tryd.prog.info? 23).map (·.size) = some 256 := by kernel_rfl

theorem Row.setRow {w : World} {b n m : Nat} {t : TypeId} {f : Nat → Int} (h : Row w b t n f) (g : Nat → Int) : Row (w.setRow b (arr m g)) b t m g :=
  ⟨setRow_heap w b _ _ t _ h.at_⟩
theorem Row.setRow_other {w : World} {b c n : Nat} {t : TypeId} {f : Nat → Int} (h : Row w b t n f) (cs : Array Value) (hb : b ≠ c) : Row (w.setRow c cs) b t n f :=
  ⟨(_root_.Go.setRow_other w c b cs hb).trans h.at_⟩
theorem below_setRow {B : Nat} {a w : World} (h : Below B a w) {g : Nat} (hg : B ≤ g) (cs : Array Value) : Below B a (w.setRow g cs) :=
  h.trans ⟨rfl, rfl, rfl, by simp, fun k hk => setRow_other w g k cs (by omega)⟩
theorem arr_one (n : Nat) (f : Nat → Int) : (arr n f).all (·.oneCell') = true :=
  Array.all_eq_true_iff_forall_mem.2 (fun v hv => by simp [arr] at hv; obtain ⟨i, _, rfl⟩ := hv; rfl)
theorem load23 {ops : Array Oper} {rest : List Oper} {o : Oper} {a : Act} {w : World} {Q : Exit → Act → World → Prop} (hgd : o.guard = none) (x : Operand) (ho : o.op = .load 23 x)
    (b : Nat) (hx : a.eval x = .pointer (some ⟨b, 0, none⟩)) {f : Nat → Int} (r : Row w b 23 256 f)
    (h : wpList Tryd.prog ops Q rest (a.put o.dst (.agg (arr 256 f))) w) : wpList Tryd.prog ops Q (o :: rest) a w :=
  wpList_load_row hgd 23 x ho b hx 23 _ _ _ r.at_ Tryd.underlying23 rfl (by rw [arr_size]; exact info23) h
theorem store23 {ops : Array Oper} {rest : List Oper} {o : Oper} {a : Act} {w : World} {Q : Exit → Act → World → Prop} (hgd : o.guard = none) (x y : Operand) (ho : o.op = .store 23 x y)
    (b : Nat) (g : Nat → Int) (hx : a.eval x = .pointer (some ⟨b, 0, none⟩)) (hy : a.eval y = .agg (arr 256 g)) {f : Nat → Int} (r : Row w b 23 256 f)
    (h : wpList Tryd.prog ops Q rest (a.put o.dst undef) (w.setRow b (arr 256 g))) : wpList Tryd.prog ops Q (o :: rest) a w :=
  wpList_store_row hgd 23 x y ho b _ hx hy 23 _ r.at_ (by rw [arr_size]; exact info23) (by simp [arr_size]) (arr_one _ _) h
theorem ret23 {fn : Func} {p : Tmp} (h : fn.results = #[.cell p 23]) {R : Ending → World → Prop} {a : Act} {w : World} (b : Nat) {f : Nat → Int} (hp : a.tmps.getD p undef = .pointer (some ⟨b, 0, none⟩)) (r : Row w b 23 256 f)
    (hd : a.defers = []) (hR : R (.returned (.agg (arr 256 f))) w) : bodyPost Tryd.prog fn R .ret a w :=
  bodyPost_ret (results_cell_row h _ _ b 23 _ _ _ hp r.at_ Tryd.underlying23 rfl (by rw [arr_size]; exact info23)) hd hR
/-- A table that came in: its block's type and frozen range are not looked at. -/
structure TRow (w : World) (b : Nat) (n : Nat) (f : Nat → Int) : Prop where
  at_ : ∃ t fz, w.heap[b]? = some (.cells (arr n f) t fz)
theorem TRow.lt {w : World} {b n : Nat} {f : Nat → Int} (h : TRow w b n f) : b < w.heap.size := by
  obtain ⟨t, fz, h⟩ := h.at_
  rcases Nat.lt_or_ge b w.heap.size with g | g
  · exact g
  · rw [Array.getElem?_eq_none g] at h; cases h
theorem TRow.cell {w : World} {b n : Nat} {f : Nat → Int} (h : TRow w b n f) (i : Nat) (hi : i < n) : w.cell? ⟨b, i, none⟩ = some (.int .i64 (f i)) := by
  obtain ⟨t, fz, h⟩ := h.at_
  rw [cell_of_row w b i _ t _ h, arr_get n f i hi]
theorem TRow.other {w : World} {b n : Nat} {f : Nat → Int} (h : TRow w b n f) (a : Addr) (v : Value) (hb : b ≠ a.block) : TRow (w.setCell a v) b n f := by
  obtain ⟨t, fz, h⟩ := h.at_
  exact ⟨t, fz, by rw [heap_setCell_other w a b v hb]; exact h⟩
theorem TRow.alloc {w : World} {b n : Nat} {f : Nat → Int} (h : TRow w b n f) (o : Obj) : TRow (w.alloc o) b n f := by
  have hl := h.lt
  obtain ⟨t, fz, h⟩ := h.at_
  exact ⟨t, fz, (Below.heap_alloc w o b hl).trans h⟩
theorem TRow.drew {w : World} {b n : Nat} {f : Nat → Int} (h : TRow w b n f) : TRow w.drew b n f := ⟨h.at_⟩
theorem TRow.below {w w' : World} {B b n : Nat} {f : Nat → Int} (h : TRow w b n f) (k : Below B w w') (hb : b < B) : TRow w' b n f := by
  obtain ⟨t, fz, h⟩ := h.at_
  exact ⟨t, fz, by rw [k.block b hb]; exact h⟩
theorem TRow.setRow_other {w : World} {b c n : Nat} {f : Nat → Int} (h : TRow w b n f) (cs : Array Value) (hb : b ≠ c) : TRow (w.setRow c cs) b n f := by
  obtain ⟨t, fz, h⟩ := h.at_
  exact ⟨t, fz, (_root_.Go.setRow_other w c b cs hb).trans h⟩
def emod (n : Int) : Int := n % 3329
theorem emod_bd (n : Int) : 0 ≤ emod n ∧ emod n < 3329 := by unfold emod; omega
theorem tmod_neg (n q : Int) (h : n < 0) : n.tmod q = -((-n) % q) := by
  have := Int.neg_tmod (-n) q
  rw [Int.neg_neg] at this
  rw [this, Int.tmod_eq_emod_of_nonneg (by omega)]
theorem ret_int {k : IntKind} {a b : Int} (h : a = b) : Ending.returned (.int k a) = .returned (.int k b) := by rw [h]
theorem tmod_facts (n : Int) (hn : ¬ 0 ≤ n) : (-3329 < n.tmod 3329 ∧ n.tmod 3329 ≤ 0) ∧ (n.tmod 3329 < 0 → n.tmod 3329 + 3329 = emod n) ∧ (0 ≤ n.tmod 3329 → n.tmod 3329 = emod n) := by
  have e := tmod_neg n 3329 (by omega)
  unfold emod
  omega
theorem mod25 (n : Int) (w : World) (h0 : -9223372036854775808 ≤ n) (h1 : n ≤ 9223372036854775807) : Calls Tryd.prog 25 #[.int .i64 n] w fun e w' => e = .returned (.int .i64 (emod n)) ∧ w' = w := by
  by_cases hn : 0 ≤ n
  · go_enter Tryd.func25, Tryd.ntmps25
    go_wp2
    go_ret
    exact ⟨rfl, rfl⟩
  · obtain ⟨e1, e2, e3⟩ := tmod_facts n hn
    have E2 := Lib.hid e2
    have E3 := Lib.hid e3
    clear e2 e3
    go_enter Tryd.func25, Tryd.ntmps25
    go_wp2
    · go_ret
      exact ⟨ret_int (E2.out (by assumption)), rfl⟩
    · go_ret
      exact ⟨ret_int (E3.out (by assumption)), rfl⟩
theorem mod27 (n : Int) (w : World) (h0 : -9223372036854775808 ≤ n) (h1 : n ≤ 9223372036854775807) : Calls Tryd.prog 27 #[.int .i64 n] w fun e w' => e = .returned (.int .i64 (emod n)) ∧ w' = w := by
  by_cases hn : 0 ≤ n
  · go_enter Tryd.func27, Tryd.ntmps27
    go_wp2
    go_ret
    exact ⟨rfl, rfl⟩
  · obtain ⟨e1, e2, e3⟩ := tmod_facts n hn
    have E2 := Lib.hid e2
    have E3 := Lib.hid e3
    clear e2 e3
    go_enter Tryd.func27, Tryd.ntmps27
    go_wp2
    · go_ret
      exact ⟨ret_int (E2.out (by assumption)), rfl⟩
    · go_ret
      exact ⟨ret_int (E3.out (by assumption)), rfl⟩
theorem cl24 (x y : Int) (w : World) : Calls Tryd.prog 24 #[.int .i64 x, .int .i64 y] w fun e w' => e = .returned (.int .i64 y) ∧ w' = w := by
  go_enter Tryd.func24, Tryd.ntmps24
  go_wp2
  go_ret
  exact ⟨rfl, rfl⟩
theorem cl26 (x y : Int) (w : World) (hx : 0 ≤ x) (hx2 : x < 3329) : Calls Tryd.prog 26 #[.int .i64 x, .int .i64 y] w fun e w' => e = .returned (.int .i64 (3303 * x)) ∧ w' = w := by
  go_enter Tryd.func26, Tryd.ntmps26
  go_wp2
  go_ret
  exact ⟨rfl, rfl⟩
theorem cl28 (x y : Int) (w : World) (hx : 0 ≤ x) (hx2 : x < 3329) (hy : 0 ≤ y) (hy2 : y < 3329) : Calls Tryd.prog 28 #[.int .i64 x, .int .i64 y] w fun e w' => e = .returned (.int .i64 (x - y)) ∧ w' = w := by
  go_enter Tryd.func28, Tryd.ntmps28
  go_wp2
  go_ret
  exact ⟨rfl, rfl⟩
theorem cl29 (x y : Int) (w : World) (hx : 0 ≤ x) (hx2 : x < 3329) (hy : 0 ≤ y) (hy2 : y < 3329) : Calls Tryd.prog 29 #[.int .i64 x, .int .i64 y] w fun e w' => e = .returned (.int .i64 (x + y)) ∧ w' = w := by
  go_enter Tryd.func29, Tryd.ntmps29
  go_wp2
  go_ret
  exact ⟨rfl, rfl⟩
theorem run24 (args : Array Value) (w : World) : (callFunc 24 args).run Tryd.prog w = .ok (.enter 24 args) w := by kernel_rfl
theorem run26 (args : Array Value) (w : World) : (callFunc 26 args).run Tryd.prog w = .ok (.enter 26 args) w := by kernel_rfl
theorem run28 (args : Array Value) (w : World) : (callFunc 28 args).run Tryd.prog w = .ok (.enter 28 args) w := by kernel_rfl
theorem run29 (args : Array Value) (w : World) : (callFunc 29 args).run Tryd.prog w = .ok (.enter 29 args) w := by kernel_rfl
def mix (k : Nat) (f g : Nat → Int) : Nat → Int := fun i => if i < k then f i else g i
theorem mix_succ (k : Nat) (f g : Nat → Int) (i : Nat) : upd (mix k f g) k (f k) i = mix (k + 1) f g i := by
  unfold upd mix
  by_cases h : i = k
  · subst h; simp
  · rw [if_neg h]
    by_cases h2 : i < k
    · rw [if_pos h2, if_pos (by omega)]
    · rw [if_neg h2, if_neg (by omega)]
set_option maxRecDepth 20000 in
theorem each23 (a b : Nat → Int) (w : World) (ha : ∀ i, -9223372036854775808 ≤ a i ∧ a i ≤ 9223372036854775807) (hb : ∀ i, -9223372036854775808 ≤ b i ∧ b i ≤ 9223372036854775807) (g : FuncId) (of : Int → Int → Int) (hrun : ∀ args (w : World), (callFunc g args).run Tryd.prog w = .ok (.enter g args) w) (hg : ∀ (x y : Int) (w : World), 0 ≤ x → x < 3329 → 0 ≤ y → y < 3329 → (Calls Tryd.prog g #[.int .i64 x, .int .i64 y] w fun e w' => e = .returned (.int .i64 (of x y)) ∧ w' = w) ∧ -9223372036854775808 ≤ of x y ∧ of x y ≤ 9223372036854775807) : Calls Tryd.prog 23 #[.agg (arr 256 a), .agg (arr 256 b), .func (.func g) #[] #[]] w fun e w' => e = .returned (.agg (arr 256 fun i => emod (of (emod (a i)) (emod (b i))))) ∧ Below w.heap.size w w' := by
  have HG := Lib.hid hg; clear hg
  have HA := Lib.hid ha; have HB := Lib.hid hb; clear ha hb
  have hz := zero23
  go_enter Tryd.func23, Tryd.ntmps23
  go_wp2
  clear hz
  go_loopw [7, 8] (fun i j wr => ∃ k : Nat, k ≤ 256 ∧ j = .int .i64 k ∧ Row wr w.heap.size 23 256 (mix k (fun i => emod (of (emod (a i)) (emod (b i)))) a) ∧ Row wr (w.heap.size + 1) 23 256 b ∧ Row wr (w.heap.size + 2) 23 256 (fun _ => 0) ∧ Below w.heap.size w wr) (fun i j wr => 256 - (intOf j).toNat)
  case atStart =>
    refine ⟨0, by omega, rfl, ?_, ?_, ?_, ?_⟩
    · exact ((Row.new _ _ _ _).alloc _).alloc _
    · have := (Row.new (w.alloc (Obj.cells (arr 256 a) 23)) 23 256 b).alloc (Obj.cells (arr 256 fun _ => 0) 23)
      simpa using this
    · have := (Row.new ((w.alloc (Obj.cells (arr 256 a) 23)).alloc (Obj.cells (arr 256 b) 23)) 23 256 (fun _ => 0))
      simpa using this
    · exact ((((Below.refl _ _).alloc (Nat.le_refl _) _).alloc (by simp) _).alloc (by simp; omega) _)
  case round =>
    obtain ⟨k, hk, rfl, r1, r2, r3, hbl⟩ := hrel
    by_cases hlt : k < 256
    · have c1 := r1.cell k (by omega)
      have c2 := r2.cell k (by omega)
      have c3 := r1.frozen k
      rw [show mix k (fun i => emod (of (emod (a i)) (emod (b i)))) a k = a k by simp [mix]] at c1
      have hx1 := HA.out k
      have hy1 := HB.out k
      have hx2 : 0 ≤ emod (a k) ∧ emod (a k) < 3329 := by unfold emod; omega
      have hy2 : 0 ≤ emod (b k) ∧ emod (b k) < 3329 := by unfold emod; omega
      have hg := HG.out (emod (a k)) (emod (b k)) wr.drew hx2.1 hx2.2 hy2.1 hy2.2
      have HC := Lib.hid hg.1
      have hg2 := hg.2
      clear hg
      have hs := (r1.drew).set k (emod (of (emod (a k)) (emod (b k))))
      have hs2 := hs.congr (fun i _ => mix_succ k (fun i => emod (of (emod (a i)) (emod (b i)))) a i)
      have hs3 := (r2.drew).other ⟨w.heap.size, k, none⟩ (.int .i64 (emod (of (emod (a k)) (emod (b k))))) (by simp)
      have hs4 := (r3.drew).other ⟨w.heap.size, k, none⟩ (.int .i64 (emod (of (emod (a k)) (emod (b k))))) (by simp)
      have hs5 := (hbl.drew).setCell (p := ⟨w.heap.size, k, none⟩) (by simp) (.int .i64 (emod (of (emod (a k)) (emod (b k)))))
      go_wp2
      go_still_tail 12, (by kernel_rfl)
      still_call (mod25 _ _ hx1.1 hx1.2)
      repeat still_step
      still_call (mod25 _ _ hy1.1 hy1.2)
      repeat still_step
      still_call HC.out
      repeat still_step
      still_call (mod25 _ _ hg2.1 hg2.2)
      refine wpStill_nil ?_
      change wpList _ _ _ _ _ wr.drew
      go_wp2
      go_roundw
      case rel => exact ⟨k + 1, by omega, by go_num, hs2, hs3, hs4, hs5⟩
      case measure => simp [intOf]; omega
    · have e1 : k = 256 := by omega
      subst e1
      clear hrun
      have rr := r1.congr (g := fun i => emod (of (emod (a i)) (emod (b i)))) (fun i hi => by simp [mix, hi])
      have rb := below_setRow hbl (g := w.heap.size + 2) (by omega) (arr 256 fun i => emod (of (emod (a i)) (emod (b i))))
      have r4 := r3.setRow (m := 256) (fun i => emod (of (emod (a i)) (emod (b i))))
      clear r1 r2
      go_wp2_with (first | (with_reducible refine load23 rfl (.tmp 3) rfl w.heap.size rfl rr ?_) | (with_reducible refine store23 rfl (.tmp 6) (.tmp 25) rfl (w.heap.size + 2) _ rfl rfl r3 ?_))
      exact ret23 rfl (w.heap.size + 2) rfl r4 rfl ⟨rfl, rb⟩


def I64 (a : Nat → Int) : Prop := ∀ i, -9223372036854775808 ≤ a i ∧ a i ≤ 9223372036854775807
theorem I64.mod (a : Nat → Int) : I64 fun i => emod (a i) := fun i => ⟨by have := (emod_bd (a i)).1; show _ ≤ emod (a i); omega, by have := (emod_bd (a i)).2; show emod (a i) ≤ _; omega⟩
theorem emod_emod (n : Int) : emod (emod n) = emod n := by unfold emod; omega

theorem mod10 (a : Nat → Int) (w : World) (ha : I64 a) : Calls Tryd.prog 10 #[.agg (arr 256 a)] w fun e w' => e = .returned (.agg (arr 256 fun i => emod (a i))) ∧ Below w.heap.size w w' := by
  have hz := zero23
  have he := each23 a a ((w.alloc (.cells (arr 256 a) 23)).alloc (.cells (arr 256 fun _ => 0) 23)) ha ha 24 (fun _ y => y) run24 (fun x y w h1 h2 h3 h4 => ⟨cl24 x y w, by omega, by omega⟩)
  simp only [emod_emod] at he
  have r1 := (Row.new w 23 256 a).alloc (.cells (arr 256 fun _ => 0) 23)
  have r2 : Row ((w.alloc (.cells (arr 256 a) 23)).alloc (.cells (arr 256 fun _ => 0) 23)) (w.heap.size + 1) 23 256 (fun _ => 0) := by
    have := Row.new (w.alloc (.cells (arr 256 a) 23)) 23 256 (fun _ => 0)
    simpa using this
  have hb0 : Below w.heap.size w ((w.alloc (.cells (arr 256 a) 23)).alloc (.cells (arr 256 fun _ => 0) 23)) := ((Below.refl _ _).alloc (Nat.le_refl _) _).alloc (by simp) _
  have hsz : ((w.alloc (.cells (arr 256 a) 23)).alloc (.cells (arr 256 fun _ => 0) 23)).heap.size = w.heap.size + 2 := by simp
  have HE := Lib.hid he; clear he
  have HS := Lib.hid hsz; clear hsz
  go_enter Tryd.func10, Tryd.ntmps10
  go_wp2_with (first | (with_reducible refine load23 rfl (.tmp 1) rfl w.heap.size rfl r1 ?_))
  refine HE.out.mono ?_
  rintro e w1 ⟨rfl, hb⟩
  rw [HS.out] at hb
  have r4 := r2.below hb (by omega)
  have r5 := r4.setRow (m := 256) (fun i => emod (a i))
  have hb1 := below_setRow (hb0.trans (hb.mono (by omega))) (g := w.heap.size + 1) (by omega) (arr 256 fun i => emod (a i))
  clear r1 r2 hb hb0 hz
  go_wp2_with (first | (with_reducible refine store23 rfl (.tmp 2) (.tmp 5) rfl (w.heap.size + 1) _ rfl rfl r4 ?_))
  exact ret23 rfl (w.heap.size + 1) rfl r5 rfl ⟨rfl, hb1⟩


theorem add17 (a b : Nat → Int) (w : World) (ha : I64 a) (hb : I64 b) : Calls Tryd.prog 17 #[.agg (arr 256 a), .agg (arr 256 b)] w fun e w' => e = .returned (.agg (arr 256 fun i => emod (emod (a i) + emod (b i)))) ∧ Below w.heap.size w w' := by
  have hz := zero23
  have he := each23 a b (((w.alloc (.cells (arr 256 a) 23)).alloc (.cells (arr 256 b) 23)).alloc (.cells (arr 256 fun _ => 0) 23)) ha hb 29 (fun x y => x + y) run29 (fun x y w h1 h2 h3 h4 => ⟨cl29 x y w h1 h2 h3 h4, by omega, by omega⟩)
  have r1 := ((Row.new w 23 256 a).alloc (.cells (arr 256 b) 23)).alloc (.cells (arr 256 fun _ => 0) 23)
  have r2 : Row (((w.alloc (.cells (arr 256 a) 23)).alloc (.cells (arr 256 b) 23)).alloc (.cells (arr 256 fun _ => 0) 23)) (w.heap.size + 1) 23 256 b := by
    have := (Row.new (w.alloc (.cells (arr 256 a) 23)) 23 256 b).alloc (.cells (arr 256 fun _ => 0) 23)
    simpa using this
  have r3 : Row (((w.alloc (.cells (arr 256 a) 23)).alloc (.cells (arr 256 b) 23)).alloc (.cells (arr 256 fun _ => 0) 23)) (w.heap.size + 2) 23 256 (fun _ => 0) := by
    have := Row.new ((w.alloc (.cells (arr 256 a) 23)).alloc (.cells (arr 256 b) 23)) 23 256 (fun _ => 0)
    simpa using this
  have hb0 : Below w.heap.size w (((w.alloc (.cells (arr 256 a) 23)).alloc (.cells (arr 256 b) 23)).alloc (.cells (arr 256 fun _ => 0) 23)) := (((Below.refl _ _).alloc (Nat.le_refl _) _).alloc (by simp) _).alloc (by simp; omega) _
  have hsz : (((w.alloc (.cells (arr 256 a) 23)).alloc (.cells (arr 256 b) 23)).alloc (.cells (arr 256 fun _ => 0) 23)).heap.size = w.heap.size + 3 := by simp
  have HE := Lib.hid he; clear he
  have HS := Lib.hid hsz; clear hsz
  go_enter Tryd.func17, Tryd.ntmps17
  go_wp2_with (first | (with_reducible refine load23 rfl (.tmp 2) rfl w.heap.size rfl r1 ?_) | (with_reducible refine load23 rfl (.tmp 3) rfl (w.heap.size + 1) rfl r2 ?_))
  refine HE.out.mono ?_
  rintro e w1 ⟨rfl, hb⟩
  rw [HS.out] at hb
  have r4 := r3.below hb (by omega)
  have r5 := r4.setRow (m := 256) (fun i => emod (emod (a i) + emod (b i)))
  have hb1 := below_setRow (hb0.trans (hb.mono (by omega))) (g := w.heap.size + 2) (by omega) (arr 256 fun i => emod (emod (a i) + emod (b i)))
  clear r1 r2 r3 hb hb0 hz
  go_wp2_with (first | (with_reducible refine store23 rfl (.tmp 4) (.tmp 7) rfl (w.heap.size + 2) _ rfl rfl r4 ?_))
  exact ret23 rfl (w.heap.size + 2) rfl r5 rfl ⟨rfl, hb1⟩

theorem sub15 (a b : Nat → Int) (w : World) (ha : I64 a) (hb : I64 b) : Calls Tryd.prog 15 #[.agg (arr 256 a), .agg (arr 256 b)] w fun e w' => e = .returned (.agg (arr 256 fun i => emod (emod (a i) - emod (b i)))) ∧ Below w.heap.size w w' := by
  have hz := zero23
  have he := each23 a b (((w.alloc (.cells (arr 256 a) 23)).alloc (.cells (arr 256 b) 23)).alloc (.cells (arr 256 fun _ => 0) 23)) ha hb 28 (fun x y => x - y) run28 (fun x y w h1 h2 h3 h4 => ⟨cl28 x y w h1 h2 h3 h4, by omega, by omega⟩)
  have r1 := ((Row.new w 23 256 a).alloc (.cells (arr 256 b) 23)).alloc (.cells (arr 256 fun _ => 0) 23)
  have r2 : Row (((w.alloc (.cells (arr 256 a) 23)).alloc (.cells (arr 256 b) 23)).alloc (.cells (arr 256 fun _ => 0) 23)) (w.heap.size + 1) 23 256 b := by
    have := (Row.new (w.alloc (.cells (arr 256 a) 23)) 23 256 b).alloc (.cells (arr 256 fun _ => 0) 23)
    simpa using this
  have r3 : Row (((w.alloc (.cells (arr 256 a) 23)).alloc (.cells (arr 256 b) 23)).alloc (.cells (arr 256 fun _ => 0) 23)) (w.heap.size + 2) 23 256 (fun _ => 0) := by
    have := Row.new ((w.alloc (.cells (arr 256 a) 23)).alloc (.cells (arr 256 b) 23)) 23 256 (fun _ => 0)
    simpa using this
  have hb0 : Below w.heap.size w (((w.alloc (.cells (arr 256 a) 23)).alloc (.cells (arr 256 b) 23)).alloc (.cells (arr 256 fun _ => 0) 23)) := (((Below.refl _ _).alloc (Nat.le_refl _) _).alloc (by simp) _).alloc (by simp; omega) _
  have hsz : (((w.alloc (.cells (arr 256 a) 23)).alloc (.cells (arr 256 b) 23)).alloc (.cells (arr 256 fun _ => 0) 23)).heap.size = w.heap.size + 3 := by simp
  have HE := Lib.hid he; clear he
  have HS := Lib.hid hsz; clear hsz
  go_enter Tryd.func15, Tryd.ntmps15
  go_wp2_with (first | (with_reducible refine load23 rfl (.tmp 2) rfl w.heap.size rfl r1 ?_) | (with_reducible refine load23 rfl (.tmp 3) rfl (w.heap.size + 1) rfl r2 ?_))
  refine HE.out.mono ?_
  rintro e w1 ⟨rfl, hb⟩
  rw [HS.out] at hb
  have r4 := r3.below hb (by omega)
  have r5 := r4.setRow (m := 256) (fun i => emod (emod (a i) - emod (b i)))
  have hb1 := below_setRow (hb0.trans (hb.mono (by omega))) (g := w.heap.size + 2) (by omega) (arr 256 fun i => emod (emod (a i) - emod (b i)))
  clear r1 r2 r3 hb hb0 hz
  go_wp2_with (first | (with_reducible refine store23 rfl (.tmp 4) (.tmp 7) rfl (w.heap.size + 2) _ rfl rfl r4 ?_))
  exact ret23 rfl (w.heap.size + 2) rfl r5 rfl ⟨rfl, hb1⟩
end Go.Proofs.YtopkmkkohmkceaaDoor
