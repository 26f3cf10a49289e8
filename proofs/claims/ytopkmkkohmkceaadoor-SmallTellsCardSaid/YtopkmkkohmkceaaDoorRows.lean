/-
  NARROWER THAN 'FOR EVERY INPUT', by the rows' own cells (each row's printed sentence says how): SmallBack: laid · SmallProducts: laid · SmallShift: laid · SmallScalars: laid · SmallTells: laid · SmallSums: laid.
  DERIVED. THE GIVEN ROWS OF THIS SEAT. 6 by the template 'for every input the law returns true; each argument reads behind the call as it read before'; 0 by the template 'total and deterministic' (their statements: YtopkmkkohmkceaaDoorTotals.lean).
  GIVEN WITH THE SEED: the statements are not yours to turn. If you find one false, say at which input.
  Laid BY PROGRAM, IN A SANDBOX (cutbox-rows.mjs): the forced cells as the released guide's own fill.sh prints them over the translation 06187ea2e71dad75… (all of the seat's roots in one cut). By AI agents, Wed Nov 11 2026. No macro, syntax, notation, axiom, sorry.
-/
import Derived.Test.YtopkmkkohmkceaaDoorChecked
import GoSem.Claim
import GoSem.ClaimJoined
import GoSem.ClaimMapViews
import Derived.JoinedTies
import Derived.KernelRfl
namespace Go.Proofs.YtopkmkkohmkceaaDoor
/- THE CELL 'sum', in the pinned program and in every row, IS THE sha256 OF THE DUMP (.gsa) THAT YtopkmkkohmkceaaDoorProg.lean LOADS. Nothing in Lean hashes anything: it is a label: what it is worth is what the hold of that sum in a sandbox is worth. -/
noncomputable def Tryd.pinned : Pinned := { name := "ytopkmkkohmkceaadoor", sum := "06187ea2e71dad75020e5b86419446887eb303097d8a2b634b85609590bd902e", checked := Tryd.checked }
namespace Rows
def none {H : Type} : Left H := { results := [], args := [] }

/- WHAT THE LISTED PACKAGE-LEVEL VARIABLES READ AS WHEN THE CALL BEGINS. Each datum BY PROGRAM (the guide's laid-datum.mjs) off the statement by which the dump's own 'gosem.cut.vars' lays the variable. In a bare row this is a premise. The card (YtopkmkkohmkceaaDoorCards.lean) ties it to the program's text. -/
def laid_sodality_small_roots {H : Type} : DataW H := .agg [.lit (.int .i64 1), .lit (.int .i64 1729), .lit (.int .i64 2580), .lit (.int .i64 3289), .lit (.int .i64 2642), .lit (.int .i64 630), .lit (.int .i64 1897), .lit (.int .i64 848), .lit (.int .i64 1062), .lit (.int .i64 1919), .lit (.int .i64 193), .lit (.int .i64 797), .lit (.int .i64 2786), .lit (.int .i64 3260), .lit (.int .i64 569), .lit (.int .i64 1746), .lit (.int .i64 296), .lit (.int .i64 2447), .lit (.int .i64 1339), .lit (.int .i64 1476), .lit (.int .i64 3046), .lit (.int .i64 56), .lit (.int .i64 2240), .lit (.int .i64 1333), .lit (.int .i64 1426), .lit (.int .i64 2094), .lit (.int .i64 535), .lit (.int .i64 2882), .lit (.int .i64 2393), .lit (.int .i64 2879), .lit (.int .i64 1974), .lit (.int .i64 821), .lit (.int .i64 289), .lit (.int .i64 331), .lit (.int .i64 3253), .lit (.int .i64 1756), .lit (.int .i64 1197), .lit (.int .i64 2304), .lit (.int .i64 2277), .lit (.int .i64 2055), .lit (.int .i64 650), .lit (.int .i64 1977), .lit (.int .i64 2513), .lit (.int .i64 632), .lit (.int .i64 2865), .lit (.int .i64 33), .lit (.int .i64 1320), .lit (.int .i64 1915), .lit (.int .i64 2319), .lit (.int .i64 1435), .lit (.int .i64 807), .lit (.int .i64 452), .lit (.int .i64 1438), .lit (.int .i64 2868), .lit (.int .i64 1534), .lit (.int .i64 2402), .lit (.int .i64 2647), .lit (.int .i64 2617), .lit (.int .i64 1481), .lit (.int .i64 648), .lit (.int .i64 2474), .lit (.int .i64 3110), .lit (.int .i64 1227), .lit (.int .i64 910), .lit (.int .i64 17), .lit (.int .i64 2761), .lit (.int .i64 583), .lit (.int .i64 2649), .lit (.int .i64 1637), .lit (.int .i64 723), .lit (.int .i64 2288), .lit (.int .i64 1100), .lit (.int .i64 1409), .lit (.int .i64 2662), .lit (.int .i64 3281), .lit (.int .i64 233), .lit (.int .i64 756), .lit (.int .i64 2156), .lit (.int .i64 3015), .lit (.int .i64 3050), .lit (.int .i64 1703), .lit (.int .i64 1651), .lit (.int .i64 2789), .lit (.int .i64 1789), .lit (.int .i64 1847), .lit (.int .i64 952), .lit (.int .i64 1461), .lit (.int .i64 2687), .lit (.int .i64 939), .lit (.int .i64 2308), .lit (.int .i64 2437), .lit (.int .i64 2388), .lit (.int .i64 733), .lit (.int .i64 2337), .lit (.int .i64 268), .lit (.int .i64 641), .lit (.int .i64 1584), .lit (.int .i64 2298), .lit (.int .i64 2037), .lit (.int .i64 3220), .lit (.int .i64 375), .lit (.int .i64 2549), .lit (.int .i64 2090), .lit (.int .i64 1645), .lit (.int .i64 1063), .lit (.int .i64 319), .lit (.int .i64 2773), .lit (.int .i64 757), .lit (.int .i64 2099), .lit (.int .i64 561), .lit (.int .i64 2466), .lit (.int .i64 2594), .lit (.int .i64 2804), .lit (.int .i64 1092), .lit (.int .i64 403), .lit (.int .i64 1026), .lit (.int .i64 1143), .lit (.int .i64 2150), .lit (.int .i64 2775), .lit (.int .i64 886), .lit (.int .i64 1722), .lit (.int .i64 1212), .lit (.int .i64 1874), .lit (.int .i64 1029), .lit (.int .i64 2110), .lit (.int .i64 2935), .lit (.int .i64 885), .lit (.int .i64 2154)]

/-- 'sodalitylaw04.SmallBack': WHATEVER THE INPUT: true; the input reads as it did. -/
def smallBackSpec : ChangeSpec := { name := "smallBack", fn := fun _ => fun
  | [d] => { results := [.lit (.bool true)], args := [d] }
  | _ => none }
def smallBackRow : OpenClaim := { program := "ytopkmkkohmkceaadoor", sum := "06187ea2e71dad75020e5b86419446887eb303097d8a2b634b85609590bd902e", func := "sodality/sodalitylaw04.SmallBack", spec := "smallBack", unfollowed := true, recurses := true, named := ["sodality/small.roots"], apart := false, laid := [("sodality/small.roots", laid_sodality_small_roots)] }
def SmallBackSaid : Prop := smallBackRow.holds Tryd.pinned (OpenSpec.ofChange smallBackSpec)

/-- ITS FALSE NEIGHBOUR: 'it returns false'. Refute it at one input. -/
def smallBackWrong : ChangeSpec := { name := "smallBack", fn := fun _ => fun
  | [d] => { results := [.lit (.bool false)], args := [d] }
  | _ => none }
def SmallBackWrongFalsely : Prop := smallBackRow.holds Tryd.pinned (OpenSpec.ofChange smallBackWrong)

/-- 'sodalitylaw04.SmallProducts': WHATEVER THE INPUT: true; the input reads as it did. -/
def smallProductsSpec : ChangeSpec := { name := "smallProducts", fn := fun _ => fun
  | [d1, d2] => { results := [.lit (.bool true)], args := [d1, d2] }
  | _ => none }
def smallProductsRow : OpenClaim := { program := "ytopkmkkohmkceaadoor", sum := "06187ea2e71dad75020e5b86419446887eb303097d8a2b634b85609590bd902e", func := "sodality/sodalitylaw04.SmallProducts", spec := "smallProducts", unfollowed := true, recurses := true, named := ["sodality/small.roots"], apart := false, laid := [("sodality/small.roots", laid_sodality_small_roots)] }
def SmallProductsSaid : Prop := smallProductsRow.holds Tryd.pinned (OpenSpec.ofChange smallProductsSpec)

/-- ITS FALSE NEIGHBOUR: 'it returns false'. Refute it at one input. -/
def smallProductsWrong : ChangeSpec := { name := "smallProducts", fn := fun _ => fun
  | [d1, d2] => { results := [.lit (.bool false)], args := [d1, d2] }
  | _ => none }
def SmallProductsWrongFalsely : Prop := smallProductsRow.holds Tryd.pinned (OpenSpec.ofChange smallProductsWrong)

/-- 'sodalitylaw04.SmallShift': WHATEVER THE INPUT: true; the input reads as it did. -/
def smallShiftSpec : ChangeSpec := { name := "smallShift", fn := fun _ => fun
  | [d] => { results := [.lit (.bool true)], args := [d] }
  | _ => none }
def smallShiftRow : OpenClaim := { program := "ytopkmkkohmkceaadoor", sum := "06187ea2e71dad75020e5b86419446887eb303097d8a2b634b85609590bd902e", func := "sodality/sodalitylaw04.SmallShift", spec := "smallShift", unfollowed := true, recurses := true, named := ["sodality/small.roots"], apart := false, laid := [("sodality/small.roots", laid_sodality_small_roots)] }
def SmallShiftSaid : Prop := smallShiftRow.holds Tryd.pinned (OpenSpec.ofChange smallShiftSpec)

/-- ITS FALSE NEIGHBOUR: 'it returns false'. Refute it at one input. -/
def smallShiftWrong : ChangeSpec := { name := "smallShift", fn := fun _ => fun
  | [d] => { results := [.lit (.bool false)], args := [d] }
  | _ => none }
def SmallShiftWrongFalsely : Prop := smallShiftRow.holds Tryd.pinned (OpenSpec.ofChange smallShiftWrong)

/-- 'sodalitylaw04.SmallScalars': WHATEVER THE INPUT: true; the input reads as it did. -/
def smallScalarsSpec : ChangeSpec := { name := "smallScalars", fn := fun _ => fun
  | [d1, d2] => { results := [.lit (.bool true)], args := [d1, d2] }
  | _ => none }
def smallScalarsRow : OpenClaim := { program := "ytopkmkkohmkceaadoor", sum := "06187ea2e71dad75020e5b86419446887eb303097d8a2b634b85609590bd902e", func := "sodality/sodalitylaw04.SmallScalars", spec := "smallScalars", unfollowed := true, recurses := true, named := ["sodality/small.roots"], apart := false, laid := [("sodality/small.roots", laid_sodality_small_roots)] }
def SmallScalarsSaid : Prop := smallScalarsRow.holds Tryd.pinned (OpenSpec.ofChange smallScalarsSpec)

/-- ITS FALSE NEIGHBOUR: 'it returns false'. Refute it at one input. -/
def smallScalarsWrong : ChangeSpec := { name := "smallScalars", fn := fun _ => fun
  | [d1, d2] => { results := [.lit (.bool false)], args := [d1, d2] }
  | _ => none }
def SmallScalarsWrongFalsely : Prop := smallScalarsRow.holds Tryd.pinned (OpenSpec.ofChange smallScalarsWrong)

/-- 'sodalitylaw04.SmallTells': WHATEVER THE INPUT: true; the input reads as it did. -/
def smallTellsSpec : ChangeSpec := { name := "smallTells", fn := fun _ => fun
  | [d1, d2] => { results := [.lit (.bool true)], args := [d1, d2] }
  | _ => none }
def smallTellsRow : OpenClaim := { program := "ytopkmkkohmkceaadoor", sum := "06187ea2e71dad75020e5b86419446887eb303097d8a2b634b85609590bd902e", func := "sodality/sodalitylaw04.SmallTells", spec := "smallTells", unfollowed := true, recurses := true, named := ["sodality/small.roots"], apart := false, laid := [("sodality/small.roots", laid_sodality_small_roots)] }
def SmallTellsSaid : Prop := smallTellsRow.holds Tryd.pinned (OpenSpec.ofChange smallTellsSpec)

/-- ITS FALSE NEIGHBOUR: 'it returns false'. Refute it at one input. -/
def smallTellsWrong : ChangeSpec := { name := "smallTells", fn := fun _ => fun
  | [d1, d2] => { results := [.lit (.bool false)], args := [d1, d2] }
  | _ => none }
def SmallTellsWrongFalsely : Prop := smallTellsRow.holds Tryd.pinned (OpenSpec.ofChange smallTellsWrong)

/-- 'sodalitylaw04.SmallSums': WHATEVER THE INPUT: true; the input reads as it did. -/
def smallSumsSpec : ChangeSpec := { name := "smallSums", fn := fun _ => fun
  | [d1, d2, d3] => { results := [.lit (.bool true)], args := [d1, d2, d3] }
  | _ => none }
def smallSumsRow : OpenClaim := { program := "ytopkmkkohmkceaadoor", sum := "06187ea2e71dad75020e5b86419446887eb303097d8a2b634b85609590bd902e", func := "sodality/sodalitylaw04.SmallSums", spec := "smallSums", unfollowed := true, recurses := true, named := ["sodality/small.roots"], apart := false, laid := [("sodality/small.roots", laid_sodality_small_roots)] }
def SmallSumsSaid : Prop := smallSumsRow.holds Tryd.pinned (OpenSpec.ofChange smallSumsSpec)

/-- ITS FALSE NEIGHBOUR: 'it returns false'. Refute it at one input. -/
def smallSumsWrong : ChangeSpec := { name := "smallSums", fn := fun _ => fun
  | [d1, d2, d3] => { results := [.lit (.bool false)], args := [d1, d2, d3] }
  | _ => none }
def SmallSumsWrongFalsely : Prop := smallSumsRow.holds Tryd.pinned (OpenSpec.ofChange smallSumsWrong)

/- THE SECOND FORM. 'bulk': how many values and letters a reading holds, each counted each time it is reached (what is shared counts as often as it is met; a slice's spare places count too). A statement '..UptoSaid' is the law's where the arguments, and the package variables that the reading takes, are together of bulk at most 1048576: NARROWER than '..Said'. Prove '..Said' where nothing that the law and all that it calls make is longer than what came in: it says more and counts as full. Else prove '..UptoSaid'. A law counts once. -/
mutual
def uptoBulk {H : Type} : DataW H → Nat
  | .lit (.string bytes) => bytes.length + 1
  | .lit _ => 1
  | .nil => 1
  | .ptr d => uptoBulk d + 1
  | .slice elems spare => uptoBulkAll elems + uptoBulkAll spare + 1
  | .agg parts => uptoBulkAll parts + 1
  | .iface _ d => uptoBulk d + 1
  | .map entries => uptoBulkEntries entries + 1
  | .held _ => 1
def uptoBulkAll {H : Type} : List (DataW H) → Nat
  | [] => 0
  | d :: r => uptoBulk d + uptoBulkAll r
def uptoBulkEntries {H : Type} : List (Lit × DataW H) → Nat
  | [] => 0
  | x :: r => uptoBulkEntry x + uptoBulkEntries r
def uptoBulkEntry {H : Type} : Lit × DataW H → Nat
  | (.string bytes, d) => bytes.length + uptoBulk d + 1
  | (_, d) => uptoBulk d + 1
 end
def uptoSmall : (H : Type) → List (DataW H) → Bool := fun _ ds => decide (uptoBulkAll ds ≤ 1048576)
def OpenSpec.upto (s : _root_.Go.ChangeSpec) : _root_.Go.OpenSpec := { _root_.Go.OpenSpec.ofChange s with cond := some uptoSmall }

/-- 'sodalitylaw04.SmallBack', WHERE WHAT IT READS IS OF BULK AT MOST 1048576: true; the input reads as it did. -/
def smallBackUptoRow : OpenClaim := { program := "ytopkmkkohmkceaadoor", sum := "06187ea2e71dad75020e5b86419446887eb303097d8a2b634b85609590bd902e", func := "sodality/sodalitylaw04.SmallBack", spec := "smallBack", unfollowed := true, recurses := true, named := ["sodality/small.roots"], apart := false, laid := [("sodality/small.roots", laid_sodality_small_roots)], narrowed := true }
def SmallBackUptoSaid : Prop := smallBackUptoRow.holds Tryd.pinned (OpenSpec.upto smallBackSpec)

/-- 'sodalitylaw04.SmallProducts', WHERE WHAT IT READS IS OF BULK AT MOST 1048576: true; the input reads as it did. -/
def smallProductsUptoRow : OpenClaim := { program := "ytopkmkkohmkceaadoor", sum := "06187ea2e71dad75020e5b86419446887eb303097d8a2b634b85609590bd902e", func := "sodality/sodalitylaw04.SmallProducts", spec := "smallProducts", unfollowed := true, recurses := true, named := ["sodality/small.roots"], apart := false, laid := [("sodality/small.roots", laid_sodality_small_roots)], narrowed := true }
def SmallProductsUptoSaid : Prop := smallProductsUptoRow.holds Tryd.pinned (OpenSpec.upto smallProductsSpec)

/-- 'sodalitylaw04.SmallShift', WHERE WHAT IT READS IS OF BULK AT MOST 1048576: true; the input reads as it did. -/
def smallShiftUptoRow : OpenClaim := { program := "ytopkmkkohmkceaadoor", sum := "06187ea2e71dad75020e5b86419446887eb303097d8a2b634b85609590bd902e", func := "sodality/sodalitylaw04.SmallShift", spec := "smallShift", unfollowed := true, recurses := true, named := ["sodality/small.roots"], apart := false, laid := [("sodality/small.roots", laid_sodality_small_roots)], narrowed := true }
def SmallShiftUptoSaid : Prop := smallShiftUptoRow.holds Tryd.pinned (OpenSpec.upto smallShiftSpec)

/-- 'sodalitylaw04.SmallScalars', WHERE WHAT IT READS IS OF BULK AT MOST 1048576: true; the input reads as it did. -/
def smallScalarsUptoRow : OpenClaim := { program := "ytopkmkkohmkceaadoor", sum := "06187ea2e71dad75020e5b86419446887eb303097d8a2b634b85609590bd902e", func := "sodality/sodalitylaw04.SmallScalars", spec := "smallScalars", unfollowed := true, recurses := true, named := ["sodality/small.roots"], apart := false, laid := [("sodality/small.roots", laid_sodality_small_roots)], narrowed := true }
def SmallScalarsUptoSaid : Prop := smallScalarsUptoRow.holds Tryd.pinned (OpenSpec.upto smallScalarsSpec)

/-- 'sodalitylaw04.SmallTells', WHERE WHAT IT READS IS OF BULK AT MOST 1048576: true; the input reads as it did. -/
def smallTellsUptoRow : OpenClaim := { program := "ytopkmkkohmkceaadoor", sum := "06187ea2e71dad75020e5b86419446887eb303097d8a2b634b85609590bd902e", func := "sodality/sodalitylaw04.SmallTells", spec := "smallTells", unfollowed := true, recurses := true, named := ["sodality/small.roots"], apart := false, laid := [("sodality/small.roots", laid_sodality_small_roots)], narrowed := true }
def SmallTellsUptoSaid : Prop := smallTellsUptoRow.holds Tryd.pinned (OpenSpec.upto smallTellsSpec)

/-- 'sodalitylaw04.SmallSums', WHERE WHAT IT READS IS OF BULK AT MOST 1048576: true; the input reads as it did. -/
def smallSumsUptoRow : OpenClaim := { program := "ytopkmkkohmkceaadoor", sum := "06187ea2e71dad75020e5b86419446887eb303097d8a2b634b85609590bd902e", func := "sodality/sodalitylaw04.SmallSums", spec := "smallSums", unfollowed := true, recurses := true, named := ["sodality/small.roots"], apart := false, laid := [("sodality/small.roots", laid_sodality_small_roots)], narrowed := true }
def SmallSumsUptoSaid : Prop := smallSumsUptoRow.holds Tryd.pinned (OpenSpec.upto smallSumsSpec)

end Rows
end Go.Proofs.YtopkmkkohmkceaaDoor
