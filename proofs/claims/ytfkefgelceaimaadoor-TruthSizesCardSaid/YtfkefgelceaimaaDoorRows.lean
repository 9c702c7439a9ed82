/-
  NARROWER THAN 'FOR EVERY INPUT', by the rows' own cells (each row's printed sentence says how): TruthCounts: laid · TruthCountsUp: laid · TruthSizes: laid · TruthRing: laid · TruthQuants: laid · TruthPoints: laid · TruthRels: laid · TruthSteps: laid · TruthTells: laid.
  DERIVED. THE GIVEN ROWS OF THIS SEAT. 9 by the template 'for every input the law returns true; each argument reads behind the call as it read before'; 0 by the template 'total and deterministic' (their statements: YtfkefgelceaimaaDoorTotals.lean).
  GIVEN WITH THE SEED: the statements are not yours to turn. If you find one false, say at which input.
  Laid BY PROGRAM, IN A SANDBOX (cutbox-rows.mjs): the forced cells as the released guide's own fill.sh prints them over the translation a38710e640bba713… (all of the seat's roots in one cut). By AI agents, Wed Nov 11 2026. No macro, syntax, notation, axiom, sorry.
-/
import Derived.Test.YtfkefgelceaimaaDoorChecked
import GoSem.Claim
import GoSem.ClaimJoined
import GoSem.ClaimMapViews
import Derived.JoinedTies
import Derived.KernelRfl
namespace Go.Proofs.YtfkefgelceaimaaDoor
/- THE CELL 'sum', in the pinned program and in every row, IS THE sha256 OF THE DUMP (.gsa) THAT YtfkefgelceaimaaDoorProg.lean LOADS. Nothing in Lean hashes anything: it is a label: what it is worth is what the hold of that sum in a sandbox is worth. -/
noncomputable def Tryd.pinned : Pinned := { name := "ytfkefgelceaimaadoor", sum := "a38710e640bba71352013a793b57e1fbbffd9a9600bac5dca8baf326e9839828", checked := Tryd.checked }
namespace Rows
def none {H : Type} : Left H := { results := [], args := [] }

/- WHAT THE LISTED PACKAGE-LEVEL VARIABLES READ AS WHEN THE CALL BEGINS. Each datum BY PROGRAM (the guide's laid-datum.mjs) off the statement by which the dump's own 'gosem.cut.vars' lays the variable. In a bare row this is a premise. The card (YtfkefgelceaimaaDoorCards.lean) ties it to the program's text. -/
def laid_math_bits_deBruijn64tab {H : Type} : DataW H := .agg [.lit (.int .u8 0), .lit (.int .u8 1), .lit (.int .u8 56), .lit (.int .u8 2), .lit (.int .u8 57), .lit (.int .u8 49), .lit (.int .u8 28), .lit (.int .u8 3), .lit (.int .u8 61), .lit (.int .u8 58), .lit (.int .u8 42), .lit (.int .u8 50), .lit (.int .u8 38), .lit (.int .u8 29), .lit (.int .u8 17), .lit (.int .u8 4), .lit (.int .u8 62), .lit (.int .u8 47), .lit (.int .u8 59), .lit (.int .u8 36), .lit (.int .u8 45), .lit (.int .u8 43), .lit (.int .u8 51), .lit (.int .u8 22), .lit (.int .u8 53), .lit (.int .u8 39), .lit (.int .u8 33), .lit (.int .u8 30), .lit (.int .u8 24), .lit (.int .u8 18), .lit (.int .u8 12), .lit (.int .u8 5), .lit (.int .u8 63), .lit (.int .u8 55), .lit (.int .u8 48), .lit (.int .u8 27), .lit (.int .u8 60), .lit (.int .u8 41), .lit (.int .u8 37), .lit (.int .u8 16), .lit (.int .u8 46), .lit (.int .u8 35), .lit (.int .u8 44), .lit (.int .u8 21), .lit (.int .u8 52), .lit (.int .u8 32), .lit (.int .u8 23), .lit (.int .u8 11), .lit (.int .u8 54), .lit (.int .u8 26), .lit (.int .u8 40), .lit (.int .u8 15), .lit (.int .u8 34), .lit (.int .u8 20), .lit (.int .u8 31), .lit (.int .u8 10), .lit (.int .u8 25), .lit (.int .u8 14), .lit (.int .u8 19), .lit (.int .u8 9), .lit (.int .u8 13), .lit (.int .u8 8), .lit (.int .u8 7), .lit (.int .u8 6)]

/-- 'spinneylaw3.TruthCounts': WHATEVER THE INPUT: true; the input reads as it did. -/
def truthCountsSpec : ChangeSpec := { name := "truthCounts", fn := fun _ => fun
  | [d1, d2, d3] => { results := [.lit (.bool true)], args := [d1, d2, d3] }
  | _ => none }
def truthCountsRow : OpenClaim := { program := "ytfkefgelceaimaadoor", sum := "a38710e640bba71352013a793b57e1fbbffd9a9600bac5dca8baf326e9839828", func := "spinney/spinneylaw3.TruthCounts", spec := "truthCounts", unfollowed := true, recurses := true, named := ["math/bits.deBruijn64tab"], plainKeys := false, apart := false, laid := [("math/bits.deBruijn64tab", laid_math_bits_deBruijn64tab)] }
def TruthCountsSaid : Prop := truthCountsRow.holds Tryd.pinned (OpenSpec.ofChange truthCountsSpec)

/-- ITS FALSE NEIGHBOUR: 'it returns false'. Refute it at one input. -/
def truthCountsWrong : ChangeSpec := { name := "truthCounts", fn := fun _ => fun
  | [d1, d2, d3] => { results := [.lit (.bool false)], args := [d1, d2, d3] }
  | _ => none }
def TruthCountsWrongFalsely : Prop := truthCountsRow.holds Tryd.pinned (OpenSpec.ofChange truthCountsWrong)

/-- 'spinneylaw3.TruthCountsUp': WHATEVER THE INPUT: true; the input reads as it did. -/
def truthCountsUpSpec : ChangeSpec := { name := "truthCountsUp", fn := fun _ => fun
  | [d1, d2, d3] => { results := [.lit (.bool true)], args := [d1, d2, d3] }
  | _ => none }
def truthCountsUpRow : OpenClaim := { program := "ytfkefgelceaimaadoor", sum := "a38710e640bba71352013a793b57e1fbbffd9a9600bac5dca8baf326e9839828", func := "spinney/spinneylaw3.TruthCountsUp", spec := "truthCountsUp", unfollowed := true, recurses := true, named := ["math/bits.deBruijn64tab"], plainKeys := false, apart := false, laid := [("math/bits.deBruijn64tab", laid_math_bits_deBruijn64tab)] }
def TruthCountsUpSaid : Prop := truthCountsUpRow.holds Tryd.pinned (OpenSpec.ofChange truthCountsUpSpec)

/-- ITS FALSE NEIGHBOUR: 'it returns false'. Refute it at one input. -/
def truthCountsUpWrong : ChangeSpec := { name := "truthCountsUp", fn := fun _ => fun
  | [d1, d2, d3] => { results := [.lit (.bool false)], args := [d1, d2, d3] }
  | _ => none }
def TruthCountsUpWrongFalsely : Prop := truthCountsUpRow.holds Tryd.pinned (OpenSpec.ofChange truthCountsUpWrong)

/-- 'spinneylaw3.TruthSizes': WHATEVER THE INPUT: true; the input reads as it did. -/
def truthSizesSpec : ChangeSpec := { name := "truthSizes", fn := fun _ => fun
  | [d1, d2, d3] => { results := [.lit (.bool true)], args := [d1, d2, d3] }
  | _ => none }
def truthSizesRow : OpenClaim := { program := "ytfkefgelceaimaadoor", sum := "a38710e640bba71352013a793b57e1fbbffd9a9600bac5dca8baf326e9839828", func := "spinney/spinneylaw3.TruthSizes", spec := "truthSizes", unfollowed := true, recurses := true, named := ["math/bits.deBruijn64tab"], plainKeys := false, apart := false, laid := [("math/bits.deBruijn64tab", laid_math_bits_deBruijn64tab)] }
def TruthSizesSaid : Prop := truthSizesRow.holds Tryd.pinned (OpenSpec.ofChange truthSizesSpec)

/-- ITS FALSE NEIGHBOUR: 'it returns false'. Refute it at one input. -/
def truthSizesWrong : ChangeSpec := { name := "truthSizes", fn := fun _ => fun
  | [d1, d2, d3] => { results := [.lit (.bool false)], args := [d1, d2, d3] }
  | _ => none }
def TruthSizesWrongFalsely : Prop := truthSizesRow.holds Tryd.pinned (OpenSpec.ofChange truthSizesWrong)

/-- 'spinneylaw3.TruthRing': WHATEVER THE INPUT: true; the input reads as it did. -/
def truthRingSpec : ChangeSpec := { name := "truthRing", fn := fun _ => fun
  | [d1, d2, d3] => { results := [.lit (.bool true)], args := [d1, d2, d3] }
  | _ => none }
def truthRingRow : OpenClaim := { program := "ytfkefgelceaimaadoor", sum := "a38710e640bba71352013a793b57e1fbbffd9a9600bac5dca8baf326e9839828", func := "spinney/spinneylaw3.TruthRing", spec := "truthRing", unfollowed := true, recurses := true, named := ["math/bits.deBruijn64tab"], plainKeys := false, apart := false, laid := [("math/bits.deBruijn64tab", laid_math_bits_deBruijn64tab)] }
def TruthRingSaid : Prop := truthRingRow.holds Tryd.pinned (OpenSpec.ofChange truthRingSpec)

/-- ITS FALSE NEIGHBOUR: 'it returns false'. Refute it at one input. -/
def truthRingWrong : ChangeSpec := { name := "truthRing", fn := fun _ => fun
  | [d1, d2, d3] => { results := [.lit (.bool false)], args := [d1, d2, d3] }
  | _ => none }
def TruthRingWrongFalsely : Prop := truthRingRow.holds Tryd.pinned (OpenSpec.ofChange truthRingWrong)

/-- 'spinneylaw3.TruthQuants': WHATEVER THE INPUT: true; the input reads as it did. -/
def truthQuantsSpec : ChangeSpec := { name := "truthQuants", fn := fun _ => fun
  | [d1, d2, d3, d4] => { results := [.lit (.bool true)], args := [d1, d2, d3, d4] }
  | _ => none }
def truthQuantsRow : OpenClaim := { program := "ytfkefgelceaimaadoor", sum := "a38710e640bba71352013a793b57e1fbbffd9a9600bac5dca8baf326e9839828", func := "spinney/spinneylaw3.TruthQuants", spec := "truthQuants", unfollowed := true, recurses := true, named := ["math/bits.deBruijn64tab"], plainKeys := false, apart := false, laid := [("math/bits.deBruijn64tab", laid_math_bits_deBruijn64tab)] }
def TruthQuantsSaid : Prop := truthQuantsRow.holds Tryd.pinned (OpenSpec.ofChange truthQuantsSpec)

/-- ITS FALSE NEIGHBOUR: 'it returns false'. Refute it at one input. -/
def truthQuantsWrong : ChangeSpec := { name := "truthQuants", fn := fun _ => fun
  | [d1, d2, d3, d4] => { results := [.lit (.bool false)], args := [d1, d2, d3, d4] }
  | _ => none }
def TruthQuantsWrongFalsely : Prop := truthQuantsRow.holds Tryd.pinned (OpenSpec.ofChange truthQuantsWrong)

/-- 'spinneylaw3.TruthPoints': WHATEVER THE INPUT: true; the input reads as it did. -/
def truthPointsSpec : ChangeSpec := { name := "truthPoints", fn := fun _ => fun
  | [d1, d2, d3, d4, d5] => { results := [.lit (.bool true)], args := [d1, d2, d3, d4, d5] }
  | _ => none }
def truthPointsRow : OpenClaim := { program := "ytfkefgelceaimaadoor", sum := "a38710e640bba71352013a793b57e1fbbffd9a9600bac5dca8baf326e9839828", func := "spinney/spinneylaw3.TruthPoints", spec := "truthPoints", unfollowed := true, recurses := true, named := ["math/bits.deBruijn64tab"], plainKeys := false, apart := false, laid := [("math/bits.deBruijn64tab", laid_math_bits_deBruijn64tab)] }
def TruthPointsSaid : Prop := truthPointsRow.holds Tryd.pinned (OpenSpec.ofChange truthPointsSpec)

/-- ITS FALSE NEIGHBOUR: 'it returns false'. Refute it at one input. -/
def truthPointsWrong : ChangeSpec := { name := "truthPoints", fn := fun _ => fun
  | [d1, d2, d3, d4, d5] => { results := [.lit (.bool false)], args := [d1, d2, d3, d4, d5] }
  | _ => none }
def TruthPointsWrongFalsely : Prop := truthPointsRow.holds Tryd.pinned (OpenSpec.ofChange truthPointsWrong)

/-- 'spinneylaw3.TruthRels': WHATEVER THE INPUT: true; the input reads as it did. -/
def truthRelsSpec : ChangeSpec := { name := "truthRels", fn := fun _ => fun
  | [d1, d2, d3, d4] => { results := [.lit (.bool true)], args := [d1, d2, d3, d4] }
  | _ => none }
def truthRelsRow : OpenClaim := { program := "ytfkefgelceaimaadoor", sum := "a38710e640bba71352013a793b57e1fbbffd9a9600bac5dca8baf326e9839828", func := "spinney/spinneylaw3.TruthRels", spec := "truthRels", unfollowed := true, recurses := true, named := ["math/bits.deBruijn64tab"], plainKeys := false, apart := false, laid := [("math/bits.deBruijn64tab", laid_math_bits_deBruijn64tab)] }
def TruthRelsSaid : Prop := truthRelsRow.holds Tryd.pinned (OpenSpec.ofChange truthRelsSpec)

/-- ITS FALSE NEIGHBOUR: 'it returns false'. Refute it at one input. -/
def truthRelsWrong : ChangeSpec := { name := "truthRels", fn := fun _ => fun
  | [d1, d2, d3, d4] => { results := [.lit (.bool false)], args := [d1, d2, d3, d4] }
  | _ => none }
def TruthRelsWrongFalsely : Prop := truthRelsRow.holds Tryd.pinned (OpenSpec.ofChange truthRelsWrong)

/-- 'spinneylaw3.TruthSteps': WHATEVER THE INPUT: true; the input reads as it did. -/
def truthStepsSpec : ChangeSpec := { name := "truthSteps", fn := fun _ => fun
  | [d1, d2, d3] => { results := [.lit (.bool true)], args := [d1, d2, d3] }
  | _ => none }
def truthStepsRow : OpenClaim := { program := "ytfkefgelceaimaadoor", sum := "a38710e640bba71352013a793b57e1fbbffd9a9600bac5dca8baf326e9839828", func := "spinney/spinneylaw3.TruthSteps", spec := "truthSteps", unfollowed := true, recurses := true, named := ["math/bits.deBruijn64tab"], plainKeys := false, apart := false, laid := [("math/bits.deBruijn64tab", laid_math_bits_deBruijn64tab)] }
def TruthStepsSaid : Prop := truthStepsRow.holds Tryd.pinned (OpenSpec.ofChange truthStepsSpec)

/-- ITS FALSE NEIGHBOUR: 'it returns false'. Refute it at one input. -/
def truthStepsWrong : ChangeSpec := { name := "truthSteps", fn := fun _ => fun
  | [d1, d2, d3] => { results := [.lit (.bool false)], args := [d1, d2, d3] }
  | _ => none }
def TruthStepsWrongFalsely : Prop := truthStepsRow.holds Tryd.pinned (OpenSpec.ofChange truthStepsWrong)

/-- 'spinneylaw3.TruthTells': WHATEVER THE INPUT: true; the input reads as it did. -/
def truthTellsSpec : ChangeSpec := { name := "truthTells", fn := fun _ => fun
  | [d1, d2, d3, d4, d5, d6, d7, d8] => { results := [.lit (.bool true)], args := [d1, d2, d3, d4, d5, d6, d7, d8] }
  | _ => none }
def truthTellsRow : OpenClaim := { program := "ytfkefgelceaimaadoor", sum := "a38710e640bba71352013a793b57e1fbbffd9a9600bac5dca8baf326e9839828", func := "spinney/spinneylaw3.TruthTells", spec := "truthTells", unfollowed := true, recurses := true, named := ["math/bits.deBruijn64tab"], plainKeys := false, apart := false, laid := [("math/bits.deBruijn64tab", laid_math_bits_deBruijn64tab)] }
def TruthTellsSaid : Prop := truthTellsRow.holds Tryd.pinned (OpenSpec.ofChange truthTellsSpec)

/-- ITS FALSE NEIGHBOUR: 'it returns false'. Refute it at one input. -/
def truthTellsWrong : ChangeSpec := { name := "truthTells", fn := fun _ => fun
  | [d1, d2, d3, d4, d5, d6, d7, d8] => { results := [.lit (.bool false)], args := [d1, d2, d3, d4, d5, d6, d7, d8] }
  | _ => none }
def TruthTellsWrongFalsely : Prop := truthTellsRow.holds Tryd.pinned (OpenSpec.ofChange truthTellsWrong)

/- THE SECOND FORM. 'bulk': how many values and letters a reading holds, each counted each time it is reached (what is shared counts as often as it is met; a slice's spare places count too). A statement '..UptoSaid' is the law's where the arguments, and the package variables that the reading takes, are together of bulk at most 1048576: NARROWER than '..Said'. Prove '..Said' where nothing that the law and all that it calls make is longer than what came in: it says more and counts as full. Else prove '..UptoSaid'. A law counts once. -/
mutual
def uptoBulk {H : Type} : DataW H → Nat
  | .lit (.string bytes) => bytes.length + 1
  | .lit _ => 1
  | .nil => 1
  | .ptr d => uptoBulk d + 1
  | .slice elems spare => uptoBulkAll elems + uptoBulkAll spare + 1
  | .agg parts => uptoBulkAll parts + 1
  | .iface _ d => uptoBulk d + 1
  | .map entries => uptoBulkEntries entries + 1
  | .held _ => 1
def uptoBulkAll {H : Type} : List (DataW H) → Nat
  | [] => 0
  | d :: r => uptoBulk d + uptoBulkAll r
def uptoBulkEntries {H : Type} : List (Lit × DataW H) → Nat
  | [] => 0
  | x :: r => uptoBulkEntry x + uptoBulkEntries r
def uptoBulkEntry {H : Type} : Lit × DataW H → Nat
  | (.string bytes, d) => bytes.length + uptoBulk d + 1
  | (_, d) => uptoBulk d + 1
 end
def uptoSmall : (H : Type) → List (DataW H) → Bool := fun _ ds => decide (uptoBulkAll ds ≤ 1048576)
def OpenSpec.upto (s : _root_.Go.ChangeSpec) : _root_.Go.OpenSpec := { _root_.Go.OpenSpec.ofChange s with cond := some uptoSmall }

/-- 'spinneylaw3.TruthCounts', WHERE WHAT IT READS IS OF BULK AT MOST 1048576: true; the input reads as it did. -/
def truthCountsUptoRow : OpenClaim := { program := "ytfkefgelceaimaadoor", sum := "a38710e640bba71352013a793b57e1fbbffd9a9600bac5dca8baf326e9839828", func := "spinney/spinneylaw3.TruthCounts", spec := "truthCounts", unfollowed := true, recurses := true, named := ["math/bits.deBruijn64tab"], plainKeys := false, apart := false, laid := [("math/bits.deBruijn64tab", laid_math_bits_deBruijn64tab)], narrowed := true }
def TruthCountsUptoSaid : Prop := truthCountsUptoRow.holds Tryd.pinned (OpenSpec.upto truthCountsSpec)

/-- 'spinneylaw3.TruthCountsUp', WHERE WHAT IT READS IS OF BULK AT MOST 1048576: true; the input reads as it did. -/
def truthCountsUpUptoRow : OpenClaim := { program := "ytfkefgelceaimaadoor", sum := "a38710e640bba71352013a793b57e1fbbffd9a9600bac5dca8baf326e9839828", func := "spinney/spinneylaw3.TruthCountsUp", spec := "truthCountsUp", unfollowed := true, recurses := true, named := ["math/bits.deBruijn64tab"], plainKeys := false, apart := false, laid := [("math/bits.deBruijn64tab", laid_math_bits_deBruijn64tab)], narrowed := true }
def TruthCountsUpUptoSaid : Prop := truthCountsUpUptoRow.holds Tryd.pinned (OpenSpec.upto truthCountsUpSpec)

/-- 'spinneylaw3.TruthSizes', WHERE WHAT IT READS IS OF BULK AT MOST 1048576: true; the input reads as it did. -/
def truthSizesUptoRow : OpenClaim := { program := "ytfkefgelceaimaadoor", sum := "a38710e640bba71352013a793b57e1fbbffd9a9600bac5dca8baf326e9839828", func := "spinney/spinneylaw3.TruthSizes", spec := "truthSizes", unfollowed := true, recurses := true, named := ["math/bits.deBruijn64tab"], plainKeys := false, apart := false, laid := [("math/bits.deBruijn64tab", laid_math_bits_deBruijn64tab)], narrowed := true }
def TruthSizesUptoSaid : Prop := truthSizesUptoRow.holds Tryd.pinned (OpenSpec.upto truthSizesSpec)

/-- 'spinneylaw3.TruthRing', WHERE WHAT IT READS IS OF BULK AT MOST 1048576: true; the input reads as it did. -/
def truthRingUptoRow : OpenClaim := { program := "ytfkefgelceaimaadoor", sum := "a38710e640bba71352013a793b57e1fbbffd9a9600bac5dca8baf326e9839828", func := "spinney/spinneylaw3.TruthRing", spec := "truthRing", unfollowed := true, recurses := true, named := ["math/bits.deBruijn64tab"], plainKeys := false, apart := false, laid := [("math/bits.deBruijn64tab", laid_math_bits_deBruijn64tab)], narrowed := true }
def TruthRingUptoSaid : Prop := truthRingUptoRow.holds Tryd.pinned (OpenSpec.upto truthRingSpec)

/-- 'spinneylaw3.TruthQuants', WHERE WHAT IT READS IS OF BULK AT MOST 1048576: true; the input reads as it did. -/
def truthQuantsUptoRow : OpenClaim := { program := "ytfkefgelceaimaadoor", sum := "a38710e640bba71352013a793b57e1fbbffd9a9600bac5dca8baf326e9839828", func := "spinney/spinneylaw3.TruthQuants", spec := "truthQuants", unfollowed := true, recurses := true, named := ["math/bits.deBruijn64tab"], plainKeys := false, apart := false, laid := [("math/bits.deBruijn64tab", laid_math_bits_deBruijn64tab)], narrowed := true }
def TruthQuantsUptoSaid : Prop := truthQuantsUptoRow.holds Tryd.pinned (OpenSpec.upto truthQuantsSpec)

/-- 'spinneylaw3.TruthPoints', WHERE WHAT IT READS IS OF BULK AT MOST 1048576: true; the input reads as it did. -/
def truthPointsUptoRow : OpenClaim := { program := "ytfkefgelceaimaadoor", sum := "a38710e640bba71352013a793b57e1fbbffd9a9600bac5dca8baf326e9839828", func := "spinney/spinneylaw3.TruthPoints", spec := "truthPoints", unfollowed := true, recurses := true, named := ["math/bits.deBruijn64tab"], plainKeys := false, apart := false, laid := [("math/bits.deBruijn64tab", laid_math_bits_deBruijn64tab)], narrowed := true }
def TruthPointsUptoSaid : Prop := truthPointsUptoRow.holds Tryd.pinned (OpenSpec.upto truthPointsSpec)

/-- 'spinneylaw3.TruthRels', WHERE WHAT IT READS IS OF BULK AT MOST 1048576: true; the input reads as it did. -/
def truthRelsUptoRow : OpenClaim := { program := "ytfkefgelceaimaadoor", sum := "a38710e640bba71352013a793b57e1fbbffd9a9600bac5dca8baf326e9839828", func := "spinney/spinneylaw3.TruthRels", spec := "truthRels", unfollowed := true, recurses := true, named := ["math/bits.deBruijn64tab"], plainKeys := false, apart := false, laid := [("math/bits.deBruijn64tab", laid_math_bits_deBruijn64tab)], narrowed := true }
def TruthRelsUptoSaid : Prop := truthRelsUptoRow.holds Tryd.pinned (OpenSpec.upto truthRelsSpec)

/-- 'spinneylaw3.TruthSteps', WHERE WHAT IT READS IS OF BULK AT MOST 1048576: true; the input reads as it did. -/
def truthStepsUptoRow : OpenClaim := { program := "ytfkefgelceaimaadoor", sum := "a38710e640bba71352013a793b57e1fbbffd9a9600bac5dca8baf326e9839828", func := "spinney/spinneylaw3.TruthSteps", spec := "truthSteps", unfollowed := true, recurses := true, named := ["math/bits.deBruijn64tab"], plainKeys := false, apart := false, laid := [("math/bits.deBruijn64tab", laid_math_bits_deBruijn64tab)], narrowed := true }
def TruthStepsUptoSaid : Prop := truthStepsUptoRow.holds Tryd.pinned (OpenSpec.upto truthStepsSpec)

/-- 'spinneylaw3.TruthTells', WHERE WHAT IT READS IS OF BULK AT MOST 1048576: true; the input reads as it did. -/
def truthTellsUptoRow : OpenClaim := { program := "ytfkefgelceaimaadoor", sum := "a38710e640bba71352013a793b57e1fbbffd9a9600bac5dca8baf326e9839828", func := "spinney/spinneylaw3.TruthTells", spec := "truthTells", unfollowed := true, recurses := true, named := ["math/bits.deBruijn64tab"], plainKeys := false, apart := false, laid := [("math/bits.deBruijn64tab", laid_math_bits_deBruijn64tab)], narrowed := true }
def TruthTellsUptoSaid : Prop := truthTellsUptoRow.holds Tryd.pinned (OpenSpec.upto truthTellsSpec)

end Rows
end Go.Proofs.YtfkefgelceaimaaDoor
