/-
  NARROWER THAN 'FOR EVERY INPUT', by the rows' own cells (each row's printed sentence says how): ExprTrees: loops.
  DERIVED. THE GIVEN ROWS OF THIS SEAT. 5 by the template 'for every input the law returns true; each argument reads behind the call as it read before'; 0 by the template 'total and deterministic' (their statements: YtfgokhafiffbaaaTotals.lean).
  GIVEN WITH THE SEED: the statements are not yours to turn. If you find one false, say at which input.
  Laid BY PROGRAM, IN A SANDBOX (cutbox-rows.mjs): the forced cells as the released guide's own fill.sh prints them over the translation 6e507c076a2f6891… (all of the seat's roots in one cut). By AI agents, Wed Nov 11 2026. No macro, syntax, notation, axiom, sorry.
-/
import Derived.Test.YtfgokhafiffbaaaChecked
import GoSem.Claim
import GoSem.ClaimJoined
import GoSem.ClaimMapViews
import Derived.JoinedTies
import Derived.KernelRfl
namespace Go.Proofs.Ytfgokhafiffbaaa
/- THE CELL 'sum', in the pinned program and in every row, IS THE sha256 OF THE DUMP (.gsa) THAT YtfgokhafiffbaaaProg.lean LOADS. Nothing in Lean hashes anything: it is a label: what it is worth is what the hold of that sum in a sandbox is worth. -/
noncomputable def Try.pinned : Pinned := { name := "ytfgokhafiffbaaa", sum := "6e507c076a2f68910f48133736c164b3e8c9f4602e9f0b818f95d849ec505ead", checked := Try.checked }
namespace Rows
def none {H : Type} : Left H := { results := [], args := [] }

/-- 'spinneylaw23.ExprBinds': WHATEVER THE INPUT: true; the input reads as it did. -/
def exprBindsSpec : ChangeSpec := { name := "exprBinds", fn := fun _ => fun
  | [d1, d2] => { results := [.lit (.bool true)], args := [d1, d2] }
  | _ => none }
def exprBindsRow : OpenClaim := { program := "ytfgokhafiffbaaa", sum := "6e507c076a2f68910f48133736c164b3e8c9f4602e9f0b818f95d849ec505ead", func := "spinney/spinneylaw23.ExprBinds", spec := "exprBinds", unfollowed := true, recurses := true, apart := false }
def ExprBindsSaid : Prop := exprBindsRow.holds Try.pinned (OpenSpec.ofChange exprBindsSpec)

/-- ITS FALSE NEIGHBOUR: 'it returns false'. Refute it at one input. -/
def exprBindsWrong : ChangeSpec := { name := "exprBinds", fn := fun _ => fun
  | [d1, d2] => { results := [.lit (.bool false)], args := [d1, d2] }
  | _ => none }
def ExprBindsWrongFalsely : Prop := exprBindsRow.holds Try.pinned (OpenSpec.ofChange exprBindsWrong)

/-- 'spinneylaw23.ExprNests': WHATEVER THE INPUT: true; the input reads as it did. -/
def exprNestsSpec : ChangeSpec := { name := "exprNests", fn := fun _ => fun
  | [d1, d2] => { results := [.lit (.bool true)], args := [d1, d2] }
  | _ => none }
def exprNestsRow : OpenClaim := { program := "ytfgokhafiffbaaa", sum := "6e507c076a2f68910f48133736c164b3e8c9f4602e9f0b818f95d849ec505ead", func := "spinney/spinneylaw23.ExprNests", spec := "exprNests", unfollowed := true, recurses := true, apart := false }
def ExprNestsSaid : Prop := exprNestsRow.holds Try.pinned (OpenSpec.ofChange exprNestsSpec)

/-- ITS FALSE NEIGHBOUR: 'it returns false'. Refute it at one input. -/
def exprNestsWrong : ChangeSpec := { name := "exprNests", fn := fun _ => fun
  | [d1, d2] => { results := [.lit (.bool false)], args := [d1, d2] }
  | _ => none }
def ExprNestsWrongFalsely : Prop := exprNestsRow.holds Try.pinned (OpenSpec.ofChange exprNestsWrong)

/-- 'spinneylaw23.ExprBack': WHATEVER THE INPUT: true; the input reads as it did. -/
def exprBackSpec : ChangeSpec := { name := "exprBack", fn := fun _ => fun
  | [d] => { results := [.lit (.bool true)], args := [d] }
  | _ => none }
def exprBackRow : OpenClaim := { program := "ytfgokhafiffbaaa", sum := "6e507c076a2f68910f48133736c164b3e8c9f4602e9f0b818f95d849ec505ead", func := "spinney/spinneylaw23.ExprBack", spec := "exprBack", unfollowed := true, recurses := true, apart := false }
def ExprBackSaid : Prop := exprBackRow.holds Try.pinned (OpenSpec.ofChange exprBackSpec)

/-- ITS FALSE NEIGHBOUR: 'it returns false'. Refute it at one input. -/
def exprBackWrong : ChangeSpec := { name := "exprBack", fn := fun _ => fun
  | [d] => { results := [.lit (.bool false)], args := [d] }
  | _ => none }
def ExprBackWrongFalsely : Prop := exprBackRow.holds Try.pinned (OpenSpec.ofChange exprBackWrong)

/-- 'spinneylaw23.ExprBlanks': WHATEVER THE INPUT: true; the input reads as it did. -/
def exprBlanksSpec : ChangeSpec := { name := "exprBlanks", fn := fun _ => fun
  | [d1, d2, d3] => { results := [.lit (.bool true)], args := [d1, d2, d3] }
  | _ => none }
def exprBlanksRow : OpenClaim := { program := "ytfgokhafiffbaaa", sum := "6e507c076a2f68910f48133736c164b3e8c9f4602e9f0b818f95d849ec505ead", func := "spinney/spinneylaw23.ExprBlanks", spec := "exprBlanks", unfollowed := true, recurses := true, apart := false }
def ExprBlanksSaid : Prop := exprBlanksRow.holds Try.pinned (OpenSpec.ofChange exprBlanksSpec)

/-- ITS FALSE NEIGHBOUR: 'it returns false'. Refute it at one input. -/
def exprBlanksWrong : ChangeSpec := { name := "exprBlanks", fn := fun _ => fun
  | [d1, d2, d3] => { results := [.lit (.bool false)], args := [d1, d2, d3] }
  | _ => none }
def ExprBlanksWrongFalsely : Prop := exprBlanksRow.holds Try.pinned (OpenSpec.ofChange exprBlanksWrong)

/-- 'spinneylaw23.ExprTrees': WHATEVER THE INPUT: true; the input reads as it did. -/
def exprTreesSpec : ChangeSpec := { name := "exprTrees", fn := fun _ => fun
  | [d1, d2] => { results := [.lit (.bool true)], args := [d1, d2] }
  | _ => none }
def exprTreesRow : OpenClaim := { program := "ytfgokhafiffbaaa", sum := "6e507c076a2f68910f48133736c164b3e8c9f4602e9f0b818f95d849ec505ead", func := "spinney/spinneylaw23.ExprTrees", spec := "exprTrees", unfollowed := true, recurses := true, loops := true, apart := false }
def ExprTreesSaid : Prop := exprTreesRow.holds Try.pinned (OpenSpec.ofChange exprTreesSpec)

/-- ITS FALSE NEIGHBOUR: 'it returns false'. Refute it at one input. -/
def exprTreesWrong : ChangeSpec := { name := "exprTrees", fn := fun _ => fun
  | [d1, d2] => { results := [.lit (.bool false)], args := [d1, d2] }
  | _ => none }
def ExprTreesWrongFalsely : Prop := exprTreesRow.holds Try.pinned (OpenSpec.ofChange exprTreesWrong)

/- THE SECOND FORM. 'bulk': how many values and letters a reading holds, each counted each time it is reached (what is shared counts as often as it is met; a slice's spare places count too). A statement '..UptoSaid' is the law's where the arguments, and the package variables that the reading takes, are together of bulk at most 1048576: NARROWER than '..Said'. Prove '..Said' where nothing that the law and all that it calls make is longer than what came in: it says more and counts as full. Else prove '..UptoSaid'. A law counts once. -/
mutual
def uptoBulk {H : Type} : DataW H → Nat
  | .lit (.string bytes) => bytes.length + 1
  | .lit _ => 1
  | .nil => 1
  | .ptr d => uptoBulk d + 1
  | .slice elems spare => uptoBulkAll elems + uptoBulkAll spare + 1
  | .agg parts => uptoBulkAll parts + 1
  | .iface _ d => uptoBulk d + 1
  | .map entries => uptoBulkEntries entries + 1
  | .held _ => 1
def uptoBulkAll {H : Type} : List (DataW H) → Nat
  | [] => 0
  | d :: r => uptoBulk d + uptoBulkAll r
def uptoBulkEntries {H : Type} : List (Lit × DataW H) → Nat
  | [] => 0
  | x :: r => uptoBulkEntry x + uptoBulkEntries r
def uptoBulkEntry {H : Type} : Lit × DataW H → Nat
  | (.string bytes, d) => bytes.length + uptoBulk d + 1
  | (_, d) => uptoBulk d + 1
 end
def uptoSmall : (H : Type) → List (DataW H) → Bool := fun _ ds => decide (uptoBulkAll ds ≤ 1048576)
def OpenSpec.upto (s : _root_.Go.ChangeSpec) : _root_.Go.OpenSpec := { _root_.Go.OpenSpec.ofChange s with cond := some uptoSmall }

/-- 'spinneylaw23.ExprBinds', WHERE WHAT IT READS IS OF BULK AT MOST 1048576: true; the input reads as it did. -/
def exprBindsUptoRow : OpenClaim := { program := "ytfgokhafiffbaaa", sum := "6e507c076a2f68910f48133736c164b3e8c9f4602e9f0b818f95d849ec505ead", func := "spinney/spinneylaw23.ExprBinds", spec := "exprBinds", unfollowed := true, recurses := true, apart := false, narrowed := true }
def ExprBindsUptoSaid : Prop := exprBindsUptoRow.holds Try.pinned (OpenSpec.upto exprBindsSpec)

/-- 'spinneylaw23.ExprNests', WHERE WHAT IT READS IS OF BULK AT MOST 1048576: true; the input reads as it did. -/
def exprNestsUptoRow : OpenClaim := { program := "ytfgokhafiffbaaa", sum := "6e507c076a2f68910f48133736c164b3e8c9f4602e9f0b818f95d849ec505ead", func := "spinney/spinneylaw23.ExprNests", spec := "exprNests", unfollowed := true, recurses := true, apart := false, narrowed := true }
def ExprNestsUptoSaid : Prop := exprNestsUptoRow.holds Try.pinned (OpenSpec.upto exprNestsSpec)

/-- 'spinneylaw23.ExprBack', WHERE WHAT IT READS IS OF BULK AT MOST 1048576: true; the input reads as it did. -/
def exprBackUptoRow : OpenClaim := { program := "ytfgokhafiffbaaa", sum := "6e507c076a2f68910f48133736c164b3e8c9f4602e9f0b818f95d849ec505ead", func := "spinney/spinneylaw23.ExprBack", spec := "exprBack", unfollowed := true, recurses := true, apart := false, narrowed := true }
def ExprBackUptoSaid : Prop := exprBackUptoRow.holds Try.pinned (OpenSpec.upto exprBackSpec)

/-- 'spinneylaw23.ExprBlanks', WHERE WHAT IT READS IS OF BULK AT MOST 1048576: true; the input reads as it did. -/
def exprBlanksUptoRow : OpenClaim := { program := "ytfgokhafiffbaaa", sum := "6e507c076a2f68910f48133736c164b3e8c9f4602e9f0b818f95d849ec505ead", func := "spinney/spinneylaw23.ExprBlanks", spec := "exprBlanks", unfollowed := true, recurses := true, apart := false, narrowed := true }
def ExprBlanksUptoSaid : Prop := exprBlanksUptoRow.holds Try.pinned (OpenSpec.upto exprBlanksSpec)

/-- 'spinneylaw23.ExprTrees', WHERE WHAT IT READS IS OF BULK AT MOST 1048576: true; the input reads as it did. -/
def exprTreesUptoRow : OpenClaim := { program := "ytfgokhafiffbaaa", sum := "6e507c076a2f68910f48133736c164b3e8c9f4602e9f0b818f95d849ec505ead", func := "spinney/spinneylaw23.ExprTrees", spec := "exprTrees", unfollowed := true, recurses := true, loops := true, apart := false, narrowed := true }
def ExprTreesUptoSaid : Prop := exprTreesUptoRow.holds Try.pinned (OpenSpec.upto exprTreesSpec)

end Rows
end Go.Proofs.Ytfgokhafiffbaaa
