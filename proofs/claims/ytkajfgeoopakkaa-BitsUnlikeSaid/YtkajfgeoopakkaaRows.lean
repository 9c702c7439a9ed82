/-
  No cell of these rows narrows 'for every input' (looked for: loops, veiled, ifaces, maps, wideKeys, modest, calm, conditions, laid).
  DERIVED. THE GIVEN ROWS OF THIS SEAT. 6 by the template 'for every input the law returns true; each argument reads behind the call as it read before'; 0 by the template 'total and deterministic' (their statements: YtkajfgeoopakkaaTotals.lean).
  GIVEN WITH THE SEED: the statements are not yours to turn. If you find one false, say at which input.
  Laid BY PROGRAM, IN A SANDBOX (cutbox-rows.mjs): the forced cells as the released guide's own fill.sh prints them over the translation b122cfbe51de5873… (all of the seat's roots in one cut). By AI agents, Wed Nov 11 2026. No macro, syntax, notation, axiom, sorry.
-/
import Derived.Test.YtkajfgeoopakkaaChecked
import GoSem.Claim
import GoSem.ClaimJoined
import GoSem.ClaimMapViews
import Derived.JoinedTies
import Derived.KernelRfl
namespace Go.Proofs.Ytkajfgeoopakkaa
/- THE CELL 'sum', in the pinned program and in every row, IS THE sha256 OF THE DUMP (.gsa) THAT YtkajfgeoopakkaaProg.lean LOADS. Nothing in Lean hashes anything: it is a label: what it is worth is what the hold of that sum in a sandbox is worth. -/
noncomputable def Try.pinned : Pinned := { name := "ytkajfgeoopakkaa", sum := "b122cfbe51de5873f6f77b6674b7ea0bfe6a45d39e902fa7bfbbe8db09e0f8e5", checked := Try.checked }
namespace Rows
def none {H : Type} : Left H := { results := [], args := [] }

/-- 'spinneylaw1.BitsBack': WHATEVER THE INPUT: true; the input reads as it did. -/
def bitsBackSpec : ChangeSpec := { name := "bitsBack", fn := fun _ => fun
  | [d1, d2, d3, d4] => { results := [.lit (.bool true)], args := [d1, d2, d3, d4] }
  | _ => none }
def bitsBackRow : OpenClaim := { program := "ytkajfgeoopakkaa", sum := "b122cfbe51de5873f6f77b6674b7ea0bfe6a45d39e902fa7bfbbe8db09e0f8e5", func := "spinney/spinneylaw1.BitsBack", spec := "bitsBack", apart := false }
def BitsBackSaid : Prop := bitsBackRow.holds Try.pinned (OpenSpec.ofChange bitsBackSpec)

/-- ITS FALSE NEIGHBOUR: 'it returns false'. Refute it at one input. -/
def bitsBackWrong : ChangeSpec := { name := "bitsBack", fn := fun _ => fun
  | [d1, d2, d3, d4] => { results := [.lit (.bool false)], args := [d1, d2, d3, d4] }
  | _ => none }
def BitsBackWrongFalsely : Prop := bitsBackRow.holds Try.pinned (OpenSpec.ofChange bitsBackWrong)

/-- 'spinneylaw1.BitsUnlike': WHATEVER THE INPUT: true; the input reads as it did. -/
def bitsUnlikeSpec : ChangeSpec := { name := "bitsUnlike", fn := fun _ => fun
  | [d1, d2, d3, d4, d5, d6] => { results := [.lit (.bool true)], args := [d1, d2, d3, d4, d5, d6] }
  | _ => none }
def bitsUnlikeRow : OpenClaim := { program := "ytkajfgeoopakkaa", sum := "b122cfbe51de5873f6f77b6674b7ea0bfe6a45d39e902fa7bfbbe8db09e0f8e5", func := "spinney/spinneylaw1.BitsUnlike", spec := "bitsUnlike", apart := false }
def BitsUnlikeSaid : Prop := bitsUnlikeRow.holds Try.pinned (OpenSpec.ofChange bitsUnlikeSpec)

/-- ITS FALSE NEIGHBOUR: 'it returns false'. Refute it at one input. -/
def bitsUnlikeWrong : ChangeSpec := { name := "bitsUnlike", fn := fun _ => fun
  | [d1, d2, d3, d4, d5, d6] => { results := [.lit (.bool false)], args := [d1, d2, d3, d4, d5, d6] }
  | _ => none }
def BitsUnlikeWrongFalsely : Prop := bitsUnlikeRow.holds Try.pinned (OpenSpec.ofChange bitsUnlikeWrong)

/-- 'spinneylaw1.BitsUnmix': WHATEVER THE INPUT: true; the input reads as it did. -/
def bitsUnmixSpec : ChangeSpec := { name := "bitsUnmix", fn := fun _ => fun
  | [d] => { results := [.lit (.bool true)], args := [d] }
  | _ => none }
def bitsUnmixRow : OpenClaim := { program := "ytkajfgeoopakkaa", sum := "b122cfbe51de5873f6f77b6674b7ea0bfe6a45d39e902fa7bfbbe8db09e0f8e5", func := "spinney/spinneylaw1.BitsUnmix", spec := "bitsUnmix", apart := false }
def BitsUnmixSaid : Prop := bitsUnmixRow.holds Try.pinned (OpenSpec.ofChange bitsUnmixSpec)

/-- ITS FALSE NEIGHBOUR: 'it returns false'. Refute it at one input. -/
def bitsUnmixWrong : ChangeSpec := { name := "bitsUnmix", fn := fun _ => fun
  | [d] => { results := [.lit (.bool false)], args := [d] }
  | _ => none }
def BitsUnmixWrongFalsely : Prop := bitsUnmixRow.holds Try.pinned (OpenSpec.ofChange bitsUnmixWrong)

/-- 'spinneylaw1.BitsSpreads': WHATEVER THE INPUT: true; the input reads as it did. -/
def bitsSpreadsSpec : ChangeSpec := { name := "bitsSpreads", fn := fun _ => fun
  | [d1, d2] => { results := [.lit (.bool true)], args := [d1, d2] }
  | _ => none }
def bitsSpreadsRow : OpenClaim := { program := "ytkajfgeoopakkaa", sum := "b122cfbe51de5873f6f77b6674b7ea0bfe6a45d39e902fa7bfbbe8db09e0f8e5", func := "spinney/spinneylaw1.BitsSpreads", spec := "bitsSpreads", apart := false }
def BitsSpreadsSaid : Prop := bitsSpreadsRow.holds Try.pinned (OpenSpec.ofChange bitsSpreadsSpec)

/-- ITS FALSE NEIGHBOUR: 'it returns false'. Refute it at one input. -/
def bitsSpreadsWrong : ChangeSpec := { name := "bitsSpreads", fn := fun _ => fun
  | [d1, d2] => { results := [.lit (.bool false)], args := [d1, d2] }
  | _ => none }
def BitsSpreadsWrongFalsely : Prop := bitsSpreadsRow.holds Try.pinned (OpenSpec.ofChange bitsSpreadsWrong)

/-- 'spinneylaw1.BitsTells': WHATEVER THE INPUT: true; the input reads as it did. -/
def bitsTellsSpec : ChangeSpec := { name := "bitsTells", fn := fun _ => fun
  | [d1, d2, d3, d4, d5, d6, d7] => { results := [.lit (.bool true)], args := [d1, d2, d3, d4, d5, d6, d7] }
  | _ => none }
def bitsTellsRow : OpenClaim := { program := "ytkajfgeoopakkaa", sum := "b122cfbe51de5873f6f77b6674b7ea0bfe6a45d39e902fa7bfbbe8db09e0f8e5", func := "spinney/spinneylaw1.BitsTells", spec := "bitsTells", apart := false }
def BitsTellsSaid : Prop := bitsTellsRow.holds Try.pinned (OpenSpec.ofChange bitsTellsSpec)

/-- ITS FALSE NEIGHBOUR: 'it returns false'. Refute it at one input. -/
def bitsTellsWrong : ChangeSpec := { name := "bitsTells", fn := fun _ => fun
  | [d1, d2, d3, d4, d5, d6, d7] => { results := [.lit (.bool false)], args := [d1, d2, d3, d4, d5, d6, d7] }
  | _ => none }
def BitsTellsWrongFalsely : Prop := bitsTellsRow.holds Try.pinned (OpenSpec.ofChange bitsTellsWrong)

/-- 'spinneylaw1.BitsHomes': WHATEVER THE INPUT: true; the input reads as it did. -/
def bitsHomesSpec : ChangeSpec := { name := "bitsHomes", fn := fun _ => fun
  | [d1, d2] => { results := [.lit (.bool true)], args := [d1, d2] }
  | _ => none }
def bitsHomesRow : OpenClaim := { program := "ytkajfgeoopakkaa", sum := "b122cfbe51de5873f6f77b6674b7ea0bfe6a45d39e902fa7bfbbe8db09e0f8e5", func := "spinney/spinneylaw1.BitsHomes", spec := "bitsHomes", apart := false }
def BitsHomesSaid : Prop := bitsHomesRow.holds Try.pinned (OpenSpec.ofChange bitsHomesSpec)

/-- ITS FALSE NEIGHBOUR: 'it returns false'. Refute it at one input. -/
def bitsHomesWrong : ChangeSpec := { name := "bitsHomes", fn := fun _ => fun
  | [d1, d2] => { results := [.lit (.bool false)], args := [d1, d2] }
  | _ => none }
def BitsHomesWrongFalsely : Prop := bitsHomesRow.holds Try.pinned (OpenSpec.ofChange bitsHomesWrong)

/- THE SECOND FORM. 'bulk': how many values and letters a reading holds, each counted each time it is reached (what is shared counts as often as it is met; a slice's spare places count too). A statement '..UptoSaid' is the law's where the arguments, and the package variables that the reading takes, are together of bulk at most 1048576: NARROWER than '..Said'. Prove '..Said' where nothing that the law and all that it calls make is longer than what came in: it says more and counts as full. Else prove '..UptoSaid'. A law counts once. -/
mutual
def uptoBulk {H : Type} : DataW H → Nat
  | .lit (.string bytes) => bytes.length + 1
  | .lit _ => 1
  | .nil => 1
  | .ptr d => uptoBulk d + 1
  | .slice elems spare => uptoBulkAll elems + uptoBulkAll spare + 1
  | .agg parts => uptoBulkAll parts + 1
  | .iface _ d => uptoBulk d + 1
  | .map entries => uptoBulkEntries entries + 1
  | .held _ => 1
def uptoBulkAll {H : Type} : List (DataW H) → Nat
  | [] => 0
  | d :: r => uptoBulk d + uptoBulkAll r
def uptoBulkEntries {H : Type} : List (Lit × DataW H) → Nat
  | [] => 0
  | x :: r => uptoBulkEntry x + uptoBulkEntries r
def uptoBulkEntry {H : Type} : Lit × DataW H → Nat
  | (.string bytes, d) => bytes.length + uptoBulk d + 1
  | (_, d) => uptoBulk d + 1
 end
def uptoSmall : (H : Type) → List (DataW H) → Bool := fun _ ds => decide (uptoBulkAll ds ≤ 1048576)
def OpenSpec.upto (s : _root_.Go.ChangeSpec) : _root_.Go.OpenSpec := { _root_.Go.OpenSpec.ofChange s with cond := some uptoSmall }

/-- 'spinneylaw1.BitsBack', WHERE WHAT IT READS IS OF BULK AT MOST 1048576: true; the input reads as it did. -/
def bitsBackUptoRow : OpenClaim := { program := "ytkajfgeoopakkaa", sum := "b122cfbe51de5873f6f77b6674b7ea0bfe6a45d39e902fa7bfbbe8db09e0f8e5", func := "spinney/spinneylaw1.BitsBack", spec := "bitsBack", apart := false, narrowed := true }
def BitsBackUptoSaid : Prop := bitsBackUptoRow.holds Try.pinned (OpenSpec.upto bitsBackSpec)

/-- 'spinneylaw1.BitsUnlike', WHERE WHAT IT READS IS OF BULK AT MOST 1048576: true; the input reads as it did. -/
def bitsUnlikeUptoRow : OpenClaim := { program := "ytkajfgeoopakkaa", sum := "b122cfbe51de5873f6f77b6674b7ea0bfe6a45d39e902fa7bfbbe8db09e0f8e5", func := "spinney/spinneylaw1.BitsUnlike", spec := "bitsUnlike", apart := false, narrowed := true }
def BitsUnlikeUptoSaid : Prop := bitsUnlikeUptoRow.holds Try.pinned (OpenSpec.upto bitsUnlikeSpec)

/-- 'spinneylaw1.BitsUnmix', WHERE WHAT IT READS IS OF BULK AT MOST 1048576: true; the input reads as it did. -/
def bitsUnmixUptoRow : OpenClaim := { program := "ytkajfgeoopakkaa", sum := "b122cfbe51de5873f6f77b6674b7ea0bfe6a45d39e902fa7bfbbe8db09e0f8e5", func := "spinney/spinneylaw1.BitsUnmix", spec := "bitsUnmix", apart := false, narrowed := true }
def BitsUnmixUptoSaid : Prop := bitsUnmixUptoRow.holds Try.pinned (OpenSpec.upto bitsUnmixSpec)

/-- 'spinneylaw1.BitsSpreads', WHERE WHAT IT READS IS OF BULK AT MOST 1048576: true; the input reads as it did. -/
def bitsSpreadsUptoRow : OpenClaim := { program := "ytkajfgeoopakkaa", sum := "b122cfbe51de5873f6f77b6674b7ea0bfe6a45d39e902fa7bfbbe8db09e0f8e5", func := "spinney/spinneylaw1.BitsSpreads", spec := "bitsSpreads", apart := false, narrowed := true }
def BitsSpreadsUptoSaid : Prop := bitsSpreadsUptoRow.holds Try.pinned (OpenSpec.upto bitsSpreadsSpec)

/-- 'spinneylaw1.BitsTells', WHERE WHAT IT READS IS OF BULK AT MOST 1048576: true; the input reads as it did. -/
def bitsTellsUptoRow : OpenClaim := { program := "ytkajfgeoopakkaa", sum := "b122cfbe51de5873f6f77b6674b7ea0bfe6a45d39e902fa7bfbbe8db09e0f8e5", func := "spinney/spinneylaw1.BitsTells", spec := "bitsTells", apart := false, narrowed := true }
def BitsTellsUptoSaid : Prop := bitsTellsUptoRow.holds Try.pinned (OpenSpec.upto bitsTellsSpec)

/-- 'spinneylaw1.BitsHomes', WHERE WHAT IT READS IS OF BULK AT MOST 1048576: true; the input reads as it did. -/
def bitsHomesUptoRow : OpenClaim := { program := "ytkajfgeoopakkaa", sum := "b122cfbe51de5873f6f77b6674b7ea0bfe6a45d39e902fa7bfbbe8db09e0f8e5", func := "spinney/spinneylaw1.BitsHomes", spec := "bitsHomes", apart := false, narrowed := true }
def BitsHomesUptoSaid : Prop := bitsHomesUptoRow.holds Try.pinned (OpenSpec.upto bitsHomesSpec)

end Rows
end Go.Proofs.Ytkajfgeoopakkaa
