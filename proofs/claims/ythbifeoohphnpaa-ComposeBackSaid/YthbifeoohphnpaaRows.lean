/-
  No cell of these rows narrows 'for every input' (looked for: loops, veiled, ifaces, maps, wideKeys, modest, calm, conditions, laid).
  DERIVED. THE GIVEN ROWS OF THIS SEAT. 6 by the template 'for every input the law returns true; each argument reads behind the call as it read before'; 0 by the template 'total and deterministic' (their statements: YthbifeoohphnpaaTotals.lean).
  GIVEN WITH THE SEED: the statements are not yours to turn. If you find one false, say at which input.
  Laid BY PROGRAM, IN A SANDBOX (cutbox-rows.mjs): the forced cells as the released guide's own fill.sh prints them over the translation b2a66c1b3ca69b74… (all of the seat's roots in one cut). By AI agents, Wed Nov 11 2026. No macro, syntax, notation, axiom, sorry.
-/
import Derived.Test.YthbifeoohphnpaaChecked
import GoSem.Claim
import GoSem.ClaimJoined
import GoSem.ClaimMapViews
import Derived.JoinedTies
import Derived.KernelRfl
namespace Go.Proofs.Ythbifeoohphnpaa
/- THE CELL 'sum', in the pinned program and in every row, IS THE sha256 OF THE DUMP (.gsa) THAT YthbifeoohphnpaaProg.lean LOADS. Nothing in Lean hashes anything: it is a label: what it is worth is what the hold of that sum in a sandbox is worth. -/
noncomputable def Try.pinned : Pinned := { name := "ythbifeoohphnpaa", sum := "b2a66c1b3ca69b74b1f50c924133873a955369d19cd169caa977446379ff6221", checked := Try.checked }
namespace Rows
def none {H : Type} : Left H := { results := [], args := [] }

/-- 'spinneylaw18.SwapOne': WHATEVER THE INPUT: true; the input reads as it did. -/
def swapOneSpec : ChangeSpec := { name := "swapOne", fn := fun _ => fun
  | [d1, d2] => { results := [.lit (.bool true)], args := [d1, d2] }
  | _ => none }
def swapOneRow : OpenClaim := { program := "ythbifeoohphnpaa", sum := "b2a66c1b3ca69b74b1f50c924133873a955369d19cd169caa977446379ff6221", func := "spinney/spinneylaw18.SwapOne", spec := "swapOne", inPlace := ["sync/atomic.AddInt64", "sync/atomic.LoadUint64", "sync/atomic.CompareAndSwapUint64"], unfollowed := true, recurses := true, apart := false }
def SwapOneSaid : Prop := swapOneRow.holds Try.pinned (OpenSpec.ofChange swapOneSpec)

/-- ITS FALSE NEIGHBOUR: 'it returns false'. Refute it at one input. -/
def swapOneWrong : ChangeSpec := { name := "swapOne", fn := fun _ => fun
  | [d1, d2] => { results := [.lit (.bool false)], args := [d1, d2] }
  | _ => none }
def SwapOneWrongFalsely : Prop := swapOneRow.holds Try.pinned (OpenSpec.ofChange swapOneWrong)

/-- 'spinneylaw18.SwapKeeps': WHATEVER THE INPUT: true; the input reads as it did. -/
def swapKeepsSpec : ChangeSpec := { name := "swapKeeps", fn := fun _ => fun
  | [d1, d2, d3, d4] => { results := [.lit (.bool true)], args := [d1, d2, d3, d4] }
  | _ => none }
def swapKeepsRow : OpenClaim := { program := "ythbifeoohphnpaa", sum := "b2a66c1b3ca69b74b1f50c924133873a955369d19cd169caa977446379ff6221", func := "spinney/spinneylaw18.SwapKeeps", spec := "swapKeeps", inPlace := ["sync/atomic.AddInt64", "sync/atomic.LoadUint64", "sync/atomic.CompareAndSwapUint64"], unfollowed := true, recurses := true, apart := false }
def SwapKeepsSaid : Prop := swapKeepsRow.holds Try.pinned (OpenSpec.ofChange swapKeepsSpec)

/-- ITS FALSE NEIGHBOUR: 'it returns false'. Refute it at one input. -/
def swapKeepsWrong : ChangeSpec := { name := "swapKeeps", fn := fun _ => fun
  | [d1, d2, d3, d4] => { results := [.lit (.bool false)], args := [d1, d2, d3, d4] }
  | _ => none }
def SwapKeepsWrongFalsely : Prop := swapKeepsRow.holds Try.pinned (OpenSpec.ofChange swapKeepsWrong)

/-- 'spinneylaw18.SwapTo': WHATEVER THE INPUT: true; the input reads as it did. -/
def swapToSpec : ChangeSpec := { name := "swapTo", fn := fun _ => fun
  | [d1, d2, d3, d4] => { results := [.lit (.bool true)], args := [d1, d2, d3, d4] }
  | _ => none }
def swapToRow : OpenClaim := { program := "ythbifeoohphnpaa", sum := "b2a66c1b3ca69b74b1f50c924133873a955369d19cd169caa977446379ff6221", func := "spinney/spinneylaw18.SwapTo", spec := "swapTo", inPlace := ["sync/atomic.AddInt64", "sync/atomic.LoadUint64", "sync/atomic.CompareAndSwapUint64"], unfollowed := true, recurses := true, apart := false }
def SwapToSaid : Prop := swapToRow.holds Try.pinned (OpenSpec.ofChange swapToSpec)

/-- ITS FALSE NEIGHBOUR: 'it returns false'. Refute it at one input. -/
def swapToWrong : ChangeSpec := { name := "swapTo", fn := fun _ => fun
  | [d1, d2, d3, d4] => { results := [.lit (.bool false)], args := [d1, d2, d3, d4] }
  | _ => none }
def SwapToWrongFalsely : Prop := swapToRow.holds Try.pinned (OpenSpec.ofChange swapToWrong)

/-- 'spinneylaw18.SwapTwice': WHATEVER THE INPUT: true; the input reads as it did. -/
def swapTwiceSpec : ChangeSpec := { name := "swapTwice", fn := fun _ => fun
  | [d1, d2, d3] => { results := [.lit (.bool true)], args := [d1, d2, d3] }
  | _ => none }
def swapTwiceRow : OpenClaim := { program := "ythbifeoohphnpaa", sum := "b2a66c1b3ca69b74b1f50c924133873a955369d19cd169caa977446379ff6221", func := "spinney/spinneylaw18.SwapTwice", spec := "swapTwice", inPlace := ["sync/atomic.AddInt64", "sync/atomic.LoadUint64", "sync/atomic.CompareAndSwapUint64"], unfollowed := true, recurses := true, apart := false }
def SwapTwiceSaid : Prop := swapTwiceRow.holds Try.pinned (OpenSpec.ofChange swapTwiceSpec)

/-- ITS FALSE NEIGHBOUR: 'it returns false'. Refute it at one input. -/
def swapTwiceWrong : ChangeSpec := { name := "swapTwice", fn := fun _ => fun
  | [d1, d2, d3] => { results := [.lit (.bool false)], args := [d1, d2, d3] }
  | _ => none }
def SwapTwiceWrongFalsely : Prop := swapTwiceRow.holds Try.pinned (OpenSpec.ofChange swapTwiceWrong)

/-- 'spinneylaw13.ComposeRaw': WHATEVER THE INPUT: true; the input reads as it did. -/
def composeRawSpec : ChangeSpec := { name := "composeRaw", fn := fun _ => fun
  | [d1, d2, d3, d4] => { results := [.lit (.bool true)], args := [d1, d2, d3, d4] }
  | _ => none }
def composeRawRow : OpenClaim := { program := "ythbifeoohphnpaa", sum := "b2a66c1b3ca69b74b1f50c924133873a955369d19cd169caa977446379ff6221", func := "spinney/spinneylaw13.ComposeRaw", spec := "composeRaw", inPlace := ["sync/atomic.AddInt64", "sync/atomic.LoadUint64", "sync/atomic.CompareAndSwapUint64", "sync/atomic.StoreUint64"], unfollowed := true, recurses := true, apart := false }
def ComposeRawSaid : Prop := composeRawRow.holds Try.pinned (OpenSpec.ofChange composeRawSpec)

/-- ITS FALSE NEIGHBOUR: 'it returns false'. Refute it at one input. -/
def composeRawWrong : ChangeSpec := { name := "composeRaw", fn := fun _ => fun
  | [d1, d2, d3, d4] => { results := [.lit (.bool false)], args := [d1, d2, d3, d4] }
  | _ => none }
def ComposeRawWrongFalsely : Prop := composeRawRow.holds Try.pinned (OpenSpec.ofChange composeRawWrong)

/-- 'spinneylaw13.ComposeBack': WHATEVER THE INPUT: true; the input reads as it did. -/
def composeBackSpec : ChangeSpec := { name := "composeBack", fn := fun _ => fun
  | [d1, d2] => { results := [.lit (.bool true)], args := [d1, d2] }
  | _ => none }
def composeBackRow : OpenClaim := { program := "ythbifeoohphnpaa", sum := "b2a66c1b3ca69b74b1f50c924133873a955369d19cd169caa977446379ff6221", func := "spinney/spinneylaw13.ComposeBack", spec := "composeBack", inPlace := ["sync/atomic.AddInt64", "sync/atomic.LoadUint64", "sync/atomic.CompareAndSwapUint64", "sync/atomic.StoreUint64"], unfollowed := true, recurses := true, apart := false }
def ComposeBackSaid : Prop := composeBackRow.holds Try.pinned (OpenSpec.ofChange composeBackSpec)

/-- ITS FALSE NEIGHBOUR: 'it returns false'. Refute it at one input. -/
def composeBackWrong : ChangeSpec := { name := "composeBack", fn := fun _ => fun
  | [d1, d2] => { results := [.lit (.bool false)], args := [d1, d2] }
  | _ => none }
def ComposeBackWrongFalsely : Prop := composeBackRow.holds Try.pinned (OpenSpec.ofChange composeBackWrong)

/- THE SECOND FORM. 'bulk': how many values and letters a reading holds, each counted each time it is reached (what is shared counts as often as it is met; a slice's spare places count too). A statement '..UptoSaid' is the law's where the arguments, and the package variables that the reading takes, are together of bulk at most 1048576: NARROWER than '..Said'. Prove '..Said' where nothing that the law and all that it calls make is longer than what came in: it says more and counts as full. Else prove '..UptoSaid'. A law counts once. -/
mutual
def uptoBulk {H : Type} : DataW H → Nat
  | .lit (.string bytes) => bytes.length + 1
  | .lit _ => 1
  | .nil => 1
  | .ptr d => uptoBulk d + 1
  | .slice elems spare => uptoBulkAll elems + uptoBulkAll spare + 1
  | .agg parts => uptoBulkAll parts + 1
  | .iface _ d => uptoBulk d + 1
  | .map entries => uptoBulkEntries entries + 1
  | .held _ => 1
def uptoBulkAll {H : Type} : List (DataW H) → Nat
  | [] => 0
  | d :: r => uptoBulk d + uptoBulkAll r
def uptoBulkEntries {H : Type} : List (Lit × DataW H) → Nat
  | [] => 0
  | x :: r => uptoBulkEntry x + uptoBulkEntries r
def uptoBulkEntry {H : Type} : Lit × DataW H → Nat
  | (.string bytes, d) => bytes.length + uptoBulk d + 1
  | (_, d) => uptoBulk d + 1
 end
def uptoSmall : (H : Type) → List (DataW H) → Bool := fun _ ds => decide (uptoBulkAll ds ≤ 1048576)
def OpenSpec.upto (s : _root_.Go.ChangeSpec) : _root_.Go.OpenSpec := { _root_.Go.OpenSpec.ofChange s with cond := some uptoSmall }

/-- 'spinneylaw18.SwapOne', WHERE WHAT IT READS IS OF BULK AT MOST 1048576: true; the input reads as it did. -/
def swapOneUptoRow : OpenClaim := { program := "ythbifeoohphnpaa", sum := "b2a66c1b3ca69b74b1f50c924133873a955369d19cd169caa977446379ff6221", func := "spinney/spinneylaw18.SwapOne", spec := "swapOne", inPlace := ["sync/atomic.AddInt64", "sync/atomic.LoadUint64", "sync/atomic.CompareAndSwapUint64"], unfollowed := true, recurses := true, apart := false, narrowed := true }
def SwapOneUptoSaid : Prop := swapOneUptoRow.holds Try.pinned (OpenSpec.upto swapOneSpec)

/-- 'spinneylaw18.SwapKeeps', WHERE WHAT IT READS IS OF BULK AT MOST 1048576: true; the input reads as it did. -/
def swapKeepsUptoRow : OpenClaim := { program := "ythbifeoohphnpaa", sum := "b2a66c1b3ca69b74b1f50c924133873a955369d19cd169caa977446379ff6221", func := "spinney/spinneylaw18.SwapKeeps", spec := "swapKeeps", inPlace := ["sync/atomic.AddInt64", "sync/atomic.LoadUint64", "sync/atomic.CompareAndSwapUint64"], unfollowed := true, recurses := true, apart := false, narrowed := true }
def SwapKeepsUptoSaid : Prop := swapKeepsUptoRow.holds Try.pinned (OpenSpec.upto swapKeepsSpec)

/-- 'spinneylaw18.SwapTo', WHERE WHAT IT READS IS OF BULK AT MOST 1048576: true; the input reads as it did. -/
def swapToUptoRow : OpenClaim := { program := "ythbifeoohphnpaa", sum := "b2a66c1b3ca69b74b1f50c924133873a955369d19cd169caa977446379ff6221", func := "spinney/spinneylaw18.SwapTo", spec := "swapTo", inPlace := ["sync/atomic.AddInt64", "sync/atomic.LoadUint64", "sync/atomic.CompareAndSwapUint64"], unfollowed := true, recurses := true, apart := false, narrowed := true }
def SwapToUptoSaid : Prop := swapToUptoRow.holds Try.pinned (OpenSpec.upto swapToSpec)

/-- 'spinneylaw18.SwapTwice', WHERE WHAT IT READS IS OF BULK AT MOST 1048576: true; the input reads as it did. -/
def swapTwiceUptoRow : OpenClaim := { program := "ythbifeoohphnpaa", sum := "b2a66c1b3ca69b74b1f50c924133873a955369d19cd169caa977446379ff6221", func := "spinney/spinneylaw18.SwapTwice", spec := "swapTwice", inPlace := ["sync/atomic.AddInt64", "sync/atomic.LoadUint64", "sync/atomic.CompareAndSwapUint64"], unfollowed := true, recurses := true, apart := false, narrowed := true }
def SwapTwiceUptoSaid : Prop := swapTwiceUptoRow.holds Try.pinned (OpenSpec.upto swapTwiceSpec)

/-- 'spinneylaw13.ComposeRaw', WHERE WHAT IT READS IS OF BULK AT MOST 1048576: true; the input reads as it did. -/
def composeRawUptoRow : OpenClaim := { program := "ythbifeoohphnpaa", sum := "b2a66c1b3ca69b74b1f50c924133873a955369d19cd169caa977446379ff6221", func := "spinney/spinneylaw13.ComposeRaw", spec := "composeRaw", inPlace := ["sync/atomic.AddInt64", "sync/atomic.LoadUint64", "sync/atomic.CompareAndSwapUint64", "sync/atomic.StoreUint64"], unfollowed := true, recurses := true, apart := false, narrowed := true }
def ComposeRawUptoSaid : Prop := composeRawUptoRow.holds Try.pinned (OpenSpec.upto composeRawSpec)

/-- 'spinneylaw13.ComposeBack', WHERE WHAT IT READS IS OF BULK AT MOST 1048576: true; the input reads as it did. -/
def composeBackUptoRow : OpenClaim := { program := "ythbifeoohphnpaa", sum := "b2a66c1b3ca69b74b1f50c924133873a955369d19cd169caa977446379ff6221", func := "spinney/spinneylaw13.ComposeBack", spec := "composeBack", inPlace := ["sync/atomic.AddInt64", "sync/atomic.LoadUint64", "sync/atomic.CompareAndSwapUint64", "sync/atomic.StoreUint64"], unfollowed := true, recurses := true, apart := false, narrowed := true }
def ComposeBackUptoSaid : Prop := composeBackUptoRow.holds Try.pinned (OpenSpec.upto composeBackSpec)

end Rows
end Go.Proofs.Ythbifeoohphnpaa
