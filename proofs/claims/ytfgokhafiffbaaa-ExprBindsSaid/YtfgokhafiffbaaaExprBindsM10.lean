/-
  Texts on which the law ExprBinds rests, part 10 of 22.
-/
import Derived.Test.YtfgokhafiffbaaaExprBindsM9
/-
  Regions whose order is open and that only read, walked in the order of the text: 'wpStill', closed.
-/
namespace Go.Proofs.Ytfgokhafiffbaaa
set_option linter.unusedVariables false
open Go.RowKit
/-- 'wpStill', closed: Lean's own evaluation of it ran away where a guard is not met -/
def stB (P : Program) (ops : Array Oper) (w : World) (Q : Act → Prop) (l : List Oper) (a : Act) : Prop := wpStill P ops w Q l a
theorem stB_nil {P : Program} {ops : Array Oper} {w : World} {Q : Act → Prop} {a : Act} (h : Q a) : stB P ops w Q [] a := h
theorem stB_step {P : Program} {ops : Array Oper} {w : World} {Q : Act → Prop} {a : Act} {o : Oper} {rest : List Oper}
    (h : ∀ K : Act → Prop, (∀ a, stB P ops w Q rest a → K a) → if Region.wanted o (yielded ops a.tmps) then o.still P a w K else K (a.put o.dst undef)) : stB P ops w Q (o :: rest) a :=
  wpStill_step h
theorem region_stB {P : Program} {id : Nat} {Q : Exit → Act → World → Prop} {a : Act} {w : World} {l : List Oper} (hm : P.follows .mixedOrders = true) (hB : Region.lexB .any l.toArray = true)
    (h : stB P l.toArray w.drew (fun a' => Q .normal a' w.drew) l a) : (Code.region id l.toArray true).wp P Q a w := wp_region_still_lit hm hB h
attribute [irreducible] stB
end Go.Proofs.Ytfgokhafiffbaaa
