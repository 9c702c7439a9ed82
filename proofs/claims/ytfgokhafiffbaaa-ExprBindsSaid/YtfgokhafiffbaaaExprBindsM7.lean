/-
  Texts on which the law ExprBinds rests, part 7 of 22.
-/
import Derived.Test.YtfgokhafiffbaaaExprBindsM6
/-
  Formulas, plain: strengths of the signs between, lists of six that begin with 2: by evaluation.
-/
namespace Go.Proofs.Ytfgokhafiffbaaa
set_option linter.unusedVariables false
set_option maxRecDepth 1000000 in
theorem Bi.l6_20 : (Bi.lists 4).all (fun l => Bi.good (2 :: 0 :: l)) = true := by decide +kernel
set_option maxRecDepth 1000000 in
theorem Bi.l6_21 : (Bi.lists 4).all (fun l => Bi.good (2 :: 1 :: l)) = true := by decide +kernel
set_option maxRecDepth 1000000 in
theorem Bi.l6_22 : (Bi.lists 4).all (fun l => Bi.good (2 :: 2 :: l)) = true := by decide +kernel
set_option maxRecDepth 1000000 in
theorem Bi.l6_23 : (Bi.lists 4).all (fun l => Bi.good (2 :: 3 :: l)) = true := by decide +kernel
set_option maxRecDepth 1000000 in
theorem Bi.l6_24 : (Bi.lists 4).all (fun l => Bi.good (2 :: 4 :: l)) = true := by decide +kernel
end Go.Proofs.Ytfgokhafiffbaaa
