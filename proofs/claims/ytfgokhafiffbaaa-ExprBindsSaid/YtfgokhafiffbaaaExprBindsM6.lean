/-
  Texts on which the law ExprBinds rests, part 6 of 22.
-/
import Derived.Test.YtfgokhafiffbaaaExprBindsM5
/-
  Formulas, plain: strengths of the signs between, lists of six that begin with 1: by evaluation.
-/
namespace Go.Proofs.Ytfgokhafiffbaaa
set_option linter.unusedVariables false
set_option maxRecDepth 1000000 in
theorem Bi.l6_10 : (Bi.lists 4).all (fun l => Bi.good (1 :: 0 :: l)) = true := by decide +kernel
set_option maxRecDepth 1000000 in
theorem Bi.l6_11 : (Bi.lists 4).all (fun l => Bi.good (1 :: 1 :: l)) = true := by decide +kernel
set_option maxRecDepth 1000000 in
theorem Bi.l6_12 : (Bi.lists 4).all (fun l => Bi.good (1 :: 2 :: l)) = true := by decide +kernel
set_option maxRecDepth 1000000 in
theorem Bi.l6_13 : (Bi.lists 4).all (fun l => Bi.good (1 :: 3 :: l)) = true := by decide +kernel
set_option maxRecDepth 1000000 in
theorem Bi.l6_14 : (Bi.lists 4).all (fun l => Bi.good (1 :: 4 :: l)) = true := by decide +kernel
end Go.Proofs.Ytfgokhafiffbaaa
