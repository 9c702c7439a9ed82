/-
  Texts on which the law ExprBinds rests, part 5 of 22.
-/
import Derived.Test.YtfgokhafiffbaaaExprBindsM4
/-
  Formulas, plain: strengths of the signs between, lists of six that begin with 0: by evaluation.
-/
namespace Go.Proofs.Ytfgokhafiffbaaa
set_option linter.unusedVariables false
set_option maxRecDepth 1000000 in
theorem Bi.l6_00 : (Bi.lists 4).all (fun l => Bi.good (0 :: 0 :: l)) = true := by decide +kernel
set_option maxRecDepth 1000000 in
theorem Bi.l6_01 : (Bi.lists 4).all (fun l => Bi.good (0 :: 1 :: l)) = true := by decide +kernel
set_option maxRecDepth 1000000 in
theorem Bi.l6_02 : (Bi.lists 4).all (fun l => Bi.good (0 :: 2 :: l)) = true := by decide +kernel
set_option maxRecDepth 1000000 in
theorem Bi.l6_03 : (Bi.lists 4).all (fun l => Bi.good (0 :: 3 :: l)) = true := by decide +kernel
set_option maxRecDepth 1000000 in
theorem Bi.l6_04 : (Bi.lists 4).all (fun l => Bi.good (0 :: 4 :: l)) = true := by decide +kernel
end Go.Proofs.Ytfgokhafiffbaaa
