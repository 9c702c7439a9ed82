/-
  Texts on which the law ExprBinds rests, part 8 of 22.
-/
import Derived.Test.YtfgokhafiffbaaaExprBindsM7
/-
  Formulas, plain: strengths of the signs between, lists of six that begin with 3: by evaluation.
-/
namespace Go.Proofs.Ytfgokhafiffbaaa
set_option linter.unusedVariables false
set_option maxRecDepth 1000000 in
theorem Bi.l6_30 : (Bi.lists 4).all (fun l => Bi.good (3 :: 0 :: l)) = true := by decide +kernel
set_option maxRecDepth 1000000 in
theorem Bi.l6_31 : (Bi.lists 4).all (fun l => Bi.good (3 :: 1 :: l)) = true := by decide +kernel
set_option maxRecDepth 1000000 in
theorem Bi.l6_32 : (Bi.lists 4).all (fun l => Bi.good (3 :: 2 :: l)) = true := by decide +kernel
set_option maxRecDepth 1000000 in
theorem Bi.l6_33 : (Bi.lists 4).all (fun l => Bi.good (3 :: 3 :: l)) = true := by decide +kernel
set_option maxRecDepth 1000000 in
theorem Bi.l6_34 : (Bi.lists 4).all (fun l => Bi.good (3 :: 4 :: l)) = true := by decide +kernel
end Go.Proofs.Ytfgokhafiffbaaa
