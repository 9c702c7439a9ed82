/-
  Texts on which the law ExprBinds rests, part 9 of 22.
-/
import Derived.Test.YtfgokhafiffbaaaExprBindsM8
/-
  Formulas, plain: strengths of the signs between, lists of six that begin with 4: by evaluation.
-/
namespace Go.Proofs.Ytfgokhafiffbaaa
set_option linter.unusedVariables false
set_option maxRecDepth 1000000 in
theorem Bi.l6_40 : (Bi.lists 4).all (fun l => Bi.good (4 :: 0 :: l)) = true := by decide +kernel
set_option maxRecDepth 1000000 in
theorem Bi.l6_41 : (Bi.lists 4).all (fun l => Bi.good (4 :: 1 :: l)) = true := by decide +kernel
set_option maxRecDepth 1000000 in
theorem Bi.l6_42 : (Bi.lists 4).all (fun l => Bi.good (4 :: 2 :: l)) = true := by decide +kernel
set_option maxRecDepth 1000000 in
theorem Bi.l6_43 : (Bi.lists 4).all (fun l => Bi.good (4 :: 3 :: l)) = true := by decide +kernel
set_option maxRecDepth 1000000 in
theorem Bi.l6_44 : (Bi.lists 4).all (fun l => Bi.good (4 :: 4 :: l)) = true := by decide +kernel
end Go.Proofs.Ytfgokhafiffbaaa
