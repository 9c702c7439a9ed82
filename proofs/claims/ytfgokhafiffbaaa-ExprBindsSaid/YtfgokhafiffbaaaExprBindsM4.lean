/-
  Texts on which the law ExprBinds rests, part 4 of 22.
-/
import Derived.Test.YtfgokhafiffbaaaExprBindsM3
/-
  Formulas, plain: strengths of the signs between, over canonical variables: by evaluation.
-/
namespace Go.Proofs.Ytfgokhafiffbaaa
set_option linter.unusedVariables false
open Go.RowKit
def Bi.op (k : Nat) : Tok := match k with | 0 => .and | 1 => .xor | 2 => .or | 3 => .imp | _ => .iff
/-- the signs of variables from i on with signs between -/
def Bi.tks : Nat → List Nat → List (Tok × Nat)
  | i, [] => [(.var (Fin.ofNat 8 i), 0), (.eof, 0)]
  | i, k :: r => (.var (Fin.ofNat 8 i), 0) :: (Bi.op k, 0) :: Bi.tks (i + 1) r
/-- the place of the first sign, of implies the last -/
def Bi.first (k : Nat) : List Nat → Option Nat
  | [] => none
  | x :: r => if x = k then (if k = 3 then (match Bi.first k r with | some j => some (j + 1) | none => some 0) else some 0) else (Bi.first k r).map (· + 1)
/-- the kind of a sign's formula -/
def Bi.kind (k : Nat) : Int := match k with | 0 => 4 | 1 => 6 | 2 => 5 | 3 => 7 | _ => 8
section
variable {α : Type} (join : Nat → α → α → α)
/-- one sign done -/
def Bi.at_ (k : Nat) (i : Nat) (o : List Nat) (f : List α) : List Nat × List α :=
  match f[i]?, f[i + 1]? with
  | some x, some y => (o.take i ++ o.drop (i + 1), f.take i ++ [join k x y] ++ f.drop (i + 2))
  | _, _ => (o, f)
def Bi.all : Nat → Nat → List Nat → List α → List Nat × List α
  | 0, _, o, f => (o, f)
  | n + 1, k, o, f => match Bi.first k o with
    | none => (o, f)
    | some i => Bi.all n k (Bi.at_ join k i o f).1 (Bi.at_ join k i o f).2
def Bi.red (o : List Nat) (f : List α) : List Nat × List α :=
  let r0 := Bi.all join 7 0 o f
  let r1 := Bi.all join 7 1 r0.1 r0.2
  let r2 := Bi.all join 7 2 r1.1 r1.2
  let r3 := Bi.all join 7 3 r2.1 r2.2
  Bi.all join 7 4 r3.1 r3.2
end
def Bi.join (k : Nat) (x y : Tr) : Tr := Ex.two (Bi.kind k) 0 x y
def Bi.leaf (i : Nat) : Tr := ⟨1, 0, (i : Int), .nil⟩
def Bi.good (o : List Nat) : Bool :=
  let R := (Ex.lev 30).iff ⟨Bi.tks 0 o, 0, 0⟩
  decide (R.2.e = 0) && decide (R.2.now = .eof) && decide ((Bi.red Bi.join o ((List.range (o.length + 1)).map Bi.leaf)).2 = [R.1])
def Bi.lists : Nat → List (List Nat)
  | 0 => [[]]
  | n + 1 => (Bi.lists n).flatMap fun l => [0 :: l, 1 :: l, 2 :: l, 3 :: l, 4 :: l]
set_option maxRecDepth 1000000 in
theorem Bi.l0 : (Bi.lists 0).all Bi.good = true := by decide +kernel
set_option maxRecDepth 1000000 in
theorem Bi.l1 : (Bi.lists 1).all Bi.good = true := by decide +kernel
set_option maxRecDepth 1000000 in
theorem Bi.l2 : (Bi.lists 2).all Bi.good = true := by decide +kernel
set_option maxRecDepth 1000000 in
theorem Bi.l3 : (Bi.lists 3).all Bi.good = true := by decide +kernel
set_option maxRecDepth 1000000 in
theorem Bi.l4 : (Bi.lists 4).all Bi.good = true := by decide +kernel
set_option maxRecDepth 1000000 in
theorem Bi.l5_0 : (Bi.lists 4).all (fun l => Bi.good (0 :: l)) = true := by decide +kernel
set_option maxRecDepth 1000000 in
theorem Bi.l5_1 : (Bi.lists 4).all (fun l => Bi.good (1 :: l)) = true := by decide +kernel
set_option maxRecDepth 1000000 in
theorem Bi.l5_2 : (Bi.lists 4).all (fun l => Bi.good (2 :: l)) = true := by decide +kernel
set_option maxRecDepth 1000000 in
theorem Bi.l5_3 : (Bi.lists 4).all (fun l => Bi.good (3 :: l)) = true := by decide +kernel
set_option maxRecDepth 1000000 in
theorem Bi.l5_4 : (Bi.lists 4).all (fun l => Bi.good (4 :: l)) = true := by decide +kernel
end Go.Proofs.Ytfgokhafiffbaaa
