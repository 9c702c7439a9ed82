/-
  Formulas, plain: the nested texts.
-/
import Derived.Test.YtfgokhafiffbaaaEx24
namespace Go.Proofs.Ytfgokhafiffbaaa
set_option linter.unusedVariables false
open Go.RowKit
def Ns.open_ : Nat → List Nat
  | 0 => [40]
  | 1 => [33]
  | 2 => [97, 110, 121, 32, 118, 51, 32]
  | _ => [118, 49, 32, 45, 62, 32]
def Ns.rep (l : List Nat) : Nat → List Nat
  | 0 => []
  | n + 1 => Ns.rep l n ++ l
def Ns.shut (h k : Nat) : List Nat := if h = 0 then Ns.rep [41] k else []
def Ns.text (h k : Nat) : List Nat := Ns.rep (Ns.open_ h) k ++ [118, 50] ++ Ns.shut h k
def Ns.good (h k : Nat) : Bool :=
  if 30 < k then decide (Ex.parse (Ns.text h k) = (Tr.zero, (Ns.open_ h).length * 31, 231)) else decide ((Ex.parse (Ns.text h k)).2 = (0, 0)) && Ex.is (Ex.parse (Ns.text h k)).1
set_option maxRecDepth 100000 in
theorem Ns.all : ∀ h : Fin 4, ∀ k : Fin 36, Ns.good h.val k.val = true := by decide +kernel
theorem Ns.deep {h k : Nat} (hh : h < 4) (hk : k < 36) (h30 : 30 < k) : Ex.parse (Ns.text h k) = (Tr.zero, (Ns.open_ h).length * 31, 231) := by
  have := Ns.all ⟨h, hh⟩ ⟨k, hk⟩
  unfold Ns.good at this
  rw [if_pos h30] at this
  exact of_decide_eq_true this
theorem Ns.flat {h k : Nat} (hh : h < 4) (hk : k < 36) (h30 : ¬ 30 < k) : (Ex.parse (Ns.text h k)).2 = (0, 0) ∧ Ex.is (Ex.parse (Ns.text h k)).1 = true := by
  have := Ns.all ⟨h, hh⟩ ⟨k, hk⟩
  unfold Ns.good at this
  rw [if_neg h30, Bool.and_eq_true] at this
  exact ⟨of_decide_eq_true this.1, this.2⟩
theorem Ns.rep_len (l : List Nat) (n : Nat) : (Ns.rep l n).length = n * l.length := by
  induction n with
  | zero => simp [Ns.rep]
  | succ n ih => simp [Ns.rep, ih, Nat.succ_mul]
end Go.Proofs.Ytfgokhafiffbaaa
