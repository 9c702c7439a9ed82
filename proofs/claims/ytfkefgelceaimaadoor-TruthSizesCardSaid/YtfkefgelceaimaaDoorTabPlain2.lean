/-
  Tables, more: what they hang on, how many assignments make them true, the least. No program in sight.
-/
import Derived.Test.YtfkefgelceaimaaDoorTabPlain
namespace Go.Proofs.YtfkefgelceaimaaDoor
set_option linter.unusedVariables false
namespace Tb
theorem supTo_same {f : T} {k : Nat} (h : fix f (k : Int) false = fix f (k : Int) true) : (supTo f k : Int) = (supTo f (k + 1) : Int) := by
  rw [show supTo f (k + 1) = supTo f k from by rw [supTo]; simp [h]]
theorem supTo_other {f : T} {k : Nat} (h : ¬ fix f (k : Int) false = fix f (k : Int) true) (hk : k < 8) : bits .or .u8 (supTo f k : Int) (2 ^ k % 256) = (supTo f (k + 1) : Int) := by
  have e : (2 : Int) ^ k % 256 = ((2 ^ k : Nat) : Int) := by
    have : k = 0 ∨ k = 1 ∨ k = 2 ∨ k = 3 ∨ k = 4 ∨ k = 5 ∨ k = 6 ∨ k = 7 := by omega
    rcases this with h | h | h | h | h | h | h | h <;> subst h <;> decide
  have hp : 2 ^ k < 256 := Nat.pow_lt_pow_right (by omega) hk
  rw [e, u8_or_nat _ _ (supTo_lt f k (by omega)) hp]
  rw [show supTo f (k + 1) = supTo f k ||| 2 ^ k from by rw [supTo]; simp [h]]
end Tb
end Go.Proofs.YtfkefgelceaimaaDoor
