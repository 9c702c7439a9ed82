/-
  Who is in Next, who in Prev, told by pairs: the law TruthSteps. No program in sight.
-/
import Derived.Test.YtfkefgelceaimaaDoorRelPlain
namespace Go.Proofs.YtfkefgelceaimaaDoor
set_option linter.unusedVariables false
namespace Tb
theorem any_succ (q : Nat → Bool) (k : Nat) : anyTo q (k + 1) = (anyTo q k || q k) := by rw [anyTo]
theorem any_zero (q : Nat → Bool) : anyTo q 0 = false := by rw [anyTo]
theorem half_and : ∀ y : Nat, y < 256 → (y / 2 &&& 85) = half y := by unfold half; decide +kernel
theorem odd_half : ∀ y : Nat, y < 256 → (y &&& 170) = half y * 2 := by unfold half; decide +kernel
theorem half_walk2 (y : Nat) (hy : y < 256) : bits .and .u8 ((y : Int) / 2) 85 = (half y : Int) := by
  have e := u8_and_nat (y / 2) 85 (by omega) (by omega)
  rw [half_and y hy] at e
  rw [← e]; norm_cast
theorem even_walk (y : Nat) (hy : y < 256) : bits .and .u8 (y : Int) 85 = ((y &&& 85 : Nat) : Int) := u8_and_nat y 85 hy (by omega)
theorem nx_half (x y : Nat) (hy : y < 256) : nx x y = (half y == (x &&& 85)) := by
  unfold nx
  rw [odd_half y hy, Bool.eq_iff_iff, beq_iff_eq, beq_iff_eq]
  omega
theorem pv_even (x y : Nat) : pv x y = ((y &&& 85) == (x &&& 85)) := by unfold pv; rfl
/-- from a pair of the relation -/
def came (s r : T) (x : Nat) : Nat → Bool := fun y => r.getLsbD y && s.getLsbD y && (half y == (x &&& 85))
def goes (s r : T) (x : Nat) : Nat → Bool := fun y => r.getLsbD y && ((y &&& 85) == (x &&& 85)) && s.getLsbD (half y)
theorem next_came (s r : T) {x : Nat} (hx : x < 256) : (next s r).getLsbD x = anyTo (came s r x) 256 := by
  rw [Bool.eq_iff_iff, next_get s r hx, anyTo_spec]
  constructor
  · rintro ⟨y, hy, h1, h2, h3⟩
    rw [nx_half x y hy] at h1
    exact ⟨y, hy, by unfold came; rw [h1, h2, h3]; rfl⟩
  · rintro ⟨y, hy, h⟩
    unfold came at h
    simp only [Bool.and_eq_true] at h
    exact ⟨y, hy, by rw [nx_half x y hy]; exact h.2, h.1.2, h.1.1⟩
theorem prev_goes (s r : T) {x : Nat} (hx : x < 256) : (prev s r).getLsbD x = anyTo (goes s r x) 256 := by
  rw [Bool.eq_iff_iff, prev_get s r hx, anyTo_spec]
  constructor
  · rintro ⟨y, hy, h1, h2, h3⟩
    rw [pv_even x y] at h1
    exact ⟨y, hy, by unfold goes; rw [h1, h2, h3]; rfl⟩
  · rintro ⟨y, hy, h⟩
    unfold goes at h
    simp only [Bool.and_eq_true] at h
    exact ⟨y, hy, by rw [pv_even x y]; exact h.1.2, h.1.1, h.2⟩
theorem agree_even {x y : Nat} (hx : x < 256) (hy : y < 256) (h : Agree 170 x y) : x &&& 85 = y &&& 85 := by
  apply eq_of_bits (andN_lt hx) (andN_lt hy)
  intro i hi
  rw [Nat.testBit_and, Nat.testBit_and]
  by_cases e : Nat.testBit 170 i = false
  · rw [h i hi e]
  · have : ∀ i, i < 8 → ¬ Nat.testBit 170 i = false → Nat.testBit 85 i = false := by decide
    rw [this i hi e]; simp
theorem indep_next (s r : T) : Indep (next s r) 170 := fun x y hx hy h hf => by
  rw [next_came _ _ hx] at hf
  rw [next_came _ _ hy]
  unfold came at hf ⊢
  rw [agree_even hx hy h] at hf
  exact hf
theorem indep_prev (s r : T) : Indep (prev s r) 170 := fun x y hx hy h hf => by
  rw [prev_goes _ _ hx] at hf
  rw [prev_goes _ _ hy]
  unfold goes at hf ⊢
  rw [agree_even hx hy h] at hf
  exact hf
attribute [irreducible] came goes
end Tb
end Go.Proofs.YtfkefgelceaimaaDoor
