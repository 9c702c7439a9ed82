/-
  The lowest bit that is set, by a product and a table; the least assignment. No program in sight.
-/
import Derived.Test.YtfkefgelceaimaaDoorTabPlain2
import Derived.Test.YtfkefgelceaimaaDoorOnesPlain
namespace Go.Proofs.YtfkefgelceaimaaDoor
set_option linter.unusedVariables false
namespace Tb
open Bt

/-- how many zeros stand below the lowest one -/
theorem ctz_ex (n : Nat) : ∀ x, 0 < x → x < 2 ^ n → ∃ k q, k < n ∧ x = 2 ^ k * (2 * q + 1) := by
  induction n with
  | zero => intro x h0 h1; simp at h1; omega
  | succ n ih =>
    intro x h0 h1
    rcases Nat.mod_two_eq_zero_or_one x with h | h
    · obtain ⟨k, q, hk, e⟩ := ih (x / 2) (by omega) (by rw [Nat.pow_succ] at h1; omega)
      refine ⟨k + 1, q, by omega, ?_⟩
      rw [Nat.pow_succ, Nat.mul_right_comm, ← e]; omega
    · exact ⟨0, x / 2, by omega, by simp; omega⟩

theorem low_bit (k q : Nat) (hk : k < 64) (hx : 2 ^ k * (2 * q + 1) < 18446744073709551616) : (2 ^ k * (2 * q + 1)) &&& (18446744073709551616 - 2 ^ k * (2 * q + 1)) = 2 ^ k := by
  have hp : 0 < 2 ^ k := Nat.two_pow_pos k
  have e1 : 2 ^ k * (2 * q + 1) - 1 = 2 ^ k * (2 * q) + (2 ^ k - 1) := by rw [Nat.mul_add]; omega
  have hpos : 0 < 2 ^ k * (2 * q + 1) := Nat.mul_pos hp (by omega)
  apply Nat.eq_of_testBit_eq
  intro i
  rw [show 18446744073709551616 - 2 ^ k * (2 * q + 1) = 2 ^ 64 - ((2 ^ k * (2 * q + 1) - 1) + 1) from by omega, Nat.testBit_and, Nat.testBit_two_pow_sub_succ (by omega), e1,
    Nat.testBit_two_pow_mul_add _ (by omega), Nat.testBit_two_pow_mul, Nat.testBit_two_pow]
  by_cases h1 : i < k
  · simp [h1, show ¬ k ≤ i from by omega, show ¬ k = i from by omega]
  · by_cases h2 : i = k
    · subst h2; simp [hk]
    · obtain ⟨j, rfl⟩ : ∃ j, i = k + (j + 1) := ⟨i - k - 1, by omega⟩
      simp only [h1, if_false, show k ≤ k + (j + 1) from by omega, decide_true, Bool.true_and, show k + (j + 1) - k = j + 1 from by omega]
      rw [Nat.testBit_succ, Nat.testBit_succ, show (2 * q + 1) / 2 = q from by omega, show (2 * q) / 2 = q from by omega]
      rw [decide_eq_false (show ¬ k = k + (j + 1) from by omega)]
      cases q.testBit j <;> simp

/-- the place in the table -/
def deb (k : Nat) : Nat := 2 ^ k * 285870213051353865 % 18446744073709551616 / 288230376151711744
theorem deb_lt (k : Nat) : deb k < 64 := by unfold deb; omega

/-- the table, by places -/
def debTab : List Nat := [0, 1, 56, 2, 57, 49, 28, 3, 61, 58, 42, 50, 38, 29, 17, 4, 62, 47, 59, 36, 45, 43, 51, 22, 53, 39, 33, 30, 24, 18, 12, 5, 63, 55, 48, 27, 60, 41, 37, 16, 46, 35, 44, 21, 52, 32, 23, 11, 54, 26, 40, 15, 34, 20, 31, 10, 25, 14, 19, 9, 13, 8, 7, 6]
theorem debTab_at : ∀ k : Nat, k < 64 → debTab[deb k]? = some k := by decide +kernel

/-- the least assignment that makes it true -/
def one (f : T) : Option Nat := (List.range 256).find? fun x => f.getLsbD x
theorem one_some {f : T} {x : Nat} (hx : x < 256) (h : f.getLsbD x = true) (hl : ∀ y, y < x → f.getLsbD y = false) : one f = some x := by
  unfold one
  rw [List.find?_eq_some_iff_append]
  refine ⟨h, List.range x, (List.range' (x + 1) (255 - x)), ?_, fun y hy => ?_⟩
  · rw [List.range_eq_range', List.range_eq_range', show (x :: List.range' (x + 1) (255 - x)) = List.range' x (256 - x) from by rw [show 256 - x = (255 - x) + 1 from by omega, List.range'_succ]]
    have := List.range'_append (s := 0) (m := x) (n := 256 - x) (step := 1)
    rw [show 0 + 1 * x = x from by omega, show x + (256 - x) = 256 from by omega] at this
    exact this.symm
  · rw [hl y (List.mem_range.1 hy)]; rfl
theorem one_none {f : T} (h : ∀ y, y < 256 → f.getLsbD y = false) : one f = none := by
  unfold one
  rw [List.find?_eq_none]
  intro y hy
  rw [h y (List.mem_range.1 hy)]; simp

theorem word_zero {f : T} {c : Nat} (h : wd f c = 0) (j : Nat) (hj : j < 64) : f.getLsbD (64 * c + j) = false := by
  rw [← wd_testBit f c j hj, h]; simp

/-- the least one, if word c is the first that isn't nought -/
theorem one_word {f : T} {c k q : Nat} (hc : c < 4) (hk : k < 64) (he : (wd f c).toNat = 2 ^ k * (2 * q + 1)) (hz : ∀ d, d < c → wd f d = 0) : one f = some (64 * c + k) := by
  have hb : ∀ j, j < 64 → f.getLsbD (64 * c + j) = (2 ^ k * (2 * q + 1)).testBit j := fun j hj => by rw [← wd_testBit f c j hj, he]
  refine one_some (by omega) ?_ fun y hy => ?_
  · rw [hb k hk, Nat.testBit_two_pow_mul]; simp
  · by_cases h : y < 64 * c
    · have := word_zero (hz (y / 64) (by omega)) (y % 64) (Nat.mod_lt _ (by omega))
      rw [show 64 * (y / 64) + y % 64 = y from by omega] at this
      exact this
    · obtain ⟨j, rfl⟩ : ∃ j, y = 64 * c + j := ⟨y - 64 * c, by omega⟩
      rw [hb j (by omega), Nat.testBit_two_pow_mul]
      simp [show ¬ k ≤ j from by omega]
theorem one_zero {f : T} (h0 : wd f 0 = 0) (h1 : wd f 1 = 0) (h2 : wd f 2 = 0) (h3 : wd f 3 = 0) : one f = none := by
  refine one_none fun y hy => ?_
  have hd : wd f (y / 64) = 0 := by
    have : y / 64 = 0 ∨ y / 64 = 1 ∨ y / 64 = 2 ∨ y / 64 = 3 := by omega
    rcases this with h | h | h | h <;> rw [h] <;> assumption
  have := word_zero hd (y % 64) (Nat.mod_lt _ (by omega))
  rw [show 64 * (y / 64) + y % 64 = y from by omega] at this
  exact this

/-- how many assignments make it true -/
def cnt (f : T) : Nat := pc (wd f 0).toNat + pc (wd f 1).toNat + pc (wd f 2).toNat + pc (wd f 3).toNat
attribute [irreducible] cnt one deb
end Tb
end Go.Proofs.YtfkefgelceaimaaDoor
