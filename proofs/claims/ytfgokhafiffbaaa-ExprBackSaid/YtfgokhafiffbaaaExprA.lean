/-
  Formulas: small functions.
-/
import Derived.Test.YtfgokhafiffbaaaTruthA
namespace Go.Proofs.Ytfgokhafiffbaaa
set_option linter.unusedVariables false
open Go.RowKit

/-- how many kids a kind has -/
def Ex.kids (k : Int) : Nat := if k = 3 ∨ k = 10 ∨ k = 11 then 1 else if 4 ≤ k ∧ k ≤ 8 then 2 else if k = 9 then 3 else 0
attribute [irreducible] Ex.kids
theorem Ex.kids1 {k : Int} (h : k = 3 ∨ k = 10 ∨ k = 11) : Ex.kids k = 1 := by unfold Ex.kids; rw [if_pos h]
theorem Ex.kids2 {k : Int} (h : 4 ≤ k ∧ k ≤ 8) : Ex.kids k = 2 := by unfold Ex.kids; rw [if_neg (by omega), if_pos h]
theorem Ex.kids3 {k : Int} (h : k = 9) : Ex.kids k = 3 := by unfold Ex.kids; rw [if_neg (by omega), if_neg (by omega), if_pos h]
theorem Ex.kids0 {k : Int} (h : k < 3 ∨ 11 < k) : Ex.kids k = 0 := by unfold Ex.kids; rw [if_neg (by omega), if_neg (by omega), if_neg (by omega)]

set_option maxHeartbeats 1000000 in
theorem kids_any (k : Int) (w : World) : Calls Try.prog 52 #[.int .i64 k] w fun e w' => e = .returned (.int .i64 (Ex.kids k : Int)) ∧ w' = w := by
  by_cases hr : 3 ≤ k ∧ k ≤ 11
  · obtain ⟨h1, h2⟩ := hr
    have hc : k = 3 ∨ k = 4 ∨ k = 5 ∨ k = 6 ∨ k = 7 ∨ k = 8 ∨ k = 9 ∨ k = 10 ∨ k = 11 := by omega
    clear h1 h2
    rcases hc with rfl | rfl | rfl | rfl | rfl | rfl | rfl | rfl | rfl
    all_goals
      (go_enter Try.func52, Try.ntmps52
       go_wp2_with fail
       go_ret
       exact ⟨by first | (rw [Ex.kids1 (by omega)]; rfl) | (rw [Ex.kids2 (by omega)]; rfl) | (rw [Ex.kids3 (by omega)]; rfl), rfl⟩)
  · have e3 : ¬ k = 3 := by omega
    have e4 : ¬ k = 4 := by omega
    have e5 : ¬ k = 5 := by omega
    have e6 : ¬ k = 6 := by omega
    have e7 : ¬ k = 7 := by omega
    have e8 : ¬ k = 8 := by omega
    have e9 : ¬ k = 9 := by omega
    have ea : ¬ k = 10 := by omega
    have eb : ¬ k = 11 := by omega
    have H := Bx.mk (Ex.kids0 (k := k) (by omega))
    clear hr
    go_enter Try.func52, Try.ntmps52
    go_wp2_with fail
    go_ret
    exact ⟨by rw [H.out]; rfl, rfl⟩

def Ex.letter (c : Nat) : Bool := (decide (97 ≤ c) && decide (c ≤ 122)) || (decide (65 ≤ c) && decide (c ≤ 90))
def Ex.number (c : Nat) : Bool := decide (48 ≤ c) && decide (c ≤ 57)
attribute [irreducible] Ex.letter Ex.number
theorem Ex.letter1 {c : Nat} (h : (97 ≤ c ∧ c ≤ 122) ∨ (65 ≤ c ∧ c ≤ 90)) : Ex.letter c = true := by unfold Ex.letter; simp; omega
theorem Ex.letter0 {c : Nat} (h : ¬ ((97 ≤ c ∧ c ≤ 122) ∨ (65 ≤ c ∧ c ≤ 90))) : Ex.letter c = false := by unfold Ex.letter; simp; omega
theorem Ex.number1 {c : Nat} (h : 48 ≤ c ∧ c ≤ 57) : Ex.number c = true := by unfold Ex.number; simp; omega
theorem Ex.number0 {c : Nat} (h : ¬ (48 ≤ c ∧ c ≤ 57)) : Ex.number c = false := by unfold Ex.number; simp; omega

set_option maxHeartbeats 1000000 in
theorem number_any (c : Nat) (hc : c < 256) (w : World) : Calls Try.prog 59 #[.int .u8 (c : Int)] w fun e w' => e = .returned (.bool (Ex.number c)) ∧ w' = w := by
  by_cases h1 : c < 48
  · have H := Bx.mk (Ex.number0 (c := c) (by omega))
    have q1 : ¬ (c : Int) ≥ 48 := by omega
    go_enter Try.func59, Try.ntmps59
    go_wp2_with fail
    go_ret
    exact ⟨by rw [H.out]; rfl, rfl⟩
  · by_cases h2 : c ≤ 57
    · have H := Bx.mk (Ex.number1 (c := c) (by omega))
      have q1 : (c : Int) ≥ 48 := by omega
      have q2 : (c : Int) ≤ 57 := by omega
      go_enter Try.func59, Try.ntmps59
      go_wp2_with fail
      go_ret
      exact ⟨by rw [H.out]; rfl, rfl⟩
    · have H := Bx.mk (Ex.number0 (c := c) (by omega))
      have q1 : (c : Int) ≥ 48 := by omega
      have q2 : ¬ (c : Int) ≤ 57 := by omega
      go_enter Try.func59, Try.ntmps59
      go_wp2_with fail
      go_ret
      exact ⟨by rw [H.out]; rfl, rfl⟩

set_option maxHeartbeats 1000000 in
theorem letter_any (c : Nat) (hc : c < 256) (w : World) : Calls Try.prog 58 #[.int .u8 (c : Int)] w fun e w' => e = .returned (.bool (Ex.letter c)) ∧ w' = w := by
  have hd : c < 65 ∨ (65 ≤ c ∧ c ≤ 90) ∨ (90 < c ∧ c < 97) ∨ (97 ≤ c ∧ c ≤ 122) ∨ 122 < c := by omega
  rcases hd with h | ⟨h, h'⟩ | ⟨h, h'⟩ | ⟨h, h'⟩ | h
  · have H := Bx.mk (Ex.letter0 (c := c) (by omega))
    have q0 : ¬ (c : Int) ≥ 97 := by omega
    have q1 : ¬ (c : Int) ≥ 65 := by omega
    go_enter Try.func58, Try.ntmps58
    go_wp2_with fail
    go_ret
    exact ⟨by rw [H.out]; rfl, rfl⟩
  · have H := Bx.mk (Ex.letter1 (c := c) (by omega))
    have q0 : ¬ (c : Int) ≥ 97 := by omega
    have q1 : (c : Int) ≥ 65 := by omega
    have q2 : (c : Int) ≤ 90 := by omega
    go_enter Try.func58, Try.ntmps58
    go_wp2_with fail
    go_ret
    exact ⟨by rw [H.out]; rfl, rfl⟩
  · have H := Bx.mk (Ex.letter0 (c := c) (by omega))
    have q0 : ¬ (c : Int) ≥ 97 := by omega
    have q1 : (c : Int) ≥ 65 := by omega
    have q2 : ¬ (c : Int) ≤ 90 := by omega
    go_enter Try.func58, Try.ntmps58
    go_wp2_with fail
    go_ret
    exact ⟨by rw [H.out]; rfl, rfl⟩
  · have H := Bx.mk (Ex.letter1 (c := c) (by omega))
    have q0 : (c : Int) ≥ 97 := by omega
    have q1 : (c : Int) ≤ 122 := by omega
    go_enter Try.func58, Try.ntmps58
    go_wp2_with fail
    go_ret
    exact ⟨by rw [H.out]; rfl, rfl⟩
  · have H := Bx.mk (Ex.letter0 (c := c) (by omega))
    have q0 : (c : Int) ≥ 97 := by omega
    have q1 : ¬ (c : Int) ≤ 122 := by omega
    have q2 : (c : Int) ≥ 65 := by omega
    have q3 : ¬ (c : Int) ≤ 90 := by omega
    go_enter Try.func58, Try.ntmps58
    go_wp2_with fail
    go_ret
    exact ⟨by rw [H.out]; rfl, rfl⟩
end Go.Proofs.Ytfgokhafiffbaaa
