/-
  Formulas: small functions on strings.
-/
import Derived.Test.YtfgokhafiffbaaaExprA
import Derived.Laws.Strings
namespace Go.Proofs.Ytfgokhafiffbaaa
set_option linter.unusedVariables false
open Go.RowKit

set_option maxHeartbeats 1000000 in
theorem variable_len (s : ByteArray) (h : s.size ≠ 2) (w : World) : Calls Try.prog 60 #[.string s] w fun e w' => e = .returned (.bool false) ∧ w' = w := by
  have q1 : ¬ (s.size : Int) = 2 := by omega
  go_enter Try.func60, Try.ntmps60
  go_wp2_with fail
  go_ret
  exact ⟨rfl, rfl⟩
def Ex.vari (a b : Nat) : Bool := decide (a = 118) && (decide (48 ≤ b) && decide (b ≤ 55))
attribute [irreducible] Ex.vari
theorem Ex.vari1 {a b : Nat} (h : a = 118 ∧ 48 ≤ b ∧ b ≤ 55) : Ex.vari a b = true := by unfold Ex.vari; simp; omega
theorem Ex.vari0 {a b : Nat} (h : ¬ (a = 118 ∧ 48 ≤ b ∧ b ≤ 55)) : Ex.vari a b = false := by unfold Ex.vari; simp; omega
set_option maxHeartbeats 1000000 in
theorem variable_two (s : ByteArray) (h : s.size = 2) (a b : Nat) (ha : a < 256) (hb : b < 256) (w : World) (h0 : (Instr.index 9 (.string s) (.int .i64 0)).run Try.prog w = .ok (.int .u8 (a : Int)) w)
    (h1 : (Instr.index 9 (.string s) (.int .i64 1)).run Try.prog w = .ok (.int .u8 (b : Int)) w) :
    Calls Try.prog 60 #[.string s] w fun e w' => e = .returned (.bool (Ex.vari a b)) ∧ w' = w := by
  have q1 : (s.size : Int) = 2 := by omega
  have hd : ¬ a = 118 ∨ (a = 118 ∧ b < 48) ∨ (a = 118 ∧ 48 ≤ b ∧ b ≤ 55) ∨ (a = 118 ∧ 48 ≤ b ∧ ¬ b ≤ 55) := by omega
  rcases hd with d1 | ⟨d1, d2⟩ | ⟨d1, d2, d3⟩ | ⟨d1, d2, d3⟩
  · have H := Bx.mk (Ex.vari0 (a := a) (b := b) (by omega))
    have z0 : ¬ (a : Int) = 118 := by omega
    clear d1
    go_enter Try.func60, Try.ntmps60
    go_wp2_with fail
    go_ret
    exact ⟨by rw [H.out]; rfl, rfl⟩
  · have H := Bx.mk (Ex.vari0 (a := a) (b := b) (by omega))
    have z0 : (a : Int) = 118 := by omega
    have z1 : ¬ (b : Int) ≥ 48 := by omega
    clear d1 d2
    go_enter Try.func60, Try.ntmps60
    go_wp2_with fail
    go_ret
    exact ⟨by rw [H.out]; rfl, rfl⟩
  · have H := Bx.mk (Ex.vari1 (a := a) (b := b) (by omega))
    have z0 : (a : Int) = 118 := by omega
    have z1 : (b : Int) ≥ 48 := by omega
    have z2 : (b : Int) ≤ 55 := by omega
    clear d1 d2 d3
    go_enter Try.func60, Try.ntmps60
    go_wp2_with fail
    go_ret
    exact ⟨by rw [H.out]; rfl, rfl⟩
  · have H := Bx.mk (Ex.vari0 (a := a) (b := b) (by omega))
    have z0 : (a : Int) = 118 := by omega
    have z1 : (b : Int) ≥ 48 := by omega
    have z2 : ¬ (b : Int) ≤ 55 := by omega
    clear d1 d2 d3
    go_enter Try.func60, Try.ntmps60
    go_wp2_with fail
    go_ret
    exact ⟨by rw [H.out]; rfl, rfl⟩
end Go.Proofs.Ytfgokhafiffbaaa
