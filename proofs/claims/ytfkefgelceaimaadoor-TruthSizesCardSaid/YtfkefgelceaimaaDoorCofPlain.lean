/-
  What one gets of a table by setting variables in order. No program in sight.
-/
import Derived.Test.YtfkefgelceaimaaDoorTabPlain2
namespace Go.Proofs.YtfkefgelceaimaaDoor
set_option linter.unusedVariables false
namespace Tb
/-- a list's members are those that .. -/
structure Same (L : List T) (p : T → Prop) : Prop where
  iff : ∀ F, F ∈ L ↔ p F
/-- behind k variables: every function that is left -/
def levTo (f : T) (vs : List Int) : Nat → List T
  | 0 => [f]
  | k + 1 => (levTo f vs k).flatMap fun g => [fix g (vs.getD k 0) false, fix g (vs.getD k 0) true]
def CofTo (f : T) (vs : List Int) (k : Nat) (F : T) : Prop := ∃ j, j ≤ k ∧ F ∈ levTo f vs j
theorem lev_zero (f : T) (vs : List Int) : Same [f] (fun F => F ∈ levTo f vs 0) := ⟨fun F => by simp [levTo]⟩
theorem cof_zero {f : T} {vs : List Int} {F : T} : CofTo f vs 0 F ↔ F = f := by
  unfold CofTo
  constructor
  · rintro ⟨j, hj, h⟩
    obtain rfl : j = 0 := by omega
    simpa [levTo] using h
  · rintro rfl; exact ⟨0, by omega, by simp [levTo]⟩
theorem cof_succ {f : T} {vs : List Int} {k : Nat} {F : T} : CofTo f vs (k + 1) F ↔ CofTo f vs k F ∨ F ∈ levTo f vs (k + 1) := by
  unfold CofTo
  constructor
  · rintro ⟨j, hj, h⟩
    by_cases e : j = k + 1
    · subst e; exact .inr h
    · exact .inl ⟨j, by omega, h⟩
  · rintro (⟨j, hj, h⟩ | h)
    · exact ⟨j, by omega, h⟩
    · exact ⟨k + 1, by omega, h⟩
/-- of the functions of a list, with a variable set to either -/
def Both (L : List T) (v : Int) (F : T) : Prop := ∃ g, g ∈ L ∧ (F = fix g v false ∨ F = fix g v true)
theorem lev_succ {f : T} {vs : List Int} {k : Nat} {v : Int} (hv : vs[k]? = some v) {L : List T} (hL : Same L (fun F => F ∈ levTo f vs k)) (F : T) : Both L v F ↔ F ∈ levTo f vs (k + 1) := by
  have hd : vs.getD k 0 = v := by simp [List.getD, hv]
  unfold Both levTo
  rw [List.mem_flatMap, hd]
  constructor
  · rintro ⟨g, hg, h⟩; exact ⟨g, (hL.iff g).1 hg, by simpa using h⟩
  · rintro ⟨g, hg, h⟩; exact ⟨g, (hL.iff g).2 hg, by simpa using h⟩
theorem both_nil (v : Int) (F : T) : ¬ Both [] v F := by rintro ⟨g, hg, _⟩; simp at hg
theorem both_zero (L : List T) (v : Int) : Same [] (Both (L.take 0) v) := ⟨fun F => by simp [both_nil]⟩
theorem both_take {L : List T} {k : Nat} {g : T} (hg : L[k]? = some g) (v : Int) (F : T) : Both (L.take (k + 1)) v F ↔ Both (L.take k) v F ∨ F = fix g v false ∨ F = fix g v true := by
  unfold Both
  rw [List.take_add_one, hg]
  simp only [Option.toList_some, List.mem_append, List.mem_singleton]
  constructor
  · rintro ⟨x, hx | rfl, h⟩
    · exact .inl ⟨x, hx, h⟩
    · exact .inr h
  · rintro (⟨x, hx, h⟩ | h)
    · exact ⟨x, .inl hx, h⟩
    · exact ⟨g, .inr rfl, h⟩
attribute [irreducible] levTo CofTo Both
end Tb
end Go.Proofs.YtfkefgelceaimaaDoor
