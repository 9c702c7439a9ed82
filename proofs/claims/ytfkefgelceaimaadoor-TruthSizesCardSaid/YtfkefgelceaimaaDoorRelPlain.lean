/-
  Next and Prev of tables: the laws of TruthRels, TruthSteps. No program in sight.
-/
import Derived.Test.YtfkefgelceaimaaDoorQuantPlain
namespace Go.Proofs.YtfkefgelceaimaaDoor
set_option linter.unusedVariables false
namespace Tb
theorem next_get (s r : T) {x : Nat} (hx : x < 256) : (next s r).getLsbD x = true ↔ ∃ y, y < 256 ∧ nx x y = true ∧ s.getLsbD y = true ∧ r.getLsbD y = true := by
  rw [next_def, tab_get]
  simp only [hx, decide_true, Bool.true_and]
  rw [anyTo_spec]
  constructor
  · rintro ⟨y, hy, h⟩
    simp only [BitVec.getLsbD_and, Bool.and_eq_true] at h
    exact ⟨y, hy, h.1, h.2.1, h.2.2⟩
  · rintro ⟨y, hy, h1, h2, h3⟩
    exact ⟨y, hy, by simp [h1, h2, h3]⟩
theorem prev_get (s r : T) {x : Nat} (hx : x < 256) : (prev s r).getLsbD x = true ↔ ∃ y, y < 256 ∧ pv x y = true ∧ r.getLsbD y = true ∧ s.getLsbD (half y) = true := by
  rw [prev_def, tab_get]
  simp only [hx, decide_true, Bool.true_and]
  rw [anyTo_spec]
  constructor
  · rintro ⟨y, hy, h⟩
    simp only [Bool.and_eq_true] at h
    exact ⟨y, hy, h.1.1, h.1.2, h.2⟩
  · rintro ⟨y, hy, h1, h2, h3⟩
    exact ⟨y, hy, by simp [h1, h2, h3]⟩
theorem next_or_l (p q r : T) : next (p ||| q) r = next p r ||| next q r := by
  refine ext_iff fun x hx => ?_
  rw [BitVec.getLsbD_or, Bool.or_eq_true, next_get _ _ hx, next_get _ _ hx, next_get _ _ hx]
  constructor
  · rintro ⟨y, hy, h1, h2, h3⟩
    rw [BitVec.getLsbD_or, Bool.or_eq_true] at h2
    exact h2.elim (fun h => .inl ⟨y, hy, h1, h, h3⟩) (fun h => .inr ⟨y, hy, h1, h, h3⟩)
  · rintro (⟨y, hy, h1, h2, h3⟩ | ⟨y, hy, h1, h2, h3⟩)
    · exact ⟨y, hy, h1, by rw [BitVec.getLsbD_or, h2]; rfl, h3⟩
    · exact ⟨y, hy, h1, by rw [BitVec.getLsbD_or, h2]; simp, h3⟩
theorem next_or_r (p r t : T) : next p (r ||| t) = next p r ||| next p t := by
  refine ext_iff fun x hx => ?_
  rw [BitVec.getLsbD_or, Bool.or_eq_true, next_get _ _ hx, next_get _ _ hx, next_get _ _ hx]
  constructor
  · rintro ⟨y, hy, h1, h2, h3⟩
    rw [BitVec.getLsbD_or, Bool.or_eq_true] at h3
    exact h3.elim (fun h => .inl ⟨y, hy, h1, h2, h⟩) (fun h => .inr ⟨y, hy, h1, h2, h⟩)
  · rintro (⟨y, hy, h1, h2, h3⟩ | ⟨y, hy, h1, h2, h3⟩)
    · exact ⟨y, hy, h1, h2, by rw [BitVec.getLsbD_or, h3]; rfl⟩
    · exact ⟨y, hy, h1, h2, by rw [BitVec.getLsbD_or, h3]; simp⟩
theorem prev_or_l (p q r : T) : prev (p ||| q) r = prev p r ||| prev q r := by
  refine ext_iff fun x hx => ?_
  rw [BitVec.getLsbD_or, Bool.or_eq_true, prev_get _ _ hx, prev_get _ _ hx, prev_get _ _ hx]
  constructor
  · rintro ⟨y, hy, h1, h2, h3⟩
    rw [BitVec.getLsbD_or, Bool.or_eq_true] at h3
    exact h3.elim (fun h => .inl ⟨y, hy, h1, h2, h⟩) (fun h => .inr ⟨y, hy, h1, h2, h⟩)
  · rintro (⟨y, hy, h1, h2, h3⟩ | ⟨y, hy, h1, h2, h3⟩)
    · exact ⟨y, hy, h1, h2, by rw [BitVec.getLsbD_or, h3]; rfl⟩
    · exact ⟨y, hy, h1, h2, by rw [BitVec.getLsbD_or, h3]; simp⟩
theorem prev_or_r (p r t : T) : prev p (r ||| t) = prev p r ||| prev p t := by
  refine ext_iff fun x hx => ?_
  rw [BitVec.getLsbD_or, Bool.or_eq_true, prev_get _ _ hx, prev_get _ _ hx, prev_get _ _ hx]
  constructor
  · rintro ⟨y, hy, h1, h2, h3⟩
    rw [BitVec.getLsbD_or, Bool.or_eq_true] at h2
    exact h2.elim (fun h => .inl ⟨y, hy, h1, h, h3⟩) (fun h => .inr ⟨y, hy, h1, h, h3⟩)
  · rintro (⟨y, hy, h1, h2, h3⟩ | ⟨y, hy, h1, h2, h3⟩)
    · exact ⟨y, hy, h1, by rw [BitVec.getLsbD_or, h2]; rfl, h3⟩
    · exact ⟨y, hy, h1, by rw [BitVec.getLsbD_or, h2]; simp, h3⟩
theorem next_zero (p : T) : next p 0#256 = 0#256 := ext_iff fun x hx => by
  rw [next_get _ _ hx]
  constructor
  · rintro ⟨y, hy, h1, h2, h3⟩; simp at h3
  · intro h; simp at h
theorem prev_zero (r : T) : prev 0#256 r = 0#256 := ext_iff fun x hx => by
  rw [prev_get _ _ hx]
  constructor
  · rintro ⟨y, hy, h1, h2, h3⟩; simp at h3
  · intro h; simp at h
end Tb
end Go.Proofs.YtfkefgelceaimaaDoor
