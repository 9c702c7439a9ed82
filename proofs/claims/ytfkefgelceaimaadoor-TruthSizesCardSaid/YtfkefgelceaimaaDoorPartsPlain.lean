/-
  The document's nodes of functions under an order: level by level. No program in sight.
-/
import Derived.Test.YtfkefgelceaimaaDoorCofPlain
namespace Go.Proofs.YtfkefgelceaimaaDoor
set_option linter.unusedVariables false
namespace Tb
/-- the functions of a level -/
def Lv (fs : List T) (vs : List Int) (k : Nat) (F : T) : Prop := ∃ f, f ∈ fs ∧ F ∈ levTo f vs k
/-- no constant -/
def Nc (F : T) : Prop := F ≠ cst false ∧ F ≠ cst true
/-- of the levels above k, no constants -/
def Up (fs : List T) (vs : List Int) (k : Nat) (F : T) : Prop := (∃ j, j < k ∧ Lv fs vs j F) ∧ Nc F
theorem lv_zero (fs : List T) (vs : List Int) (F : T) : Lv fs vs 0 F ↔ F ∈ fs := by
  unfold Lv levTo
  constructor
  · rintro ⟨f, hf, h⟩; simp at h; subst h; exact hf
  · intro h; exact ⟨F, h, by simp⟩
theorem lv_succ {fs : List T} {vs : List Int} {k : Nat} {v : Int} (hv : vs[k]? = some v) {L : List T} (hL : Same L (Lv fs vs k)) (F : T) : Both L v F ↔ Lv fs vs (k + 1) F := by
  have hd : vs.getD k 0 = v := by simp [List.getD, hv]
  unfold Both Lv
  constructor
  · rintro ⟨g, hg, h⟩
    obtain ⟨f, hf, hlev⟩ := (hL.iff g).1 hg
    refine ⟨f, hf, ?_⟩
    rw [levTo, List.mem_flatMap, hd]
    exact ⟨g, hlev, by simpa using h⟩
  · rintro ⟨f, hf, h⟩
    rw [levTo, List.mem_flatMap, hd] at h
    obtain ⟨g, hg, h⟩ := h
    exact ⟨g, (hL.iff g).2 ⟨f, hf, hg⟩, by simpa using h⟩
theorem up_zero (fs : List T) (vs : List Int) : Same [] (Up fs vs 0) := ⟨fun F => by
  unfold Up
  simp only [List.not_mem_nil, false_iff]
  rintro ⟨⟨j, hj, _⟩, _⟩
  omega⟩
theorem up_succ {fs : List T} {vs : List Int} {k : Nat} {F : T} : Up fs vs (k + 1) F ↔ Up fs vs k F ∨ (Lv fs vs k F ∧ Nc F) := by
  unfold Up
  constructor
  · rintro ⟨⟨j, hj, h⟩, hn⟩
    by_cases e : j = k
    · subst e; exact .inr ⟨h, hn⟩
    · exact .inl ⟨⟨j, by omega, h⟩, hn⟩
  · rintro (⟨⟨j, hj, h⟩, hn⟩ | ⟨h, hn⟩)
    · exact ⟨⟨j, by omega, h⟩, hn⟩
    · exact ⟨⟨k, by omega, h⟩, hn⟩
theorem up_cof {fs : List T} {vs : List Int} {F : T} : Up fs vs (vs.length + 1) F ↔ (∃ f, f ∈ fs ∧ CofTo f vs vs.length F) ∧ F ≠ cst false ∧ F ≠ cst true := by
  unfold Up Lv CofTo Nc
  constructor
  · rintro ⟨⟨j, hj, f, hf, h⟩, hn⟩; exact ⟨⟨f, hf, j, by omega, h⟩, hn⟩
  · rintro ⟨⟨f, hf, j, hj, h⟩, hn⟩; exact ⟨⟨j, by omega, f, hf, h⟩, hn⟩
/-- of the first i functions of a level -/
def UpI (fs : List T) (vs : List Int) (k : Nat) (now : List T) (i : Nat) (F : T) : Prop := Up fs vs k F ∨ (F ∈ now.take i ∧ Nc F)
theorem upI_zero {fs : List T} {vs : List Int} {k : Nat} {now all : List T} (h : Same all (Up fs vs k)) : Same all (UpI fs vs k now 0) := ⟨fun F => by
  rw [h.iff F]; unfold UpI; simp⟩
theorem upI_all {fs : List T} {vs : List Int} {k : Nat} {now all : List T} (hn : Same now (Lv fs vs k)) (h : Same all (UpI fs vs k now now.length)) : Same all (Up fs vs (k + 1)) := ⟨fun F => by
  rw [h.iff F, up_succ]; unfold UpI; rw [List.take_length, hn.iff F]⟩
theorem upI_yes {fs : List T} {vs : List Int} {k i : Nat} {now all : List T} {g : T} (hg : now[i]? = some g) (h : Same all (UpI fs vs k now i)) (hn : Nc g) : Same (all ++ [g]) (UpI fs vs k now (i + 1)) := ⟨fun F => by
  rw [List.mem_append, h.iff F, List.mem_singleton]
  unfold UpI
  rw [List.take_add_one, hg, Option.toList_some, List.mem_append, List.mem_singleton]
  constructor
  · rintro ((h1 | ⟨h1, h2⟩) | rfl)
    · exact .inl h1
    · exact .inr ⟨.inl h1, h2⟩
    · exact .inr ⟨.inr rfl, hn⟩
  · rintro (h1 | ⟨h1 | rfl, h2⟩)
    · exact .inl (.inl h1)
    · exact .inl (.inr ⟨h1, h2⟩)
    · exact .inr rfl⟩
theorem upI_no {fs : List T} {vs : List Int} {k i : Nat} {now all : List T} {g : T} (hg : now[i]? = some g) (h : Same all (UpI fs vs k now i)) (hn : ¬ Nc g ∨ g ∈ all) : Same all (UpI fs vs k now (i + 1)) := ⟨fun F => by
  rw [h.iff F]
  have hgi : g ∈ all → UpI fs vs k now i g := (h.iff g).1
  unfold UpI at hgi ⊢
  rw [List.take_add_one, hg, Option.toList_some, List.mem_append, List.mem_singleton]
  constructor
  · rintro (h1 | ⟨h1, h2⟩)
    · exact .inl h1
    · exact .inr ⟨.inl h1, h2⟩
  · rintro (h1 | ⟨h1 | rfl, h2⟩)
    · exact .inl h1
    · exact .inr ⟨h1, h2⟩
    · rcases hn with hn | hn
      · exact absurd h2 hn
      · exact hgi hn⟩
/-- a list with what is set to either: one by one -/
def BothI (L : List T) (v : Int) (i : Nat) (F : T) : Prop := Both (L.take i) v F
theorem add_dedup {L : List T} {p q : T → Prop} {g : T} (h : Same L p) (hq : ∀ F, q F ↔ p F ∨ F = g) : Same (if g ∈ L then L else L ++ [g]) q := ⟨fun F => by
  rw [hq F]
  split
  · rename_i hm
    rw [h.iff F]
    constructor
    · exact .inl
    · rintro (h1 | rfl)
      · exact h1
      · exact (h.iff _).1 hm
  · rw [List.mem_append, h.iff F, List.mem_singleton]⟩
attribute [irreducible] Lv Nc Up UpI
end Tb
end Go.Proofs.YtfkefgelceaimaaDoor
