/-
  Slices of tables that the call makes by append: what they hold, where they lie.
-/
import Derived.Test.YtfkefgelceaimaaDoorTruthK
namespace Go.Proofs.YtfkefgelceaimaaDoor
set_option linter.unusedVariables false
open Go.RowKit

/-- a slice of tables in a block of one's own, or none yet -/
structure TSl (w : World) (base : Nat) (v : Value) (L : List Tb.T) : Prop where
  own : w.ownsRow base 24 4 v L.length (Tb.flat L)
theorem TSl.nil (w : World) (base : Nat) : TSl w base (.slice none 0 0) [] := ⟨World.ownsRow_nil w base _ 4⟩
theorem TSl.kept {w w' : World} {base : Nat} {v : Value} {L : List Tb.T} {row : Option Nat} (h : TSl w base v L) (hg : w.grownBy w' row) (hne : v.ownBlock = none ∨ v.ownBlock ≠ row) : TSl w' base v L := ⟨h.own.kept hg hne⟩
theorem below_grown {w w' : World} (h : Below w.heap.size w w') : w.grownBy w' none := ⟨h.os, h.tape, h.output, h.size, fun k hk _ => h.block k hk⟩
theorem TSl.below {w w' : World} {base : Nat} {v : Value} {L : List Tb.T} (h : TSl w base v L) (hb : Below w.heap.size w w') : TSl w' base v L :=
  h.kept (below_grown hb) (by cases e : v.ownBlock <;> simp)
theorem TSl.lt {w : World} {base : Nat} {v : Value} {L : List Tb.T} (h : TSl w base v L) {k : Nat} (hk : v.ownBlock = some k) : base ≤ k ∧ k < w.heap.size := h.own.lt k hk
theorem TSl.shape {w : World} {base : Nat} {v : Value} {L : List Tb.T} (h : TSl w base v L) : ∃ p cap, v = .slice p L.length cap ∧ TabsAt w p L := by
  rcases h.own.2 with ⟨h', h0⟩ | ⟨g, cap, cur, h', _⟩
  · have hL : L = [] := List.eq_nil_of_length_eq_zero h0
    subst hL
    exact ⟨none, 0, h', ⟨fun j F hj => by simp at hj⟩⟩
  · refine ⟨some ⟨g, 0, none⟩, cap, h', ⟨fun j F hj => ⟨g, 0, rfl, fun i hi => ?_⟩⟩⟩
    subst h'
    have hR : TRow w base g cap L := ⟨h.own⟩
    rw [show 0 + j * 4 + i = 4 * j + i from by omega]
    exact hR.cell hj i hi

set_option maxRecDepth 100000 in
/-- a table appended: the slice lies where it lay, or in a new block -/
theorem TSl.run_append {w : World} {base : Nat} {v : Value} {L : List Tb.T} (h : TSl w base v L) (F : Tb.T) (x : Nat) (hx : ∀ i, i < 4 → w.cell? ⟨x, i, none⟩ = some (.int .u64 (Tb.wd F i))) (hn : L.length < 1000000) (hb : base ≤ w.heap.size) (ty : TypeId) (c : Nat) :
    ∃ v' w', (Builtin.append_ #[25, 25] ty #[v, .slice (some ⟨x, 0, none⟩) 1 c]).run Tryd.prog w = .ok v' w' ∧ TSl w' base v' (L ++ [F]) ∧ w.grownBy w' v.ownBlock ∧
      (v'.ownBlock = v.ownBlock ∨ v'.ownBlock = some w.heap.size) := by
  obtain ⟨i0, hi, hz⟩ : ∃ i, Tryd.prog.info? 24 = some i ∧ i.zero = some (Tb.tv 0#256) ∧ i.size = 4 ∧ i.bytes = 32 := by
    refine ⟨_, rfl, ?_⟩
    exact ⟨by kernel_rfl, by kernel_rfl, by kernel_rfl⟩
  have hnews : ∀ j u, (Tb.flat [F])[j]? = some u → w.cell? ((⟨x, 0, none⟩ : Addr).add j) = some u := fun j u hj => by
    have hl : j < (Tb.flat [F]).length := (List.getElem?_eq_some_iff.1 hj).1
    rw [Tb.flat_length] at hl
    have hl4 : j < 4 := by simpa using hl
    have e := Tb.flat_get [F] 0 F j rfl hl4
    simp only [Nat.mul_zero, Nat.zero_add] at e
    rw [e] at hj
    obtain rfl := Option.some.inj hj
    simp only [Addr.add, Nat.zero_add]
    split
    · rename_i e0; subst e0; exact hx 0 hl4
    · exact hx j hl4
  have hone : ∀ u ∈ Tb.flat [F], u.oneCell' = true := fun u hu => by
    simp [Tb.flat] at hu
    rcases hu with rfl | rfl | rfl | rfl <;> rfl
  have hl1 : (Tb.flat [F]).length = 1 * 4 := by rw [Tb.flat_length]; rfl
  obtain ⟨v', w', hr, h1, h2, h3⟩ := run_append_own (P := Tryd.prog) w base 25 ty 24 i0 _ 4 32 Tryd.underlying25 hi hz.1 hz.2.1 hz.2.2 rfl (by omega) _ _ _ h.own ⟨x, 0, none⟩ 1 c (Tb.flat [F]) hl1 hnews hone (by unfold maxLen; omega) (by omega) hb
  rw [← Tb.flat_append] at h1
  refine ⟨v', w', hr, ⟨by rw [show (L ++ [F]).length = L.length + 1 from by simp]; exact h1⟩, h2, ?_⟩
  rcases h.own.2 with ⟨rfl, h0⟩ | ⟨g, cap, cur, rfl, hbg, hg, hnc, hcm, hcs, htake⟩
  · right
    have hr2 := run_append_nil (P := Tryd.prog) w 25 ty 24 i0 _ Tryd.underlying25 hi hz.1 ⟨x, 0, none⟩ 1 c (Tb.flat [F]) (by rw [hz.2.1]; exact hl1) hnews (by omega) (by omega) (by rw [hz.2.2]; omega)
    rw [hr] at hr2
    cases hr2
    rfl
  · by_cases hroom : L.length + 1 ≤ cap
    · left
      have hr2 := run_append_room (P := Tryd.prog) w 25 ty 24 i0 Tryd.underlying25 hi g L.length cap cur hg ⟨x, 0, none⟩ 1 c (Tb.flat [F]) (by rw [hz.2.1]; exact hl1) hnews hone hroom (by rw [hl1, hcs, hz.2.1]; omega)
      rw [hr] at hr2
      cases hr2
      rfl
    · right
      have holds : ∀ j u, (Tb.flat L)[j]? = some u → w.cell? ((⟨g, 0, none⟩ : Addr).add j) = some u := h.own.cells (g := g) rfl
      have hr2 := run_append_grow (P := Tryd.prog) w 25 ty 24 i0 _ Tryd.underlying25 hi hz.1 ⟨g, 0, none⟩ L.length cap (Tb.flat L) (by rw [hz.2.1, Tb.flat_length]) holds ⟨x, 0, none⟩ 1 c (Tb.flat [F]) (by rw [hz.2.1]; exact hl1) hnews (by omega) (by omega) (growslice_fits (by omega) (by rw [hz.2.2]; omega))
      rw [hr] at hr2
      cases hr2
      rfl
end Go.Proofs.YtfkefgelceaimaaDoor
