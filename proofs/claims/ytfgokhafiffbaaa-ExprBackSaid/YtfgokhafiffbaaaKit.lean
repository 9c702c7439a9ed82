/-
  Small helps for walks: a fact boxed away from the walk's simp.
-/
import Derived.WalkKit
import Derived.WalkSpells
import Derived.WalkLawsBesides
import Derived.Lib.Hide
import Derived.StillTailTactics
import Derived.Below
import Derived.Laws.OwnMore
import Derived.Deep.Draws
import Derived.Laws.Rows
import Derived.RegionTactic
import Derived.Deep.QuietTactic
import Derived.BigQuiet
namespace Go.Proofs.Ytfgokhafiffbaaa
set_option linter.unusedVariables false
/-- a region whose order is open, all but its tail reading or calling quietly: the world behind the draw spelled as the walk spells it -/
theorem region_tail {P : Program} {id : Nat} {Q : Exit → Act → World → Prop} {a : Act} {w : World} {l : List Oper} (n : Nat) (hm : P.follows .mixedOrders = true) (hB : Region.lexTailB .any l.toArray n = true)
    (h : wpStill P l.toArray w.drew (fun a' => wpList P l.toArray Q (l.drop n) a' w.drew) (l.take n) a) : (Code.region id l.toArray true).wp P Q a w :=
  wp_region_still_tail n hm hB h
@[simp] theorem drew_size (w : World) : w.drew.heap.size = w.heap.size := rfl
theorem alloc_size (w : World) (o : Obj) : (w.alloc o).heap.size = w.heap.size + 1 := by simp
/-- a fact that no tactic looks into -/
structure Bx (p : Prop) : Prop where
  out : p
/-- a block that is known whole -/
structure Blk (w : World) (g : Nat) (t : TypeId) (cs : Array Value) : Prop where
  eq : w.heap[g]? = some (.cells cs t (0, 0))
section
open Go.RowKit
variable {w w' : World} {g : Nat} {t : TypeId} {cs : Array Value}
theorem Blk.lt (h : Blk w g t cs) : g < w.heap.size := by
  rcases Nat.lt_or_ge g w.heap.size with hlt | hge
  · exact hlt
  · have := h.eq; rw [Array.getElem?_eq_none hge] at this; cases this
theorem Blk.cell (h : Blk w g t cs) (i : Nat) : w.cell? ⟨g, i, none⟩ = cs[i]? := cell_of_row w g i cs t (0, 0) h.eq
theorem Blk.frozen (h : Blk w g t cs) (i : Nat) : w.frozen? ⟨g, i, none⟩ = false := by
  simp [World.frozen?, h.eq]
theorem Blk.new (w : World) (t : TypeId) (cs : Array Value) : Blk (w.alloc (.cells cs t)) w.heap.size t cs := ⟨heap_alloc_new w _⟩
theorem Blk.drew (h : Blk w g t cs) : Blk w.drew g t cs := ⟨h.eq⟩
theorem Blk.drewN (h : Blk w g t cs) (n : Nat) : Blk (w.drewN n) g t cs := ⟨h.eq⟩
theorem Blk.alloc (h : Blk w g t cs) (o : Obj) : Blk (w.alloc o) g t cs := ⟨(Below.heap_alloc w o g h.lt).trans h.eq⟩
theorem Blk.set_ (h : Blk w g t cs) (i : Nat) (u : Value) : Blk (w.setCell ⟨g, i, none⟩ u) g t (cs.setIfInBounds i u) :=
  ⟨by simp [World.setCell, Array.getElem?_modify, h.eq]⟩
theorem Blk.far (h : Blk w g t cs) {p : Addr} (hp : g ≠ p.block) (u : Value) : Blk (w.setCell p u) g t cs := ⟨(Below.heap_setCell w p u g hp).trans h.eq⟩
theorem Blk.below {B : Nat} (h : Blk w g t cs) (hb : Below B w w') (hg : g < B) : Blk w' g t cs := ⟨(hb.block g hg).trans h.eq⟩
end

/-- what a cell holds, whatever it is -/
def cval (w : World) (a : Addr) : Value := (w.cell? a).getD undef
theorem cval_ok {w : World} {a : Addr} (h : (w.cell? a).isSome = true) : w.cell? a = some (cval w a) := by
  unfold cval
  cases e : w.cell? a with
  | none => rw [e] at h; cases h
  | some v => rfl
attribute [irreducible] cval

/-- a cell that was written holds what was written, if it is a cell at all -/
theorem set_self {w : World} {b o : Nat} {v x : Value} (h : (w.setCell ⟨b, o, none⟩ v).cell? ⟨b, o, none⟩ = some x) : (w.setCell ⟨b, o, none⟩ v).cell? ⟨b, o, none⟩ = some v := by
  revert h
  simp only [World.cell?, World.setCell, Array.getElem?_modify, if_true, Option.isSome_none, Bool.false_eq_true, if_false]
  cases w.heap[b]? with
  | none => simp
  | some ob =>
    cases ob <;> simp [Array.getElem?_setIfInBounds]
    intro h _; exact h
theorem set_far {w : World} {b o b' o' : Nat} {v : Value} (h : b ≠ b' ∨ o ≠ o') : (w.setCell ⟨b, o, none⟩ v).cell? ⟨b', o', none⟩ = w.cell? ⟨b', o', none⟩ := by
  simp only [World.cell?, World.setCell, Array.getElem?_modify, Option.isSome_none, Bool.false_eq_true, if_false]
  by_cases e : b = b'
  · subst e
    rw [if_pos rfl]
    cases w.heap[b]? with
    | none => simp
    | some ob =>
      have ho : o ≠ o' := by rcases h with h | h; exact absurd rfl h; exact h
      cases ob <;> simp [ho]
  · rw [if_neg e]
/-- four cells written one behind the other -/
theorem set4 {w : World} {r : Nat} {v0 v1 v2 v3 x0 x1 x2 x3 : Value}
    (h0 : ((((w.setCell ⟨r, 0, none⟩ v0).setCell ⟨r, 1, none⟩ v1).setCell ⟨r, 2, none⟩ v2).setCell ⟨r, 3, none⟩ v3).cell? ⟨r, 0, none⟩ = some x0)
    (h1 : ((((w.setCell ⟨r, 0, none⟩ v0).setCell ⟨r, 1, none⟩ v1).setCell ⟨r, 2, none⟩ v2).setCell ⟨r, 3, none⟩ v3).cell? ⟨r, 1, none⟩ = some x1)
    (h2 : ((((w.setCell ⟨r, 0, none⟩ v0).setCell ⟨r, 1, none⟩ v1).setCell ⟨r, 2, none⟩ v2).setCell ⟨r, 3, none⟩ v3).cell? ⟨r, 2, none⟩ = some x2)
    (h3 : ((((w.setCell ⟨r, 0, none⟩ v0).setCell ⟨r, 1, none⟩ v1).setCell ⟨r, 2, none⟩ v2).setCell ⟨r, 3, none⟩ v3).cell? ⟨r, 3, none⟩ = some x3) :
    let W := ((((w.setCell ⟨r, 0, none⟩ v0).setCell ⟨r, 1, none⟩ v1).setCell ⟨r, 2, none⟩ v2).setCell ⟨r, 3, none⟩ v3)
    W.cell? ⟨r, 0, none⟩ = some v0 ∧ W.cell? ⟨r, 1, none⟩ = some v1 ∧ W.cell? ⟨r, 2, none⟩ = some v2 ∧ W.cell? ⟨r, 3, none⟩ = some v3 := by
  intro W
  refine ⟨?_, ?_, ?_, set_self h3⟩
  · rw [set_far (.inr (by omega)), set_far (.inr (by omega)), set_far (.inr (by omega))] at h0 ⊢; exact set_self h0
  · rw [set_far (.inr (by omega)), set_far (.inr (by omega))] at h1 ⊢; exact set_self h1
  · rw [set_far (.inr (by omega))] at h2 ⊢; exact set_self h2

theorem wf_u8 {a : Int} (h : (Lit.int .u8 a).wf = true) : 0 ≤ a ∧ a < 256 := by
  simp [Lit.wf, IntKind.min, IntKind.max, IntKind.signed, IntKind.bits] at h; omega
theorem wf_u16 {a : Int} (h : (Lit.int .u16 a).wf = true) : 0 ≤ a ∧ a < 65536 := by
  simp [Lit.wf, IntKind.min, IntKind.max, IntKind.signed, IntKind.bits] at h; omega
theorem wf_u32 {a : Int} (h : (Lit.int .u32 a).wf = true) : 0 ≤ a ∧ a < 4294967296 := by
  simp [Lit.wf, IntKind.min, IntKind.max, IntKind.signed, IntKind.bits] at h; omega
theorem wf_u64 {a : Int} (h : (Lit.int .u64 a).wf = true) : 0 ≤ a ∧ a < 18446744073709551616 := by
  simp [Lit.wf, IntKind.min, IntKind.max, IntKind.signed, IntKind.bits] at h; omega
theorem wf_i64 {a : Int} (h : (Lit.int .i64 a).wf = true) : -9223372036854775808 ≤ a ∧ a < 9223372036854775808 := by
  simp [Lit.wf, IntKind.min, IntKind.max, IntKind.signed, IntKind.bits] at h; omega
end Go.Proofs.Ytfgokhafiffbaaa
