/-
  Texts on which the laws of this seat rest, part 6 of 11.
-/
import Derived.Test.YthbifeoohphnpaaBa5
/-
  Package order: a copy; all variables by levels.
-/
namespace Go.Proofs.Ythbifeoohphnpaa
set_option linter.unusedVariables false
open Go.RowKit
theorem len8 (l : List Nat) (h : l.length = 8) : ∃ a b c d e f g i, l = [a, b, c, d, e, f, g, i] := by
  match l, h with
  | [a, b, c, d, e, f, g, i], _ => exact ⟨a, b, c, d, e, f, g, i, rfl⟩
set_option maxRecDepth 100000 in
set_option maxHeartbeats 2000000 in
theorem ocopy_any (o : Nat) (S : Sto) (w : World) (h : Blk w o 102 (ordV S)) (hl : S.vars.length = 8 ∧ S.levels.length = 8) :
    Calls Try.prog 54 #[.pointer (some ⟨o, 0, none⟩)] w fun e w' => e = .returned (.pointer (some ⟨w.heap.size, 0, none⟩)) ∧ Blk w' w.heap.size 102 (ordV S) ∧ Fr [] w w' ∧ w'.heap.size = w.heap.size + 1 := by
  have HB : Bx (Blk (w.alloc (.cells (ordV S) 102)) w.heap.size 102 (ordV S) ∧ Fr [] w (w.alloc (.cells (ordV S) 102)) ∧ (w.alloc (.cells (ordV S) 102)).heap.size = w.heap.size + 1) := ⟨Blk.new w _ _, (Fr.refl _ _).alloc _, alloc_size _ _⟩
  obtain ⟨room, n, vars, levels, nodes, free, off⟩ := S
  obtain ⟨a0, a1, a2, a3, a4, a5, a6, a7, rfl⟩ := len8 _ hl.1
  obtain ⟨b0, b1, b2, b3, b4, b5, b6, b7, rfl⟩ := len8 _ hl.2
  have c0 : w.cell? ⟨o, 0, none⟩ = some (.int .i64 (n : Int)) := h.cellEq rfl
  have c1 : w.cell? ⟨o, 1, none⟩ = some (.int .i64 (a0 : Int)) := h.cellEq rfl
  have c2 : w.cell? ⟨o, 2, none⟩ = some (.int .i64 (a1 : Int)) := h.cellEq rfl
  have c3 : w.cell? ⟨o, 3, none⟩ = some (.int .i64 (a2 : Int)) := h.cellEq rfl
  have c4 : w.cell? ⟨o, 4, none⟩ = some (.int .i64 (a3 : Int)) := h.cellEq rfl
  have c5 : w.cell? ⟨o, 5, none⟩ = some (.int .i64 (a4 : Int)) := h.cellEq rfl
  have c6 : w.cell? ⟨o, 6, none⟩ = some (.int .i64 (a5 : Int)) := h.cellEq rfl
  have c7 : w.cell? ⟨o, 7, none⟩ = some (.int .i64 (a6 : Int)) := h.cellEq rfl
  have c8 : w.cell? ⟨o, 8, none⟩ = some (.int .i64 (a7 : Int)) := h.cellEq rfl
  have c9 : w.cell? ⟨o, 9, none⟩ = some (.int .i64 (b0 : Int)) := h.cellEq rfl
  have c10 : w.cell? ⟨o, 10, none⟩ = some (.int .i64 (b1 : Int)) := h.cellEq rfl
  have c11 : w.cell? ⟨o, 11, none⟩ = some (.int .i64 (b2 : Int)) := h.cellEq rfl
  have c12 : w.cell? ⟨o, 12, none⟩ = some (.int .i64 (b3 : Int)) := h.cellEq rfl
  have c13 : w.cell? ⟨o, 13, none⟩ = some (.int .i64 (b4 : Int)) := h.cellEq rfl
  have c14 : w.cell? ⟨o, 14, none⟩ = some (.int .i64 (b5 : Int)) := h.cellEq rfl
  have c15 : w.cell? ⟨o, 15, none⟩ = some (.int .i64 (b6 : Int)) := h.cellEq rfl
  have c16 : w.cell? ⟨o, 16, none⟩ = some (.int .i64 (b7 : Int)) := h.cellEq rfl
  clear h
  go_enter Try.func54, Try.ntmps54
  go_wp2_with fail
  go_ret
  exact ⟨rfl, HB.out⟩
theorem sorder_any (base : Nat) (B : Bk) (S : Sto) (L : List Nat) (w : World) (h : StAt w base B S L) :
    Calls Try.prog 16 #[.pointer (some ⟨B.s, 0, none⟩)] w fun e w' => e = .returned (.pointer (some ⟨w.heap.size, 0, none⟩)) ∧ Blk w' w.heap.size 102 (ordV S) ∧ Fr [] w w' ∧ w'.heap.size = w.heap.size + 1 := by
  obtain ⟨c0, c1, c2, c3, c4, c5, c6, c7⟩ := cells8 h.hd
  have HO := Bx.mk (ocopy_any B.o S w h.ord ⟨h.vl.1, h.vl.2.1⟩)
  clear h
  go_enter Try.func16, Try.ntmps16
  go_wp2_with fail
  refine HO.out.mono ?_
  rintro e w1 ⟨rfl, h1, h2, h3⟩
  have HE := Bx.mk (And.intro h1 (And.intro h2 h3))
  clear h1 h2 h3
  go_wp2_with fail
  go_ret
  exact ⟨rfl, HE.out⟩
end Go.Proofs.Ythbifeoohphnpaa
