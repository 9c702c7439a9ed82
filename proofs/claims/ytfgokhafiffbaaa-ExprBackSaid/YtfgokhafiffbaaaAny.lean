/-
  Regions whose order is open, walked in every order: the quiet operations first, then each order of the rest.
-/
import Derived.Test.YtfgokhafiffbaaaKit
import Derived.Test.YtfgokhafiffbaaaRegion
namespace Go.Proofs.Ytfgokhafiffbaaa
set_option linter.unusedVariables false
open Go.RowKit
section
variable {P : Program} {ops : Array Oper} {Q : Exit → Act → World → Prop} {S : World → Prop} {x n i : Nat} {listed : Array Bool} {a : Act} {w : World} {o : Oper}
theorem any_take (v : Value) (ho : ops[i]? = some o) (hw : Region.wanted o (yielded ops a.tmps) = true) (hs : Region.noSelect ops = true) (hlast : lastB .any ops x = true) (hfree : Region.free .any ops listed i = true)
    (hr : (Region.ready .any ops listed).contains i = true) (hQ : ∀ c a d v w, Q (.panic c) (Act.put a d v) w → Q (.panic c) a w) (hv : ∀ w, S w → (execOp a.eval o).run P w = .ok (.value v) w) (hS : S w)
    (h : AnyE P .any ops Q S x n (listed.setIfInBounds i true) (a.put o.dst v) w) : AnyE P .any ops Q S x (n + 1) listed a w :=
  AnyE.first ho hs hlast (fun c a w => hQ c a _ _ w) n listed a w (Region.free_spec ho hfree) (List.contains_iff_mem.1 hr) (.inl ⟨hw, hv⟩) hS h
theorem any_branch (L : List Nat) (hr : (Region.ready .any ops listed == L) = true) (hne : L.isEmpty = false) (h : ∀ i ∈ L, wpOp P ops Q i (fun a' w' => (i ≠ x → S w') ∧ AnyE P .any ops Q S x n (listed.setIfInBounds i true) a' w') a w) :
    AnyE P .any ops Q S x (n + 1) listed a w := by
  have e : Region.ready .any ops listed = L := by simpa using hr
  subst e
  exact ⟨fun h0 => by rw [h0] at hne; simp at hne, h⟩
theorem any_op (ho : ops[i]? = some o) (hw : Region.wanted o (yielded ops a.tmps) = true)
    (h : ∀ K : Act → World → Prop, (∀ a' w', (i ≠ x → S w') → AnyE P .any ops Q S x n (listed.setIfInBounds i true) a' w' → K a' w') → o.wp P a w K Q) : wpOp P ops Q i (fun a' w' => (i ≠ x → S w') ∧ AnyE P .any ops Q S x n (listed.setIfInBounds i true) a' w') a w := by
  unfold wpOp
  simp only [ho, hw, if_true]
  exact .inl (h _ fun a w h1 h2 => ⟨h1, h2⟩)
theorem any_end (hr : (Region.ready .any ops listed).isEmpty = true) (h : Q .normal a w) : AnyE P .any ops Q S x 0 listed a w := ⟨by simpa using hr, h⟩
theorem region_any {id : Nat} (x : Nat) (S : World → Prop) (hm : P.follows .mixedOrders = true) (h : AnyE P .any ops Q S x ops.size (Array.replicate ops.size false) a w.drew) : (Code.region id ops true).wp P Q a w :=
  wp_region_any hm (AnyE.any _ _ _ _ h)
end
end Go.Proofs.Ytfgokhafiffbaaa
