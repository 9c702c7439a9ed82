/-
  A region whose order is open, walked in ONE order: what yields the same in every world that keeps a condition is taken as soon as it may come up,
  the other operations wait for one another. Behind the last operation, for which all others are waited, the condition is not asked (it may write what the others read).
-/
import Derived.OrdersHeld
import Derived.KernelRfl
import Derived.Tactics
import Derived.Deep.RegionHeld
namespace Go.Proofs.Ytfgokhafiffbaaa
set_option linter.unusedVariables false
open Go
section
variable {P : Program} {ops : Array Oper} {Q : Exit → Act → World → Prop} {md : Region.Mode} {S : World → Prop} {x : Nat}

/-- whatever is picked; S holds behind each operation but x -/
def AnyE (P : Program) (md : Region.Mode) (ops : Array Oper) (Q : Exit → Act → World → Prop) (S : World → Prop) (x : Nat) : Nat → Array Bool → Act → World → Prop
  | 0, listed, a, w => Region.ready md ops listed = [] ∧ Q .normal a w
  | n + 1, listed, a, w => (Region.ready md ops listed = [] → Q .normal a w) ∧
      ∀ i ∈ Region.ready md ops listed, wpOp P ops Q i (fun a' w' => (i ≠ x → S w') ∧ AnyE P md ops Q S x n (listed.setIfInBounds i true) a' w') a w

theorem AnyE.any : ∀ (n : Nat) (listed : Array Bool) (a : Act) (w : World), AnyE P md ops Q S x n listed a w → wpAny P md ops Q n listed a w
  | 0, _, _, _, h => h
  | n + 1, _, _, _, h => ⟨h.1, fun i hi => wpOp_mono (fun a' w' h' => AnyE.any n _ a' w' h'.2) (h.2 i hi)⟩

theorem not_listed {listed : Array Bool} {i : Nat} (h : listed.getD i true = false) : listed.getD i false = false := by
  rcases Nat.lt_or_ge i listed.size with h' | h'
  · simp [h'] at h ⊢; exact h
  · simp [Array.getElem?_eq_none h'] at h

/-- x waits for every other operation -/
def lastB (md : Region.Mode) (ops : Array Oper) (x : Nat) : Bool :=
  match ops[x]? with
  | some o => (List.range ops.size).all fun i => i == x || o.after.any fun e => Region.binds md e && e.on == i
  | none => true

theorem lastB_spec (h : lastB md ops x = true) {ox : Oper} (hx : ops[x]? = some ox) {i : Nat} (hi : i < ops.size) (hne : i ≠ x) : ∃ e ∈ ox.after, Region.binds md e = true ∧ e.on = i := by
  unfold lastB at h
  rw [hx] at h
  have := List.all_eq_true.1 h i (List.mem_range.2 hi)
  simp only [Bool.or_eq_true, beq_iff_eq] at this
  rcases this with this | this
  · exact absurd this hne
  · obtain ⟨e, he, hb⟩ := Array.any_eq_true'.1 this
    simp only [Bool.and_eq_true, beq_iff_eq] at hb
    exact ⟨e, he, hb.1, hb.2⟩

/-- what yields in every world of S may be taken first -/
theorem AnyE.first {i : Nat} {oi : Oper} {v : Value} (hi : ops[i]? = some oi) (hs : Region.noSelect ops = true) (hlast : lastB md ops x = true) (hQ : ∀ c a w, Q (.panic c) (a.put oi.dst v) w → Q (.panic c) a w) :
    ∀ (n : Nat) (listed : Array Bool) (a : Act) (w : World),
      (∀ j oj, ops[j]? = some oj → j ≠ i → listed.getD j true = false → (∀ e ∈ oj.after, Region.binds md e = true → e.on ≠ i) → oi.apart ops oj = true) →
      i ∈ Region.ready md ops listed → YieldsIf P ops S oi v a → S w →
      AnyE P md ops Q S x n (listed.setIfInBounds i true) (a.put oi.dst v) w → AnyE P md ops Q S x (n + 1) listed a w := by
  have hsel := Region.noSelect_spec hs
  intro n
  induction n with
  | zero =>
    intro listed a w _ hr hy hS H
    refine ⟨fun h => (by rw [h] at hr; cases hr), fun j hj => ?_⟩
    by_cases hji : j = i
    · subst hji; exact hy.wpOp hi hS ⟨fun _ => hS, H⟩
    · have h1 := ready_mono hj hji
      rw [H.1] at h1
      cases h1
  | succ n ih =>
    intro listed a w hfree hr hy hS H
    refine ⟨fun h => (by rw [h] at hr; cases hr), fun j hj => ?_⟩
    by_cases hji : j = i
    · subst hji; exact hy.wpOp hi hS ⟨fun _ => hS, H⟩
    · obtain ⟨hjun, oj, hoj, hall⟩ := mem_ready.1 hj
      have hnot : ∀ e ∈ oj.after, Region.binds md e = true → e.on ≠ i := fun e he hb heq => by
        have h1 := hall e he hb
        rw [heq, not_listed (mem_ready.1 hr).1] at h1
        cases h1
      have hjx : j ≠ x := fun hx => by
        subst hx
        obtain ⟨e, he, hb, hon⟩ := lastB_spec hlast hoj (Array.getElem?_eq_some_iff.1 hi).1 (Ne.symm hji)
        exact hnot e he hb hon
      have hri : i ∈ Region.ready md ops (listed.setIfInBounds j true) := ready_mono hr (Ne.symm hji)
      have h2 := wpOp_putIf hoj (hfree j oj hoj hji hjun hnot) (fun cs b => hsel i oi cs b hi) (fun cs b => hsel j oj cs b hoj) hQ hy (H.2 j (ready_mono hj hji))
      refine wpOp_mono (fun a' w' h3 => ?_) h2
      obtain ⟨hy', hS', hrest⟩ := h3
      rw [Array.setIfInBounds_comm _ _ (Ne.symm hji)] at hrest
      refine ⟨hS', ih _ a' w' (fun k ok hk hki hun hno => ?_) hri hy' (hS' hjx) hrest⟩
      refine hfree k ok hk hki ?_ hno
      by_cases hjk : j = k
      · subst hjk; exact hjun
      · rw [getD_set_ne true hjk] at hun; exact hun

/-- an order to walk in: (operation's number, does it yield?) -/
def okL (md : Region.Mode) (ops : Array Oper) : List (Nat × Bool) → Array Bool → Bool
  | [], listed => (Region.ready md ops listed).isEmpty
  | (i, true) :: r, listed => (Region.ready md ops listed).contains i && Region.free md ops listed i && okL md ops r (listed.setIfInBounds i true)
  | (i, false) :: r, listed => (Region.ready md ops listed == [i]) && okL md ops r (listed.setIfInBounds i true)

/-- the walk in that order -/
def wpG (P : Program) (ops : Array Oper) (Q : Exit → Act → World → Prop) (S : World → Prop) (x : Nat) : List (Nat × Bool) → Act → World → Prop
  | [], a, w => Q .normal a w
  | (i, true) :: r, a, w => ∃ o v, ops[i]? = some o ∧ YieldsIf P ops S o v a ∧ wpG P ops Q S x r (a.put o.dst v) w
  | (i, false) :: r, a, w => wpOp P ops Q i (fun a' w' => (r ≠ [] ∨ i ≠ x → S w') ∧ wpG P ops Q S x r a' w') a w

theorem AnyE.of_order (hs : Region.noSelect ops = true) (hlast : lastB md ops x = true) (hQ : ∀ c a d v w, Q (.panic c) (Act.put a d v) w → Q (.panic c) a w) :
    ∀ (L : List (Nat × Bool)) (listed : Array Bool) (a : Act) (w : World), okL md ops L listed = true →
      (L ≠ [] → S w) → wpG P ops Q S x L a w → AnyE P md ops Q S x L.length listed a w := by
  intro L
  induction L with
  | nil =>
    intro listed a w hok _ h
    exact ⟨by simpa [okL] using hok, h⟩
  | cons p L ih =>
    intro listed a w hok hS h
    obtain ⟨i, b⟩ := p
    cases b with
    | true =>
      simp only [okL, Bool.and_eq_true, List.contains_iff_mem] at hok
      obtain ⟨⟨hr, hf⟩, hok'⟩ := hok
      obtain ⟨o, v, ho, hy, hrest⟩ := h
      exact AnyE.first ho hs hlast (fun c a w => hQ c a _ _ w) L.length listed a w (Region.free_spec ho hf) hr hy (hS (by simp)) (ih _ _ w hok' (fun _ => hS (by simp)) hrest)
    | false =>
      simp only [okL, Bool.and_eq_true, beq_iff_eq] at hok
      obtain ⟨hr, hok'⟩ := hok
      refine ⟨fun h0 => (by rw [hr] at h0; cases h0), fun j hj => ?_⟩
      rw [hr] at hj
      obtain rfl : j = i := by simpa using hj
      exact wpOp_mono (fun a' w' h' => ⟨fun hx => h'.1 (.inr hx), ih _ a' w' hok' (fun hL => h'.1 (.inl hL)) h'.2⟩) h

def orderOk (ops : Array Oper) (L : List (Nat × Bool)) (x : Nat) : Bool :=
  Region.noSelect ops && lastB .any ops x && okL .any ops L (Array.replicate ops.size false) && (L.length == ops.size)

/-- THE REGION, walked in the order L. -/
theorem region_order {id : Nat} {a : Act} {w : World} (L : List (Nat × Bool)) (x : Nat) (S : World → Prop) (hm : P.follows .mixedOrders = true)
    (hok : orderOk ops L x = true) (hQ : ∀ c a d v w, Q (.panic c) (Act.put a d v) w → Q (.panic c) a w)
    (hS : S w.drew) (h : wpG P ops Q S x L a w.drew) : (Code.region id ops true).wp P Q a w := by
  simp only [orderOk, Bool.and_eq_true, beq_iff_eq] at hok
  obtain ⟨⟨⟨h1, h2⟩, h3⟩, h4⟩ := hok
  refine wp_region_any hm ?_
  have key := AnyE.any _ _ _ _ (AnyE.of_order (S := S) (x := x) h1 h2 hQ L _ _ _ h3 (fun _ => hS) h)
  rw [h4] at key
  exact key

variable {a : Act} {w : World} {r : List (Nat × Bool)} {i : Nat} {o : Oper} {v : Value}
theorem wpG_nil (h : Q .normal a w) : wpG P ops Q S x [] a w := h
theorem wpG_take (ho : ops[i]? = some o) (hw : Region.wanted o (yielded ops a.tmps) = true) (hv : ∀ w, S w → (execOp a.eval o).run P w = .ok (.value v) w)
    (h : wpG P ops Q S x r (a.put o.dst v) w) : wpG P ops Q S x ((i, true) :: r) a w := ⟨o, v, ho, .inl ⟨hw, hv⟩, h⟩
theorem wpG_skip (ho : ops[i]? = some o) (hw : Region.wanted o (yielded ops a.tmps) = false)
    (h : wpG P ops Q S x r (a.put o.dst undef) w) : wpG P ops Q S x ((i, true) :: r) a w := ⟨o, undef, ho, .inr ⟨hw, rfl⟩, h⟩
/-- an operation that may change the world: S behind it -/
theorem wpG_op (ho : ops[i]? = some o) (hw : Region.wanted o (yielded ops a.tmps) = true)
    (h : ∀ K : Act → World → Prop, (∀ a w, S w → (S w → wpG P ops Q S x r a w) → K a w) → o.wp P a w K Q) : wpG P ops Q S x ((i, false) :: r) a w := by
  show wpOp P ops Q i _ a w
  unfold wpOp
  simp only [ho, hw, if_true]
  exact .inl (h _ fun a w h1 h2 => ⟨fun _ => h1, h2 h1⟩)
/-- the last one, for which all others are waited: S is not asked -/
theorem wpG_last (ho : ops[i]? = some o) (hw : Region.wanted o (yielded ops a.tmps) = true)
    (h : ∀ K : Act → World → Prop, (∀ a w, Q .normal a w → K a w) → o.wp P a w K Q) : wpG P ops Q S i [(i, false)] a w := by
  show wpOp P ops Q i _ a w
  unfold wpOp
  simp only [ho, hw, if_true]
  exact .inl (h _ fun a w h1 => ⟨fun h => (by rcases h with h | h <;> exact absurd rfl h), h1⟩)
/-- an operation whose guard says no -/
theorem wpG_noop (ho : ops[i]? = some o) (hw : Region.wanted o (yielded ops a.tmps) = false) (h1 : S w)
    (h : wpG P ops Q S x r (a.put o.dst undef) w) : wpG P ops Q S x ((i, false) :: r) a w := by
  show wpOp P ops Q i _ a w
  unfold wpOp
  simp only [ho, hw, Bool.false_eq_true, if_false]
  exact ⟨fun _ => h1, h⟩
end
end Go.Proofs.Ytfgokhafiffbaaa
