/-
  What the walks of the laws over tables are made of: loads, comparisons, calls that yield known values wherever a condition on the world holds.
-/
import Derived.Test.YtfgokhafiffbaaaTruthE
import Derived.Test.YtfgokhafiffbaaaTabEq
import Derived.Test.YtfgokhafiffbaaaFloat
import Derived.Test.YtfgokhafiffbaaaRegion
namespace Go.Proofs.Ytfgokhafiffbaaa
set_option linter.unusedVariables false
open Go.RowKit

theorem exec_load {a : Act} {u : World} {o : Oper} {x : Operand} {p : Nat} {F : Tb.T} (hop : o.op = .load 29 x) (hx : a.eval x = .pointer (some ⟨p, 0, none⟩)) (hB : Blk u p 29 (Tb.tcells F)) :
    (execOp a.eval o).run Try.prog u = .ok (.value (Tb.tv F)) u := by
  obtain ⟨⟨a0, a1, a2, a3⟩, b0, b1, b2, b3⟩ := tfacts hB
  unfold execOp
  simp only [hop, hx]
  go_simp
theorem exec_eqT {a : Act} {u : World} {o : Oper} {x y : Operand} {F G : Tb.T} (hop : o.op = .binOp .eql 29 x y 29) (hx : a.eval x = Tb.tv F) (hy : a.eval y = Tb.tv G) (h : F = G) :
    (execOp a.eval o).run Try.prog u = .ok (.value (.bool true)) u := by
  subst h
  have heq := run_equal_max (F := F) (G := F) (b := true) (by simp)
  unfold execOp
  simp only [hop, hx, hy]
  go_simp

section
variable {P : Program} {ops : Array Oper} {Q : Exit → Act → World → Prop} {S : World → Prop} {x : Nat} {a : Act} {r : List (Nat × Bool)} {i : Nat} {o : Oper}
/-- the rest of a region, from whatever world that keeps S -/
def wpGA (P : Program) (ops : Array Oper) (Q : Exit → Act → World → Prop) (S : World → Prop) (x : Nat) (L : List (Nat × Bool)) (a : Act) : Prop := ∀ w, S w → wpG P ops Q S x L a w
theorem wpGA_take (v : Value) (ho : ops[i]? = some o) (hw : Region.wanted o (yielded ops a.tmps) = true) (hv : ∀ w, S w → (execOp a.eval o).run P w = .ok (.value v) w) (h : wpGA P ops Q S x r (a.put o.dst v)) : wpGA P ops Q S x ((i, true) :: r) a :=
  fun w hS => wpG_take ho hw hv (h w hS)
theorem wpGA_call (v : Value) (ho : ops[i]? = some o) (hw : Region.wanted o (yielded ops a.tmps) = true) (hst : ∀ w w', S w → Below w.heap.size w w' → S w')
    (hv : ∀ w, S w → ∀ K : Act → World → Prop, (∀ w', Below w.heap.size w w' → K (a.put o.dst v) w') → o.wp P a w K Q) (h : wpGA P ops Q S x r (a.put o.dst v)) : wpGA P ops Q S x ((i, false) :: r) a :=
  fun w hS => wpG_op ho hw fun K hK => hv w hS K fun w' hb => hK _ w' (hst w w' hS hb) fun hS' => h w' hS'
theorem wanted_yes {ops : Array Oper} {o oj : Oper} {a : Act} {j : Nat} {b : Bool} {t : Tmp} (hg : o.guard = some (j, b)) (hj : ops[j]? = some oj) (hd : oj.dst = some t) (ht : a.tmps[t]? = some (.bool b)) :
    Region.wanted o (yielded ops a.tmps) = true := by
  unfold Region.wanted yielded
  simp [hg, hj, hd, ht]
theorem wpGA_nil (h : ∀ w, S w → Q .normal a w) : wpGA P ops Q S x [] a := fun w hS => wpG_nil (h w hS)
theorem notDst {m : Nat} {t : Tmp} (h : ((List.range m).all fun j => dstOf ops j != some t) = true) : ∀ j, j < m → dstOf ops j ≠ some t := fun j hj => by
  have := List.all_eq_true.1 h j (List.mem_range.2 hj)
  simpa using this
end
/-- the call's own tables, each in its block -/
structure Keep (w u : World) (l : List (Nat × Tb.T)) : Prop where
  below : Below w.heap.size w u
  at_ : ∀ (k p : Nat) (F : Tb.T), l[k]? = some (p, F) → Blk u p 29 (Tb.tcells F)
  apart : ∀ (j k p q : Nat) (F G : Tb.T), l[j]? = some (p, F) → l[k]? = some (q, G) → j ≠ k → p ≠ q
theorem Keep.nil (w : World) : Keep w w [] := ⟨Below.refl _ _, fun k p F h => by simp at h, fun j k p q F G h => by simp at h⟩
theorem Keep.start {w u : World} (h : Below w.heap.size w u) : Keep w u [] := ⟨h, fun k p F h => by simp at h, fun j k p q F G h => by simp at h⟩
theorem Keep.lt {w u : World} {l : List (Nat × Tb.T)} (h : Keep w u l) {k p : Nat} {F : Tb.T} (hk : l[k]? = some (p, F)) : p < u.heap.size := (h.at_ k p F hk).lt
theorem Keep.step {w u u' : World} {l : List (Nat × Tb.T)} (h : Keep w u l) (hb : Below u.heap.size u u') : Keep w u' l :=
  ⟨h.below.trans (hb.mono h.below.size), fun k p F hk => (h.at_ k p F hk).below hb (h.lt hk), h.apart⟩
theorem Keep.alloc {w u : World} {l : List (Nat × Tb.T)} (h : Keep w u l) (o : Obj) : Keep w (u.alloc o) l := h.step ((Below.refl _ _).alloc (Nat.le_refl _) o)
theorem Keep.drew {w u : World} {l : List (Nat × Tb.T)} (h : Keep w u l) : Keep w u.drew l := h.step ((Below.refl _ _).drew)
theorem Keep.add {w u : World} {l : List (Nat × Tb.T)} (h : Keep w u l) {p : Nat} {F : Tb.T} (hp : Blk u p 29 (Tb.tcells F)) (hne : ∀ (k q : Nat) (G : Tb.T), l[k]? = some (q, G) → p ≠ q) : Keep w u (l ++ [(p, F)]) := by
  refine ⟨h.below, fun k q G hk => ?_, fun j k q q' G G' hj hk hjk => ?_⟩
  · rw [List.getElem?_append] at hk
    split at hk
    · exact h.at_ k q G hk
    · rename_i hlt
      have : k - l.length = 0 := by
        cases e : k - l.length with
        | zero => rfl
        | succ n => rw [e] at hk; simp at hk
      rw [this] at hk
      simp at hk
      obtain ⟨rfl, rfl⟩ := hk
      exact hp
  · rw [List.getElem?_append] at hj hk
    split at hj <;> split at hk
    · exact h.apart j k q q' G G' hj hk hjk
    · cases e : k - l.length with
      | zero => rw [e] at hk; simp at hk; obtain ⟨rfl, rfl⟩ := hk; exact (hne j q G hj).symm
      | succ n => rw [e] at hk; simp at hk
    · cases e : j - l.length with
      | zero => rw [e] at hj; simp at hj; obtain ⟨rfl, rfl⟩ := hj; exact hne k q' G' hk
      | succ n => rw [e] at hj; simp at hj
    · cases e : j - l.length with
      | zero =>
        cases e' : k - l.length with
        | zero => omega
        | succ n => rw [e'] at hk; simp at hk
      | succ n => rw [e] at hj; simp at hj
theorem Keep.add' {w u : World} {l : List (Nat × Tb.T)} (h : Keep w u l) {p : Nat} {F : Tb.T} (hp : Blk u p 29 (Tb.tcells F)) (hne : ∀ e ∈ l, p ≠ e.1) : Keep w u (l ++ [(p, F)]) :=
  h.add hp fun k q G hk => hne (q, G) (List.mem_of_getElem? hk)
theorem Keep.new {w u : World} {l : List (Nat × Tb.T)} (h : Keep w u l) (F : Tb.T) : Keep w (u.alloc (.cells (Tb.tcells F) 29)) (l ++ [(u.heap.size, F)]) :=
  (h.alloc _).add (Blk.new _ _ _) fun k q G hk => by have := h.lt hk; omega
theorem exec_pick {P : Program} {a : Act} {u : World} {o : Oper} {c x y : Operand} {v : Value} (hop : o.op = .pick c x y) (hc : a.eval c = .bool true) (hx : a.eval x = v) : (execOp a.eval o).run P u = .ok (.value v) u := by
  unfold execOp
  simp only [hop, hc, hx]
  rfl
theorem all_zero {p : Nat → Prop} : ∀ i, i < 0 → p i := fun i hi => absurd hi (by omega)
theorem all_succ {p : Nat → Prop} {n : Nat} (h : ∀ i, i < n → p i) (hn : p n) : ∀ i, i < n + 1 → p i := fun i hi => by
  by_cases e : i = n
  · subst e; exact hn
  · exact h i (by omega)
theorem wp_of_exec {P : Program} {o : Oper} {a : Act} {u : World} {K : Act → World → Prop} {Q : Exit → Act → World → Prop} {v : Value} (h : (execOp a.eval o).run P u = .ok (.value v) u) (hK : K (a.put o.dst v) u) : o.wp P a u K Q := by
  unfold Oper.wp; rw [h]; exact hK
theorem exec_move {P : Program} {a : Act} {u : World} {o : Oper} {x : Operand} {v : Value} (hop : o.op = .move x) (hx : a.eval x = v) : (execOp a.eval o).run P u = .ok (.value v) u := by
  unfold execOp
  simp only [hop, hx]
  rfl
theorem zeros_tab : (#[.int .u64 0, .int .u64 0, .int .u64 0, .int .u64 0] : Array Value) = Tb.tcells 0#256 := Tb.tcells_zero.symm
theorem store4 {u : World} {p : Nat} {F G : Tb.T} (h : Blk u p 29 (Tb.tcells G)) :
    Blk ((((u.setCell ⟨p, 0, none⟩ (.int .u64 (Tb.wd F 0))).setCell ⟨p, 1, none⟩ (.int .u64 (Tb.wd F 1))).setCell ⟨p, 2, none⟩ (.int .u64 (Tb.wd F 2))).setCell ⟨p, 3, none⟩ (.int .u64 (Tb.wd F 3))) p 29 (Tb.tcells F) :=
  (((h.set_ 0 (.int .u64 (Tb.wd F 0))).set_ 1 (.int .u64 (Tb.wd F 1))).set_ 2 (.int .u64 (Tb.wd F 2))).set_ 3 (.int .u64 (Tb.wd F 3))
theorem far4 {u : World} {p q : Nat} {F G : Tb.T} (h : Blk u q 29 (Tb.tcells G)) (hne : q ≠ p) :
    Blk ((((u.setCell ⟨p, 0, none⟩ (.int .u64 (Tb.wd F 0))).setCell ⟨p, 1, none⟩ (.int .u64 (Tb.wd F 1))).setCell ⟨p, 2, none⟩ (.int .u64 (Tb.wd F 2))).setCell ⟨p, 3, none⟩ (.int .u64 (Tb.wd F 3))) q 29 (Tb.tcells G) :=
  (((h.far hne _).far hne _).far hne _).far hne _
theorem below4 {B p : Nat} {w u : World} {F : Tb.T} (h : Below B w u) (hp : B ≤ p) :
    Below B w ((((u.setCell ⟨p, 0, none⟩ (.int .u64 (Tb.wd F 0))).setCell ⟨p, 1, none⟩ (.int .u64 (Tb.wd F 1))).setCell ⟨p, 2, none⟩ (.int .u64 (Tb.wd F 2))).setCell ⟨p, 3, none⟩ (.int .u64 (Tb.wd F 3))) :=
  (((h.setCell hp _).setCell hp _).setCell hp _).setCell hp _
theorem Keep.store {w u : World} {l : List (Nat × Tb.T)} (h : Keep w u l) (k : Nat) {p : Nat} {G : Tb.T} (F : Tb.T) (hk : l[k]? = some (p, G)) (hp : w.heap.size ≤ p) :
    Keep w ((((u.setCell ⟨p, 0, none⟩ (.int .u64 (Tb.wd F 0))).setCell ⟨p, 1, none⟩ (.int .u64 (Tb.wd F 1))).setCell ⟨p, 2, none⟩ (.int .u64 (Tb.wd F 2))).setCell ⟨p, 3, none⟩ (.int .u64 (Tb.wd F 3))) (l.set k (p, F)) := by
  have hfst : ∀ (j q : Nat) (H : Tb.T), (l.set k (p, F))[j]? = some (q, H) → ∃ H', l[j]? = some (q, H') ∧ (j ≠ k → H' = H) := fun j q H hj => by
    rw [List.getElem?_set] at hj
    split at hj
    · rename_i e; subst e
      split at hj
      · simp at hj; obtain ⟨rfl, rfl⟩ := hj; exact ⟨G, hk, fun h => absurd rfl h⟩
      · cases hj
    · exact ⟨H, hj, fun _ => rfl⟩
  refine ⟨below4 h.below hp, fun j q H hj => ?_, fun i j q q' H H' hi hj hij => ?_⟩
  · by_cases e : j = k
    · subst e
      rw [List.getElem?_set] at hj
      simp at hj
      obtain ⟨_, rfl, rfl⟩ := hj
      exact store4 (h.at_ j p G hk)
    · obtain ⟨H', h1, h2⟩ := hfst j q H hj
      rw [h2 e] at h1
      exact far4 (h.at_ j q H h1) (h.apart j k q p H G h1 hk e)
  · obtain ⟨H1, h1, _⟩ := hfst i q H hi
    obtain ⟨H2, h2, _⟩ := hfst j q' H' hj
    exact h.apart i j q q' H1 H2 h1 h2 hij
end Go.Proofs.Ytfgokhafiffbaaa
