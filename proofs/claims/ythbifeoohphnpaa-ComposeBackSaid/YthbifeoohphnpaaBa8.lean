/-
  Texts on which the laws of this seat rest, part 8 of 11.
-/
import Derived.Test.YthbifeoohphnpaaBa7
import Derived.DeepKeys4
import Derived.WideKeyArr
import Derived.Maps.RangeWalk
import Derived.Maps.AppendAt
/-
  What the walks of the laws over tables are made of: loads, comparisons, calls that yield known values wherever a condition on the world holds.
-/
namespace Go.Proofs.Ythbifeoohphnpaa
set_option linter.unusedVariables false
open Go.RowKit

theorem exec_load {a : Act} {u : World} {o : Oper} {x : Operand} {p : Nat} {F : Tb.T} (hop : o.op = .load 24 x) (hx : a.eval x = .pointer (some ⟨p, 0, none⟩)) (hB : Blk u p 24 (Tb.tcells F)) :
    (execOp a.eval o).run Try.prog u = .ok (.value (Tb.tv F)) u := by
  obtain ⟨⟨a0, a1, a2, a3⟩, b0, b1, b2, b3⟩ := tfacts hB
  unfold execOp
  simp only [hop, hx]
  go_simp
theorem exec_eqT {a : Act} {u : World} {o : Oper} {x y : Operand} {F G : Tb.T} (hop : o.op = .binOp .eql 24 x y 24) (hx : a.eval x = Tb.tv F) (hy : a.eval y = Tb.tv G) (h : F = G) :
    (execOp a.eval o).run Try.prog u = .ok (.value (.bool true)) u := by
  subst h
  have heq := run_equal_max (F := F) (G := F) (b := true) (by simp)
  unfold execOp
  simp only [hop, hx, hy]
  go_simp

section
variable {P : Program} {ops : Array Oper} {Q : Exit → Act → World → Prop} {S : World → Prop} {x : Nat} {a : Act} {r : List (Nat × Bool)} {i : Nat} {o : Oper}
/-- the rest of a region, from whatever world that keeps S -/
def wpGA (P : Program) (ops : Array Oper) (Q : Exit → Act → World → Prop) (S : World → Prop) (x : Nat) (L : List (Nat × Bool)) (a : Act) : Prop := ∀ w, S w → wpG P ops Q S x L a w
theorem wpGA_take (v : Value) (ho : ops[i]? = some o) (hw : Region.wanted o (yielded ops a.tmps) = true) (hv : ∀ w, S w → (execOp a.eval o).run P w = .ok (.value v) w) (h : wpGA P ops Q S x r (a.put o.dst v)) : wpGA P ops Q S x ((i, true) :: r) a :=
  fun w hS => wpG_take ho hw hv (h w hS)
theorem wpGA_call (v : Value) (ho : ops[i]? = some o) (hw : Region.wanted o (yielded ops a.tmps) = true) (hst : ∀ w w', S w → Below w.heap.size w w' → S w')
    (hv : ∀ w, S w → ∀ K : Act → World → Prop, (∀ w', Below w.heap.size w w' → K (a.put o.dst v) w') → o.wp P a w K Q) (h : wpGA P ops Q S x r (a.put o.dst v)) : wpGA P ops Q S x ((i, false) :: r) a :=
  fun w hS => wpG_op ho hw fun K hK => hv w hS K fun w' hb => hK _ w' (hst w w' hS hb) fun hS' => h w' hS'
theorem wanted_yes {ops : Array Oper} {o oj : Oper} {a : Act} {j : Nat} {b : Bool} {t : Tmp} (hg : o.guard = some (j, b)) (hj : ops[j]? = some oj) (hd : oj.dst = some t) (ht : a.tmps[t]? = some (.bool b)) :
    Region.wanted o (yielded ops a.tmps) = true := by
  unfold Region.wanted yielded
  simp [hg, hj, hd, ht]
theorem wpGA_nil (h : ∀ w, S w → Q .normal a w) : wpGA P ops Q S x [] a := fun w hS => wpG_nil (h w hS)
theorem notDst {m : Nat} {t : Tmp} (h : ((List.range m).all fun j => dstOf ops j != some t) = true) : ∀ j, j < m → dstOf ops j ≠ some t := fun j hj => by
  have := List.all_eq_true.1 h j (List.mem_range.2 hj)
  simpa using this
end
/-- the call's own tables, each in its block -/
structure Keep (w u : World) (l : List (Nat × Tb.T)) : Prop where
  below : Below w.heap.size w u
  at_ : ∀ (k p : Nat) (F : Tb.T), l[k]? = some (p, F) → Blk u p 24 (Tb.tcells F)
  apart : ∀ (j k p q : Nat) (F G : Tb.T), l[j]? = some (p, F) → l[k]? = some (q, G) → j ≠ k → p ≠ q
theorem Keep.nil (w : World) : Keep w w [] := ⟨Below.refl _ _, fun k p F h => by simp at h, fun j k p q F G h => by simp at h⟩
theorem Keep.start {w u : World} (h : Below w.heap.size w u) : Keep w u [] := ⟨h, fun k p F h => by simp at h, fun j k p q F G h => by simp at h⟩
theorem Keep.lt {w u : World} {l : List (Nat × Tb.T)} (h : Keep w u l) {k p : Nat} {F : Tb.T} (hk : l[k]? = some (p, F)) : p < u.heap.size := (h.at_ k p F hk).lt
theorem Keep.step {w u u' : World} {l : List (Nat × Tb.T)} (h : Keep w u l) (hb : Below u.heap.size u u') : Keep w u' l :=
  ⟨h.below.trans (hb.mono h.below.size), fun k p F hk => (h.at_ k p F hk).below hb (h.lt hk), h.apart⟩
theorem Keep.alloc {w u : World} {l : List (Nat × Tb.T)} (h : Keep w u l) (o : Obj) : Keep w (u.alloc o) l := h.step ((Below.refl _ _).alloc (Nat.le_refl _) o)
theorem Keep.drew {w u : World} {l : List (Nat × Tb.T)} (h : Keep w u l) : Keep w u.drew l := h.step ((Below.refl _ _).drew)
theorem Keep.add {w u : World} {l : List (Nat × Tb.T)} (h : Keep w u l) {p : Nat} {F : Tb.T} (hp : Blk u p 24 (Tb.tcells F)) (hne : ∀ (k q : Nat) (G : Tb.T), l[k]? = some (q, G) → p ≠ q) : Keep w u (l ++ [(p, F)]) := by
  refine ⟨h.below, fun k q G hk => ?_, fun j k q q' G G' hj hk hjk => ?_⟩
  · rw [List.getElem?_append] at hk
    split at hk
    · exact h.at_ k q G hk
    · rename_i hlt
      have : k - l.length = 0 := by
        cases e : k - l.length with
        | zero => rfl
        | succ n => rw [e] at hk; simp at hk
      rw [this] at hk
      simp at hk
      obtain ⟨rfl, rfl⟩ := hk
      exact hp
  · rw [List.getElem?_append] at hj hk
    split at hj <;> split at hk
    · exact h.apart j k q q' G G' hj hk hjk
    · cases e : k - l.length with
      | zero => rw [e] at hk; simp at hk; obtain ⟨rfl, rfl⟩ := hk; exact (hne j q G hj).symm
      | succ n => rw [e] at hk; simp at hk
    · cases e : j - l.length with
      | zero => rw [e] at hj; simp at hj; obtain ⟨rfl, rfl⟩ := hj; exact hne k q' G' hk
      | succ n => rw [e] at hj; simp at hj
    · cases e : j - l.length with
      | zero =>
        cases e' : k - l.length with
        | zero => omega
        | succ n => rw [e'] at hk; simp at hk
      | succ n => rw [e] at hj; simp at hj
theorem Keep.add' {w u : World} {l : List (Nat × Tb.T)} (h : Keep w u l) {p : Nat} {F : Tb.T} (hp : Blk u p 24 (Tb.tcells F)) (hne : ∀ e ∈ l, p ≠ e.1) : Keep w u (l ++ [(p, F)]) :=
  h.add hp fun k q G hk => hne (q, G) (List.mem_of_getElem? hk)
theorem Keep.new {w u : World} {l : List (Nat × Tb.T)} (h : Keep w u l) (F : Tb.T) : Keep w (u.alloc (.cells (Tb.tcells F) 24)) (l ++ [(u.heap.size, F)]) :=
  (h.alloc _).add (Blk.new _ _ _) fun k q G hk => by have := h.lt hk; omega
theorem exec_pick {P : Program} {a : Act} {u : World} {o : Oper} {c x y : Operand} {v : Value} (hop : o.op = .pick c x y) (hc : a.eval c = .bool true) (hx : a.eval x = v) : (execOp a.eval o).run P u = .ok (.value v) u := by
  unfold execOp
  simp only [hop, hc, hx]
  rfl
theorem all_zero {p : Nat → Prop} : ∀ i, i < 0 → p i := fun i hi => absurd hi (by omega)
theorem all_succ {p : Nat → Prop} {n : Nat} (h : ∀ i, i < n → p i) (hn : p n) : ∀ i, i < n + 1 → p i := fun i hi => by
  by_cases e : i = n
  · subst e; exact hn
  · exact h i (by omega)
theorem wp_of_exec {P : Program} {o : Oper} {a : Act} {u : World} {K : Act → World → Prop} {Q : Exit → Act → World → Prop} {v : Value} (h : (execOp a.eval o).run P u = .ok (.value v) u) (hK : K (a.put o.dst v) u) : o.wp P a u K Q := by
  unfold Oper.wp; rw [h]; exact hK
theorem exec_move {P : Program} {a : Act} {u : World} {o : Oper} {x : Operand} {v : Value} (hop : o.op = .move x) (hx : a.eval x = v) : (execOp a.eval o).run P u = .ok (.value v) u := by
  unfold execOp
  simp only [hop, hx]
  rfl
theorem zeros_tab : (#[.int .u64 0, .int .u64 0, .int .u64 0, .int .u64 0] : Array Value) = Tb.tcells 0#256 := Tb.tcells_zero.symm
theorem store4 {u : World} {p : Nat} {F G : Tb.T} (h : Blk u p 24 (Tb.tcells G)) :
    Blk ((((u.setCell ⟨p, 0, none⟩ (.int .u64 (Tb.wd F 0))).setCell ⟨p, 1, none⟩ (.int .u64 (Tb.wd F 1))).setCell ⟨p, 2, none⟩ (.int .u64 (Tb.wd F 2))).setCell ⟨p, 3, none⟩ (.int .u64 (Tb.wd F 3))) p 24 (Tb.tcells F) :=
  (((h.set_ 0 (.int .u64 (Tb.wd F 0))).set_ 1 (.int .u64 (Tb.wd F 1))).set_ 2 (.int .u64 (Tb.wd F 2))).set_ 3 (.int .u64 (Tb.wd F 3))
theorem far4 {u : World} {p q : Nat} {F G : Tb.T} (h : Blk u q 24 (Tb.tcells G)) (hne : q ≠ p) :
    Blk ((((u.setCell ⟨p, 0, none⟩ (.int .u64 (Tb.wd F 0))).setCell ⟨p, 1, none⟩ (.int .u64 (Tb.wd F 1))).setCell ⟨p, 2, none⟩ (.int .u64 (Tb.wd F 2))).setCell ⟨p, 3, none⟩ (.int .u64 (Tb.wd F 3))) q 24 (Tb.tcells G) :=
  (((h.far hne _).far hne _).far hne _).far hne _
theorem below4 {B p : Nat} {w u : World} {F : Tb.T} (h : Below B w u) (hp : B ≤ p) :
    Below B w ((((u.setCell ⟨p, 0, none⟩ (.int .u64 (Tb.wd F 0))).setCell ⟨p, 1, none⟩ (.int .u64 (Tb.wd F 1))).setCell ⟨p, 2, none⟩ (.int .u64 (Tb.wd F 2))).setCell ⟨p, 3, none⟩ (.int .u64 (Tb.wd F 3))) :=
  (((h.setCell hp _).setCell hp _).setCell hp _).setCell hp _
theorem Keep.store {w u : World} {l : List (Nat × Tb.T)} (h : Keep w u l) (k : Nat) {p : Nat} {G : Tb.T} (F : Tb.T) (hk : l[k]? = some (p, G)) (hp : w.heap.size ≤ p) :
    Keep w ((((u.setCell ⟨p, 0, none⟩ (.int .u64 (Tb.wd F 0))).setCell ⟨p, 1, none⟩ (.int .u64 (Tb.wd F 1))).setCell ⟨p, 2, none⟩ (.int .u64 (Tb.wd F 2))).setCell ⟨p, 3, none⟩ (.int .u64 (Tb.wd F 3))) (l.set k (p, F)) := by
  have hfst : ∀ (j q : Nat) (H : Tb.T), (l.set k (p, F))[j]? = some (q, H) → ∃ H', l[j]? = some (q, H') ∧ (j ≠ k → H' = H) := fun j q H hj => by
    rw [List.getElem?_set] at hj
    split at hj
    · rename_i e; subst e
      split at hj
      · simp at hj; obtain ⟨rfl, rfl⟩ := hj; exact ⟨G, hk, fun h => absurd rfl h⟩
      · cases hj
    · exact ⟨H, hj, fun _ => rfl⟩
  refine ⟨below4 h.below hp, fun j q H hj => ?_, fun i j q q' H H' hi hj hij => ?_⟩
  · by_cases e : j = k
    · subst e
      rw [List.getElem?_set] at hj
      simp at hj
      obtain ⟨_, rfl, rfl⟩ := hj
      exact store4 (h.at_ j p G hk)
    · obtain ⟨H', h1, h2⟩ := hfst j q H hj
      rw [h2 e] at h1
      exact far4 (h.at_ j q H h1) (h.apart j k q p H G h1 hk e)
  · obtain ⟨H1, h1, _⟩ := hfst i q H hi
    obtain ⟨H2, h2, _⟩ := hfst j q' H' hj
    exact h.apart i j q q' H1 H2 h1 h2 hij
end Go.Proofs.Ythbifeoohphnpaa

/-
  What the walks of the laws over tables are made of, more: numbers, bools, empty tables.
-/
namespace Go.Proofs.Ythbifeoohphnpaa
set_option linter.unusedVariables false
open Go.RowKit

section
variable {P : Program} {a : Act} {u : World} {o : Oper} {x y : Operand}
theorem exec_bin {op : BinOp} {t t' : TypeId} {p q r : Value} (hop : o.op = .binOp op t x y t') (hx : a.eval x = p) (hy : a.eval y = q) (hg : (eqGuard op t x y p q).run P u = .ok () u) (h : (binOp op t p q).run P u = .ok r u) :
    (execOp a.eval o).run P u = .ok (.value r) u := by
  unfold execOp
  simp only [hop, hx, hy]
  simp [Sem.run_bind, hg, h]
theorem exec_un {op : UnOp} {t : TypeId} {p r : Value} (hop : o.op = .unOp op t x) (hx : a.eval x = p) (h : (Op.unary op p).run P u = .ok r u) :
    (execOp a.eval o).run P u = .ok (.value r) u := by
  unfold execOp
  simp only [hop, hx]
  simp [h]
theorem exec_assign {v : Value} (hop : o.op = .assign x) (hx : a.eval x = v) : (execOp a.eval o).run P u = .ok (.value v) u := by
  unfold execOp
  simp only [hop, hx]
  rfl
theorem exec_pick_and {c : Operand} {p q : Bool} (hop : o.op = .pick c x y) (hc : a.eval c = .bool p) (hx : a.eval x = bif p then .bool q else undef) (hy : a.eval y = .bool false) : (execOp a.eval o).run P u = .ok (.value (.bool (p && q))) u := by
  unfold execOp
  simp only [hop, hc, hx, hy]
  cases p <;> rfl
theorem exec_pick_or {c : Operand} {p q : Bool} (hop : o.op = .pick c x y) (hc : a.eval c = .bool p) (hx : a.eval x = .bool true) (hy : a.eval y = bif p then undef else .bool q) : (execOp a.eval o).run P u = .ok (.value (.bool (p || q))) u := by
  unfold execOp
  simp only [hop, hc, hx, hy]
  cases p <;> rfl
theorem guard_int {op : BinOp} {t : TypeId} {k k' : IntKind} {p q : Int} (P : Program) (u : World) : (eqGuard op t x y (.int k p) (.int k' q)).run P u = .ok () u := by
  unfold eqGuard
  cases op <;> rfl
theorem guard_bool {op : BinOp} {t : TypeId} {p q : Bool} (P : Program) (u : World) : (eqGuard op t x y (.bool p) (.bool q)).run P u = .ok () u := by
  unfold eqGuard
  cases op <;> rfl
end
section
variable {t : TypeId} (P : Program) (u : World)
theorem bin_or8 {m n : Nat} (hm : m < 256) (hn : n < 256) (P : Program) (u : World) : (binOp .or t (.int .u8 (m : Int)) (.int .u8 (n : Int))).run P u = .ok (.int .u8 ((m ||| n : Nat) : Int)) u := by
  rw [← u8_or_nat m n hm hn]; rfl
theorem bin_and8 {m n : Nat} (hm : m < 256) (hn : n < 256) (P : Program) (u : World) : (binOp .and t (.int .u8 (m : Int)) (.int .u8 (n : Int))).run P u = .ok (.int .u8 ((m &&& n : Nat) : Int)) u := by
  rw [← u8_and_nat m n hm hn]; rfl
theorem bin_andNot8 {m n : Nat} (hm : m < 256) (hn : n < 256) (P : Program) (u : World) : (binOp .andNot t (.int .u8 (m : Int)) (.int .u8 (n : Int))).run P u = .ok (.int .u8 ((m &&& (255 - n) : Nat) : Int)) u := by
  rw [← u8_andNot_nat m n hm hn]; rfl
theorem bin_shr8 {m k : Nat} {kk : IntKind} (hm : m < 256) (hk : k < 8) (P : Program) (u : World) : (binOp .shr t (.int .u8 (m : Int)) (.int kk (k : Int))).run P u = .ok (.int .u8 ((m / 2 ^ k : Nat) : Int)) u := by
  have e : (m : Int).fdiv (2 ^ min ((k : Int)).toNat IntKind.u8.bits) = ((m / 2 ^ k : Nat) : Int) := by
    rw [show min ((k : Int)).toNat IntKind.u8.bits = k from by simp [IntKind.bits]; omega]
    rw [Int.fdiv_eq_ediv_of_nonneg _ (by exact_mod_cast Nat.zero_le (2 ^ k))]
    norm_cast
  simp only [binOp, Op.shift]
  rw [if_neg (by omega), e]; rfl
theorem bin_add64 {m n : Nat} (hm : m < 4294967296) (hn : n < 4294967296) (P : Program) (u : World) : (binOp .add t (.int .i64 (m : Int)) (.int .i64 (n : Int))).run P u = .ok (.int .i64 ((m + n : Nat) : Int)) u := by
  have e : IntKind.i64.wrap ((m : Int) + n) = ((m + n : Nat) : Int) := by rw [IntKind.wrap_i64]; omega
  rw [← e]; rfl
theorem bin_mul64 {m n : Nat} (hm : m < 65536) (hn : n < 65536) (P : Program) (u : World) : (binOp .mul t (.int .i64 (m : Int)) (.int .i64 (n : Int))).run P u = .ok (.int .i64 ((m * n : Nat) : Int)) u := by
  have h : m * n < 65536 * 65536 := Nat.mul_lt_mul'' hm hn
  have e : IntKind.i64.wrap ((m : Int) * n) = ((m * n : Nat) : Int) := by rw [IntKind.wrap_i64, ← Int.natCast_mul]; omega
  rw [← e]; rfl
theorem bin_eqN {k : IntKind} {m n : Nat} (P : Program) (u : World) : (binOp .eql t (.int k (m : Int)) (.int k (n : Int))).run P u = .ok (.bool (decide (m = n))) u := by
  have e : decide (m = n) = ((m : Int) == (n : Int)) := by
    rw [Bool.eq_iff_iff, decide_eq_true_iff, beq_iff_eq]; omega
  rw [e]
  simp [binOp, go_sem]
theorem bin_eqN1 {k : IntKind} {m n : Nat} (h : m = n) (P : Program) (u : World) : (binOp .eql t (.int k (m : Int)) (.int k (n : Int))).run P u = .ok (.bool true) u := by
  rw [bin_eqN]; simp [h]
theorem un_not {b : Bool} (P : Program) (u : World) : (Op.unary .not (.bool b)).run P u = .ok (.bool (!b)) u := rfl
end
theorem equal_bool (d : Nat) (p q : Bool) (w : World) : Sem.run Try.prog (Op.equalIn (d + 1) 4 (.bool p) (.bool q)) w = .ok (p == q) w := by
  simp [Op.equalIn, go_sem]
theorem bin_eqB {p q : Bool} (u : World) : (binOp .eql 4 (.bool p) (.bool q)).run Try.prog u = .ok (.bool (p == q)) u := by
  have h := equal_bool 9999 p q u
  simp [binOp, Op.equal, Op.maxDepth, h]
theorem bin_neB {p q : Bool} (u : World) : (binOp .neq 4 (.bool p) (.bool q)).run Try.prog u = .ok (.bool (!(p == q))) u := by
  have h := equal_bool 9999 p q u
  simp [binOp, Op.equal, Op.maxDepth, h]
theorem bin_eqB1 {p q : Bool} (h : p = q) (u : World) : (binOp .eql 4 (.bool p) (.bool q)).run Try.prog u = .ok (.bool true) u := by
  rw [bin_eqB, h]; simp
theorem exec_neT {a : Act} {u : World} {o : Oper} {x y : Operand} {F G : Tb.T} (hop : o.op = .binOp .neq 24 x y 24) (hx : a.eval x = Tb.tv F) (hy : a.eval y = Tb.tv G) :
    (execOp a.eval o).run Try.prog u = .ok (.value (.bool (decide (F ≠ G)))) u := by
  have heq := run_equal_max (F := F) (G := G) rfl
  unfold execOp
  simp only [hop, hx, hy]
  go_simp
theorem exec_conv {a : Act} {u : World} {o : Oper} {x : Operand} {m : Nat} (hop : o.op = .convert 5 3 x) (hx : a.eval x = .int .u8 (m : Int)) (hm : m < 256) :
    (execOp a.eval o).run Try.prog u = .ok (.value (.int .i64 (m : Int))) u := by
  have hw : IntKind.i64.wrap (m : Int) = (m : Int) := by rw [IntKind.wrap_i64]; omega
  unfold execOp
  simp only [hop, hx]
  go_simp
theorem exec_zero {a : Act} {u : World} {o : Oper} (hop : o.op = .build 24 #[]) :
    (execOp a.eval o).run Try.prog u = .ok (.value (Tb.tv 0#256)) u := by
  unfold Tb.tv
  rw [Tb.wd_zero, Tb.wd_zero, Tb.wd_zero, Tb.wd_zero]
  unfold execOp
  simp only [hop]
  go_simp
end Go.Proofs.Ythbifeoohphnpaa

/-
  The walks of the document's tables, fifth part: ite, compose, quantifiers.
-/
namespace Go.Proofs.Ythbifeoohphnpaa
set_option linter.unusedVariables false
open Go.RowKit

set_option maxRecDepth 100000 in
set_option maxHeartbeats 2000000 in
theorem rite_any (f g h : Tb.T) (w : World) :
    Calls Try.prog 91 #[Tb.tv f, Tb.tv g, Tb.tv h] w fun e w' => e = .returned (Tb.tv ((f &&& g) ||| (~~~f &&& h))) ∧ Below w.heap.size w w' := by
  have hK := ((((Keep.nil w).new f).new g).new h).new 0#256
  simp only [List.cons_append, List.nil_append, alloc_size, Tb.tcells_zero] at hK
  go_enter Try.func91, Try.ntmps91
  go_wp2_with fail
  -- rite
  refine region_float [] 8 (fun i => ([Tb.tv f, Tb.tv g, Tb.tv (f &&& g), Tb.tv f, Tb.tv (~~~f), Tb.tv h, Tb.tv ((~~~f) &&& h), Tb.tv ((f &&& g) ||| ((~~~f) &&& h))] : List Value).getD i undef) (fun _ => none) (fun u => Keep w u [(w.heap.size, f), ((w.heap.size + 1), g), ((w.heap.size + 1 + 1), h), ((w.heap.size + 1 + 1 + 1), 0#256)]) _ (by kernel_rfl) (by kernel_rfl) (by simp) hK.drew (Nat.le_refl _) (fun _ o h => h.alloc o) ?_ ?_ ?_
  · iterate 1 skip
    refine all_succ ?_ ?_
    rotate_left
    · intro hf oo hoper act uu hS hB hd hold KK hcont
      obtain rfl := Option.some.inj hoper
      have h9 : act.tmps.getD 9 undef = Tb.tv (f &&& g) := (hd 2 9 (by kernel_rfl) rfl rfl)
      have h13 : act.tmps.getD 13 undef = Tb.tv ((~~~f) &&& h) := (hd 6 13 (by kernel_rfl) rfl rfl)
      go_simp
      refine (ror_any (f &&& g) ((~~~f) &&& h) _).mono ?_
      rintro e u' ⟨rfl, hb⟩
      exact hcont _ (hS.step hb) hb
    refine all_succ ?_ ?_
    rotate_left
    · intro hf oo hoper act uu hS hB hd hold KK hcont
      obtain rfl := Option.some.inj hoper
      have h11 : act.tmps.getD 11 undef = Tb.tv (~~~f) := (hd 4 11 (by kernel_rfl) rfl rfl)
      have h12 : act.tmps.getD 12 undef = Tb.tv h := (hd 5 12 (by kernel_rfl) rfl rfl)
      go_simp
      refine (rand_any (~~~f) h _).mono ?_
      rintro e u' ⟨rfl, hb⟩
      exact hcont _ (hS.step hb) hb
    refine all_succ ?_ ?_
    rotate_left
    · intro hf oo hoper act uu hS hB hd hold KK hcont
      obtain rfl := Option.some.inj hoper
      exact wp_of_exec (exec_load rfl (hold 5 (notDst (by kernel_rfl))) (hS.at_ 2 _ _ rfl)) (hcont uu hS (Below.refl _ _))
    refine all_succ ?_ ?_
    rotate_left
    · intro hf oo hoper act uu hS hB hd hold KK hcont
      obtain rfl := Option.some.inj hoper
      have h10 : act.tmps.getD 10 undef = Tb.tv f := (hd 3 10 (by kernel_rfl) rfl rfl)
      go_simp
      refine (rnot_any f _).mono ?_
      rintro e u' ⟨rfl, hb⟩
      exact hcont _ (hS.step hb) hb
    refine all_succ ?_ ?_
    rotate_left
    · intro hf oo hoper act uu hS hB hd hold KK hcont
      obtain rfl := Option.some.inj hoper
      exact wp_of_exec (exec_load rfl (hold 3 (notDst (by kernel_rfl))) (hS.at_ 0 _ _ rfl)) (hcont uu hS (Below.refl _ _))
    refine all_succ ?_ ?_
    rotate_left
    · intro hf oo hoper act uu hS hB hd hold KK hcont
      obtain rfl := Option.some.inj hoper
      have h7 : act.tmps.getD 7 undef = Tb.tv f := (hd 0 7 (by kernel_rfl) rfl rfl)
      have h8 : act.tmps.getD 8 undef = Tb.tv g := (hd 1 8 (by kernel_rfl) rfl rfl)
      go_simp
      refine (rand_any f g _).mono ?_
      rintro e u' ⟨rfl, hb⟩
      exact hcont _ (hS.step hb) hb
    refine all_succ ?_ ?_
    rotate_left
    · intro hf oo hoper act uu hS hB hd hold KK hcont
      obtain rfl := Option.some.inj hoper
      exact wp_of_exec (exec_load rfl (hold 4 (notDst (by kernel_rfl))) (hS.at_ 1 _ _ rfl)) (hcont uu hS (Below.refl _ _))
    refine all_succ ?_ ?_
    rotate_left
    · intro hf oo hoper act uu hS hB hd hold KK hcont
      obtain rfl := Option.some.inj hoper
      exact wp_of_exec (exec_load rfl (hold 3 (notDst (by kernel_rfl))) (hS.at_ 0 _ _ rfl)) (hcont uu hS (Below.refl _ _))
    exact all_zero
  · intro i hi ty z hf; cases hf
  · intro ρ u hF
    have e0 : ρ 0 = Tb.tv f := hF.val 0 (by omega) (by kernel_rfl) rfl
    have e1 : ρ 1 = Tb.tv g := hF.val 1 (by omega) (by kernel_rfl) rfl
    have e2 : ρ 2 = Tb.tv (f &&& g) := hF.val 2 (by omega) (by kernel_rfl) rfl
    have e3 : ρ 3 = Tb.tv f := hF.val 3 (by omega) (by kernel_rfl) rfl
    have e4 : ρ 4 = Tb.tv (~~~f) := hF.val 4 (by omega) (by kernel_rfl) rfl
    have e5 : ρ 5 = Tb.tv h := hF.val 5 (by omega) (by kernel_rfl) rfl
    have e6 : ρ 6 = Tb.tv ((~~~f) &&& h) := hF.val 6 (by omega) (by kernel_rfl) rfl
    have e7 : ρ 7 = Tb.tv ((f &&& g) ||| ((~~~f) &&& h)) := hF.val 7 (by omega) (by kernel_rfl) rfl
    have k0 := hF.s_
    have k1 := k0.store 3 (((f &&& g) ||| ((~~~f) &&& h))) (p := (w.heap.size + 1 + 1 + 1)) (G := 0#256) rfl (by have := hK.below.size; omega)
    simp only [puts, dstOf, e0, e1, e2, e3, e4, e5, e6, e7]
    obtain ⟨⟨a0, a1, a2, a3⟩, c0, c1, c2, c3⟩ := tfacts (k0.at_ 3 _ _ rfl)
    go_wp2_with fail
    refine bodyPost_ret (v := Tb.tv ((f &&& g) ||| (~~~f &&& h))) (by simp [results, Try.results91, go_sem, a0, a1, a2, a3]) rfl ⟨rfl, ?_⟩
    exact k1.below

end Go.Proofs.Ythbifeoohphnpaa

/-
  Slices of numbers and of tables whose elements are known.
-/
namespace Go.Proofs.Ythbifeoohphnpaa
set_option linter.unusedVariables false
open Go.RowKit
/-- a slice of ints whose elements are known -/
structure IntsAt (w : World) (p : Option Addr) (vs : List Int) : Prop where
  at_ : ∀ j x, vs[j]? = some x → ∃ g off, p = some ⟨g, off, none⟩ ∧ w.cell? ⟨g, off + j, none⟩ = some (.int .i64 x)


/-- a slice of ints that came in -/
def IntsVal (w : World) (v : Value) (vs : List Int) : Prop :=
  (v = .slice none 0 0 ∧ vs = []) ∨ ∃ g off cap, v = .slice (some ⟨g, off, none⟩) vs.length cap ∧ vs.length ≤ cap ∧ ∀ j x, vs[j]? = some x → w.cell? ⟨g, off + j, none⟩ = some (.int .i64 x)
/-- a slice of tables that came in -/
structure TabsAt (w : World) (p : Option Addr) (fs : List Tb.T) : Prop where
  at_ : ∀ j F, fs[j]? = some F → ∃ g off, p = some ⟨g, off, none⟩ ∧ ∀ i, i < 4 → w.cell? ⟨g, off + j * 4 + i, none⟩ = some (.int .u64 (Tb.wd F i))

theorem ints_take {w : World} {g off : Nat} {vs : List Int} (h : ∀ j x, vs[j]? = some x → w.cell? ⟨g, off + j, none⟩ = some (.int .i64 x)) (n : Nat) : IntsAt w (some ⟨g, off, none⟩) (vs.take n) :=
  ⟨fun j x hx => ⟨g, off, rfl, h j x (by rw [List.getElem?_take] at hx; split at hx; exact hx; cases hx)⟩⟩
theorem IntsAt.below {w w' : World} {p : Option Addr} {vs : List Int} (h : IntsAt w p vs) (hb : Below w.heap.size w w') : IntsAt w' p vs :=
  ⟨fun j x hx => by
    obtain ⟨g, off, e, hc⟩ := h.at_ j x hx
    exact ⟨g, off, e, by rw [hb.cell (block_lt_of_cell hc)]; exact hc⟩⟩

/-- a row that is new since may be written: nothing that was there turns -/
theorem grown_new {w0 w w' : World} {row row' : Option Nat} (h : w0.grownBy w row) (hg : w.grownBy w' row') (hr : ∀ j, row' = some j → w0.heap.size ≤ j ∨ row = some j) : w0.grownBy w' row := h.andThen hg hr
theorem Blk.grown {w w' : World} {g : Nat} {t : TypeId} {cs : Array Value} {row : Option Nat} (h : Blk w g t cs) (hg : w.grownBy w' row) (hne : some g ≠ row) : Blk w' g t cs := ⟨(hg.block g h.lt hne).trans h.eq⟩
/-- a new variable that holds a table -/
theorem boxed_new (w : World) (F : Tb.T) :
    let W := w.alloc (.cells (Tb.tcells F) 24)
    Blk W w.heap.size 24 (Tb.tcells F) ∧ w.grownBy W none ∧ W.heap.size = w.heap.size + 1 :=
  ⟨Blk.new _ _ _, World.grownBy_alloc _ _ _, by simp⟩

/-! rows of tables -/
def Tb.flat (L : List Tb.T) : List Value := L.flatMap fun F => (Tb.tcells F).toList
theorem Tb.flat_length (L : List Tb.T) : (Tb.flat L).length = L.length * 4 := by
  unfold Tb.flat; induction L with
  | nil => rfl
  | cons F L ih => rw [List.flatMap_cons, List.length_append, ih]; simp; omega
theorem Tb.flat_append (L L' : List Tb.T) : Tb.flat (L ++ L') = Tb.flat L ++ Tb.flat L' := by unfold Tb.flat; simp
theorem Tb.flat_get : ∀ (L : List Tb.T) (j : Nat) (F : Tb.T) (i : Nat), L[j]? = some F → i < 4 → (Tb.flat L)[4 * j + i]? = some (.int .u64 (Tb.wd F i))
  | [], j, F, i, h, _ => by simp at h
  | G :: L, 0, F, i, h, hi => by
    simp at h; subst h
    show (_ ++ Tb.flat L)[4 * 0 + i]? = _
    rw [List.getElem?_append_left (by simp; omega)]
    match i, hi with
    | 0, _ => rfl
    | 1, _ => rfl
    | 2, _ => rfl
    | 3, _ => rfl
  | G :: L, j + 1, F, i, h, hi => by
    show (_ ++ Tb.flat L)[4 * (j + 1) + i]? = _
    rw [List.getElem?_append_right (by simp; omega)]
    rw [show 4 * (j + 1) + i - (Tb.tcells G).toList.length = 4 * j + i from by simp; omega]
    exact Tb.flat_get L j F i (by simpa using h) hi
/-- a slice of tables in a block of one's own, from 'base' on -/
structure TRow (w : World) (base g cap : Nat) (L : List Tb.T) : Prop where
  own : w.ownsRow base 24 4 (.slice (some ⟨g, 0, none⟩) L.length cap) L.length (Tb.flat L)
theorem TRow.cell {w : World} {base g cap : Nat} {L : List Tb.T} (h : TRow w base g cap L) {j : Nat} {F : Tb.T} (hj : L[j]? = some F) (i : Nat) (hi : i < 4) : w.cell? ⟨g, 4 * j + i, none⟩ = some (.int .u64 (Tb.wd F i)) := by
  have hlt : j < L.length := (List.getElem?_eq_some_iff.1 hj).1
  rw [h.own.cellAt _ (by omega)]
  exact Tb.flat_get L j F i hj hi
theorem TRow.cells4 {w : World} {base g cap : Nat} {L : List Tb.T} (h : TRow w base g cap L) {j : Nat} {F : Tb.T} (hj : L[j]? = some F) :
    w.cell? ⟨g, j * 4, none⟩ = some (.int .u64 (Tb.wd F 0)) ∧ w.cell? ⟨g, j * 4 + 1, none⟩ = some (.int .u64 (Tb.wd F 1)) ∧ w.cell? ⟨g, j * 4 + 2, none⟩ = some (.int .u64 (Tb.wd F 2)) ∧ w.cell? ⟨g, j * 4 + 3, none⟩ = some (.int .u64 (Tb.wd F 3)) := by
  have h0 := h.cell hj 0 (by omega)
  have h1 := h.cell hj 1 (by omega)
  have h2 := h.cell hj 2 (by omega)
  have h3 := h.cell hj 3 (by omega)
  rw [Nat.mul_comm 4 j] at h0 h1 h2 h3
  exact ⟨h0, h1, h2, h3⟩
theorem TRow.heap {w : World} {base g cap : Nat} {L : List Tb.T} (h : TRow w base g cap L) : base ≤ g ∧ ∃ cs, w.heap[g]? = some (.cells cs 24 (0, 0)) := by
  rcases h.own.2 with ⟨h', _⟩ | ⟨g', cap', cur, h', hb, hg, _⟩
  · cases h'
  · simp only [Value.slice.injEq, Option.some.injEq, Addr.mk.injEq, and_true, true_and] at h'
    obtain ⟨rfl, rfl⟩ := h'
    exact ⟨hb, cur, hg⟩
theorem TRow.lt {w : World} {base g cap : Nat} {L : List Tb.T} (h : TRow w base g cap L) : g < w.heap.size := by
  obtain ⟨_, cs, hg⟩ := h.heap; exact (Array.getElem?_eq_some_iff.1 hg).1
theorem TRow.cap_le {w : World} {base g cap : Nat} {L : List Tb.T} (h : TRow w base g cap L) : L.length ≤ cap := by
  rcases h.own.2 with ⟨h', _⟩ | ⟨g', cap', cur, h', hb, hg, hc, _⟩
  · cases h'
  · simp only [Value.slice.injEq, Option.some.injEq, Addr.mk.injEq, and_true, true_and] at h'
    obtain ⟨rfl, rfl⟩ := h'
    exact hc
theorem TRow.kept {w w' : World} {base g cap : Nat} {L : List Tb.T} {row : Option Nat} (h : TRow w base g cap L) (hg : w.grownBy w' row) (hne : some g ≠ row) : TRow w' base g cap L := ⟨h.own.kept hg (.inr hne)⟩
theorem TRow.zero {w : World} {base g cap : Nat} {L : List Tb.T} (h : TRow w base g cap L) : TRow w base g cap [] := by
  rcases h.own.2 with ⟨h', _⟩ | ⟨g', cap', cur, h', hb, hg, hc, hm, hs, _⟩
  · cases h'
  · simp only [Value.slice.injEq, Option.some.injEq, Addr.mk.injEq, and_true, true_and] at h'
    obtain ⟨rfl, rfl⟩ := h'
    exact ⟨⟨rfl, .inr ⟨g, cap, cur, rfl, hb, hg, Nat.zero_le _, hm, hs, by simp; rfl⟩⟩⟩
theorem TRow.one (w : World) (base : Nat) (F : Tb.T) (hb : base ≤ w.heap.size) : TRow (w.alloc (.cells (Tb.tcells F) 24)) base w.heap.size 1 [F] :=
  ⟨World.ownsRow_lit w (Tb.tcells F) 1 hb (by unfold maxLen; omega) rfl⟩

set_option maxRecDepth 100000 in
theorem TRow.run_append {w : World} {base g cap : Nat} {L : List Tb.T} (h : TRow w base g cap L) (F : Tb.T) (x : Nat) (hx : ∀ i, i < 4 → w.cell? ⟨x, i, none⟩ = some (.int .u64 (Tb.wd F i))) (hn : L.length < 1000000) (hb : base ≤ w.heap.size) (ty : TypeId) (c : Nat) :
    ∃ g' cap' w', (Builtin.append_ #[62, 62] ty #[.slice (some ⟨g, 0, none⟩) L.length cap, .slice (some ⟨x, 0, none⟩) 1 c]).run Try.prog w = .ok (.slice (some ⟨g', 0, none⟩) (L ++ [F]).length cap') w' ∧
      TRow w' base g' cap' (L ++ [F]) ∧ w.grownBy w' (some g) := by
  obtain ⟨i0, hi, hz⟩ : ∃ i, Try.prog.info? 24 = some i ∧ i.zero = some (Tb.tv 0#256) ∧ i.size = 4 ∧ i.bytes = 32 := by
    refine ⟨_, rfl, ?_⟩
    exact ⟨by kernel_rfl, by kernel_rfl, by kernel_rfl⟩
  obtain ⟨v', w', hr, h1, h2, h3⟩ := run_append_own (P := Try.prog) w base 62 ty 24 i0 _ 4 32 Try.underlying62 hi hz.1 hz.2.1 hz.2.2 rfl (by omega) _ _ _ h.own ⟨x, 0, none⟩ 1 c (Tb.flat [F]) (by rw [Tb.flat_length]; rfl)
    (fun j u hj => by
      have hl : j < (Tb.flat [F]).length := (List.getElem?_eq_some_iff.1 hj).1
      rw [Tb.flat_length] at hl
      have hl4 : j < 4 := by simpa using hl
      have e := Tb.flat_get [F] 0 F j rfl hl4
      simp only [Nat.mul_zero, Nat.zero_add] at e
      rw [e] at hj
      obtain rfl := Option.some.inj hj
      simp only [Addr.add, Nat.zero_add]
      split
      · rename_i e0; subst e0; exact hx 0 hl4
      · exact hx j hl4)
    (fun u hu => by
      simp [Tb.flat] at hu
      rcases hu with rfl | rfl | rfl | rfl <;> rfl) (by unfold maxLen; omega) (by omega) hb
  rw [← Tb.flat_append] at h1
  have hsh : ∃ g' cap', v' = .slice (some ⟨g', 0, none⟩) (L ++ [F]).length cap' := by
    rcases h1.2 with ⟨h', _⟩ | ⟨g', cap', cur, h', _⟩
    · have := h3.1 h'
      simp at this
    · exact ⟨g', cap', by rw [h']; simp⟩
  obtain ⟨g', cap', rfl⟩ := hsh
  exact ⟨g', cap', w', hr, ⟨by rw [show (L ++ [F]).length = L.length + 1 from by simp]; rw [show (L ++ [F]).length = L.length + 1 from by simp] at h1; exact h1⟩, h2⟩
/-- delete, where its run is known -/
theorem wpList_by_delete {P : Program} (w : World) {ops : Array Oper} {rest : List Oper} {o : Oper} {a : Act} {Q : Exit → Act → World → Prop} (hgd : o.guard = none) (s x : Operand) (t k : TypeId)
    (ho : o.op = .call { callee := .builtin .delete, args := #[s, x], argTypes := #[t, k] }) {v1 v2 : Value} {w' : World} (hs : a.eval s = v1) (hx : a.eval x = v2)
    (hr : (Builtin.delete_ #[t, k] o.type #[v1, v2]).run P w = .ok (.tuple #[]) w') (h : wpList P ops Q rest (a.put o.dst (.tuple #[])) w') : wpList P ops Q (o :: rest) a w := by
  refine wpList_plain hgd fun K hK => ?_
  unfold Oper.wp execOp
  simp only [ho, resolve, invoke, builtin, Sem.run_bind, Sem.run_pure, Result.andThen_ok, List.map_toArray, List.map_cons, List.map_nil, hs, hx, hr]
  exact hK _ _ h
/-- len of a map, where its run is known -/
theorem wpList_by_len {P : Program} (w : World) {ops : Array Oper} {rest : List Oper} {o : Oper} {a : Act} {Q : Exit → Act → World → Prop} (hgd : o.guard = none) (s : Operand) (t : TypeId)
    (ho : o.op = .call { callee := .builtin .len, args := #[s], argTypes := #[t] }) {v1 v2 : Value} (hs : a.eval s = v1)
    (hr : (Builtin.len_ #[t] o.type #[v1]).run P w = .ok v2 w) (h : wpList P ops Q rest (a.put o.dst v2) w) : wpList P ops Q (o :: rest) a w := by
  refine wpList_plain hgd fun K hK => ?_
  unfold Oper.wp execOp
  simp only [ho, resolve, invoke, builtin, Sem.run_bind, Sem.run_pure, Result.andThen_ok, List.map_toArray, List.map_cons, List.map_nil, hs, hr]
  exact hK _ _ h
/-- append, where its run is known -/
theorem wpList_by_append {P : Program} (w : World) {ops : Array Oper} {rest : List Oper} {o : Oper} {a : Act} {Q : Exit → Act → World → Prop} (hgd : o.guard = none) (s x : Operand) (t : TypeId)
    (ho : o.op = .call { callee := .builtin .append, args := #[s, x], argTypes := #[t, t] }) {v1 v2 v' : Value} {w' : World} (hs : a.eval s = v1) (hx : a.eval x = v2)
    (hr : (Builtin.append_ #[t, t] o.type #[v1, v2]).run P w = .ok v' w') (h : wpList P ops Q rest (a.put o.dst v') w') : wpList P ops Q (o :: rest) a w := by
  refine wpList_plain hgd fun K hK => ?_
  unfold Oper.wp execOp
  simp only [ho, resolve, invoke, builtin, Sem.run_bind, Sem.run_pure, Result.andThen_ok, List.map_toArray, List.map_cons, List.map_nil, hs, hx, hr]
  exact hK _ _ h
theorem TabsAt.below {w w' : World} {p : Option Addr} {L : List Tb.T} (h : TabsAt w p L) (hb : Below w.heap.size w w') : TabsAt w' p L :=
  ⟨fun j F hj => by
    obtain ⟨g, off, e, hc⟩ := h.at_ j F hj
    exact ⟨g, off, e, fun i hi => by rw [hb.cell (block_lt_of_cell (hc i hi))]; exact hc i hi⟩⟩
theorem TabsAt.cells4 {w : World} {g off : Nat} {L : List Tb.T} (h : TabsAt w (some ⟨g, off, none⟩) L) {k : Nat} {F : Tb.T} (hk : L[k]? = some F) :
    w.cell? ⟨g, off + k * 4, none⟩ = some (.int .u64 (Tb.wd F 0)) ∧ w.cell? ⟨g, off + k * 4 + 1, none⟩ = some (.int .u64 (Tb.wd F 1)) ∧ w.cell? ⟨g, off + k * 4 + 2, none⟩ = some (.int .u64 (Tb.wd F 2)) ∧ w.cell? ⟨g, off + k * 4 + 3, none⟩ = some (.int .u64 (Tb.wd F 3)) := by
  obtain ⟨g', off', e, hc⟩ := h.at_ k F hk
  simp only [Option.some.injEq, Addr.mk.injEq, and_true] at e
  obtain ⟨rfl, rfl⟩ := e
  exact ⟨hc 0 (by omega), hc 1 (by omega), hc 2 (by omega), hc 3 (by omega)⟩
end Go.Proofs.Ythbifeoohphnpaa

/-
  Slices of tables that the call makes by append: what they hold, where they lie.
-/
namespace Go.Proofs.Ythbifeoohphnpaa
set_option linter.unusedVariables false
open Go.RowKit

/-- a slice of tables in a block of one's own, or none yet -/
structure TSl (w : World) (base : Nat) (v : Value) (L : List Tb.T) : Prop where
  own : w.ownsRow base 24 4 v L.length (Tb.flat L)
theorem TSl.nil (w : World) (base : Nat) : TSl w base (.slice none 0 0) [] := ⟨World.ownsRow_nil w base _ 4⟩
theorem TSl.kept {w w' : World} {base : Nat} {v : Value} {L : List Tb.T} {row : Option Nat} (h : TSl w base v L) (hg : w.grownBy w' row) (hne : v.ownBlock = none ∨ v.ownBlock ≠ row) : TSl w' base v L := ⟨h.own.kept hg hne⟩
theorem below_grown {w w' : World} (h : Below w.heap.size w w') : w.grownBy w' none := ⟨h.os, h.tape, h.output, h.size, fun k hk _ => h.block k hk⟩
theorem TSl.below {w w' : World} {base : Nat} {v : Value} {L : List Tb.T} (h : TSl w base v L) (hb : Below w.heap.size w w') : TSl w' base v L :=
  h.kept (below_grown hb) (by cases e : v.ownBlock <;> simp)
theorem TSl.lt {w : World} {base : Nat} {v : Value} {L : List Tb.T} (h : TSl w base v L) {k : Nat} (hk : v.ownBlock = some k) : base ≤ k ∧ k < w.heap.size := h.own.lt k hk
theorem TSl.shape {w : World} {base : Nat} {v : Value} {L : List Tb.T} (h : TSl w base v L) : ∃ p cap, v = .slice p L.length cap ∧ TabsAt w p L := by
  rcases h.own.2 with ⟨h', h0⟩ | ⟨g, cap, cur, h', _⟩
  · have hL : L = [] := List.eq_nil_of_length_eq_zero h0
    subst hL
    exact ⟨none, 0, h', ⟨fun j F hj => by simp at hj⟩⟩
  · refine ⟨some ⟨g, 0, none⟩, cap, h', ⟨fun j F hj => ⟨g, 0, rfl, fun i hi => ?_⟩⟩⟩
    subst h'
    have hR : TRow w base g cap L := ⟨h.own⟩
    rw [show 0 + j * 4 + i = 4 * j + i from by omega]
    exact hR.cell hj i hi

set_option maxRecDepth 100000 in
/-- a table appended: the slice lies where it lay, or in a new block -/
theorem TSl.run_append {w : World} {base : Nat} {v : Value} {L : List Tb.T} (h : TSl w base v L) (F : Tb.T) (x : Nat) (hx : ∀ i, i < 4 → w.cell? ⟨x, i, none⟩ = some (.int .u64 (Tb.wd F i))) (hn : L.length < 1000000) (hb : base ≤ w.heap.size) (ty : TypeId) (c : Nat) :
    ∃ v' w', (Builtin.append_ #[62, 62] ty #[v, .slice (some ⟨x, 0, none⟩) 1 c]).run Try.prog w = .ok v' w' ∧ TSl w' base v' (L ++ [F]) ∧ w.grownBy w' v.ownBlock ∧
      (v'.ownBlock = v.ownBlock ∨ v'.ownBlock = some w.heap.size) := by
  obtain ⟨i0, hi, hz⟩ : ∃ i, Try.prog.info? 24 = some i ∧ i.zero = some (Tb.tv 0#256) ∧ i.size = 4 ∧ i.bytes = 32 := by
    refine ⟨_, rfl, ?_⟩
    exact ⟨by kernel_rfl, by kernel_rfl, by kernel_rfl⟩
  have hnews : ∀ j u, (Tb.flat [F])[j]? = some u → w.cell? ((⟨x, 0, none⟩ : Addr).add j) = some u := fun j u hj => by
    have hl : j < (Tb.flat [F]).length := (List.getElem?_eq_some_iff.1 hj).1
    rw [Tb.flat_length] at hl
    have hl4 : j < 4 := by simpa using hl
    have e := Tb.flat_get [F] 0 F j rfl hl4
    simp only [Nat.mul_zero, Nat.zero_add] at e
    rw [e] at hj
    obtain rfl := Option.some.inj hj
    simp only [Addr.add, Nat.zero_add]
    split
    · rename_i e0; subst e0; exact hx 0 hl4
    · exact hx j hl4
  have hone : ∀ u ∈ Tb.flat [F], u.oneCell' = true := fun u hu => by
    simp [Tb.flat] at hu
    rcases hu with rfl | rfl | rfl | rfl <;> rfl
  have hl1 : (Tb.flat [F]).length = 1 * 4 := by rw [Tb.flat_length]; rfl
  obtain ⟨v', w', hr, h1, h2, h3⟩ := run_append_own (P := Try.prog) w base 62 ty 24 i0 _ 4 32 Try.underlying62 hi hz.1 hz.2.1 hz.2.2 rfl (by omega) _ _ _ h.own ⟨x, 0, none⟩ 1 c (Tb.flat [F]) hl1 hnews hone (by unfold maxLen; omega) (by omega) hb
  rw [← Tb.flat_append] at h1
  refine ⟨v', w', hr, ⟨by rw [show (L ++ [F]).length = L.length + 1 from by simp]; exact h1⟩, h2, ?_⟩
  rcases h.own.2 with ⟨rfl, h0⟩ | ⟨g, cap, cur, rfl, hbg, hg, hnc, hcm, hcs, htake⟩
  · right
    have hr2 := run_append_nil (P := Try.prog) w 62 ty 24 i0 _ Try.underlying62 hi hz.1 ⟨x, 0, none⟩ 1 c (Tb.flat [F]) (by rw [hz.2.1]; exact hl1) hnews (by omega) (by omega) (by rw [hz.2.2]; omega)
    rw [hr] at hr2
    cases hr2
    rfl
  · by_cases hroom : L.length + 1 ≤ cap
    · left
      have hr2 := run_append_room (P := Try.prog) w 62 ty 24 i0 Try.underlying62 hi g L.length cap cur hg ⟨x, 0, none⟩ 1 c (Tb.flat [F]) (by rw [hz.2.1]; exact hl1) hnews hone hroom (by rw [hl1, hcs, hz.2.1]; omega)
      rw [hr] at hr2
      cases hr2
      rfl
    · right
      have holds : ∀ j u, (Tb.flat L)[j]? = some u → w.cell? ((⟨g, 0, none⟩ : Addr).add j) = some u := h.own.cells (g := g) rfl
      have hr2 := run_append_grow (P := Try.prog) w 62 ty 24 i0 _ Try.underlying62 hi hz.1 ⟨g, 0, none⟩ L.length cap (Tb.flat L) (by rw [hz.2.1, Tb.flat_length]) holds ⟨x, 0, none⟩ 1 c (Tb.flat [F]) (by rw [hz.2.1]; exact hl1) hnews (by omega) (by omega) (growslice_fits (by omega) (by rw [hz.2.2]; omega))
      rw [hr] at hr2
      cases hr2
      rfl
end Go.Proofs.Ythbifeoohphnpaa

/-
  Package spinneyplay: a node's function, by its walk.
-/
namespace Go.Proofs.Ythbifeoohphnpaa
set_option linter.unusedVariables false
open Go.RowKit
theorem StAt.below {base : Nat} {B : Bk} {w u : World} {S : Sto} {L : List Nat} (h : StAt w base B S L) (hb : Below w.heap.size w u) : StAt u base B S L := h.fr (Fr.of_below hb (Nat.le_refl _) (S := [])) (by simp)
section
variable {u : World} {a : Act} {o : Oper} {x y : Operand}
theorem exec_ixV {b f n c i : Nat} (hi : i < n) (hop : o.op = .indexAddr 62 x y) (hx : a.eval x = .slice (some ⟨b, f, none⟩) n c) (hy : a.eval y = .int .i64 (i : Int)) :
    (execOp a.eval o).run Try.prog u = .ok (.value (.pointer (some ⟨b, f + i * 4, none⟩))) u := by
  have q0 : (0 : Int) ≤ (i : Int) := by omega
  have q1 : (i : Int) < (n : Int) := by omega
  unfold execOp
  simp only [hop, hx, hy]
  go_simp
theorem exec_ldV {p f : Nat} {F : Tb.T} (hop : o.op = .load 24 x) (hx : a.eval x = .pointer (some ⟨p, f, none⟩)) (hc : ∀ i, i < 4 → u.cell? ⟨p, f + i, none⟩ = some (.int .u64 (Tb.wd F i))) :
    (execOp a.eval o).run Try.prog u = .ok (.value (Tb.tv F)) u := by
  have c0 : u.cell? ⟨p, f, none⟩ = some (.int .u64 (Tb.wd F 0)) := hc 0 (by omega)
  have c1 : u.cell? ⟨p, f + 1, none⟩ = some (.int .u64 (Tb.wd F 1)) := hc 1 (by omega)
  have c2 : u.cell? ⟨p, f + 2, none⟩ = some (.int .u64 (Tb.wd F 2)) := hc 2 (by omega)
  have c3 : u.cell? ⟨p, f + 3, none⟩ = some (.int .u64 (Tb.wd F 3)) := hc 3 (by omega)
  unfold execOp
  simp only [hop, hx]
  go_simp
theorem exec_neH {m n : Nat} (hne : m ≠ n) (hop : o.op = .binOp .neq 31 x y 31) (hx : a.eval x = .int .u32 (m : Int)) (hy : a.eval y = .int .u32 (n : Int)) :
    (execOp a.eval o).run Try.prog u = .ok (.value (.bool true)) u := by
  have e : ((m : Int) == (n : Int)) = false := by rw [beq_eq_false_iff_ne]; omega
  unfold execOp
  simp only [hop, hx, hy]
  go_simp
  omega
end
/-- what the reader's last region keeps -/
def PlS (base : Nat) (B : Bk) (S : Sto) (L : List Nat) (vg f : Nat) (F : Tb.T) (ba : Nat) (Fa : Tb.T) (bb : Nat) (Fb : Tb.T) (u : World) : Prop :=
  StAt u base B S L ∧ (∀ i, i < 4 → u.cell? ⟨vg, f + i, none⟩ = some (.int .u64 (Tb.wd F i))) ∧ Blk u ba 24 (Tb.tcells Fa) ∧ Blk u bb 24 (Tb.tcells Fb)
theorem PlS.fr {base : Nat} {B : Bk} {S : Sto} {L : List Nat} {vg f : Nat} {F : Tb.T} {ba : Nat} {Fa : Tb.T} {bb : Nat} {Fb : Tb.T} {u v : World} {T : List Nat} (h : PlS base B S L vg f F ba Fa bb Fb u) (hf : Fr T u v) (h1 : ∀ b ∈ B.own, b ∉ T) (h2 : vg ∉ T) (h3 : ba ∉ T) (h4 : bb ∉ T) : PlS base B S L vg f F ba Fa bb Fb v :=
  ⟨h.1.fr hf h1, fun i hi => by
    have hl := block_lt_of_cell (h.2.1 i hi)
    rw [← h.2.1 i hi]
    unfold World.cell?
    rw [hf.block vg hl h2], h.2.2.1.fr hf h3, h.2.2.2.fr hf h4⟩
theorem PlS.below {base : Nat} {B : Bk} {S : Sto} {L : List Nat} {vg f : Nat} {F : Tb.T} {ba : Nat} {Fa : Tb.T} {bb : Nat} {Fb : Tb.T} {u v : World} (h : PlS base B S L vg f F ba Fa bb Fb u) (hb : Below u.heap.size u v) : PlS base B S L vg f F ba Fa bb Fb v :=
  h.fr (Fr.of_below hb (Nat.le_refl _) (S := [])) (by simp) (by simp) (by simp) (by simp)
theorem blk4z {w : World} {g t : Nat} {a b c d : Value} (h : Blk w g t #[a, b, c, d]) (r : Tb.T) :
    Blk ((((w.setCell ⟨g, 0, none⟩ (.int .u64 (Tb.wd r 0))).setCell ⟨g, 1, none⟩ (.int .u64 (Tb.wd r 1))).setCell ⟨g, 2, none⟩ (.int .u64 (Tb.wd r 2))).setCell ⟨g, 3, none⟩ (.int .u64 (Tb.wd r 3))) g t (Tb.tcells r) :=
  (((h.set_ 0 _).set_ 1 _).set_ 2 _).set_ 3 _
/-- the reader's contract -/
def WalkIs (base : Nat) (B : Bk) (S : Sto) (L : List Nat) (p : Option Addr) (cap : Nat) (V : List Tb.T) (h deep : Nat) : Prop :=
  ∀ w : World, StAt w base B S L → TabsAt w p V →
    Calls Try.prog 78 #[.pointer (some ⟨B.s, 0, none⟩), .int .u32 (h : Int), .slice p V.length cap, .int .i64 (deep : Int)] w fun e w' => e = .returned (.tuple #[Tb.tv (S.tab h), .bool true]) ∧ Below w.heap.size w w'
set_option maxRecDepth 100000 in
set_option maxHeartbeats 1000000 in
theorem walk_zero (base : Nat) (B : Bk) (S : Sto) (L : List Nat) (p : Option Addr) (cap : Nat) (V : List Tb.T) (deep : Nat) : WalkIs base B S L p cap V 0 deep := by
  intro w hs hv
  rw [Sto.tab_zero]
  clear hs hv
  generalize V.length = n
  go_enter Try.func78, Try.ntmps78
  go_wp2_with fail
  refine bodyPost_ret (v := .tuple #[Tb.tv 0#256, .bool true]) (by simp [results, Try.results78, go_sem]; exact ⟨by decide +kernel, by decide +kernel, by decide +kernel, by decide +kernel⟩) rfl ⟨rfl, ?_⟩
  exact ((Fr.refl [] w).alloc _).below (Nat.le_refl _) (by simp)
set_option maxRecDepth 100000 in
set_option maxHeartbeats 400000 in
theorem walk_nd (base : Nat) (B : Bk) (S : Sto) (L : List Nat) (p : Option Addr) (cap : Nat) (V : List Tb.T) (h deep : Nat) (nd : Nd) (W : S.Wf) (hg : S.get h = some nd) (hd : deep ≤ nd.l) (hl : nd.l < V.length) (hn : V.length ≤ 8) (hVv : ∀ k F, V[k]? = some F → F = Tb.var ((S.vars.getD k 0 : Nat) : Int))
    (ha : WalkIs base B S L p cap V nd.a (nd.l + 1)) (hb : WalkIs base B S L p cap V nd.b (nd.l + 1)) : WalkIs base B S L p cap V h deep := by
  intro w hs hv
  have hlt := Sto.get_lt hg
  have hrm := W.rm
  have hLEV := fun u (hu : StAt u base B S L) => level_any base B S L u hu h (by omega)
  rw [Sto.lev_nd hg] at hLEV
  have hIS := fun u (hu : StAt u base B S L) => is_any base B S L u hu h (by omega)
  have his : S.is h = true := by unfold Sto.is; rw [hg]; simp
  rw [his] at hIS
  have HLEV := Bx.mk hLEV
  have HIS := Bx.mk hIS
  have hLOW := fun u (hu : StAt u base B S L) => low_any base B S L u hu h (by omega)
  have hHIGH := fun u (hu : StAt u base B S L) => high_any base B S L u hu h (by omega)
  rw [show S.low h = nd.a from by unfold Sto.low; rw [hg]] at hLOW
  rw [show S.high h = nd.b from by unfold Sto.high; rw [hg]] at hHIGH
  have HLOW := Bx.mk hLOW
  have HHIGH := Bx.mk hHIGH
  unfold WalkIs at ha hb
  have HA := Bx.mk ha
  have HB := Bx.mk hb
  have HS := Bx.mk hs
  have HV := Bx.mk hv
  have k0 : ((h : Int) == 0) = false := by rw [beq_eq_false_iff_ne]; omega
  have k1 : ((h : Int) == 1) = false := by rw [beq_eq_false_iff_ne]; omega
  have q0 : ¬ (nd.l : Int) < (deep : Int) := by omega
  have q1 : ¬ (nd.l : Int) ≥ (V.length : Int) := by omega
  have q2 : (nd.l : Int) < 8 := by omega
  have q3 : (0 : Int) ≤ (nd.l : Int) := by omega
  have HVL : Bx (∃ F, V[nd.l]? = some F) := ⟨⟨_, List.getElem?_eq_getElem hl⟩⟩
  have HVV := Bx.mk hVv
  clear hVv
  have HNL := Bx.mk hl
  have HNE := Bx.mk (W.ab h nd hg)
  have HT := Bx.mk (W.tab_nd hg)
  clear hLEV hIS his hLOW hHIGH ha hb hs hv hlt hrm W hg
  generalize V.length = n at *
  go_enter Try.func78, Try.ntmps78
  have hr0 : Blk (w.alloc (.cells #[.int .u64 0, .int .u64 0, .int .u64 0, .int .u64 0] 24)) w.heap.size 24 #[.int .u64 0, .int .u64 0, .int .u64 0, .int .u64 0] := Blk.new w _ _
  have hf0 : Fr [] w (w.alloc (.cells #[.int .u64 0, .int .u64 0, .int .u64 0, .int .u64 0] 24)) := (Fr.refl _ _).alloc _
  go_wp2_with fail
  generalize w.alloc (.cells #[.int .u64 0, .int .u64 0, .int .u64 0, .int .u64 0] 24) = w0 at *
  have HF0 := Bx.mk hf0
  have HR0 := Bx.mk hr0
  clear hf0 hr0
  refine (HLEV.out _ (HS.out.fr HF0.out (by simp))).mono ?_
  rintro e w1 ⟨rfl, rfl⟩
  go_wp2_with fail
  refine (HIS.out _ (HS.out.fr HF0.out (by simp))).mono ?_
  rintro e w1 ⟨rfl, rfl⟩
  go_wp2_with fail
  refine (HLOW.out _ (HS.out.fr HF0.out (by simp))).mono ?_
  rintro e w1 ⟨rfl, rfl⟩
  go_wp2_with fail
  refine (HA.out _ (HS.out.fr HF0.out (by simp)) (HV.out.below (HF0.out.below (Nat.le_refl _) (by simp)))).mono ?_
  rintro e w2 ⟨rfl, hb2⟩
  have HF2 : Bx (Fr [] w w2) := ⟨HF0.out.trans (Fr.of_below hb2 (Nat.le_refl _) (S := [])) (by simp)⟩
  have HR2 : Bx (Blk w2 w.heap.size 24 #[.int .u64 0, .int .u64 0, .int .u64 0, .int .u64 0]) := ⟨HR0.out.fr (Fr.of_below hb2 (Nat.le_refl _) (S := [])) (by simp)⟩
  clear hb2
  have HF3 : Bx (Fr [] w (w2.alloc (.cells (Tb.tcells (S.tab nd.a)) 24))) := ⟨HF2.out.alloc _⟩
  have HR3 : Bx (Blk (w2.alloc (.cells (Tb.tcells (S.tab nd.a)) 24)) w.heap.size 24 #[.int .u64 0, .int .u64 0, .int .u64 0, .int .u64 0] ∧ Blk (w2.alloc (.cells (Tb.tcells (S.tab nd.a)) 24)) w2.heap.size 24 (Tb.tcells (S.tab nd.a))) := ⟨HR2.out.alloc _, Blk.new w2 _ _⟩
  go_wp2_with fail
  generalize (w2.alloc (.cells (Tb.tcells (S.tab nd.a)) 24)) = w3 at *
  refine (HHIGH.out _ (HS.out.fr HF3.out (by simp))).mono ?_
  rintro e w1 ⟨rfl, rfl⟩
  go_wp2_with fail
  refine (HB.out _ (HS.out.fr HF3.out (by simp)) (HV.out.below (HF3.out.below (Nat.le_refl _) (by simp)))).mono ?_
  rintro e w4 ⟨rfl, hb4⟩
  have hf4 := Fr.of_below hb4 (Nat.le_refl _) (S := [])
  have HLW2 : Bx (w.heap.size < w2.heap.size) := ⟨HR2.out.lt⟩
  have HLW4 : Bx (w.heap.size < w4.heap.size) := ⟨(HR3.out.1.fr hf4 (by simp)).lt⟩
  have HF5 : Bx (Fr [] w (w4.alloc (.cells (Tb.tcells (S.tab nd.b)) 24))) := ⟨(HF3.out.trans hf4 (by simp)).alloc _⟩
  have HR5 : Bx (Blk (w4.alloc (.cells (Tb.tcells (S.tab nd.b)) 24)) w.heap.size 24 #[.int .u64 0, .int .u64 0, .int .u64 0, .int .u64 0] ∧ Blk (w4.alloc (.cells (Tb.tcells (S.tab nd.b)) 24)) w2.heap.size 24 (Tb.tcells (S.tab nd.a)) ∧ Blk (w4.alloc (.cells (Tb.tcells (S.tab nd.b)) 24)) w4.heap.size 24 (Tb.tcells (S.tab nd.b))) := ⟨(HR3.out.1.fr hf4 (by simp)).alloc _, (HR3.out.2.fr hf4 (by simp)).alloc _, Blk.new w4 _ _⟩
  clear hb4 hf4
  go_wp2_with fail
  generalize (w4.alloc (.cells (Tb.tcells (S.tab nd.b)) 24)) = w5 at *
  obtain ⟨F, hF⟩ : ∃ F, V[nd.l]? = some F := HVL.out
  obtain ⟨vg, vo, rfl, hvc⟩ := HV.out.at_ nd.l F hF
  have HVC := Bx.mk hvc
  have hvl := block_lt_of_cell (hvc 0 (by omega))
  have HVG : Bx (vg < w.heap.size) := ⟨hvl⟩
  clear hvc hvl
  have HS5 : Bx (PlS base B S L vg (vo + nd.l * 4) F w2.heap.size (S.tab nd.a) w4.heap.size (S.tab nd.b) w5.drew) :=
    ⟨HS.out.fr (HF5.out.trans ((Fr.refl [] w5).drew) (by simp)) (by simp), fun i hi => by
      rw [((HF5.out.trans ((Fr.refl [] w5).drew) (by simp)).below (Nat.le_refl _) (by simp)).cell HVG.out]; exact HVC.out i hi, HR5.out.2.1.drew, HR5.out.2.2.drew⟩
  have hz5 := HR5.out.1.drew
  have hf5 := HF5.out.trans ((Fr.refl [] w5).drew) (by simp)
-- ⟦WALK
  refine region_any 100 (fun u => PlS base B S L vg (vo + nd.l * 4) F w2.heap.size (S.tab nd.a) w4.heap.size (S.tab nd.b) u) (by kernel_rfl) ?_
  generalize hu : World.drew _ = u0
  have hS0 : PlS base B S L vg (vo + nd.l * 4) F w2.heap.size (S.tab nd.a) w4.heap.size (S.tab nd.b) u0 := by rw [← hu]; exact HS5.out
  refine any_take (i := 0) (.slice (some ⟨vg, vo, none⟩) n cap) rfl rfl (by kernel_rfl) (by kernel_rfl) (by kernel_rfl) (by kernel_rfl) (fun _ _ d _ _ h => by cases d <;> exact h) (fun u hS => rfl) hS0 ?_
  (try simp only [Act.put]); (try simp only [List.getElem_toArray]); (try simp only [List.getElem_cons_succ]); (try simp only [List.getElem_cons_zero]); (try simp only [List.setIfInBounds_toArray]); (try simp only [List.set_cons_succ]); (try simp only [List.set_cons_zero])
  refine any_take (i := 1) (.int .i64 (nd.l : Int)) rfl rfl (by kernel_rfl) (by kernel_rfl) (by kernel_rfl) (by kernel_rfl) (fun _ _ d _ _ h => by cases d <;> exact h) (fun u hS => rfl) hS0 ?_
  (try simp only [Act.put]); (try simp only [List.getElem_toArray]); (try simp only [List.getElem_cons_succ]); (try simp only [List.getElem_cons_zero]); (try simp only [List.setIfInBounds_toArray]); (try simp only [List.set_cons_succ]); (try simp only [List.set_cons_zero])
  refine any_take (i := 2) (.pointer (some ⟨vg, vo + nd.l * 4, none⟩)) rfl rfl (by kernel_rfl) (by kernel_rfl) (by kernel_rfl) (by kernel_rfl) (fun _ _ d _ _ h => by cases d <;> exact h) (fun u hS => exec_ixV HNL.out rfl rfl rfl) hS0 ?_
  (try simp only [Act.put]); (try simp only [List.getElem_toArray]); (try simp only [List.getElem_cons_succ]); (try simp only [List.getElem_cons_zero]); (try simp only [List.setIfInBounds_toArray]); (try simp only [List.set_cons_succ]); (try simp only [List.set_cons_zero])
  refine any_take (i := 3) (Tb.tv F) rfl rfl (by kernel_rfl) (by kernel_rfl) (by kernel_rfl) (by kernel_rfl) (fun _ _ d _ _ h => by cases d <;> exact h) (fun u hS => exec_ldV rfl rfl hS.2.1) hS0 ?_
  (try simp only [Act.put]); (try simp only [List.getElem_toArray]); (try simp only [List.getElem_cons_succ]); (try simp only [List.getElem_cons_zero]); (try simp only [List.setIfInBounds_toArray]); (try simp only [List.set_cons_succ]); (try simp only [List.set_cons_zero])
  refine any_take (i := 4) (Tb.tv (S.tab nd.b)) rfl rfl (by kernel_rfl) (by kernel_rfl) (by kernel_rfl) (by kernel_rfl) (fun _ _ d _ _ h => by cases d <;> exact h) (fun u hS => exec_load rfl rfl hS.2.2.2) hS0 ?_
  (try simp only [Act.put]); (try simp only [List.getElem_toArray]); (try simp only [List.getElem_cons_succ]); (try simp only [List.getElem_cons_zero]); (try simp only [List.setIfInBounds_toArray]); (try simp only [List.set_cons_succ]); (try simp only [List.set_cons_zero])
  refine any_take (i := 5) (Tb.tv (S.tab nd.a)) rfl rfl (by kernel_rfl) (by kernel_rfl) (by kernel_rfl) (by kernel_rfl) (fun _ _ d _ _ h => by cases d <;> exact h) (fun u hS => exec_load rfl rfl hS.2.2.1) hS0 ?_
  (try simp only [Act.put]); (try simp only [List.getElem_toArray]); (try simp only [List.getElem_cons_succ]); (try simp only [List.getElem_cons_zero]); (try simp only [List.setIfInBounds_toArray]); (try simp only [List.set_cons_succ]); (try simp only [List.set_cons_zero])
  refine any_take (i := 7) (.bool true) rfl rfl (by kernel_rfl) (by kernel_rfl) (by kernel_rfl) (by kernel_rfl) (fun _ _ d _ _ h => by cases d <;> exact h) (fun u hS => rfl) hS0 ?_
  (try simp only [Act.put]); (try simp only [List.getElem_toArray]); (try simp only [List.getElem_cons_succ]); (try simp only [List.getElem_cons_zero]); (try simp only [List.setIfInBounds_toArray]); (try simp only [List.set_cons_succ]); (try simp only [List.set_cons_zero])
  refine any_branch [6] (by kernel_rfl) rfl fun ix hix => ?_
  simp only [List.mem_cons, List.not_mem_nil, or_false] at hix
  subst hix
  refine any_op rfl rfl fun K hK => ?_
  rw [hu] at hz5 hf5
  clear hu
  go_simp
  refine (rite_any F (S.tab nd.b) (S.tab nd.a) _).mono ?_
  rintro e u1 ⟨rfl, hb1⟩
  have hS1 := hS0.below hb1
  have hz1 := hz5.fr (Fr.of_below hb1 (Nat.le_refl _) (S := [])) (by simp)
  have hf1 := hf5.trans (Fr.of_below hb1 (Nat.le_refl _) (S := [])) (by simp)
  refine hK _ _ (fun _ => hS1) ?_
  (try simp only [Act.put]); (try simp only [List.getElem_toArray]); (try simp only [List.getElem_cons_succ]); (try simp only [List.getElem_cons_zero]); (try simp only [List.setIfInBounds_toArray]); (try simp only [List.set_cons_succ]); (try simp only [List.set_cons_zero])
  clear hK
  refine any_take (i := 8) (.bool true) rfl rfl (by kernel_rfl) (by kernel_rfl) (by kernel_rfl) (by kernel_rfl) (fun _ _ d _ _ h => by cases d <;> exact h) (fun u hS => rfl) hS1 ?_
  (try simp only [Act.put]); (try simp only [List.getElem_toArray]); (try simp only [List.getElem_cons_succ]); (try simp only [List.getElem_cons_zero]); (try simp only [List.setIfInBounds_toArray]); (try simp only [List.set_cons_succ]); (try simp only [List.set_cons_zero])
  refine any_take (i := 9) (.bool true) rfl rfl (by kernel_rfl) (by kernel_rfl) (by kernel_rfl) (by kernel_rfl) (fun _ _ d _ _ h => by cases d <;> exact h) (fun u hS => rfl) hS1 ?_
  (try simp only [Act.put]); (try simp only [List.getElem_toArray]); (try simp only [List.getElem_cons_succ]); (try simp only [List.getElem_cons_zero]); (try simp only [List.setIfInBounds_toArray]); (try simp only [List.set_cons_succ]); (try simp only [List.set_cons_zero])
  refine any_take (i := 10) (.bool true) rfl rfl (by kernel_rfl) (by kernel_rfl) (by kernel_rfl) (by kernel_rfl) (fun _ _ d _ _ h => by cases d <;> exact h) (fun u hS => exec_pick rfl rfl rfl) hS1 ?_
  (try simp only [Act.put]); (try simp only [List.getElem_toArray]); (try simp only [List.getElem_cons_succ]); (try simp only [List.getElem_cons_zero]); (try simp only [List.setIfInBounds_toArray]); (try simp only [List.set_cons_succ]); (try simp only [List.set_cons_zero])
  refine any_take (i := 11) (.bool true) rfl rfl (by kernel_rfl) (by kernel_rfl) (by kernel_rfl) (by kernel_rfl) (fun _ _ d _ _ h => by cases d <;> exact h) (fun u hS => rfl) hS1 ?_
  (try simp only [Act.put]); (try simp only [List.getElem_toArray]); (try simp only [List.getElem_cons_succ]); (try simp only [List.getElem_cons_zero]); (try simp only [List.setIfInBounds_toArray]); (try simp only [List.set_cons_succ]); (try simp only [List.set_cons_zero])
  refine any_take (i := 12) (.pointer (some ⟨B.s, 0, none⟩)) rfl rfl (by kernel_rfl) (by kernel_rfl) (by kernel_rfl) (by kernel_rfl) (fun _ _ d _ _ h => by cases d <;> exact h) (fun u hS => rfl) hS1 ?_
  (try simp only [Act.put]); (try simp only [List.getElem_toArray]); (try simp only [List.getElem_cons_succ]); (try simp only [List.getElem_cons_zero]); (try simp only [List.setIfInBounds_toArray]); (try simp only [List.set_cons_succ]); (try simp only [List.set_cons_zero])
  refine any_take (i := 13) (.int .u32 (h : Int)) rfl rfl (by kernel_rfl) (by kernel_rfl) (by kernel_rfl) (by kernel_rfl) (fun _ _ d _ _ h => by cases d <;> exact h) (fun u hS => rfl) hS1 ?_
  (try simp only [Act.put]); (try simp only [List.getElem_toArray]); (try simp only [List.getElem_cons_succ]); (try simp only [List.getElem_cons_zero]); (try simp only [List.setIfInBounds_toArray]); (try simp only [List.set_cons_succ]); (try simp only [List.set_cons_zero])
  refine any_take (i := 15) (.pointer (some ⟨B.s, 0, none⟩)) rfl rfl (by kernel_rfl) (by kernel_rfl) (by kernel_rfl) (by kernel_rfl) (fun _ _ d _ _ h => by cases d <;> exact h) (fun u hS => rfl) hS1 ?_
  (try simp only [Act.put]); (try simp only [List.getElem_toArray]); (try simp only [List.getElem_cons_succ]); (try simp only [List.getElem_cons_zero]); (try simp only [List.setIfInBounds_toArray]); (try simp only [List.set_cons_succ]); (try simp only [List.set_cons_zero])
  refine any_take (i := 16) (.int .u32 (h : Int)) rfl rfl (by kernel_rfl) (by kernel_rfl) (by kernel_rfl) (by kernel_rfl) (fun _ _ d _ _ h => by cases d <;> exact h) (fun u hS => rfl) hS1 ?_
  (try simp only [Act.put]); (try simp only [List.getElem_toArray]); (try simp only [List.getElem_cons_succ]); (try simp only [List.getElem_cons_zero]); (try simp only [List.setIfInBounds_toArray]); (try simp only [List.set_cons_succ]); (try simp only [List.set_cons_zero])
  refine any_branch [14] (by kernel_rfl) rfl fun ix hix => ?_
  simp only [List.mem_cons, List.not_mem_nil, or_false] at hix
  subst hix
  refine any_op rfl rfl fun K hK => ?_
  go_simp
  refine (HLOW.out _ hS1.1).mono ?_
  rintro e u2 ⟨rfl, rfl⟩
  refine hK _ _ (fun _ => hS1) ?_
  (try simp only [Act.put]); (try simp only [List.getElem_toArray]); (try simp only [List.getElem_cons_succ]); (try simp only [List.getElem_cons_zero]); (try simp only [List.setIfInBounds_toArray]); (try simp only [List.set_cons_succ]); (try simp only [List.set_cons_zero])
  clear hK
  refine any_branch [17] (by kernel_rfl) rfl fun ix hix => ?_
  simp only [List.mem_cons, List.not_mem_nil, or_false] at hix
  subst hix
  refine any_op rfl rfl fun K hK => ?_
  go_simp
  refine (HHIGH.out _ hS1.1).mono ?_
  rintro e u2 ⟨rfl, rfl⟩
  refine hK _ _ (fun _ => hS1) ?_
  (try simp only [Act.put]); (try simp only [List.getElem_toArray]); (try simp only [List.getElem_cons_succ]); (try simp only [List.getElem_cons_zero]); (try simp only [List.setIfInBounds_toArray]); (try simp only [List.set_cons_succ]); (try simp only [List.set_cons_zero])
  clear hK
  refine any_take (i := 18) (.bool true) rfl rfl (by kernel_rfl) (by kernel_rfl) (by kernel_rfl) (by kernel_rfl) (fun _ _ d _ _ h => by cases d <;> exact h) (fun u hS => exec_neH HNE.out rfl rfl rfl) hS1 ?_
  (try simp only [Act.put]); (try simp only [List.getElem_toArray]); (try simp only [List.getElem_cons_succ]); (try simp only [List.getElem_cons_zero]); (try simp only [List.setIfInBounds_toArray]); (try simp only [List.set_cons_succ]); (try simp only [List.set_cons_zero])
  refine any_take (i := 19) (.bool true) rfl rfl (by kernel_rfl) (by kernel_rfl) (by kernel_rfl) (by kernel_rfl) (fun _ _ d _ _ h => by cases d <;> exact h) (fun u hS => exec_pick rfl rfl rfl) hS1 ?_
  (try simp only [Act.put]); (try simp only [List.getElem_toArray]); (try simp only [List.getElem_cons_succ]); (try simp only [List.getElem_cons_zero]); (try simp only [List.setIfInBounds_toArray]); (try simp only [List.set_cons_succ]); (try simp only [List.set_cons_zero])
  refine any_branch [20] (by kernel_rfl) rfl fun ix hix => ?_
  simp only [List.mem_cons, List.not_mem_nil, or_false] at hix
  subst hix
  refine any_op rfl rfl fun K hK => ?_
  have r0 := hz1.cell 0
  have r1 := hz1.cell 1
  have r2 := hz1.cell 2
  have r3 := hz1.cell 3
  have y0 := hz1.frozen 0
  have y1 := hz1.frozen 1
  have y2 := hz1.frozen 2
  have y3 := hz1.frozen 3
  go_simp
  have hfs : Fr [w.heap.size] u2 ((((u2.setCell ⟨w.heap.size, 0, none⟩ (.int .u64 (Tb.wd ((F &&& S.tab nd.b) ||| (~~~F &&& S.tab nd.a)) 0))).setCell ⟨w.heap.size, 1, none⟩ (.int .u64 (Tb.wd ((F &&& S.tab nd.b) ||| (~~~F &&& S.tab nd.a)) 1))).setCell ⟨w.heap.size, 2, none⟩ (.int .u64 (Tb.wd ((F &&& S.tab nd.b) ||| (~~~F &&& S.tab nd.a)) 2))).setCell ⟨w.heap.size, 3, none⟩ (.int .u64 (Tb.wd ((F &&& S.tab nd.b) ||| (~~~F &&& S.tab nd.a)) 3))) := ((((Fr.refl [w.heap.size] _).setCell (fun _ => by simp) _).setCell (fun _ => by simp) _).setCell (fun _ => by simp) _).setCell (fun _ => by simp) _
  have hS2 := hS1.fr hfs (fun b hb hm => by obtain rfl := List.mem_singleton.1 hm; exact absurd (HS.out.lt _ hb) (by omega)) (by have := HVG.out; simp; omega) (by have := HLW2.out; simp; omega) (by have := HLW4.out; simp; omega)
  have hz2 := blk4z hz1 ((F &&& S.tab nd.b) ||| (~~~F &&& S.tab nd.a))
  have hf2 := hf1.trans hfs (fun b hb hl => by obtain rfl := List.mem_singleton.1 hb; omega)
  refine hK _ _ (fun _ => hS2) ?_
  (try simp only [Act.put]); (try simp only [List.getElem_toArray]); (try simp only [List.getElem_cons_succ]); (try simp only [List.getElem_cons_zero]); (try simp only [List.setIfInBounds_toArray]); (try simp only [List.set_cons_succ]); (try simp only [List.set_cons_zero])
  clear hK
  refine any_take (i := 21) (.bool true) rfl rfl (by kernel_rfl) (by kernel_rfl) (by kernel_rfl) (by kernel_rfl) (fun _ _ d _ _ h => by cases d <;> exact h) (fun u hS => rfl) hS2 ?_
  (try simp only [Act.put]); (try simp only [List.getElem_toArray]); (try simp only [List.getElem_cons_succ]); (try simp only [List.getElem_cons_zero]); (try simp only [List.setIfInBounds_toArray]); (try simp only [List.set_cons_succ]); (try simp only [List.set_cons_zero])
  refine any_end (by kernel_rfl) ?_
-- ⟧
  have r0 := hz2.cellEq (i := 0) rfl
  have r1 := hz2.cellEq (i := 1) rfl
  have r2 := hz2.cellEq (i := 2) rfl
  have r3 := hz2.cellEq (i := 3) rfl
  have HEND := Bx.mk hf2
  clear hS0 hS1 hS2 hz5 hf5 hz1 hf1 hfs hz2 hf2 y0 y1 y2 y3
  have HRT : Bx (S.tab h = ((F &&& S.tab nd.b) ||| (~~~F &&& S.tab nd.a))) := ⟨by rw [HT.out, HVV.out _ _ hF]; rfl⟩
  generalize ((((u2.setCell ⟨w.heap.size, 0, none⟩ (.int .u64 (Tb.wd ((F &&& S.tab nd.b) ||| (~~~F &&& S.tab nd.a)) 0))).setCell ⟨w.heap.size, 1, none⟩ (.int .u64 (Tb.wd ((F &&& S.tab nd.b) ||| (~~~F &&& S.tab nd.a)) 1))).setCell ⟨w.heap.size, 2, none⟩ (.int .u64 (Tb.wd ((F &&& S.tab nd.b) ||| (~~~F &&& S.tab nd.a)) 2))).setCell ⟨w.heap.size, 3, none⟩ (.int .u64 (Tb.wd ((F &&& S.tab nd.b) ||| (~~~F &&& S.tab nd.a)) 3))) = wf at *
  generalize ((F &&& S.tab nd.b) ||| (~~~F &&& S.tab nd.a)) = R at *
  go_wp2_with fail
  refine bodyPost_ret (v := .tuple #[Tb.tv R, .bool true]) (by simp [results, Try.results78, go_sem, r0, r1, r2, r3]) rfl ⟨by rw [HRT.out], ?_⟩
  exact HEND.out.below (Nat.le_refl _) (by simp)
end Go.Proofs.Ythbifeoohphnpaa

/-
  Package spinneyplay: each handle's function.
-/
namespace Go.Proofs.Ythbifeoohphnpaa
set_option linter.unusedVariables false
open Go.RowKit
set_option maxRecDepth 100000 in
set_option maxHeartbeats 1000000 in
theorem walk_one (base : Nat) (B : Bk) (S : Sto) (L : List Nat) (p : Option Addr) (cap : Nat) (V : List Tb.T) (deep : Nat) : WalkIs base B S L p cap V 1 deep := by
  intro w hs hv
  rw [Sto.tab_one]
  clear hs hv
  generalize V.length = n
  have hr0 : Blk (w.alloc (.cells #[.int .u64 0, .int .u64 0, .int .u64 0, .int .u64 0] 24)) w.heap.size 24 #[.int .u64 0, .int .u64 0, .int .u64 0, .int .u64 0] := Blk.new w _ _
  have hf0 : Fr [] w (w.alloc (.cells #[.int .u64 0, .int .u64 0, .int .u64 0, .int .u64 0] 24)) := (Fr.refl _ _).alloc _
  have hN := rnot_any (0#256) (w.alloc (.cells #[.int .u64 0, .int .u64 0, .int .u64 0, .int .u64 0] 24))
  have e0 : Tb.wd (0#256) 0 = 0 := by decide +kernel
  have e1 : Tb.wd (0#256) 1 = 0 := by decide +kernel
  have e2 : Tb.wd (0#256) 2 = 0 := by decide +kernel
  have e3 : Tb.wd (0#256) 3 = 0 := by decide +kernel
  unfold Tb.tv at hN
  rw [e0, e1, e2, e3] at hN
  generalize ~~~(0#256) = R at *
  have HN := Bx.mk hN
  have HF0 := Bx.mk hf0
  have HR0 := Bx.mk hr0
  clear hN e0 e1 e2 e3 hf0 hr0
  go_enter Try.func78, Try.ntmps78
  go_wp2_with fail
  refine HN.out.mono ?_
  rintro e w1 ⟨rfl, hb1⟩
  have hf1 := Fr.of_below hb1 (Nat.le_refl _) (S := [])
  have hr1 := HR0.out.fr hf1 (by simp)
  have r0 := hr1.cell 0
  have r1 := hr1.cell 1
  have r2 := hr1.cell 2
  have r3 := hr1.cell 3
  have y0 := hr1.frozen 0
  have y1 := hr1.frozen 1
  have y2 := hr1.frozen 2
  have y3 := hr1.frozen 3
  have HE : Bx (Below w.heap.size w ((((w1.setCell ⟨w.heap.size, 0, none⟩ (.int .u64 (Tb.wd R 0))).setCell ⟨w.heap.size, 1, none⟩ (.int .u64 (Tb.wd R 1))).setCell ⟨w.heap.size, 2, none⟩ (.int .u64 (Tb.wd R 2))).setCell ⟨w.heap.size, 3, none⟩ (.int .u64 (Tb.wd R 3)))) :=
    ⟨((((((HF0.out.trans hf1 (by simp)).setCell (p := ⟨w.heap.size, 0, none⟩) (fun h => absurd h (by simp)) _).setCell (p := ⟨w.heap.size, 1, none⟩) (fun h => absurd h (by simp)) _).setCell (p := ⟨w.heap.size, 2, none⟩) (fun h => absurd h (by simp)) _).setCell (p := ⟨w.heap.size, 3, none⟩) (fun h => absurd h (by simp)) _)).below (Nat.le_refl _) (by simp)⟩
  have HQ := Bx.mk (blk4z hr1 R)
  clear hb1 hf1 hr1
  go_wp2_with fail
  have s0 := HQ.out.cellEq (i := 0) rfl
  have s1 := HQ.out.cellEq (i := 1) rfl
  have s2 := HQ.out.cellEq (i := 2) rfl
  have s3 := HQ.out.cellEq (i := 3) rfl
  clear r0 r1 r2 r3 y0 y1 y2 y3
  generalize ((((w1.setCell ⟨w.heap.size, 0, none⟩ (.int .u64 (Tb.wd R 0))).setCell ⟨w.heap.size, 1, none⟩ (.int .u64 (Tb.wd R 1))).setCell ⟨w.heap.size, 2, none⟩ (.int .u64 (Tb.wd R 2))).setCell ⟨w.heap.size, 3, none⟩ (.int .u64 (Tb.wd R 3))) = wf at *
  refine bodyPost_ret (v := .tuple #[Tb.tv R, .bool true]) (by simp [results, Try.results78, go_sem, s0, s1, s2, s3]) rfl ⟨rfl, HE.out⟩
/-- each handle's walk -/
theorem walk_all (base : Nat) (B : Bk) (S : Sto) (L : List Nat) (p : Option Addr) (cap : Nat) (V : List Tb.T) (W : S.Wf) (hV : V.length = S.n) (hVv : ∀ k F, V[k]? = some F → F = Tb.var ((S.vars.getD k 0 : Nat) : Int)) :
    ∀ (d h deep : Nat), (S.n : Int) - S.lev h ≤ (d : Int) → S.is h = true → (deep : Int) ≤ S.lev h → WalkIs base B S L p cap V h deep := by
  intro d
  induction d with
  | zero =>
    intro h deep hd hi hl
    cases hg : S.get h with
    | none =>
      have h2 : h < 2 := by unfold Sto.is at hi; rw [hg] at hi; simpa using hi
      have : h = 0 ∨ h = 1 := by omega
      rcases this with rfl | rfl
      · exact walk_zero base B S L p cap V deep
      · exact walk_one base B S L p cap V deep
    | some nd => have := (W.kid h nd hg).1; rw [Sto.lev_nd hg] at hd; omega
  | succ d ih =>
    intro h deep hd hi hl
    cases hg : S.get h with
    | none =>
      have h2 : h < 2 := by unfold Sto.is at hi; rw [hg] at hi; simpa using hi
      have : h = 0 ∨ h = 1 := by omega
      rcases this with rfl | rfl
      · exact walk_zero base B S L p cap V deep
      · exact walk_one base B S L p cap V deep
    | some nd =>
      obtain ⟨k1, k2, k3, k4, k5⟩ := W.kid h nd hg
      have h8 := W.n8
      rw [Sto.lev_nd hg] at hd hl
      exact walk_nd base B S L p cap V h deep nd W hg (by omega) (by omega) (by omega) hVv (ih nd.a _ (by omega) k2 (by omega)) (ih nd.b _ (by omega) k3 (by omega))
end Go.Proofs.Ythbifeoohphnpaa

/-
  Package spinneyplay: a handle's function; is it a table?
-/
namespace Go.Proofs.Ythbifeoohphnpaa
set_option linter.unusedVariables false
open Go.RowKit
/-- the variables by levels, as tables -/
def Sto.vtabs (S : Sto) (k : Nat) : List Tb.T := (List.range k).map fun j => Tb.var ((S.vars.getD j 0 : Nat) : Int)
theorem Sto.vtabs_len (S : Sto) (k : Nat) : (S.vtabs k).length = k := by unfold Sto.vtabs; simp
theorem Sto.vtabs_succ (S : Sto) (k : Nat) : S.vtabs (k + 1) = S.vtabs k ++ [Tb.var ((S.vars.getD k 0 : Nat) : Int)] := by unfold Sto.vtabs; rw [List.range_succ, List.map_append]; rfl
theorem Sto.vtabs_get {S : Sto} {k j : Nat} {F : Tb.T} (h : (S.vtabs k)[j]? = some F) : F = Tb.var ((S.vars.getD j 0 : Nat) : Int) := by
  unfold Sto.vtabs at h
  rw [List.getElem?_map, List.getElem?_range (by
    rcases Nat.lt_or_ge j k with hl | hl
    · exact hl
    · rw [List.getElem?_eq_none (by simpa using hl)] at h; cases h)] at h
  exact (Option.some.inj h).symm
/-- a table appended, as the walk spells it -/
structure Ap (w w1 w' : World) (v' : Value) (L : List Tb.T) (G : Tb.T) : Prop where
  own : TSl w' w.heap.size v' (L ++ [G])
  below : Below w.heap.size w w'
theorem ap_run {w w1 : World} {v : Value} {L : List Tb.T} (h : TSl w1 w.heap.size v L) (hw : Below w.heap.size w w1) (G : Tb.T) (hn : L.length < 1000000) :
    ∃ v' w', (Builtin.append_ #[62, 62] 62 #[v, .slice (some ⟨w1.heap.size, 0, none⟩) 1 1]).run Try.prog (w1.alloc (.cells #[.int .u64 (Tb.wd G 0), .int .u64 (Tb.wd G 1), .int .u64 (Tb.wd G 2), .int .u64 (Tb.wd G 3)] 24)) = .ok v' w' ∧ Ap w w1 w' v' L G := by
  obtain ⟨bx, bg, bz⟩ := boxed_new w1 G
  have hb := hw.size
  have hx : ∀ i, i < 4 → (w1.alloc (.cells (Tb.tcells G) 24)).cell? ⟨w1.heap.size, i, none⟩ = some (.int .u64 (Tb.wd G i)) := fun i hi => by
    rw [bx.cell]
    match i, hi with
    | 0, _ => rfl
    | 1, _ => rfl
    | 2, _ => rfl
    | 3, _ => rfl
  have h1 := h.kept bg (by cases e : v.ownBlock <;> simp)
  obtain ⟨v', w', hr, ht, hg, hbk⟩ := h1.run_append G w1.heap.size hx hn (by rw [bz]; omega) 62 1
  exact ⟨v', w', hr, ht, (hw.alloc hb _).grown hg (by rw [bz]; omega) (fun k hk => (h.lt hk).1)⟩
/-- the loop over the levels -/
structure FnS (w wr : World) (S : Sto) (k : Nat) (v : Value) : Prop where
  own : TSl wr w.heap.size v (S.vtabs k)
  below : Below w.heap.size w wr
set_option maxRecDepth 100000 in
set_option maxHeartbeats 1000000 in
theorem func_any (base : Nat) (B : Bk) (S : Sto) (L : List Nat) (h : Nat) (w : World) (hs : StAt w base B S L) (W : S.Wf) (hi : S.is h = true) :
    Calls Try.prog 55 #[.pointer (some ⟨B.s, 0, none⟩), .int .u32 (h : Int)] w fun e w' => e = .returned (.tuple #[Tb.tv (S.tab h), .bool true]) ∧ Below w.heap.size w w' := by
  have HW : Bx (∀ (p : Option Addr) (cap : Nat), WalkIs base B S L p cap (S.vtabs S.n) h 0) := ⟨fun p cap => walk_all base B S L p cap (S.vtabs S.n) W (S.vtabs_len _) (fun k F hk => Sto.vtabs_get hk) (S.n + 1) h 0 (by
      have : (-1 : Int) ≤ S.lev h := by
        unfold Sto.lev; split
        · omega
        · split <;> omega
      omega) hi (by
      unfold Sto.is at hi
      unfold Sto.lev
      split
      · omega
      · cases hg : S.get h with
        | none => rw [hg] at hi; simp at hi; omega
        | some nd => simp)⟩
  unfold WalkIs at HW
  have HS := Bx.mk hs
  have hvl := hs.vl
  have HVL := Bx.mk hvl
  have q8 : (S.n : Int) ≤ 8 := by omega
  have q0 : (0 : Int) ≤ (S.n : Int) := by omega
  clear hs W hi hvl
  generalize S.tab h = R at *
  go_enter Try.func55, Try.ntmps55
  have hr0 : Blk (w.alloc (.cells #[.int .u64 0, .int .u64 0, .int .u64 0, .int .u64 0] 24)) w.heap.size 24 #[.int .u64 0, .int .u64 0, .int .u64 0, .int .u64 0] := Blk.new w _ _
  have hf0 : Fr [] w (w.alloc (.cells #[.int .u64 0, .int .u64 0, .int .u64 0, .int .u64 0] 24)) := (Fr.refl _ _).alloc _
  go_wp2_with fail
  generalize w.alloc (.cells #[.int .u64 0, .int .u64 0, .int .u64 0, .int .u64 0] 24) = w0 at *
  have HF0 := Bx.mk hf0
  have HR0 := Bx.mk hr0
  clear hf0 hr0
  have HO := Bx.mk (sorder_any base B S L w0 (HS.out.fr HF0.out (by simp)))
  refine HO.out.mono ?_
  rintro e w1 ⟨rfl, ho1, hf1, hz1⟩
  have HA := Bx.mk (oall_any w0.heap.size S w1 ho1 HVL.out)
  have HF1 := Bx.mk hf1
  clear ho1 hf1 hz1 HO
  go_wp2_with fail
  refine HA.out.mono ?_
  rintro e w2 ⟨rfl, hb2, hf2, hz2⟩
  have HF2 : Bx (Fr [] w w2) := ⟨(HF0.out.trans HF1.out (by simp)).trans hf2 (by simp)⟩
  have HR2 : Bx (Blk w2 w.heap.size 24 #[.int .u64 0, .int .u64 0, .int .u64 0, .int .u64 0]) := ⟨(HR0.out.fr HF1.out (by simp)).fr hf2 (by simp)⟩
  have HB2 := Bx.mk hb2
  have HS2 : Bx (StAt w2 base B S L) := ⟨HS.out.fr HF2.out (by simp)⟩
  clear hb2 hf2 hz2 HA HF0 HF1 HR0
  generalize w1.heap.size = bl at *
  obtain ⟨n, hn⟩ : ∃ n, n = S.n := ⟨_, rfl⟩
  rw [← hn] at q8 q0 ⊢
  have HN := Bx.mk hn
  clear hn
  go_wp2_with fail
  go_loopw [7, 8] (fun v i wr => ∃ k : Nat, k ≤ n ∧ i = .int .i64 k ∧ FnS w2 wr S k v) (fun _ i _ => n - (intOf i).toNat)
  case atStart => exact ⟨0, by omega, rfl, ⟨TSl.nil _ _, Below.refl _ _⟩⟩
  case round =>
    obtain ⟨k, hk, rfl, hF⟩ := hrel
    by_cases hlt : k < n
    · have hcell : wr.cell? ⟨bl, k, none⟩ = some (.int .i64 ((S.vars.getD k 0 : Nat) : Int)) := by
        have hlb := HB2.out.lt
        rw [hF.below.cell hlb, HB2.out.cell, List.getElem?_toArray, List.getElem?_take, if_pos (by rw [← HN.out]; exact hlt), List.getElem?_map]
        have h8 := HVL.out
        rw [List.getD_eq_getElem?_getD, List.getElem?_eq_getElem (show k < S.vars.length by rw [h8.1]; have := h8.2.2; have := HN.out; omega)]
        rfl
      obtain ⟨v0, hv0⟩ : ∃ v0 : Nat, v0 = S.vars.getD k 0 := ⟨_, rfl⟩
      rw [← hv0] at hcell
      have HV0 := Bx.mk hv0
      have HFB := Bx.mk hF
      clear hv0 hF
      go_wp2_with fail
      refine (rvar_any (v0 : Int) _).mono ?_
      rintro e wv ⟨rfl, bv⟩
      have hbv := HFB.out.below.trans (bv.mono HFB.out.below.size)
      obtain ⟨v', w', hra, hA⟩ := ap_run (HFB.out.own.below bv) hbv (Tb.var (v0 : Int)) (by rw [Sto.vtabs_len]; omega)
      have HF' : Bx (FnS w2 w' S (k + 1) v') := ⟨⟨by rw [Sto.vtabs_succ, ← HV0.out]; exact hA.own, hA.below⟩⟩
      clear hA hbv bv hcell HFB
      go_wp2_with (first | (at_builtin; refine wpList_by_append _ rfl _ _ _ rfl rfl rfl hra ?_) | fail)
      exact ⟨⟨k + 1, by omega, by go_num, HF'.out⟩, by simp [intOf]; omega⟩
    · obtain rfl : k = n := by omega
      obtain ⟨p, cap, rfl, hT⟩ := hF.own.shape
      have HWK := Bx.mk (HW.out p cap wr (HS2.out.below hF.below) (by rw [← HN.out]; exact hT))
      rw [Sto.vtabs_len] at HWK ⊢
      rw [← HN.out] at HWK
      have HFB := Bx.mk hF.below
      clear hF hT hk
      go_wp2_with fail
      refine HWK.out.mono ?_
      rintro e w3 ⟨rfl, hb3⟩
      have hr3 := (HR2.out.fr (Fr.of_below HFB.out (Nat.le_refl _) (S := [])) (by simp)).fr (Fr.of_below hb3 (Nat.le_refl _) (S := [])) (by simp)
      have hf3 := (HF2.out.trans (Fr.of_below HFB.out (Nat.le_refl _) (S := [])) (by simp)).trans (Fr.of_below hb3 (Nat.le_refl _) (S := [])) (by simp)
      have r0 := hr3.cell 0
      have r1 := hr3.cell 1
      have r2 := hr3.cell 2
      have r3 := hr3.cell 3
      have y0 := hr3.frozen 0
      have y1 := hr3.frozen 1
      have y2 := hr3.frozen 2
      have y3 := hr3.frozen 3
      have HE : Bx (Below w.heap.size w ((((w3.setCell ⟨w.heap.size, 0, none⟩ (.int .u64 (Tb.wd R 0))).setCell ⟨w.heap.size, 1, none⟩ (.int .u64 (Tb.wd R 1))).setCell ⟨w.heap.size, 2, none⟩ (.int .u64 (Tb.wd R 2))).setCell ⟨w.heap.size, 3, none⟩ (.int .u64 (Tb.wd R 3)))) :=
        ⟨(((((hf3.setCell (p := ⟨w.heap.size, 0, none⟩) (fun h => absurd h (by simp)) _).setCell (p := ⟨w.heap.size, 1, none⟩) (fun h => absurd h (by simp)) _).setCell (p := ⟨w.heap.size, 2, none⟩) (fun h => absurd h (by simp)) _).setCell (p := ⟨w.heap.size, 3, none⟩) (fun h => absurd h (by simp)) _)).below (Nat.le_refl _) (by simp)⟩
      have HQ := Bx.mk (blk4z hr3 R)
      clear hb3 hf3 hr3 HWK HFB
      go_wp2_with fail
      have s0 := HQ.out.cellEq (i := 0) rfl
      have s1 := HQ.out.cellEq (i := 1) rfl
      have s2 := HQ.out.cellEq (i := 2) rfl
      have s3 := HQ.out.cellEq (i := 3) rfl
      clear r0 r1 r2 r3 y0 y1 y2 y3
      generalize ((((w3.setCell ⟨w.heap.size, 0, none⟩ (.int .u64 (Tb.wd R 0))).setCell ⟨w.heap.size, 1, none⟩ (.int .u64 (Tb.wd R 1))).setCell ⟨w.heap.size, 2, none⟩ (.int .u64 (Tb.wd R 2))).setCell ⟨w.heap.size, 3, none⟩ (.int .u64 (Tb.wd R 3))) = wf at *
      refine bodyPost_ret (v := .tuple #[Tb.tv R, .bool true]) (by simp [results, Try.results55, go_sem, s0, s1, s2, s3]) rfl ⟨rfl, HE.out⟩
set_option maxRecDepth 100000 in
set_option maxHeartbeats 1000000 in
/-- is it a table? -/
theorem pis_any (base : Nat) (B : Bk) (S : Sto) (L : List Nat) (h : Nat) (F : Tb.T) (w : World) (hs : StAt w base B S L) (W : S.Wf) (hi : S.is h = true) :
    Calls Try.prog 18 #[.pointer (some ⟨B.s, 0, none⟩), .int .u32 (h : Int), Tb.tv F] w fun e w' => e = .returned (.bool (decide (S.tab h = F))) ∧ Below w.heap.size w w' := by
  have HS := Bx.mk hs
  have HFN := Bx.mk (fun u (hu : StAt u base B S L) => func_any base B S L h u hu W hi)
  clear hs W hi
  generalize hd : decide (S.tab h = F) = d at *
  generalize S.tab h = R at *
  have heq := run_equal_max hd
  have HD := Bx.mk hd
  clear hd
  have hx0 : Blk (w.alloc (.cells (Tb.tcells F) 24)) w.heap.size 24 (Tb.tcells F) := Blk.new w _ _
  have hf0 : Fr [] w (w.alloc (.cells (Tb.tcells F) 24)) := (Fr.refl _ _).alloc _
  go_enter Try.func18, Try.ntmps18
  go_wp2_with fail
  generalize w.alloc (.cells (Tb.tcells F) 24) = w0 at *
  have HF0 := Bx.mk hf0
  have HX0 := Bx.mk hx0
  clear hf0 hx0
  refine (HFN.out _ (HS.out.fr HF0.out (by simp))).mono ?_
  rintro e w1 ⟨rfl, hb1⟩
  have hx1 := HX0.out.fr (Fr.of_below hb1 (Nat.le_refl _) (S := [])) (by simp)
  have HF1 : Bx (Below w.heap.size w w1) := ⟨(HF0.out.trans (Fr.of_below hb1 (Nat.le_refl _) (S := [])) (by simp)).below (Nat.le_refl _) (by simp)⟩
  have hlt := hx1.lt
  obtain ⟨⟨a0, a1, a2, a3⟩, c0, c1, c2, c3⟩ := tfacts hx1
  clear hb1 hx1
  go_wp2_with fail
  go_ret
  exact ⟨rfl, HF1.out.alloc (by omega) _⟩
end Go.Proofs.Ythbifeoohphnpaa

/-
  Regions whose order is open: operations that their guard leaves out.
-/
namespace Go.Proofs.Ythbifeoohphnpaa
set_option linter.unusedVariables false
open Go.RowKit
section
variable {P : Program} {ops : Array Oper} {Q : Exit → Act → World → Prop} {S : World → Prop} {x n i : Nat} {listed : Array Bool} {a : Act} {w : World} {o : Oper}
/-- what a quiet operation taken first asks of the region -/
def takeOk (ops : Array Oper) (x : Nat) (listed : Array Bool) (i : Nat) : Bool := Region.noSelect ops && lastB .any ops x && Region.free .any ops listed i && (Region.ready .any ops listed).contains i
theorem any_tk (v : Value) (ho : ops[i]? = some o) (hw : Region.wanted o (yielded ops a.tmps) = true) (hok : takeOk ops x listed i = true) (hQ : ∀ c a d v w, Q (.panic c) (Act.put a d v) w → Q (.panic c) a w) (hv : ∀ w, S w → (execOp a.eval o).run P w = .ok (.value v) w) (hS : S w)
    (h : AnyE P .any ops Q S x n (listed.setIfInBounds i true) (a.put o.dst v) w) : AnyE P .any ops Q S x (n + 1) listed a w := by
  simp only [takeOk, Bool.and_eq_true] at hok
  exact any_take v ho hw hok.1.1.1 hok.1.1.2 hok.1.2 hok.2 hQ hv hS h
theorem any_skip (ho : ops[i]? = some o) (hw : Region.wanted o (yielded ops a.tmps) = false) (hs : Region.noSelect ops = true) (hlast : lastB .any ops x = true) (hfree : Region.free .any ops listed i = true)
    (hr : (Region.ready .any ops listed).contains i = true) (hQ : ∀ c a d v w, Q (.panic c) (Act.put a d v) w → Q (.panic c) a w) (hS : S w)
    (h : AnyE P .any ops Q S x n (listed.setIfInBounds i true) (a.put o.dst undef) w) : AnyE P .any ops Q S x (n + 1) listed a w :=
  AnyE.first ho hs hlast (fun c a w => hQ c a _ _ w) n listed a w (Region.free_spec ho hfree) (List.contains_iff_mem.1 hr) (.inr ⟨hw, rfl⟩) hS h
theorem any_sk (ho : ops[i]? = some o) (hw : Region.wanted o (yielded ops a.tmps) = false) (hok : takeOk ops x listed i = true) (hQ : ∀ c a d v w, Q (.panic c) (Act.put a d v) w → Q (.panic c) a w) (hS : S w)
    (h : AnyE P .any ops Q S x n (listed.setIfInBounds i true) (a.put o.dst undef) w) : AnyE P .any ops Q S x (n + 1) listed a w := by
  simp only [takeOk, Bool.and_eq_true] at hok
  exact any_skip ho hw hok.1.1.1 hok.1.1.2 hok.1.2 hok.2 hQ hS h
theorem any_noop (ho : ops[i]? = some o) (hw : Region.wanted o (yielded ops a.tmps) = false) (h1 : S w)
    (h : AnyE P .any ops Q S x n (listed.setIfInBounds i true) (a.put o.dst undef) w) : wpOp P ops Q i (fun a' w' => (i ≠ x → S w') ∧ AnyE P .any ops Q S x n (listed.setIfInBounds i true) a' w') a w := by
  unfold wpOp
  simp only [ho, hw, Bool.false_eq_true, if_false]
  exact ⟨fun _ => h1, h⟩
end
section
variable {u : World} {a : Act} {o : Oper} {x y : Operand}
theorem exec_ixI {b f n c i : Nat} (hi : i < n) (hop : o.op = .indexAddr 38 x y) (hx : a.eval x = .slice (some ⟨b, f, none⟩) n c) (hy : a.eval y = .int .i64 (i : Int)) :
    (execOp a.eval o).run Try.prog u = .ok (.value (.pointer (some ⟨b, f + i, none⟩))) u := by
  have q0 : (0 : Int) ≤ (i : Int) := by omega
  have q1 : (i : Int) < (n : Int) := by omega
  unfold execOp
  simp only [hop, hx, hy]
  go_simp
theorem exec_pickN {c : Operand} {v : Value} (hop : o.op = .pick c x y) (hc : a.eval c = .bool false) (hy : a.eval y = v) : (execOp a.eval o).run Try.prog u = .ok (.value v) u := by
  unfold execOp
  simp only [hop, hc, hy]
  rfl
theorem exec_eqF {F G : Tb.T} {d : Bool} (h : decide (F = G) = d) (hop : o.op = .binOp .eql 24 x y 24) (hx : a.eval x = Tb.tv F) (hy : a.eval y = Tb.tv G) :
    (execOp a.eval o).run Try.prog u = .ok (.value (.bool d)) u := by
  have heq := run_equal_max h
  unfold execOp
  simp only [hop, hx, hy]
  go_simp
end
/-- the slice of an order's variables -/
def Sto.varCs (S : Sto) : Array Value := ((S.vars.map fun (x : Nat) => Value.int .i64 (x : Int)).take S.n).toArray
theorem Sto.varCs_get {S : Sto} (O : S.Ord) (h8 : S.n ≤ 8) {k : Nat} (hk : k < S.n) : S.varCs[k]? = some (.int .i64 ((S.vars.getD k 0 : Nat) : Int)) := by
  unfold Sto.varCs
  rw [List.getElem?_toArray, List.getElem?_take, if_pos hk, List.getElem?_map, List.getD_eq_getElem?_getD, List.getElem?_eq_getElem (show k < S.vars.length by rw [O.len.1]; omega)]
  rfl
theorem Sto.Ext.varCs {S S' : Sto} (E : S.Ext S') : S'.varCs = S.varCs := by unfold Sto.varCs; rw [E.vars, E.n]
/-- what Make gives -/
def MadeRes (base : Nat) (B : Bk) (w : World) (S : Sto) (T : Tb.T) (c : Nat) (e : Ending) (w' : World) : Prop :=
  ∃ S' B', StG w' base B' S' ∧ Stp B w B' w' ∧ S.Ext S' ∧ S.New S' T ∧ S'.hi ≤ S.hi + c ∧ ((∃ r : Nat, e = .returned (.tuple #[.int .u32 (r : Int), .bool true]) ∧ S'.is r = true ∧ S'.tab r = T) ∨ (e = .returned (.tuple #[.int .u32 0, .bool false]) ∧ S'.room ≤ S'.len))
/-- the contract of made, from a level on -/
def MadeIs (k : Nat) : Prop := ∀ (base : Nat) (B : Bk) (S : Sto) (bl : Nat) (F : Tb.T) (w : World), StG w base B S → Loc B w bl 3 S.varCs → k ≤ S.n → (∀ v, v < 8 → (∀ l, k ≤ l → l < S.n → S.vars.getD l 0 ≠ v) → Tb.Free F v) →
    Calls Try.prog 45 #[.pointer (some ⟨B.s, 0, none⟩), Tb.tv F, .slice (some ⟨bl, 0, none⟩) S.n S.n, .int .i64 (k : Int)] w (MadeRes base B w S F (Sto.cost S.n k))
end Go.Proofs.Ythbifeoohphnpaa

/-
  Package spinneyplay: a table's node made: constants.
-/
namespace Go.Proofs.Ythbifeoohphnpaa
set_option linter.unusedVariables false
open Go.RowKit
theorem Tb.cst_f : Tb.cst false = 0#256 := by decide +kernel
theorem Tb.cst_t : Tb.cst true = ~~~(0#256) := by decide +kernel
theorem Tb.cst_ne : decide (Tb.cst false = Tb.cst true) = false := by decide +kernel
theorem Tb.cst_ne2 : decide (Tb.cst true = Tb.cst false) = false := by decide +kernel
theorem MadeRes.same {base : Nat} {B : Bk} {w w' : World} {S : Sto} {T : Tb.T} {c r : Nat} {e : Ending} (G : StG w base B S) (hf : Fr [] w w') (he : e = .returned (.tuple #[.int .u32 (r : Int), .bool true])) (hi : S.is r = true) (ht : S.tab r = T) : MadeRes base B w S T c e w' :=
  ⟨S, B, G.fr0 hf, ⟨hf.mono (by simp), fun b h => .inl h, rfl⟩, Sto.Ext.refl _, Sto.New.refl _ _, by omega, .inl ⟨r, he, hi, ht⟩⟩
set_option maxRecDepth 100000 in
set_option maxHeartbeats 1000000 in
theorem made_zero (base : Nat) (B : Bk) (S : Sto) (bl k c : Nat) (w : World) (G : StG w base B S) :
    Calls Try.prog 45 #[.pointer (some ⟨B.s, 0, none⟩), Tb.tv (Tb.cst false), .slice (some ⟨bl, 0, none⟩) S.n S.n, .int .i64 (k : Int)] w (MadeRes base B w S (Tb.cst false) c) := by
  obtain ⟨F, hF⟩ : ∃ F, F = Tb.cst false := ⟨_, rfl⟩
  rw [← hF]
  have h1 : decide (F = Tb.cst false) = true := by rw [hF]; simp
  have h2 : decide (F = Tb.cst true) = false := by rw [hF]; exact Tb.cst_ne
  have HG := Bx.mk G
  have HF := Bx.mk hF
  have H1 := Bx.mk h1
  have H2 := Bx.mk h2
  have hX0 : Blk (w.alloc (.cells (Tb.tcells F) 24)) w.heap.size 24 (Tb.tcells F) := Blk.new w _ _
  have hF0 : Fr [] w (w.alloc (.cells (Tb.tcells F) 24)) := (Fr.refl _ _).alloc _
  clear G hF h1 h2
  generalize S.n = n at *
  go_enter Try.func45, Try.ntmps45
  go_wp2_with fail
  generalize w.alloc (.cells (Tb.tcells F) 24) = w0 at *
  have HF0 := Bx.mk hF0
  have HX0 := Bx.mk hX0
  clear hF0 hX0
-- ⟦MZ1
  refine region_any 100 (fun u => Fr [] w0 u) (by kernel_rfl) ?_
  generalize hu : World.drew _ = u0
  have hS : Fr [] w0 u0 := by rw [← hu]; exact (Fr.refl _ _).drew
  clear hu
  refine any_tk (i := 0) (Tb.tv F) rfl rfl (by kernel_rfl) (fun _ _ d _ _ h => by cases d <;> exact h) (fun u hS => exec_load rfl rfl (HX0.out.fr hS (by simp))) hS ?_
  try simp only [Act.put, List.getElem_toArray, List.getElem_cons_succ, List.getElem_cons_zero, List.setIfInBounds_toArray, List.set_cons_succ, List.set_cons_zero]
  refine any_branch [1] (by kernel_rfl) rfl fun ix hix => ?_
  simp only [List.mem_cons, List.not_mem_nil, or_false] at hix
  subst hix
  refine any_op rfl rfl fun K hK => ?_
  go_simp
  refine (rconst_any false _).mono ?_
  rintro e u1 ⟨rfl, hb1⟩
  have hf1 := Fr.of_below hb1 (Nat.le_refl _) (S := [])
  replace hS := hS.trans hf1 (by simp)
  clear hb1 hf1
  refine hK _ _ (fun _ => hS) ?_
  try simp only [Act.put, List.getElem_toArray, List.getElem_cons_succ, List.getElem_cons_zero, List.setIfInBounds_toArray, List.set_cons_succ, List.set_cons_zero]
  clear hK
  refine any_tk (i := 2) (.bool true) rfl rfl (by kernel_rfl) (fun _ _ d _ _ h => by cases d <;> exact h) (fun u hS => exec_eqF H1.out rfl rfl rfl) hS ?_
  try simp only [Act.put, List.getElem_toArray, List.getElem_cons_succ, List.getElem_cons_zero, List.setIfInBounds_toArray, List.set_cons_succ, List.set_cons_zero]
  refine any_tk (i := 3) (.bool true) rfl rfl (by kernel_rfl) (fun _ _ d _ _ h => by cases d <;> exact h) (fun u hS => rfl) hS ?_
  try simp only [Act.put, List.getElem_toArray, List.getElem_cons_succ, List.getElem_cons_zero, List.setIfInBounds_toArray, List.set_cons_succ, List.set_cons_zero]
  refine any_sk (i := 4) rfl rfl (by kernel_rfl) (fun _ _ d _ _ h => by cases d <;> exact h) hS ?_
  try simp only [Act.put, List.getElem_toArray, List.getElem_cons_succ, List.getElem_cons_zero, List.setIfInBounds_toArray, List.set_cons_succ, List.set_cons_zero]
  refine any_branch [5] (by kernel_rfl) rfl fun ix hix => ?_
  simp only [List.mem_cons, List.not_mem_nil, or_false] at hix
  subst hix
  refine any_noop rfl rfl hS ?_
  try simp only [Act.put, List.getElem_toArray, List.getElem_cons_succ, List.getElem_cons_zero, List.setIfInBounds_toArray, List.set_cons_succ, List.set_cons_zero]
  refine any_sk (i := 6) rfl rfl (by kernel_rfl) (fun _ _ d _ _ h => by cases d <;> exact h) hS ?_
  try simp only [Act.put, List.getElem_toArray, List.getElem_cons_succ, List.getElem_cons_zero, List.setIfInBounds_toArray, List.set_cons_succ, List.set_cons_zero]
  refine any_tk (i := 7) (.bool true) rfl rfl (by kernel_rfl) (fun _ _ d _ _ h => by cases d <;> exact h) (fun u hS => exec_pick rfl rfl rfl) hS ?_
  try simp only [Act.put, List.getElem_toArray, List.getElem_cons_succ, List.getElem_cons_zero, List.setIfInBounds_toArray, List.set_cons_succ, List.set_cons_zero]
  refine any_end (by kernel_rfl) ?_
-- ⟧
  have HF1 : Bx (Fr [] w u1) := ⟨HF0.out.trans hS (by simp)⟩
  have HX1 : Bx (Blk u1 w.heap.size 24 (Tb.tcells F)) := ⟨HX0.out.fr hS (by simp)⟩
  clear hS
  go_wp2_with fail
-- ⟦MZ2
  refine region_any 100 (fun u => Fr [] u1 u) (by kernel_rfl) ?_
  generalize hu : World.drew _ = v0
  have hS : Fr [] u1 v0 := by rw [← hu]; exact (Fr.refl _ _).drew
  clear hu
  refine any_tk (i := 0) (Tb.tv F) rfl rfl (by kernel_rfl) (fun _ _ d _ _ h => by cases d <;> exact h) (fun u hS => exec_load rfl rfl (HX1.out.fr hS (by simp))) hS ?_
  try simp only [Act.put, List.getElem_toArray, List.getElem_cons_succ, List.getElem_cons_zero, List.setIfInBounds_toArray, List.set_cons_succ, List.set_cons_zero]
  refine any_branch [1] (by kernel_rfl) rfl fun ix hix => ?_
  simp only [List.mem_cons, List.not_mem_nil, or_false] at hix
  subst hix
  refine any_op rfl rfl fun K hK => ?_
  go_simp
  refine (rconst_any true _).mono ?_
  rintro e v1 ⟨rfl, hb1⟩
  have hf1 := Fr.of_below hb1 (Nat.le_refl _) (S := [])
  replace hS := hS.trans hf1 (by simp)
  clear hb1 hf1
  refine hK _ _ (fun _ => hS) ?_
  try simp only [Act.put, List.getElem_toArray, List.getElem_cons_succ, List.getElem_cons_zero, List.setIfInBounds_toArray, List.set_cons_succ, List.set_cons_zero]
  clear hK
  refine any_tk (i := 2) (.bool false) rfl rfl (by kernel_rfl) (fun _ _ d _ _ h => by cases d <;> exact h) (fun u hS => exec_eqF H2.out rfl rfl rfl) hS ?_
  try simp only [Act.put, List.getElem_toArray, List.getElem_cons_succ, List.getElem_cons_zero, List.setIfInBounds_toArray, List.set_cons_succ, List.set_cons_zero]
  refine any_end (by kernel_rfl) ?_
-- ⟧
  have HF2 : Bx (Fr [] w v1) := ⟨HF1.out.trans hS (by simp)⟩
  clear hS
  go_wp2_with fail
  go_ret2
  exact MadeRes.same (r := 0) HG.out HF2.out rfl (Sto.is_small (by omega)) (by rw [HF.out, Sto.tab_zero, Tb.cst_f])
set_option maxRecDepth 100000 in
set_option maxHeartbeats 1000000 in
theorem made_one (base : Nat) (B : Bk) (S : Sto) (bl k c : Nat) (w : World) (G : StG w base B S) :
    Calls Try.prog 45 #[.pointer (some ⟨B.s, 0, none⟩), Tb.tv (Tb.cst true), .slice (some ⟨bl, 0, none⟩) S.n S.n, .int .i64 (k : Int)] w (MadeRes base B w S (Tb.cst true) c) := by
  obtain ⟨F, hF⟩ : ∃ F, F = Tb.cst true := ⟨_, rfl⟩
  rw [← hF]
  have h1 : decide (F = Tb.cst false) = false := by rw [hF]; exact Tb.cst_ne2
  have h2 : decide (F = Tb.cst true) = true := by rw [hF]; simp
  have HG := Bx.mk G
  have HF := Bx.mk hF
  have H1 := Bx.mk h1
  have H2 := Bx.mk h2
  have hX0 : Blk (w.alloc (.cells (Tb.tcells F) 24)) w.heap.size 24 (Tb.tcells F) := Blk.new w _ _
  have hF0 : Fr [] w (w.alloc (.cells (Tb.tcells F) 24)) := (Fr.refl _ _).alloc _
  clear G hF h1 h2
  generalize S.n = n at *
  go_enter Try.func45, Try.ntmps45
  go_wp2_with fail
  generalize w.alloc (.cells (Tb.tcells F) 24) = w0 at *
  have HF0 := Bx.mk hF0
  have HX0 := Bx.mk hX0
  clear hF0 hX0
-- ⟦MO1
  refine region_any 100 (fun u => Fr [] w0 u) (by kernel_rfl) ?_
  generalize hu : World.drew _ = u0
  have hS : Fr [] w0 u0 := by rw [← hu]; exact (Fr.refl _ _).drew
  clear hu
  refine any_tk (i := 0) (Tb.tv F) rfl rfl (by kernel_rfl) (fun _ _ d _ _ h => by cases d <;> exact h) (fun u hS => exec_load rfl rfl (HX0.out.fr hS (by simp))) hS ?_
  try simp only [Act.put, List.getElem_toArray, List.getElem_cons_succ, List.getElem_cons_zero, List.setIfInBounds_toArray, List.set_cons_succ, List.set_cons_zero]
  refine any_branch [1] (by kernel_rfl) rfl fun ix hix => ?_
  simp only [List.mem_cons, List.not_mem_nil, or_false] at hix
  subst hix
  refine any_op rfl rfl fun K hK => ?_
  go_simp
  refine (rconst_any false _).mono ?_
  rintro e u1 ⟨rfl, hb1⟩
  have hf1 := Fr.of_below hb1 (Nat.le_refl _) (S := [])
  replace hS := hS.trans hf1 (by simp)
  clear hb1 hf1
  refine hK _ _ (fun _ => hS) ?_
  try simp only [Act.put, List.getElem_toArray, List.getElem_cons_succ, List.getElem_cons_zero, List.setIfInBounds_toArray, List.set_cons_succ, List.set_cons_zero]
  clear hK
  refine any_tk (i := 2) (.bool false) rfl rfl (by kernel_rfl) (fun _ _ d _ _ h => by cases d <;> exact h) (fun u hS => exec_eqF H1.out rfl rfl rfl) hS ?_
  try simp only [Act.put, List.getElem_toArray, List.getElem_cons_succ, List.getElem_cons_zero, List.setIfInBounds_toArray, List.set_cons_succ, List.set_cons_zero]
  refine any_tk (i := 3) (.bool false) rfl rfl (by kernel_rfl) (fun _ _ d _ _ h => by cases d <;> exact h) (fun u hS => rfl) hS ?_
  try simp only [Act.put, List.getElem_toArray, List.getElem_cons_succ, List.getElem_cons_zero, List.setIfInBounds_toArray, List.set_cons_succ, List.set_cons_zero]
  refine any_tk (i := 4) (Tb.tv F) rfl rfl (by kernel_rfl) (fun _ _ d _ _ h => by cases d <;> exact h) (fun u hS => exec_load rfl rfl (HX0.out.fr hS (by simp))) hS ?_
  try simp only [Act.put, List.getElem_toArray, List.getElem_cons_succ, List.getElem_cons_zero, List.setIfInBounds_toArray, List.set_cons_succ, List.set_cons_zero]
  refine any_branch [5] (by kernel_rfl) rfl fun ix hix => ?_
  simp only [List.mem_cons, List.not_mem_nil, or_false] at hix
  subst hix
  refine any_op rfl rfl fun K hK => ?_
  go_simp
  refine (rconst_any true _).mono ?_
  rintro e u2 ⟨rfl, hb2⟩
  have hf2 := Fr.of_below hb2 (Nat.le_refl _) (S := [])
  replace hS := hS.trans hf2 (by simp)
  clear hb2 hf2
  refine hK _ _ (fun _ => hS) ?_
  try simp only [Act.put, List.getElem_toArray, List.getElem_cons_succ, List.getElem_cons_zero, List.setIfInBounds_toArray, List.set_cons_succ, List.set_cons_zero]
  clear hK
  refine any_tk (i := 6) (.bool true) rfl rfl (by kernel_rfl) (fun _ _ d _ _ h => by cases d <;> exact h) (fun u hS => exec_eqF H2.out rfl rfl rfl) hS ?_
  try simp only [Act.put, List.getElem_toArray, List.getElem_cons_succ, List.getElem_cons_zero, List.setIfInBounds_toArray, List.set_cons_succ, List.set_cons_zero]
  refine any_tk (i := 7) (.bool true) rfl rfl (by kernel_rfl) (fun _ _ d _ _ h => by cases d <;> exact h) (fun u hS => exec_pickN rfl rfl rfl) hS ?_
  try simp only [Act.put, List.getElem_toArray, List.getElem_cons_succ, List.getElem_cons_zero, List.setIfInBounds_toArray, List.set_cons_succ, List.set_cons_zero]
  refine any_end (by kernel_rfl) ?_
-- ⟧
  have HF1 : Bx (Fr [] w u2) := ⟨HF0.out.trans hS (by simp)⟩
  have HX1 : Bx (Blk u2 w.heap.size 24 (Tb.tcells F)) := ⟨HX0.out.fr hS (by simp)⟩
  clear hS
  go_wp2_with fail
-- ⟦MO2
  refine region_any 100 (fun u => Fr [] u2 u) (by kernel_rfl) ?_
  generalize hu : World.drew _ = v0
  have hS : Fr [] u2 v0 := by rw [← hu]; exact (Fr.refl _ _).drew
  clear hu
  refine any_tk (i := 0) (Tb.tv F) rfl rfl (by kernel_rfl) (fun _ _ d _ _ h => by cases d <;> exact h) (fun u hS => exec_load rfl rfl (HX1.out.fr hS (by simp))) hS ?_
  try simp only [Act.put, List.getElem_toArray, List.getElem_cons_succ, List.getElem_cons_zero, List.setIfInBounds_toArray, List.set_cons_succ, List.set_cons_zero]
  refine any_branch [1] (by kernel_rfl) rfl fun ix hix => ?_
  simp only [List.mem_cons, List.not_mem_nil, or_false] at hix
  subst hix
  refine any_op rfl rfl fun K hK => ?_
  go_simp
  refine (rconst_any true _).mono ?_
  rintro e v1 ⟨rfl, hb1⟩
  have hf1 := Fr.of_below hb1 (Nat.le_refl _) (S := [])
  replace hS := hS.trans hf1 (by simp)
  clear hb1 hf1
  refine hK _ _ (fun _ => hS) ?_
  try simp only [Act.put, List.getElem_toArray, List.getElem_cons_succ, List.getElem_cons_zero, List.setIfInBounds_toArray, List.set_cons_succ, List.set_cons_zero]
  clear hK
  refine any_tk (i := 2) (.bool true) rfl rfl (by kernel_rfl) (fun _ _ d _ _ h => by cases d <;> exact h) (fun u hS => exec_eqF H2.out rfl rfl rfl) hS ?_
  try simp only [Act.put, List.getElem_toArray, List.getElem_cons_succ, List.getElem_cons_zero, List.setIfInBounds_toArray, List.set_cons_succ, List.set_cons_zero]
  refine any_end (by kernel_rfl) ?_
-- ⟧
  have HF2 : Bx (Fr [] w v1) := ⟨HF1.out.trans hS (by simp)⟩
  clear hS
  go_wp2_with fail
  go_ret2
  exact MadeRes.same (r := 1) HG.out HF2.out rfl (Sto.is_small (by omega)) (by rw [HF.out, Sto.tab_one, Tb.cst_t])
end Go.Proofs.Ythbifeoohphnpaa
