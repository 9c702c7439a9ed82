/-
  What the walks of the laws over tables are made of, more: numbers, bools, empty tables.
-/
import Derived.Test.YtfgokhafiffbaaaLaw
import Derived.Test.YtfgokhafiffbaaaQuantPlain
namespace Go.Proofs.Ytfgokhafiffbaaa
set_option linter.unusedVariables false
open Go.RowKit

section
variable {P : Program} {a : Act} {u : World} {o : Oper} {x y : Operand}
theorem exec_bin {op : BinOp} {t t' : TypeId} {p q r : Value} (hop : o.op = .binOp op t x y t') (hx : a.eval x = p) (hy : a.eval y = q) (hg : (eqGuard op t x y p q).run P u = .ok () u) (h : (binOp op t p q).run P u = .ok r u) :
    (execOp a.eval o).run P u = .ok (.value r) u := by
  unfold execOp
  simp only [hop, hx, hy]
  simp [Sem.run_bind, hg, h]
theorem exec_un {op : UnOp} {t : TypeId} {p r : Value} (hop : o.op = .unOp op t x) (hx : a.eval x = p) (h : (Op.unary op p).run P u = .ok r u) :
    (execOp a.eval o).run P u = .ok (.value r) u := by
  unfold execOp
  simp only [hop, hx]
  simp [h]
theorem exec_assign {v : Value} (hop : o.op = .assign x) (hx : a.eval x = v) : (execOp a.eval o).run P u = .ok (.value v) u := by
  unfold execOp
  simp only [hop, hx]
  rfl
theorem exec_pick_and {c : Operand} {p q : Bool} (hop : o.op = .pick c x y) (hc : a.eval c = .bool p) (hx : a.eval x = bif p then .bool q else undef) (hy : a.eval y = .bool false) : (execOp a.eval o).run P u = .ok (.value (.bool (p && q))) u := by
  unfold execOp
  simp only [hop, hc, hx, hy]
  cases p <;> rfl
theorem exec_pick_or {c : Operand} {p q : Bool} (hop : o.op = .pick c x y) (hc : a.eval c = .bool p) (hx : a.eval x = .bool true) (hy : a.eval y = bif p then undef else .bool q) : (execOp a.eval o).run P u = .ok (.value (.bool (p || q))) u := by
  unfold execOp
  simp only [hop, hc, hx, hy]
  cases p <;> rfl
theorem guard_int {op : BinOp} {t : TypeId} {k k' : IntKind} {p q : Int} (P : Program) (u : World) : (eqGuard op t x y (.int k p) (.int k' q)).run P u = .ok () u := by
  unfold eqGuard
  cases op <;> rfl
theorem guard_bool {op : BinOp} {t : TypeId} {p q : Bool} (P : Program) (u : World) : (eqGuard op t x y (.bool p) (.bool q)).run P u = .ok () u := by
  unfold eqGuard
  cases op <;> rfl
end
section
variable {t : TypeId} (P : Program) (u : World)
theorem bin_or8 {m n : Nat} (hm : m < 256) (hn : n < 256) (P : Program) (u : World) : (binOp .or t (.int .u8 (m : Int)) (.int .u8 (n : Int))).run P u = .ok (.int .u8 ((m ||| n : Nat) : Int)) u := by
  rw [← u8_or_nat m n hm hn]; rfl
theorem bin_and8 {m n : Nat} (hm : m < 256) (hn : n < 256) (P : Program) (u : World) : (binOp .and t (.int .u8 (m : Int)) (.int .u8 (n : Int))).run P u = .ok (.int .u8 ((m &&& n : Nat) : Int)) u := by
  rw [← u8_and_nat m n hm hn]; rfl
theorem bin_andNot8 {m n : Nat} (hm : m < 256) (hn : n < 256) (P : Program) (u : World) : (binOp .andNot t (.int .u8 (m : Int)) (.int .u8 (n : Int))).run P u = .ok (.int .u8 ((m &&& (255 - n) : Nat) : Int)) u := by
  rw [← u8_andNot_nat m n hm hn]; rfl
theorem bin_shr8 {m k : Nat} {kk : IntKind} (hm : m < 256) (hk : k < 8) (P : Program) (u : World) : (binOp .shr t (.int .u8 (m : Int)) (.int kk (k : Int))).run P u = .ok (.int .u8 ((m / 2 ^ k : Nat) : Int)) u := by
  have e : (m : Int).fdiv (2 ^ min ((k : Int)).toNat IntKind.u8.bits) = ((m / 2 ^ k : Nat) : Int) := by
    rw [show min ((k : Int)).toNat IntKind.u8.bits = k from by simp [IntKind.bits]; omega]
    rw [Int.fdiv_eq_ediv_of_nonneg _ (by exact_mod_cast Nat.zero_le (2 ^ k))]
    norm_cast
  simp only [binOp, Op.shift]
  rw [if_neg (by omega), e]; rfl
theorem bin_add64 {m n : Nat} (hm : m < 4294967296) (hn : n < 4294967296) (P : Program) (u : World) : (binOp .add t (.int .i64 (m : Int)) (.int .i64 (n : Int))).run P u = .ok (.int .i64 ((m + n : Nat) : Int)) u := by
  have e : IntKind.i64.wrap ((m : Int) + n) = ((m + n : Nat) : Int) := by rw [IntKind.wrap_i64]; omega
  rw [← e]; rfl
theorem bin_mul64 {m n : Nat} (hm : m < 65536) (hn : n < 65536) (P : Program) (u : World) : (binOp .mul t (.int .i64 (m : Int)) (.int .i64 (n : Int))).run P u = .ok (.int .i64 ((m * n : Nat) : Int)) u := by
  have h : m * n < 65536 * 65536 := Nat.mul_lt_mul'' hm hn
  have e : IntKind.i64.wrap ((m : Int) * n) = ((m * n : Nat) : Int) := by rw [IntKind.wrap_i64, ← Int.natCast_mul]; omega
  rw [← e]; rfl
theorem bin_eqN {k : IntKind} {m n : Nat} (P : Program) (u : World) : (binOp .eql t (.int k (m : Int)) (.int k (n : Int))).run P u = .ok (.bool (decide (m = n))) u := by
  have e : decide (m = n) = ((m : Int) == (n : Int)) := by
    rw [Bool.eq_iff_iff, decide_eq_true_iff, beq_iff_eq]; omega
  rw [e]
  simp [binOp, go_sem]
theorem bin_eqN1 {k : IntKind} {m n : Nat} (h : m = n) (P : Program) (u : World) : (binOp .eql t (.int k (m : Int)) (.int k (n : Int))).run P u = .ok (.bool true) u := by
  rw [bin_eqN]; simp [h]
theorem un_not {b : Bool} (P : Program) (u : World) : (Op.unary .not (.bool b)).run P u = .ok (.bool (!b)) u := rfl
end
theorem equal_bool (d : Nat) (p q : Bool) (w : World) : Sem.run Try.prog (Op.equalIn (d + 1) 4 (.bool p) (.bool q)) w = .ok (p == q) w := by
  simp [Op.equalIn, go_sem]
theorem bin_eqB {p q : Bool} (u : World) : (binOp .eql 4 (.bool p) (.bool q)).run Try.prog u = .ok (.bool (p == q)) u := by
  have h := equal_bool 9999 p q u
  simp [binOp, Op.equal, Op.maxDepth, h]
theorem bin_neB {p q : Bool} (u : World) : (binOp .neq 4 (.bool p) (.bool q)).run Try.prog u = .ok (.bool (!(p == q))) u := by
  have h := equal_bool 9999 p q u
  simp [binOp, Op.equal, Op.maxDepth, h]
theorem bin_eqB1 {p q : Bool} (h : p = q) (u : World) : (binOp .eql 4 (.bool p) (.bool q)).run Try.prog u = .ok (.bool true) u := by
  rw [bin_eqB, h]; simp
theorem exec_neT {a : Act} {u : World} {o : Oper} {x y : Operand} {F G : Tb.T} (hop : o.op = .binOp .neq 29 x y 29) (hx : a.eval x = Tb.tv F) (hy : a.eval y = Tb.tv G) :
    (execOp a.eval o).run Try.prog u = .ok (.value (.bool (decide (F ≠ G)))) u := by
  have heq := run_equal_max (F := F) (G := G) rfl
  unfold execOp
  simp only [hop, hx, hy]
  go_simp
theorem exec_conv {a : Act} {u : World} {o : Oper} {x : Operand} {m : Nat} (hop : o.op = .convert 5 3 x) (hx : a.eval x = .int .u8 (m : Int)) (hm : m < 256) :
    (execOp a.eval o).run Try.prog u = .ok (.value (.int .i64 (m : Int))) u := by
  have hw : IntKind.i64.wrap (m : Int) = (m : Int) := by rw [IntKind.wrap_i64]; omega
  unfold execOp
  simp only [hop, hx]
  go_simp
theorem exec_zero {a : Act} {u : World} {o : Oper} (hop : o.op = .build 29 #[]) :
    (execOp a.eval o).run Try.prog u = .ok (.value (Tb.tv 0#256)) u := by
  unfold Tb.tv
  rw [Tb.wd_zero, Tb.wd_zero, Tb.wd_zero, Tb.wd_zero]
  unfold execOp
  simp only [hop]
  go_simp
end Go.Proofs.Ytfgokhafiffbaaa
