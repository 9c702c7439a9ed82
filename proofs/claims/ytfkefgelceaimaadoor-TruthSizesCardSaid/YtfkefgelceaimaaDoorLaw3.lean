/-
  What the walks over tables are made of, more: an element of a list of ints read, tables that differ or not.
-/
import Derived.Test.YtfkefgelceaimaaDoorLaw2
namespace Go.Proofs.YtfkefgelceaimaaDoor
set_option linter.unusedVariables false
open Go.RowKit
section
variable {a : Act} {u : World} {o : Oper} {x y : Operand}
theorem exec_index {g off n cap k : Nat} (hop : o.op = .indexAddr 26 x y) (hx : a.eval x = .slice (some ⟨g, off, none⟩) n cap) (hy : a.eval y = .int .i64 (k : Int)) (hk : k < n) :
    (execOp a.eval o).run Tryd.prog u = .ok (.value (.pointer (some ⟨g, off + k, none⟩))) u := by
  have h1 : (k : Int) < (n : Int) := by omega
  have h2 : 0 ≤ (k : Int) := by omega
  unfold execOp
  simp only [hop, hx, hy]
  go_simp
theorem exec_loadI {g off : Nat} {v : Int} (hop : o.op = .load 3 x) (hx : a.eval x = .pointer (some ⟨g, off, none⟩)) (hc : u.cell? ⟨g, off, none⟩ = some (.int .i64 v)) :
    (execOp a.eval o).run Tryd.prog u = .ok (.value (.int .i64 v)) u := by
  unfold execOp
  simp only [hop, hx]
  go_simp
theorem exec_neT1 {F G : Tb.T} (hop : o.op = .binOp .neq 24 x y 24) (hx : a.eval x = Tb.tv F) (hy : a.eval y = Tb.tv G) (h : F ≠ G) :
    (execOp a.eval o).run Tryd.prog u = .ok (.value (.bool true)) u := by
  rw [exec_neT hop hx hy]; simp [h]
theorem exec_neT0 {F G : Tb.T} (hop : o.op = .binOp .neq 24 x y 24) (hx : a.eval x = Tb.tv F) (hy : a.eval y = Tb.tv G) (h : F = G) :
    (execOp a.eval o).run Tryd.prog u = .ok (.value (.bool false)) u := by
  rw [exec_neT hop hx hy]; simp [h]
theorem exec_pick0 {P : Program} {c : Operand} {v : Value} (hop : o.op = .pick c x y) (hc : a.eval c = .bool false) (hy : a.eval y = v) : (execOp a.eval o).run P u = .ok (.value v) u := by
  unfold execOp
  simp only [hop, hc, hy]
  rfl
end
end Go.Proofs.YtfkefgelceaimaaDoor
