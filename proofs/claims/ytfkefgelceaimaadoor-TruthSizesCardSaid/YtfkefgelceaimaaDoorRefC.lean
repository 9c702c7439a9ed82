/-
  The walks of the document's tables, third part: a variable set for good.
-/
import Derived.Test.YtfkefgelceaimaaDoorRefB
import Derived.Test.YtfkefgelceaimaaDoorFixPlain
namespace Go.Proofs.YtfkefgelceaimaaDoor
set_option linter.unusedVariables false
open Go.RowKit

set_option maxRecDepth 100000 in
set_option maxHeartbeats 1000000 in
theorem rfix_none (f : Tb.T) (v : Int) (b : Bool) (w : World) (hk : Tb.kn v = false) :
    Calls Tryd.prog 44 #[Tb.tv f, .int .i64 v, .bool b] w fun e w' => e = .returned (Tb.tv f) ∧ Below w.heap.size w w' := by
  have hv : ¬ (0 ≤ v ∧ v < 8) := by unfold Tb.kn at hk; simp at hk; omega
  clear hk
  by_cases h0 : v < 0
  · clear hv
    go_enter Tryd.func44, Tryd.ntmps44
    go_wp2_with fail
    refine bodyPost_ret (v := Tb.tv f) (by simp [results, Tryd.results44, go_sem]) rfl ⟨rfl, ?_⟩
    (repeat (first | (with_reducible exact Below.refl _ _) | (with_reducible assumption) | (with_reducible refine Below.drew ?_) | (with_reducible refine Below.setCell ?_ ?_ _; rotate_left; (first | omega | (simp <;> omega))) | (with_reducible refine Below.alloc ?_ ?_ _; rotate_left; (first | omega | (simp <;> omega)))))
  · have h8 : v ≥ 8 := by omega
    clear hv
    go_enter Tryd.func44, Tryd.ntmps44
    go_wp2_with fail
    refine bodyPost_ret (v := Tb.tv f) (by simp [results, Tryd.results44, go_sem]) rfl ⟨rfl, ?_⟩
    (repeat (first | (with_reducible exact Below.refl _ _) | (with_reducible assumption) | (with_reducible refine Below.drew ?_) | (with_reducible refine Below.setCell ?_ ?_ _; rotate_left; (first | omega | (simp <;> omega))) | (with_reducible refine Below.alloc ?_ ?_ _; rotate_left; (first | omega | (simp <;> omega)))))

set_option maxRecDepth 100000 in
set_option maxHeartbeats 1000000 in
theorem rfix6true_raw (f : Tb.T) (w : World) :
    Calls Tryd.prog 44 #[Tb.tv f, .int .i64 6, .bool true] w fun e w' => e = .returned (.agg #[.int .u64 (Tb.wd f 1), .int .u64 (Tb.wd f 1), .int .u64 (Tb.wd f 3), .int .u64 (Tb.wd f 3)]) ∧ Below w.heap.size w w' := by
  have a0 : bits .and .i64 0 1 = 0 := by decide +kernel
  have o0 : bits .or .i64 0 1 = 1 := by decide +kernel
  have a1 : bits .and .i64 1 1 = 1 := by decide +kernel
  have a2 : bits .and .i64 2 1 = 0 := by decide +kernel
  have o2 : bits .or .i64 2 1 = 3 := by decide +kernel
  have a3 : bits .and .i64 3 1 = 1 := by decide +kernel
  go_enter Tryd.func44, Tryd.ntmps44
  go_wp2_with fail
  refine wp_loop_rounds 5 ?_
  rw [rounds_succ]
  go_wp2_with fail
  rw [rounds_succ]
  go_wp2_with fail
  rw [rounds_succ]
  go_wp2_with fail
  rw [rounds_succ]
  go_wp2_with fail
  rw [rounds_succ]
  go_wp2_with fail
  refine bodyPost_ret (v := .agg #[.int .u64 (Tb.wd f 1), .int .u64 (Tb.wd f 1), .int .u64 (Tb.wd f 3), .int .u64 (Tb.wd f 3)]) (by simp [results, Tryd.results44, go_sem]) rfl ⟨rfl, ?_⟩
  (repeat (first | (with_reducible exact Below.refl _ _) | (with_reducible assumption) | (with_reducible refine Below.drew ?_) | (with_reducible refine Below.setCell ?_ ?_ _; rotate_left; (first | omega | (simp <;> omega))) | (with_reducible refine Below.alloc ?_ ?_ _; rotate_left; (first | omega | (simp <;> omega)))))
theorem rfix6true_any (f : Tb.T) (w : World) :
    Calls Tryd.prog 44 #[Tb.tv f, .int .i64 6, .bool true] w fun e w' => e = .returned (Tb.tv (Tb.fix f 6 true)) ∧ Below w.heap.size w w' := by
  have h := rfix6true_raw f w
  have e0 := (Tb.fix6 f 0 (by omega)).1
  have e1 := (Tb.fix6 f 1 (by omega)).1
  have e2 := (Tb.fix6 f 2 (by omega)).1
  have e3 := (Tb.fix6 f 3 (by omega)).1
  unfold Tb.tv
  rw [e0, e1, e2, e3]
  exact h

set_option maxRecDepth 100000 in
set_option maxHeartbeats 1000000 in
theorem rfix6false_raw (f : Tb.T) (w : World) :
    Calls Tryd.prog 44 #[Tb.tv f, .int .i64 6, .bool false] w fun e w' => e = .returned (.agg #[.int .u64 (Tb.wd f 0), .int .u64 (Tb.wd f 0), .int .u64 (Tb.wd f 2), .int .u64 (Tb.wd f 2)]) ∧ Below w.heap.size w w' := by
  have a0 : bits .and .i64 0 1 = 0 := by decide +kernel
  have o0 : bits .or .i64 0 1 = 1 := by decide +kernel
  have a1 : bits .and .i64 1 1 = 1 := by decide +kernel
  have a2 : bits .and .i64 2 1 = 0 := by decide +kernel
  have o2 : bits .or .i64 2 1 = 3 := by decide +kernel
  have a3 : bits .and .i64 3 1 = 1 := by decide +kernel
  go_enter Tryd.func44, Tryd.ntmps44
  go_wp2_with fail
  refine wp_loop_rounds 5 ?_
  rw [rounds_succ]
  go_wp2_with fail
  rw [rounds_succ]
  go_wp2_with fail
  rw [rounds_succ]
  go_wp2_with fail
  rw [rounds_succ]
  go_wp2_with fail
  rw [rounds_succ]
  go_wp2_with fail
  refine bodyPost_ret (v := .agg #[.int .u64 (Tb.wd f 0), .int .u64 (Tb.wd f 0), .int .u64 (Tb.wd f 2), .int .u64 (Tb.wd f 2)]) (by simp [results, Tryd.results44, go_sem]) rfl ⟨rfl, ?_⟩
  (repeat (first | (with_reducible exact Below.refl _ _) | (with_reducible assumption) | (with_reducible refine Below.drew ?_) | (with_reducible refine Below.setCell ?_ ?_ _; rotate_left; (first | omega | (simp <;> omega))) | (with_reducible refine Below.alloc ?_ ?_ _; rotate_left; (first | omega | (simp <;> omega)))))
theorem rfix6false_any (f : Tb.T) (w : World) :
    Calls Tryd.prog 44 #[Tb.tv f, .int .i64 6, .bool false] w fun e w' => e = .returned (Tb.tv (Tb.fix f 6 false)) ∧ Below w.heap.size w w' := by
  have h := rfix6false_raw f w
  have e0 := (Tb.fix6 f 0 (by omega)).2.1
  have e1 := (Tb.fix6 f 1 (by omega)).2.1
  have e2 := (Tb.fix6 f 2 (by omega)).2.1
  have e3 := (Tb.fix6 f 3 (by omega)).2.1
  unfold Tb.tv
  rw [e0, e1, e2, e3]
  exact h

set_option maxRecDepth 100000 in
set_option maxHeartbeats 1000000 in
theorem rfix7true_raw (f : Tb.T) (w : World) :
    Calls Tryd.prog 44 #[Tb.tv f, .int .i64 7, .bool true] w fun e w' => e = .returned (.agg #[.int .u64 (Tb.wd f 2), .int .u64 (Tb.wd f 3), .int .u64 (Tb.wd f 2), .int .u64 (Tb.wd f 3)]) ∧ Below w.heap.size w w' := by
  have a0 : bits .and .i64 0 2 = 0 := by decide +kernel
  have o0 : bits .or .i64 0 2 = 2 := by decide +kernel
  have a1 : bits .and .i64 1 2 = 0 := by decide +kernel
  have o1 : bits .or .i64 1 2 = 3 := by decide +kernel
  have a2 : bits .and .i64 2 2 = 2 := by decide +kernel
  have a3 : bits .and .i64 3 2 = 2 := by decide +kernel
  go_enter Tryd.func44, Tryd.ntmps44
  go_wp2_with fail
  refine wp_loop_rounds 5 ?_
  rw [rounds_succ]
  go_wp2_with fail
  rw [rounds_succ]
  go_wp2_with fail
  rw [rounds_succ]
  go_wp2_with fail
  rw [rounds_succ]
  go_wp2_with fail
  rw [rounds_succ]
  go_wp2_with fail
  refine bodyPost_ret (v := .agg #[.int .u64 (Tb.wd f 2), .int .u64 (Tb.wd f 3), .int .u64 (Tb.wd f 2), .int .u64 (Tb.wd f 3)]) (by simp [results, Tryd.results44, go_sem]) rfl ⟨rfl, ?_⟩
  (repeat (first | (with_reducible exact Below.refl _ _) | (with_reducible assumption) | (with_reducible refine Below.drew ?_) | (with_reducible refine Below.setCell ?_ ?_ _; rotate_left; (first | omega | (simp <;> omega))) | (with_reducible refine Below.alloc ?_ ?_ _; rotate_left; (first | omega | (simp <;> omega)))))
theorem rfix7true_any (f : Tb.T) (w : World) :
    Calls Tryd.prog 44 #[Tb.tv f, .int .i64 7, .bool true] w fun e w' => e = .returned (Tb.tv (Tb.fix f 7 true)) ∧ Below w.heap.size w w' := by
  have h := rfix7true_raw f w
  have e0 := (Tb.fix6 f 0 (by omega)).2.2.1
  have e1 := (Tb.fix6 f 1 (by omega)).2.2.1
  have e2 := (Tb.fix6 f 2 (by omega)).2.2.1
  have e3 := (Tb.fix6 f 3 (by omega)).2.2.1
  unfold Tb.tv
  rw [e0, e1, e2, e3]
  exact h

set_option maxRecDepth 100000 in
set_option maxHeartbeats 1000000 in
theorem rfix7false_raw (f : Tb.T) (w : World) :
    Calls Tryd.prog 44 #[Tb.tv f, .int .i64 7, .bool false] w fun e w' => e = .returned (.agg #[.int .u64 (Tb.wd f 0), .int .u64 (Tb.wd f 1), .int .u64 (Tb.wd f 0), .int .u64 (Tb.wd f 1)]) ∧ Below w.heap.size w w' := by
  have a0 : bits .and .i64 0 2 = 0 := by decide +kernel
  have o0 : bits .or .i64 0 2 = 2 := by decide +kernel
  have a1 : bits .and .i64 1 2 = 0 := by decide +kernel
  have o1 : bits .or .i64 1 2 = 3 := by decide +kernel
  have a2 : bits .and .i64 2 2 = 2 := by decide +kernel
  have a3 : bits .and .i64 3 2 = 2 := by decide +kernel
  go_enter Tryd.func44, Tryd.ntmps44
  go_wp2_with fail
  refine wp_loop_rounds 5 ?_
  rw [rounds_succ]
  go_wp2_with fail
  rw [rounds_succ]
  go_wp2_with fail
  rw [rounds_succ]
  go_wp2_with fail
  rw [rounds_succ]
  go_wp2_with fail
  rw [rounds_succ]
  go_wp2_with fail
  refine bodyPost_ret (v := .agg #[.int .u64 (Tb.wd f 0), .int .u64 (Tb.wd f 1), .int .u64 (Tb.wd f 0), .int .u64 (Tb.wd f 1)]) (by simp [results, Tryd.results44, go_sem]) rfl ⟨rfl, ?_⟩
  (repeat (first | (with_reducible exact Below.refl _ _) | (with_reducible assumption) | (with_reducible refine Below.drew ?_) | (with_reducible refine Below.setCell ?_ ?_ _; rotate_left; (first | omega | (simp <;> omega))) | (with_reducible refine Below.alloc ?_ ?_ _; rotate_left; (first | omega | (simp <;> omega)))))
theorem rfix7false_any (f : Tb.T) (w : World) :
    Calls Tryd.prog 44 #[Tb.tv f, .int .i64 7, .bool false] w fun e w' => e = .returned (Tb.tv (Tb.fix f 7 false)) ∧ Below w.heap.size w w' := by
  have h := rfix7false_raw f w
  have e0 := (Tb.fix6 f 0 (by omega)).2.2.2
  have e1 := (Tb.fix6 f 1 (by omega)).2.2.2
  have e2 := (Tb.fix6 f 2 (by omega)).2.2.2
  have e3 := (Tb.fix6 f 3 (by omega)).2.2.2
  unfold Tb.tv
  rw [e0, e1, e2, e3]
  exact h
end Go.Proofs.YtfkefgelceaimaaDoor
