/-
  The walks of the document's tables, first part: word by word, a value.
-/
import Derived.Test.YtfgokhafiffbaaaTruthC
namespace Go.Proofs.Ytfgokhafiffbaaa
set_option linter.unusedVariables false
open Go.RowKit

set_option maxRecDepth 100000 in
set_option maxHeartbeats 1000000 in
theorem rand_raw (f g : Tb.T) (w : World) :
    Calls Try.prog 27 #[Tb.tv f, Tb.tv g] w fun e w' => e = .returned (.agg #[.int .u64 (bits .and .u64 (Tb.wd f 0) (Tb.wd g 0)), .int .u64 (bits .and .u64 (Tb.wd f 1) (Tb.wd g 1)), .int .u64 (bits .and .u64 (Tb.wd f 2) (Tb.wd g 2)), .int .u64 (bits .and .u64 (Tb.wd f 3) (Tb.wd g 3))]) ∧ Below w.heap.size w w' := by
  go_enter Try.func27, Try.ntmps27
  go_wp2_with fail
  refine wp_loop_rounds 5 ?_
  rw [rounds_succ]
  go_wp2_with fail
  refine region_tail 9 (by kernel_rfl) (by kernel_rfl) ?_
  simp only [List.take_succ_cons, List.take_zero, List.drop_succ_cons, List.drop_zero]
  repeat still_step
  refine wpStill_nil ?_
  go_wp2_with fail
  rw [rounds_succ]
  go_wp2_with fail
  refine region_tail 9 (by kernel_rfl) (by kernel_rfl) ?_
  simp only [List.take_succ_cons, List.take_zero, List.drop_succ_cons, List.drop_zero]
  repeat still_step
  refine wpStill_nil ?_
  go_wp2_with fail
  rw [rounds_succ]
  go_wp2_with fail
  refine region_tail 9 (by kernel_rfl) (by kernel_rfl) ?_
  simp only [List.take_succ_cons, List.take_zero, List.drop_succ_cons, List.drop_zero]
  repeat still_step
  refine wpStill_nil ?_
  go_wp2_with fail
  rw [rounds_succ]
  go_wp2_with fail
  refine region_tail 9 (by kernel_rfl) (by kernel_rfl) ?_
  simp only [List.take_succ_cons, List.take_zero, List.drop_succ_cons, List.drop_zero]
  repeat still_step
  refine wpStill_nil ?_
  go_wp2_with fail
  rw [rounds_succ]
  go_wp2_with fail
  refine bodyPost_ret (v := .agg #[.int .u64 (bits .and .u64 (Tb.wd f 0) (Tb.wd g 0)), .int .u64 (bits .and .u64 (Tb.wd f 1) (Tb.wd g 1)), .int .u64 (bits .and .u64 (Tb.wd f 2) (Tb.wd g 2)), .int .u64 (bits .and .u64 (Tb.wd f 3) (Tb.wd g 3))]) (by simp [results, Try.results27, go_sem]) rfl ⟨rfl, ?_⟩
  (repeat (first | (with_reducible exact Below.refl _ _) | (with_reducible assumption) | (with_reducible refine Below.drew ?_) | (with_reducible refine Below.setCell ?_ ?_ _; rotate_left; (first | omega | (simp <;> omega))) | (with_reducible refine Below.alloc ?_ ?_ _; rotate_left; (first | omega | (simp <;> omega)))))
theorem rand_any (f g : Tb.T) (w : World) :
    Calls Try.prog 27 #[Tb.tv f, Tb.tv g] w fun e w' => e = .returned (Tb.tv (f &&& g)) ∧ Below w.heap.size w w' := by
  have h := rand_raw f g w
  rw [← Tb.wd_and f g 0, ← Tb.wd_and f g 1, ← Tb.wd_and f g 2, ← Tb.wd_and f g 3] at h
  exact h

set_option maxRecDepth 100000 in
set_option maxHeartbeats 1000000 in
theorem ror_raw (f g : Tb.T) (w : World) :
    Calls Try.prog 25 #[Tb.tv f, Tb.tv g] w fun e w' => e = .returned (.agg #[.int .u64 (bits .or .u64 (Tb.wd f 0) (Tb.wd g 0)), .int .u64 (bits .or .u64 (Tb.wd f 1) (Tb.wd g 1)), .int .u64 (bits .or .u64 (Tb.wd f 2) (Tb.wd g 2)), .int .u64 (bits .or .u64 (Tb.wd f 3) (Tb.wd g 3))]) ∧ Below w.heap.size w w' := by
  go_enter Try.func25, Try.ntmps25
  go_wp2_with fail
  refine wp_loop_rounds 5 ?_
  rw [rounds_succ]
  go_wp2_with fail
  refine region_tail 9 (by kernel_rfl) (by kernel_rfl) ?_
  simp only [List.take_succ_cons, List.take_zero, List.drop_succ_cons, List.drop_zero]
  repeat still_step
  refine wpStill_nil ?_
  go_wp2_with fail
  rw [rounds_succ]
  go_wp2_with fail
  refine region_tail 9 (by kernel_rfl) (by kernel_rfl) ?_
  simp only [List.take_succ_cons, List.take_zero, List.drop_succ_cons, List.drop_zero]
  repeat still_step
  refine wpStill_nil ?_
  go_wp2_with fail
  rw [rounds_succ]
  go_wp2_with fail
  refine region_tail 9 (by kernel_rfl) (by kernel_rfl) ?_
  simp only [List.take_succ_cons, List.take_zero, List.drop_succ_cons, List.drop_zero]
  repeat still_step
  refine wpStill_nil ?_
  go_wp2_with fail
  rw [rounds_succ]
  go_wp2_with fail
  refine region_tail 9 (by kernel_rfl) (by kernel_rfl) ?_
  simp only [List.take_succ_cons, List.take_zero, List.drop_succ_cons, List.drop_zero]
  repeat still_step
  refine wpStill_nil ?_
  go_wp2_with fail
  rw [rounds_succ]
  go_wp2_with fail
  refine bodyPost_ret (v := .agg #[.int .u64 (bits .or .u64 (Tb.wd f 0) (Tb.wd g 0)), .int .u64 (bits .or .u64 (Tb.wd f 1) (Tb.wd g 1)), .int .u64 (bits .or .u64 (Tb.wd f 2) (Tb.wd g 2)), .int .u64 (bits .or .u64 (Tb.wd f 3) (Tb.wd g 3))]) (by simp [results, Try.results25, go_sem]) rfl ⟨rfl, ?_⟩
  (repeat (first | (with_reducible exact Below.refl _ _) | (with_reducible assumption) | (with_reducible refine Below.drew ?_) | (with_reducible refine Below.setCell ?_ ?_ _; rotate_left; (first | omega | (simp <;> omega))) | (with_reducible refine Below.alloc ?_ ?_ _; rotate_left; (first | omega | (simp <;> omega)))))
theorem ror_any (f g : Tb.T) (w : World) :
    Calls Try.prog 25 #[Tb.tv f, Tb.tv g] w fun e w' => e = .returned (Tb.tv (f ||| g)) ∧ Below w.heap.size w w' := by
  have h := ror_raw f g w
  rw [← Tb.wd_or f g 0, ← Tb.wd_or f g 1, ← Tb.wd_or f g 2, ← Tb.wd_or f g 3] at h
  exact h

set_option maxRecDepth 100000 in
set_option maxHeartbeats 1000000 in
theorem rxor_raw (f g : Tb.T) (w : World) :
    Calls Try.prog 29 #[Tb.tv f, Tb.tv g] w fun e w' => e = .returned (.agg #[.int .u64 (bits .xor .u64 (Tb.wd f 0) (Tb.wd g 0)), .int .u64 (bits .xor .u64 (Tb.wd f 1) (Tb.wd g 1)), .int .u64 (bits .xor .u64 (Tb.wd f 2) (Tb.wd g 2)), .int .u64 (bits .xor .u64 (Tb.wd f 3) (Tb.wd g 3))]) ∧ Below w.heap.size w w' := by
  go_enter Try.func29, Try.ntmps29
  go_wp2_with fail
  refine wp_loop_rounds 5 ?_
  rw [rounds_succ]
  go_wp2_with fail
  refine region_tail 9 (by kernel_rfl) (by kernel_rfl) ?_
  simp only [List.take_succ_cons, List.take_zero, List.drop_succ_cons, List.drop_zero]
  repeat still_step
  refine wpStill_nil ?_
  go_wp2_with fail
  rw [rounds_succ]
  go_wp2_with fail
  refine region_tail 9 (by kernel_rfl) (by kernel_rfl) ?_
  simp only [List.take_succ_cons, List.take_zero, List.drop_succ_cons, List.drop_zero]
  repeat still_step
  refine wpStill_nil ?_
  go_wp2_with fail
  rw [rounds_succ]
  go_wp2_with fail
  refine region_tail 9 (by kernel_rfl) (by kernel_rfl) ?_
  simp only [List.take_succ_cons, List.take_zero, List.drop_succ_cons, List.drop_zero]
  repeat still_step
  refine wpStill_nil ?_
  go_wp2_with fail
  rw [rounds_succ]
  go_wp2_with fail
  refine region_tail 9 (by kernel_rfl) (by kernel_rfl) ?_
  simp only [List.take_succ_cons, List.take_zero, List.drop_succ_cons, List.drop_zero]
  repeat still_step
  refine wpStill_nil ?_
  go_wp2_with fail
  rw [rounds_succ]
  go_wp2_with fail
  refine bodyPost_ret (v := .agg #[.int .u64 (bits .xor .u64 (Tb.wd f 0) (Tb.wd g 0)), .int .u64 (bits .xor .u64 (Tb.wd f 1) (Tb.wd g 1)), .int .u64 (bits .xor .u64 (Tb.wd f 2) (Tb.wd g 2)), .int .u64 (bits .xor .u64 (Tb.wd f 3) (Tb.wd g 3))]) (by simp [results, Try.results29, go_sem]) rfl ⟨rfl, ?_⟩
  (repeat (first | (with_reducible exact Below.refl _ _) | (with_reducible assumption) | (with_reducible refine Below.drew ?_) | (with_reducible refine Below.setCell ?_ ?_ _; rotate_left; (first | omega | (simp <;> omega))) | (with_reducible refine Below.alloc ?_ ?_ _; rotate_left; (first | omega | (simp <;> omega)))))
theorem rxor_any (f g : Tb.T) (w : World) :
    Calls Try.prog 29 #[Tb.tv f, Tb.tv g] w fun e w' => e = .returned (Tb.tv (f ^^^ g)) ∧ Below w.heap.size w w' := by
  have h := rxor_raw f g w
  rw [← Tb.wd_xor f g 0, ← Tb.wd_xor f g 1, ← Tb.wd_xor f g 2, ← Tb.wd_xor f g 3] at h
  exact h

set_option maxRecDepth 100000 in
set_option maxHeartbeats 1000000 in
theorem rnot_raw (f : Tb.T) (w : World) :
    Calls Try.prog 26 #[Tb.tv f] w fun e w' => e = .returned (.agg #[.int .u64 (Tb.nt (Tb.wd f 0)), .int .u64 (Tb.nt (Tb.wd f 1)), .int .u64 (Tb.nt (Tb.wd f 2)), .int .u64 (Tb.nt (Tb.wd f 3))]) ∧ Below w.heap.size w w' := by
  have u0 : Op.unary .xor (.int .u64 (Tb.wd f 0)) = pure (.int .u64 (Tb.nt (Tb.wd f 0))) := Tb.nt_op _
  have u1 : Op.unary .xor (.int .u64 (Tb.wd f 1)) = pure (.int .u64 (Tb.nt (Tb.wd f 1))) := Tb.nt_op _
  have u2 : Op.unary .xor (.int .u64 (Tb.wd f 2)) = pure (.int .u64 (Tb.nt (Tb.wd f 2))) := Tb.nt_op _
  have u3 : Op.unary .xor (.int .u64 (Tb.wd f 3)) = pure (.int .u64 (Tb.nt (Tb.wd f 3))) := Tb.nt_op _
  go_enter Try.func26, Try.ntmps26
  go_wp2_with fail
  refine wp_loop_rounds 5 ?_
  rw [rounds_succ]
  go_wp2_with fail
  rw [rounds_succ]
  go_wp2_with fail
  rw [rounds_succ]
  go_wp2_with fail
  rw [rounds_succ]
  go_wp2_with fail
  rw [rounds_succ]
  go_wp2_with fail
  refine bodyPost_ret (v := .agg #[.int .u64 (Tb.nt (Tb.wd f 0)), .int .u64 (Tb.nt (Tb.wd f 1)), .int .u64 (Tb.nt (Tb.wd f 2)), .int .u64 (Tb.nt (Tb.wd f 3))]) (by simp [results, Try.results26, go_sem]) rfl ⟨rfl, ?_⟩
  (repeat (first | (with_reducible exact Below.refl _ _) | (with_reducible assumption) | (with_reducible refine Below.drew ?_) | (with_reducible refine Below.setCell ?_ ?_ _; rotate_left; (first | omega | (simp <;> omega))) | (with_reducible refine Below.alloc ?_ ?_ _; rotate_left; (first | omega | (simp <;> omega)))))
theorem rnot_any (f : Tb.T) (w : World) :
    Calls Try.prog 26 #[Tb.tv f] w fun e w' => e = .returned (Tb.tv (~~~f)) ∧ Below w.heap.size w w' := by
  have h := rnot_raw f w
  rw [Tb.nt_wd f 0 (by omega), Tb.nt_wd f 1 (by omega), Tb.nt_wd f 2 (by omega), Tb.nt_wd f 3 (by omega)] at h
  exact h

end Go.Proofs.Ytfgokhafiffbaaa
