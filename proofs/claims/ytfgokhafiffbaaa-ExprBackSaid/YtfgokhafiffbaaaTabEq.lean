/-
  Two tables are the same if their words are: what Go makes of == on them.
-/
import Derived.Test.YtfgokhafiffbaaaRows
import Derived.Test.YtfgokhafiffbaaaTabPlain
namespace Go.Proofs.Ytfgokhafiffbaaa
set_option linter.unusedVariables false
open Go.RowKit

theorem four_eq (F G : Tb.T) : decide (F = G) = ((Tb.wd F 0 == Tb.wd G 0) && (Tb.wd F 1 == Tb.wd G 1) && (Tb.wd F 2 == Tb.wd G 2) && (Tb.wd F 3 == Tb.wd G 3)) := by
  rw [Bool.eq_iff_iff, decide_eq_true_iff]
  simp only [Bool.and_eq_true, beq_iff_eq]
  exact ⟨fun h => by subst h; simp, fun ⟨⟨⟨h0, h1⟩, h2⟩, h3⟩ => Tb.ext4 h0 h1 h2 h3⟩

theorem run_equal_word (d : Nat) (a b : Int) (w : World) : Sem.run Try.prog (Op.equalIn (d + 1) 27 (.int .u64 a) (.int .u64 b)) w = .ok (a == b) w := by
  simp [Op.equalIn, go_sem]

theorem run_part (F : Tb.T) (w : World) : Sem.run Try.prog (part 27 (Tb.tcells F) (0 * 1)) w = .ok (.int .u64 (Tb.wd F 0)) w ∧ Sem.run Try.prog (part 27 (Tb.tcells F) (1 * 1)) w = .ok (.int .u64 (Tb.wd F 1)) w ∧
    Sem.run Try.prog (part 27 (Tb.tcells F) (2 * 1)) w = .ok (.int .u64 (Tb.wd F 2)) w ∧ Sem.run Try.prog (part 27 (Tb.tcells F) (3 * 1)) w = .ok (.int .u64 (Tb.wd F 3)) w :=
  ⟨by kernel_rfl, by kernel_rfl, by kernel_rfl, by kernel_rfl⟩
theorem run_size (w : World) : Sem.run Try.prog (sizeOf 27) w = .ok 1 w := by kernel_rfl
theorem run_under (w : World) : Sem.run Try.prog (underlying 29) w = .ok (.array 4 27) w := by kernel_rfl

set_option maxHeartbeats 1000000 in
theorem run_equal (d : Nat) (F G : Tb.T) (w : World) : Sem.run Try.prog (Op.equalIn (d + 2) 29 (Tb.tv F) (Tb.tv G)) w = .ok (decide (F = G)) w := by
  obtain ⟨p0, p1, p2, p3⟩ := run_part F w
  obtain ⟨q0, q1, q2, q3⟩ := run_part G w
  rw [four_eq]
  unfold Op.equalIn
  simp only [Sem.run_bind, run_under, Result.andThen_ok, run_size, Std.Legacy.Range.forIn_eq_forIn_range', Std.Legacy.Range.size, show List.range' 0 ((4 - 0 + 1 - 1) / 1) 1 = [0, 1, 2, 3] from rfl, List.forIn_cons, List.forIn_nil, p0, q0, run_equal_word]
  cases h0 : (Tb.wd F 0 == Tb.wd G 0)
  · simp
  cases h1 : (Tb.wd F 1 == Tb.wd G 1)
  · simp [h1, p1, q1, run_equal_word]
  cases h2 : (Tb.wd F 2 == Tb.wd G 2)
  · simp [h1, h2, p1, q1, p2, q2, run_equal_word]
  cases h3 : (Tb.wd F 3 == Tb.wd G 3)
  · simp [h1, h2, h3, p1, q1, p2, q2, p3, q3, run_equal_word]
  · simp [h1, h2, h3, p1, q1, p2, q2, p3, q3, run_equal_word]
theorem run_equal_max {F G : Tb.T} {b : Bool} (h : decide (F = G) = b) (w : World) : Sem.run Try.prog (Op.equalIn 10000 29 (Tb.tv F) (Tb.tv G)) w = .ok b w := by
  rw [← h]; exact run_equal 9998 F G w
end Go.Proofs.Ytfgokhafiffbaaa
