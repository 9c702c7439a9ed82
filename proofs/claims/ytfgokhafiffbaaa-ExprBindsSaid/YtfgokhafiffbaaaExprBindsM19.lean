/-
  Texts on which the law ExprBinds rests, part 19 of 22.
-/
import Derived.Test.YtfgokhafiffbaaaExprBindsM18
import Derived.Deep.DeepCutAuto
/-
  The walks of the document's tables, third part: a variable set for good.
-/
namespace Go.Proofs.Ytfgokhafiffbaaa
set_option linter.unusedVariables false
open Go.RowKit

set_option maxRecDepth 100000 in
set_option maxHeartbeats 1000000 in
theorem rfix_none (f : Tb.T) (v : Int) (b : Bool) (w : World) (hk : Tb.kn v = false) :
    Calls Try.prog 56 #[Tb.tv f, .int .i64 v, .bool b] w fun e w' => e = .returned (Tb.tv f) ∧ Below w.heap.size w w' := by
  have hv : ¬ (0 ≤ v ∧ v < 8) := by unfold Tb.kn at hk; simp at hk; omega
  clear hk
  by_cases h0 : v < 0
  · clear hv
    go_enter Try.func56, Try.ntmps56
    go_wp2_with fail
    refine bodyPost_ret (v := Tb.tv f) (by simp [results, Try.results56, go_sem]) rfl ⟨rfl, ?_⟩
    (repeat (first | (with_reducible exact Below.refl _ _) | (with_reducible assumption) | (with_reducible refine Below.drew ?_) | (with_reducible refine Below.setCell ?_ ?_ _; rotate_left; (first | omega | (simp <;> omega))) | (with_reducible refine Below.alloc ?_ ?_ _; rotate_left; (first | omega | (simp <;> omega)))))
  · have h8 : v ≥ 8 := by omega
    clear hv
    go_enter Try.func56, Try.ntmps56
    go_wp2_with fail
    refine bodyPost_ret (v := Tb.tv f) (by simp [results, Try.results56, go_sem]) rfl ⟨rfl, ?_⟩
    (repeat (first | (with_reducible exact Below.refl _ _) | (with_reducible assumption) | (with_reducible refine Below.drew ?_) | (with_reducible refine Below.setCell ?_ ?_ _; rotate_left; (first | omega | (simp <;> omega))) | (with_reducible refine Below.alloc ?_ ?_ _; rotate_left; (first | omega | (simp <;> omega)))))

set_option maxRecDepth 100000 in
set_option maxHeartbeats 1000000 in
theorem rfix6true_raw (f : Tb.T) (w : World) :
    Calls Try.prog 56 #[Tb.tv f, .int .i64 6, .bool true] w fun e w' => e = .returned (.agg #[.int .u64 (Tb.wd f 1), .int .u64 (Tb.wd f 1), .int .u64 (Tb.wd f 3), .int .u64 (Tb.wd f 3)]) ∧ Below w.heap.size w w' := by
  have a0 : bits .and .i64 0 1 = 0 := by decide +kernel
  have o0 : bits .or .i64 0 1 = 1 := by decide +kernel
  have a1 : bits .and .i64 1 1 = 1 := by decide +kernel
  have a2 : bits .and .i64 2 1 = 0 := by decide +kernel
  have o2 : bits .or .i64 2 1 = 3 := by decide +kernel
  have a3 : bits .and .i64 3 1 = 1 := by decide +kernel
  go_enter Try.func56, Try.ntmps56
  go_wp2_with fail
  refine wp_loop_rounds 5 ?_
  rw [rounds_succ]
  go_wp2_with fail
  rw [rounds_succ]
  go_wp2_with fail
  rw [rounds_succ]
  go_wp2_with fail
  rw [rounds_succ]
  go_wp2_with fail
  rw [rounds_succ]
  go_wp2_with fail
  refine bodyPost_ret (v := .agg #[.int .u64 (Tb.wd f 1), .int .u64 (Tb.wd f 1), .int .u64 (Tb.wd f 3), .int .u64 (Tb.wd f 3)]) (by simp [results, Try.results56, go_sem]) rfl ⟨rfl, ?_⟩
  (repeat (first | (with_reducible exact Below.refl _ _) | (with_reducible assumption) | (with_reducible refine Below.drew ?_) | (with_reducible refine Below.setCell ?_ ?_ _; rotate_left; (first | omega | (simp <;> omega))) | (with_reducible refine Below.alloc ?_ ?_ _; rotate_left; (first | omega | (simp <;> omega)))))
theorem rfix6true_any (f : Tb.T) (w : World) :
    Calls Try.prog 56 #[Tb.tv f, .int .i64 6, .bool true] w fun e w' => e = .returned (Tb.tv (Tb.fix f 6 true)) ∧ Below w.heap.size w w' := by
  have h := rfix6true_raw f w
  have e0 := (Tb.fix6 f 0 (by omega)).1
  have e1 := (Tb.fix6 f 1 (by omega)).1
  have e2 := (Tb.fix6 f 2 (by omega)).1
  have e3 := (Tb.fix6 f 3 (by omega)).1
  unfold Tb.tv
  rw [e0, e1, e2, e3]
  exact h

set_option maxRecDepth 100000 in
set_option maxHeartbeats 1000000 in
theorem rfix6false_raw (f : Tb.T) (w : World) :
    Calls Try.prog 56 #[Tb.tv f, .int .i64 6, .bool false] w fun e w' => e = .returned (.agg #[.int .u64 (Tb.wd f 0), .int .u64 (Tb.wd f 0), .int .u64 (Tb.wd f 2), .int .u64 (Tb.wd f 2)]) ∧ Below w.heap.size w w' := by
  have a0 : bits .and .i64 0 1 = 0 := by decide +kernel
  have o0 : bits .or .i64 0 1 = 1 := by decide +kernel
  have a1 : bits .and .i64 1 1 = 1 := by decide +kernel
  have a2 : bits .and .i64 2 1 = 0 := by decide +kernel
  have o2 : bits .or .i64 2 1 = 3 := by decide +kernel
  have a3 : bits .and .i64 3 1 = 1 := by decide +kernel
  go_enter Try.func56, Try.ntmps56
  go_wp2_with fail
  refine wp_loop_rounds 5 ?_
  rw [rounds_succ]
  go_wp2_with fail
  rw [rounds_succ]
  go_wp2_with fail
  rw [rounds_succ]
  go_wp2_with fail
  rw [rounds_succ]
  go_wp2_with fail
  rw [rounds_succ]
  go_wp2_with fail
  refine bodyPost_ret (v := .agg #[.int .u64 (Tb.wd f 0), .int .u64 (Tb.wd f 0), .int .u64 (Tb.wd f 2), .int .u64 (Tb.wd f 2)]) (by simp [results, Try.results56, go_sem]) rfl ⟨rfl, ?_⟩
  (repeat (first | (with_reducible exact Below.refl _ _) | (with_reducible assumption) | (with_reducible refine Below.drew ?_) | (with_reducible refine Below.setCell ?_ ?_ _; rotate_left; (first | omega | (simp <;> omega))) | (with_reducible refine Below.alloc ?_ ?_ _; rotate_left; (first | omega | (simp <;> omega)))))
theorem rfix6false_any (f : Tb.T) (w : World) :
    Calls Try.prog 56 #[Tb.tv f, .int .i64 6, .bool false] w fun e w' => e = .returned (Tb.tv (Tb.fix f 6 false)) ∧ Below w.heap.size w w' := by
  have h := rfix6false_raw f w
  have e0 := (Tb.fix6 f 0 (by omega)).2.1
  have e1 := (Tb.fix6 f 1 (by omega)).2.1
  have e2 := (Tb.fix6 f 2 (by omega)).2.1
  have e3 := (Tb.fix6 f 3 (by omega)).2.1
  unfold Tb.tv
  rw [e0, e1, e2, e3]
  exact h

set_option maxRecDepth 100000 in
set_option maxHeartbeats 1000000 in
theorem rfix7true_raw (f : Tb.T) (w : World) :
    Calls Try.prog 56 #[Tb.tv f, .int .i64 7, .bool true] w fun e w' => e = .returned (.agg #[.int .u64 (Tb.wd f 2), .int .u64 (Tb.wd f 3), .int .u64 (Tb.wd f 2), .int .u64 (Tb.wd f 3)]) ∧ Below w.heap.size w w' := by
  have a0 : bits .and .i64 0 2 = 0 := by decide +kernel
  have o0 : bits .or .i64 0 2 = 2 := by decide +kernel
  have a1 : bits .and .i64 1 2 = 0 := by decide +kernel
  have o1 : bits .or .i64 1 2 = 3 := by decide +kernel
  have a2 : bits .and .i64 2 2 = 2 := by decide +kernel
  have a3 : bits .and .i64 3 2 = 2 := by decide +kernel
  go_enter Try.func56, Try.ntmps56
  go_wp2_with fail
  refine wp_loop_rounds 5 ?_
  rw [rounds_succ]
  go_wp2_with fail
  rw [rounds_succ]
  go_wp2_with fail
  rw [rounds_succ]
  go_wp2_with fail
  rw [rounds_succ]
  go_wp2_with fail
  rw [rounds_succ]
  go_wp2_with fail
  refine bodyPost_ret (v := .agg #[.int .u64 (Tb.wd f 2), .int .u64 (Tb.wd f 3), .int .u64 (Tb.wd f 2), .int .u64 (Tb.wd f 3)]) (by simp [results, Try.results56, go_sem]) rfl ⟨rfl, ?_⟩
  (repeat (first | (with_reducible exact Below.refl _ _) | (with_reducible assumption) | (with_reducible refine Below.drew ?_) | (with_reducible refine Below.setCell ?_ ?_ _; rotate_left; (first | omega | (simp <;> omega))) | (with_reducible refine Below.alloc ?_ ?_ _; rotate_left; (first | omega | (simp <;> omega)))))
theorem rfix7true_any (f : Tb.T) (w : World) :
    Calls Try.prog 56 #[Tb.tv f, .int .i64 7, .bool true] w fun e w' => e = .returned (Tb.tv (Tb.fix f 7 true)) ∧ Below w.heap.size w w' := by
  have h := rfix7true_raw f w
  have e0 := (Tb.fix6 f 0 (by omega)).2.2.1
  have e1 := (Tb.fix6 f 1 (by omega)).2.2.1
  have e2 := (Tb.fix6 f 2 (by omega)).2.2.1
  have e3 := (Tb.fix6 f 3 (by omega)).2.2.1
  unfold Tb.tv
  rw [e0, e1, e2, e3]
  exact h

set_option maxRecDepth 100000 in
set_option maxHeartbeats 1000000 in
theorem rfix7false_raw (f : Tb.T) (w : World) :
    Calls Try.prog 56 #[Tb.tv f, .int .i64 7, .bool false] w fun e w' => e = .returned (.agg #[.int .u64 (Tb.wd f 0), .int .u64 (Tb.wd f 1), .int .u64 (Tb.wd f 0), .int .u64 (Tb.wd f 1)]) ∧ Below w.heap.size w w' := by
  have a0 : bits .and .i64 0 2 = 0 := by decide +kernel
  have o0 : bits .or .i64 0 2 = 2 := by decide +kernel
  have a1 : bits .and .i64 1 2 = 0 := by decide +kernel
  have o1 : bits .or .i64 1 2 = 3 := by decide +kernel
  have a2 : bits .and .i64 2 2 = 2 := by decide +kernel
  have a3 : bits .and .i64 3 2 = 2 := by decide +kernel
  go_enter Try.func56, Try.ntmps56
  go_wp2_with fail
  refine wp_loop_rounds 5 ?_
  rw [rounds_succ]
  go_wp2_with fail
  rw [rounds_succ]
  go_wp2_with fail
  rw [rounds_succ]
  go_wp2_with fail
  rw [rounds_succ]
  go_wp2_with fail
  rw [rounds_succ]
  go_wp2_with fail
  refine bodyPost_ret (v := .agg #[.int .u64 (Tb.wd f 0), .int .u64 (Tb.wd f 1), .int .u64 (Tb.wd f 0), .int .u64 (Tb.wd f 1)]) (by simp [results, Try.results56, go_sem]) rfl ⟨rfl, ?_⟩
  (repeat (first | (with_reducible exact Below.refl _ _) | (with_reducible assumption) | (with_reducible refine Below.drew ?_) | (with_reducible refine Below.setCell ?_ ?_ _; rotate_left; (first | omega | (simp <;> omega))) | (with_reducible refine Below.alloc ?_ ?_ _; rotate_left; (first | omega | (simp <;> omega)))))
theorem rfix7false_any (f : Tb.T) (w : World) :
    Calls Try.prog 56 #[Tb.tv f, .int .i64 7, .bool false] w fun e w' => e = .returned (Tb.tv (Tb.fix f 7 false)) ∧ Below w.heap.size w w' := by
  have h := rfix7false_raw f w
  have e0 := (Tb.fix6 f 0 (by omega)).2.2.2
  have e1 := (Tb.fix6 f 1 (by omega)).2.2.2
  have e2 := (Tb.fix6 f 2 (by omega)).2.2.2
  have e3 := (Tb.fix6 f 3 (by omega)).2.2.2
  unfold Tb.tv
  rw [e0, e1, e2, e3]
  exact h
end Go.Proofs.Ytfgokhafiffbaaa

/-
  The walks of the document's tables, fourth part: one of the first six variables set for good.
-/
namespace Go.Proofs.Ytfgokhafiffbaaa
set_option linter.unusedVariables false
open Go.RowKit
theorem Tb.wrap_pow64 (k : Nat) (hk : k < 64) : IntKind.u64.wrap ((2 : Int) ^ k) = ((2 ^ k : Nat) : Int) := by
  have h : 2 ^ k < 2 ^ 64 := Nat.pow_lt_pow_right (by omega) hk
  rw [Tb.pow64] at h
  rw [IntKind.wrap_u64, show (2 : Int) ^ k = ((2 ^ k : Nat) : Int) from by norm_cast]
  generalize 2 ^ k = t at h ⊢
  omega
theorem Tb.mk_step {v k : Nat} (hk : k < 64) (hb : k.testBit v = true) : bits .or .u64 (Tb.mk v k : Int) ((2 ^ k : Nat) : Int) = (Tb.mk v (k + 1) : Int) := by
  have h : 2 ^ k < 2 ^ 64 := Nat.pow_lt_pow_right (by omega) hk
  rw [Tb.pow64] at h
  have hm := Tb.mk_lt v k
  rw [u64_or_nat _ _ (by omega) h, show Tb.mk v (k + 1) = Tb.mk v k ||| 2 ^ k from by rw [Tb.mk]; simp [hb]]
theorem Tb.mk_stay {v k : Nat} (hb : k.testBit v = false) : (Tb.mk v k : Int) = (Tb.mk v (k + 1) : Int) := by
  rw [show Tb.mk v (k + 1) = Tb.mk v k from by rw [Tb.mk]; simp [hb]]
theorem Tb.and_pow {v k : Nat} (hv : v < 6) (hk : k < 64) : bits .and .u64 (k : Int) ((2 ^ v : Nat) : Int) = if k.testBit v then ((2 ^ v : Nat) : Int) else 0 := by
  have h : 2 ^ v < 2 ^ 64 := Nat.pow_lt_pow_right (by omega) (by omega)
  rw [Tb.pow64] at h
  rw [u64_and_nat _ _ (by omega) h]
  have e : k &&& 2 ^ v = if k.testBit v then 2 ^ v else 0 := by
    apply Nat.eq_of_testBit_eq
    intro i
    rw [Nat.testBit_and, Nat.testBit_two_pow]
    by_cases hi : v = i
    · subst hi; cases hb : k.testBit v <;> simp
    · cases hb : k.testBit v <;> simp [hi]
  rw [e]
  cases k.testBit v <;> rfl

set_option maxRecDepth 100000 in
set_option maxHeartbeats 2000000 in
theorem rfixlow_true (f : Tb.T) (v : Nat) (w : World) (hv : v < 6) :
    Calls Try.prog 56 #[Tb.tv f, .int .i64 (v : Int), .bool true] w fun e w' => e = .returned (Tb.tv (Tb.fix f (v : Int) true)) ∧ Below w.heap.size w w' := by
  have n0 : ¬ ((v : Int) < 0) := by omega
  have n8 : ¬ ((v : Int) ≥ 8) := by omega
  have n6 : ¬ ((v : Int) ≥ 6) := by omega
  have hq2 : IntKind.u64.wrap (v : Int) = (v : Int) := by rw [IntKind.wrap_u64]; omega
  have hs := Tb.wrap_pow64 v (by omega)
  have hsb : 2 ^ v ≤ 32 := by have := Nat.pow_le_pow_right (show 0 < 2 by omega) (show v ≤ 5 by omega); simpa using this
  have hs0 : 0 < 2 ^ v := Nat.two_pow_pos v
  have HA := Bx.mk (fun k (hk : k < 64) => Tb.and_pow hv hk)
  have HF := Bx.mk (fun c (hc : c < 4) => Tb.fix_low_true f v c hv hc)
  generalize hS : 2 ^ v = s at hs hsb hs0 HA HF
  have s1 : ((s : Int) == 0) = false := by rw [beq_eq_false_iff_ne]; omega
  clear hS
  go_enter Try.func56, Try.ntmps56
  go_wp2_with fail
  go_loopw [10, 12] (fun m i wr => ∃ k : Nat, k ≤ 64 ∧ i = .int .u64 k ∧ m = .int .u64 (Tb.mk v k : Int) ∧ wr = ((w.alloc (.cells #[.int .u64 (Tb.wd f 0), .int .u64 (Tb.wd f 1), .int .u64 (Tb.wd f 2), .int .u64 (Tb.wd f 3)] 29)).alloc (.cells #[.int .u64 0, .int .u64 0, .int .u64 0, .int .u64 0] 29))) (fun _ i _ => 64 - (intOf i).toNat)
  case atStart => exact ⟨0, by omega, rfl, by unfold Tb.mk; rfl, rfl⟩
  case round =>
    obtain ⟨k, hk, rfl, rfl, rfl⟩ := hrel
    by_cases hlt : k < 64
    · have ha := HA.out k hlt
      have hq : IntKind.u64.wrap ((k : Int) + 1) = (k : Int) + 1 := by rw [IntKind.wrap_u64]; omega
      cases hb : k.testBit v with
      | false =>
        rw [hb] at ha
        simp only [Bool.false_eq_true, if_false] at ha
        have hm := Bx.mk (Tb.mk_stay hb)
        clear hb
        go_wp2_with fail
        exact ⟨⟨k + 1, by omega, by simp, by rw [hm.out], trivial⟩, by simp [intOf]; omega⟩
      | true =>
        rw [hb] at ha
        simp only [if_true] at ha
        have hm := Bx.mk (Tb.mk_step hlt hb)
        have hw := Bx.mk (Tb.wrap_pow64 k hlt)
        clear hb
        go_wp2_with fail
        exact ⟨⟨k + 1, by omega, by simp, by rw [← hm.out, ← hw.out], trivial⟩, by simp [intOf]; omega⟩
    · obtain rfl : k = 64 := by omega
      clear HA
      have m0 : min s 64 = s := by omega
      go_wp2_with fail
      refine wp_loop_rounds 5 ?_
      rw [rounds_succ]
      go_wp2_with fail
      rw [rounds_succ]
      go_wp2_with fail
      rw [rounds_succ]
      go_wp2_with fail
      rw [rounds_succ]
      go_wp2_with fail
      rw [rounds_succ]
      go_wp2_with fail
      refine bodyPost_ret (v := .agg #[.int .u64 (bits .or .u64 (bits .and .u64 (Tb.wd f 0) (Tb.mk v 64 : Int)) (bits .and .u64 (Tb.wd f 0) (Tb.mk v 64 : Int) / 2 ^ s)), .int .u64 (bits .or .u64 (bits .and .u64 (Tb.wd f 1) (Tb.mk v 64 : Int)) (bits .and .u64 (Tb.wd f 1) (Tb.mk v 64 : Int) / 2 ^ s)), .int .u64 (bits .or .u64 (bits .and .u64 (Tb.wd f 2) (Tb.mk v 64 : Int)) (bits .and .u64 (Tb.wd f 2) (Tb.mk v 64 : Int) / 2 ^ s)), .int .u64 (bits .or .u64 (bits .and .u64 (Tb.wd f 3) (Tb.mk v 64 : Int)) (bits .and .u64 (Tb.wd f 3) (Tb.mk v 64 : Int) / 2 ^ s))]) (by simp [results, Try.results56, go_sem]) rfl ⟨by rw [HF.out 0 (by omega), HF.out 1 (by omega), HF.out 2 (by omega), HF.out 3 (by omega)], ?_⟩
      (repeat (first | (with_reducible exact Below.refl _ _) | (with_reducible assumption) | (with_reducible refine Below.drew ?_) | (with_reducible refine Below.setCell ?_ ?_ _; rotate_left; (first | omega | (simp <;> omega))) | (with_reducible refine Below.alloc ?_ ?_ _; rotate_left; (first | omega | (simp <;> omega)))))
set_option maxRecDepth 100000 in
set_option maxHeartbeats 2000000 in
theorem rfixlow_false (f : Tb.T) (v : Nat) (w : World) (hv : v < 6) :
    Calls Try.prog 56 #[Tb.tv f, .int .i64 (v : Int), .bool false] w fun e w' => e = .returned (Tb.tv (Tb.fix f (v : Int) false)) ∧ Below w.heap.size w w' := by
  have n0 : ¬ ((v : Int) < 0) := by omega
  have n8 : ¬ ((v : Int) ≥ 8) := by omega
  have n6 : ¬ ((v : Int) ≥ 6) := by omega
  have hq2 : IntKind.u64.wrap (v : Int) = (v : Int) := by rw [IntKind.wrap_u64]; omega
  have hs := Tb.wrap_pow64 v (by omega)
  have hsb : 2 ^ v ≤ 32 := by have := Nat.pow_le_pow_right (show 0 < 2 by omega) (show v ≤ 5 by omega); simpa using this
  have hs0 : 0 < 2 ^ v := Nat.two_pow_pos v
  have HA := Bx.mk (fun k (hk : k < 64) => Tb.and_pow hv hk)
  have HF := Bx.mk (fun c (hc : c < 4) => Tb.fix_low_false f v c hv hc)
  generalize hS : 2 ^ v = s at hs hsb hs0 HA HF
  have s1 : ((s : Int) == 0) = false := by rw [beq_eq_false_iff_ne]; omega
  clear hS
  go_enter Try.func56, Try.ntmps56
  go_wp2_with fail
  go_loopw [10, 12] (fun m i wr => ∃ k : Nat, k ≤ 64 ∧ i = .int .u64 k ∧ m = .int .u64 (Tb.mk v k : Int) ∧ wr = ((w.alloc (.cells #[.int .u64 (Tb.wd f 0), .int .u64 (Tb.wd f 1), .int .u64 (Tb.wd f 2), .int .u64 (Tb.wd f 3)] 29)).alloc (.cells #[.int .u64 0, .int .u64 0, .int .u64 0, .int .u64 0] 29))) (fun _ i _ => 64 - (intOf i).toNat)
  case atStart => exact ⟨0, by omega, rfl, by unfold Tb.mk; rfl, rfl⟩
  case round =>
    obtain ⟨k, hk, rfl, rfl, rfl⟩ := hrel
    by_cases hlt : k < 64
    · have ha := HA.out k hlt
      have hq : IntKind.u64.wrap ((k : Int) + 1) = (k : Int) + 1 := by rw [IntKind.wrap_u64]; omega
      cases hb : k.testBit v with
      | false =>
        rw [hb] at ha
        simp only [Bool.false_eq_true, if_false] at ha
        have hm := Bx.mk (Tb.mk_stay hb)
        clear hb
        go_wp2_with fail
        exact ⟨⟨k + 1, by omega, by simp, by rw [hm.out], trivial⟩, by simp [intOf]; omega⟩
      | true =>
        rw [hb] at ha
        simp only [if_true] at ha
        have hm := Bx.mk (Tb.mk_step hlt hb)
        have hw := Bx.mk (Tb.wrap_pow64 k hlt)
        clear hb
        go_wp2_with fail
        exact ⟨⟨k + 1, by omega, by simp, by rw [← hm.out, ← hw.out], trivial⟩, by simp [intOf]; omega⟩
    · obtain rfl : k = 64 := by omega
      clear HA
      have m0 : min s 64 = s := by omega
      go_wp2_with fail
      refine wp_loop_rounds 5 ?_
      rw [rounds_succ]
      go_wp2_with fail
      rw [rounds_succ]
      go_wp2_with fail
      rw [rounds_succ]
      go_wp2_with fail
      rw [rounds_succ]
      go_wp2_with fail
      rw [rounds_succ]
      go_wp2_with fail
      refine bodyPost_ret (v := .agg #[.int .u64 (bits .or .u64 (bits .andNot .u64 (Tb.wd f 0) (Tb.mk v 64 : Int)) (IntKind.u64.wrap (bits .andNot .u64 (Tb.wd f 0) (Tb.mk v 64 : Int) * 2 ^ s))), .int .u64 (bits .or .u64 (bits .andNot .u64 (Tb.wd f 1) (Tb.mk v 64 : Int)) (IntKind.u64.wrap (bits .andNot .u64 (Tb.wd f 1) (Tb.mk v 64 : Int) * 2 ^ s))), .int .u64 (bits .or .u64 (bits .andNot .u64 (Tb.wd f 2) (Tb.mk v 64 : Int)) (IntKind.u64.wrap (bits .andNot .u64 (Tb.wd f 2) (Tb.mk v 64 : Int) * 2 ^ s))), .int .u64 (bits .or .u64 (bits .andNot .u64 (Tb.wd f 3) (Tb.mk v 64 : Int)) (IntKind.u64.wrap (bits .andNot .u64 (Tb.wd f 3) (Tb.mk v 64 : Int) * 2 ^ s)))]) (by simp [results, Try.results56, go_sem]) rfl ⟨by rw [HF.out 0 (by omega), HF.out 1 (by omega), HF.out 2 (by omega), HF.out 3 (by omega)], ?_⟩
      (repeat (first | (with_reducible exact Below.refl _ _) | (with_reducible assumption) | (with_reducible refine Below.drew ?_) | (with_reducible refine Below.setCell ?_ ?_ _; rotate_left; (first | omega | (simp <;> omega))) | (with_reducible refine Below.alloc ?_ ?_ _; rotate_left; (first | omega | (simp <;> omega)))))

theorem rfix_any (f : Tb.T) (v : Int) (b : Bool) (w : World) :
    Calls Try.prog 56 #[Tb.tv f, .int .i64 v, .bool b] w fun e w' => e = .returned (Tb.tv (Tb.fix f v b)) ∧ Below w.heap.size w w' := by
  cases hk : Tb.kn v with
  | false => rw [Tb.fix_no hk]; exact rfix_none f v b w hk
  | true =>
    obtain ⟨h0, h8⟩ := kn_yes hk
    by_cases h6 : v < 6
    · obtain ⟨n, rfl⟩ : ∃ n : Nat, v = (n : Int) := ⟨v.toNat, by omega⟩
      cases b
      · exact rfixlow_false f n w (by omega)
      · exact rfixlow_true f n w (by omega)
    · have : v = 6 ∨ v = 7 := by omega
      rcases this with rfl | rfl <;> cases b
      · exact rfix6false_any f w
      · exact rfix6true_any f w
      · exact rfix7false_any f w
      · exact rfix7true_any f w
end Go.Proofs.Ytfgokhafiffbaaa

/-
  The walks of the document's tables, fifth part: ite, compose, quantifiers.
-/
namespace Go.Proofs.Ytfgokhafiffbaaa
set_option linter.unusedVariables false
open Go.RowKit

set_option maxRecDepth 100000 in
set_option maxHeartbeats 2000000 in
theorem rite_any (f g h : Tb.T) (w : World) :
    Calls Try.prog 39 #[Tb.tv f, Tb.tv g, Tb.tv h] w fun e w' => e = .returned (Tb.tv ((f &&& g) ||| (~~~f &&& h))) ∧ Below w.heap.size w w' := by
  have hK := ((((Keep.nil w).new f).new g).new h).new 0#256
  simp only [List.cons_append, List.nil_append, alloc_size, Tb.tcells_zero] at hK
  go_enter Try.func39, Try.ntmps39
  go_wp2_with fail
  -- rite
  refine region_float [] 8 (fun i => ([Tb.tv f, Tb.tv g, Tb.tv (f &&& g), Tb.tv f, Tb.tv (~~~f), Tb.tv h, Tb.tv ((~~~f) &&& h), Tb.tv ((f &&& g) ||| ((~~~f) &&& h))] : List Value).getD i undef) (fun _ => none) (fun u => Keep w u [(w.heap.size, f), ((w.heap.size + 1), g), ((w.heap.size + 1 + 1), h), ((w.heap.size + 1 + 1 + 1), 0#256)]) _ (by kernel_rfl) (by kernel_rfl) (by simp) hK.drew (Nat.le_refl _) (fun _ o h => h.alloc o) ?_ ?_ ?_
  · iterate 1 skip
    refine all_succ ?_ ?_
    rotate_left
    · intro hf oo hoper act uu hS hB hd hold KK hcont
      obtain rfl := Option.some.inj hoper
      have h9 : act.tmps.getD 9 undef = Tb.tv (f &&& g) := (hd 2 9 (by kernel_rfl) rfl rfl)
      have h13 : act.tmps.getD 13 undef = Tb.tv ((~~~f) &&& h) := (hd 6 13 (by kernel_rfl) rfl rfl)
      go_simp
      refine (ror_any (f &&& g) ((~~~f) &&& h) _).mono ?_
      rintro e u' ⟨rfl, hb⟩
      exact hcont _ (hS.step hb) hb
    refine all_succ ?_ ?_
    rotate_left
    · intro hf oo hoper act uu hS hB hd hold KK hcont
      obtain rfl := Option.some.inj hoper
      have h11 : act.tmps.getD 11 undef = Tb.tv (~~~f) := (hd 4 11 (by kernel_rfl) rfl rfl)
      have h12 : act.tmps.getD 12 undef = Tb.tv h := (hd 5 12 (by kernel_rfl) rfl rfl)
      go_simp
      refine (rand_any (~~~f) h _).mono ?_
      rintro e u' ⟨rfl, hb⟩
      exact hcont _ (hS.step hb) hb
    refine all_succ ?_ ?_
    rotate_left
    · intro hf oo hoper act uu hS hB hd hold KK hcont
      obtain rfl := Option.some.inj hoper
      exact wp_of_exec (exec_load rfl (hold 5 (notDst (by kernel_rfl))) (hS.at_ 2 _ _ rfl)) (hcont uu hS (Below.refl _ _))
    refine all_succ ?_ ?_
    rotate_left
    · intro hf oo hoper act uu hS hB hd hold KK hcont
      obtain rfl := Option.some.inj hoper
      have h10 : act.tmps.getD 10 undef = Tb.tv f := (hd 3 10 (by kernel_rfl) rfl rfl)
      go_simp
      refine (rnot_any f _).mono ?_
      rintro e u' ⟨rfl, hb⟩
      exact hcont _ (hS.step hb) hb
    refine all_succ ?_ ?_
    rotate_left
    · intro hf oo hoper act uu hS hB hd hold KK hcont
      obtain rfl := Option.some.inj hoper
      exact wp_of_exec (exec_load rfl (hold 3 (notDst (by kernel_rfl))) (hS.at_ 0 _ _ rfl)) (hcont uu hS (Below.refl _ _))
    refine all_succ ?_ ?_
    rotate_left
    · intro hf oo hoper act uu hS hB hd hold KK hcont
      obtain rfl := Option.some.inj hoper
      have h7 : act.tmps.getD 7 undef = Tb.tv f := (hd 0 7 (by kernel_rfl) rfl rfl)
      have h8 : act.tmps.getD 8 undef = Tb.tv g := (hd 1 8 (by kernel_rfl) rfl rfl)
      go_simp
      refine (rand_any f g _).mono ?_
      rintro e u' ⟨rfl, hb⟩
      exact hcont _ (hS.step hb) hb
    refine all_succ ?_ ?_
    rotate_left
    · intro hf oo hoper act uu hS hB hd hold KK hcont
      obtain rfl := Option.some.inj hoper
      exact wp_of_exec (exec_load rfl (hold 4 (notDst (by kernel_rfl))) (hS.at_ 1 _ _ rfl)) (hcont uu hS (Below.refl _ _))
    refine all_succ ?_ ?_
    rotate_left
    · intro hf oo hoper act uu hS hB hd hold KK hcont
      obtain rfl := Option.some.inj hoper
      exact wp_of_exec (exec_load rfl (hold 3 (notDst (by kernel_rfl))) (hS.at_ 0 _ _ rfl)) (hcont uu hS (Below.refl _ _))
    exact all_zero
  · intro i hi ty z hf; cases hf
  · intro ρ u hF
    have e0 : ρ 0 = Tb.tv f := hF.val 0 (by omega) (by kernel_rfl) rfl
    have e1 : ρ 1 = Tb.tv g := hF.val 1 (by omega) (by kernel_rfl) rfl
    have e2 : ρ 2 = Tb.tv (f &&& g) := hF.val 2 (by omega) (by kernel_rfl) rfl
    have e3 : ρ 3 = Tb.tv f := hF.val 3 (by omega) (by kernel_rfl) rfl
    have e4 : ρ 4 = Tb.tv (~~~f) := hF.val 4 (by omega) (by kernel_rfl) rfl
    have e5 : ρ 5 = Tb.tv h := hF.val 5 (by omega) (by kernel_rfl) rfl
    have e6 : ρ 6 = Tb.tv ((~~~f) &&& h) := hF.val 6 (by omega) (by kernel_rfl) rfl
    have e7 : ρ 7 = Tb.tv ((f &&& g) ||| ((~~~f) &&& h)) := hF.val 7 (by omega) (by kernel_rfl) rfl
    have k0 := hF.s_
    have k1 := k0.store 3 (((f &&& g) ||| ((~~~f) &&& h))) (p := (w.heap.size + 1 + 1 + 1)) (G := 0#256) rfl (by have := hK.below.size; omega)
    simp only [puts, dstOf, e0, e1, e2, e3, e4, e5, e6, e7]
    obtain ⟨⟨a0, a1, a2, a3⟩, c0, c1, c2, c3⟩ := tfacts (k0.at_ 3 _ _ rfl)
    go_wp2_with fail
    refine bodyPost_ret (v := Tb.tv ((f &&& g) ||| (~~~f &&& h))) (by simp [results, Try.results39, go_sem, a0, a1, a2, a3]) rfl ⟨rfl, ?_⟩
    exact k1.below

set_option maxRecDepth 100000 in
set_option maxHeartbeats 2000000 in
theorem rexists_any (f : Tb.T) (m : Nat) (w : World) (hm : m < 256) :
    Calls Try.prog 41 #[Tb.tv f, .int .u8 (m : Int)] w fun e w' => e = .returned (Tb.tv (Tb.halves (fun F G => F ||| G) f m)) ∧ Below w.heap.size w w' := by
  have hK := ((Keep.nil w).new f).new 0#256
  simp only [List.cons_append, List.nil_append, alloc_size, Tb.tcells_zero] at hK
  go_enter Try.func41, Try.ntmps41
  go_wp2_with fail
  go_loopw [5] (fun i wr => ∃ k : Nat, k ≤ 8 ∧ i = .int .i64 k ∧ Keep w wr [(w.heap.size, Tb.halvesTo (fun F G => F ||| G) f m k), (w.heap.size + 1, 0#256)]) (fun i _ => 8 - (intOf i).toNat)
  case atStart => exact ⟨0, by omega, rfl, by rw [Tb.halvesTo_zero]; exact hK⟩
  case round =>
    rename_i wr
    clear hK
    obtain ⟨k, hk, rfl, kk⟩ := hrel
    by_cases hlt : k < 8
    · have hb := Tb.u8_bit m hm k hlt
      have hq : IntKind.u64.wrap (k : Int) = (k : Int) := by rw [IntKind.wrap_u64]; omega
      cases ht : m.testBit k with
      | false =>
        rw [ht] at hb
        rw [← Tb.halvesTo_no (J := fun F G => F ||| G) (f := f) ht] at kk
        clear ht
        go_wp2_with fail
        exact ⟨⟨k + 1, by omega, by go_num, kk⟩, by simp [intOf]; omega⟩
      | true =>
        rw [ht] at hb
        have HY := Bx.mk (Tb.halvesTo_yes (J := fun F G => F ||| G) (f := f) ht)
        clear ht
        generalize Tb.halvesTo (fun F G => F ||| G) f m k = F at kk HY
        go_upto_region 5 with fail
        -- rex
        refine region_float [] 7 (fun i => ([Tb.tv F, .int .i64 ((k : Nat) : Int), Tb.tv (Tb.fix F ((k : Nat) : Int) false), Tb.tv F, .int .i64 ((k : Nat) : Int), Tb.tv (Tb.fix F ((k : Nat) : Int) true), Tb.tv ((Tb.fix F ((k : Nat) : Int) false) ||| (Tb.fix F ((k : Nat) : Int) true))] : List Value).getD i undef) (fun _ => none) (fun u => Keep w u [(w.heap.size, F), ((w.heap.size + 1), 0#256)]) _ (by kernel_rfl) (by kernel_rfl) (by simp) kk.drew (Nat.le_refl _) (fun _ o h => h.alloc o) ?_ ?_ ?_
        · iterate 1 skip
          refine all_succ ?_ ?_
          rotate_left
          · intro hf oo hoper act uu hS hB hd hold KK hcont
            obtain rfl := Option.some.inj hoper
            have h18 : act.tmps.getD 18 undef = Tb.tv (Tb.fix F ((k : Nat) : Int) false) := (hd 2 18 (by kernel_rfl) rfl rfl)
            have h21 : act.tmps.getD 21 undef = Tb.tv (Tb.fix F ((k : Nat) : Int) true) := (hd 5 21 (by kernel_rfl) rfl rfl)
            go_simp
            refine (ror_any (Tb.fix F ((k : Nat) : Int) false) (Tb.fix F ((k : Nat) : Int) true) _).mono ?_
            rintro e u' ⟨rfl, hb⟩
            exact hcont _ (hS.step hb) hb
          refine all_succ ?_ ?_
          rotate_left
          · intro hf oo hoper act uu hS hB hd hold KK hcont
            obtain rfl := Option.some.inj hoper
            have h19 : act.tmps.getD 19 undef = Tb.tv F := (hd 3 19 (by kernel_rfl) rfl rfl)
            have h20 : act.tmps.getD 20 undef = .int .i64 ((k : Nat) : Int) := (hd 4 20 (by kernel_rfl) rfl rfl)
            go_simp
            refine (rfix_any F ((k : Nat) : Int) true _).mono ?_
            rintro e u' ⟨rfl, hb⟩
            exact hcont _ (hS.step hb) hb
          refine all_succ ?_ ?_
          rotate_left
          · intro hf oo hoper act uu hS hB hd hold KK hcont
            obtain rfl := Option.some.inj hoper
            exact wp_of_exec (exec_move rfl (hold 5 (notDst (by kernel_rfl)))) (hcont uu hS (Below.refl _ _))
          refine all_succ ?_ ?_
          rotate_left
          · intro hf oo hoper act uu hS hB hd hold KK hcont
            obtain rfl := Option.some.inj hoper
            exact wp_of_exec (exec_load rfl (hold 2 (notDst (by kernel_rfl))) (hS.at_ 0 _ _ rfl)) (hcont uu hS (Below.refl _ _))
          refine all_succ ?_ ?_
          rotate_left
          · intro hf oo hoper act uu hS hB hd hold KK hcont
            obtain rfl := Option.some.inj hoper
            have h16 : act.tmps.getD 16 undef = Tb.tv F := (hd 0 16 (by kernel_rfl) rfl rfl)
            have h17 : act.tmps.getD 17 undef = .int .i64 ((k : Nat) : Int) := (hd 1 17 (by kernel_rfl) rfl rfl)
            go_simp
            refine (rfix_any F ((k : Nat) : Int) false _).mono ?_
            rintro e u' ⟨rfl, hb⟩
            exact hcont _ (hS.step hb) hb
          refine all_succ ?_ ?_
          rotate_left
          · intro hf oo hoper act uu hS hB hd hold KK hcont
            obtain rfl := Option.some.inj hoper
            exact wp_of_exec (exec_move rfl (hold 5 (notDst (by kernel_rfl)))) (hcont uu hS (Below.refl _ _))
          refine all_succ ?_ ?_
          rotate_left
          · intro hf oo hoper act uu hS hB hd hold KK hcont
            obtain rfl := Option.some.inj hoper
            exact wp_of_exec (exec_load rfl (hold 2 (notDst (by kernel_rfl))) (hS.at_ 0 _ _ rfl)) (hcont uu hS (Below.refl _ _))
          exact all_zero
        · intro i hi ty z hf; cases hf
        · intro ρ u hF
          have e0 : ρ 0 = Tb.tv F := hF.val 0 (by omega) (by kernel_rfl) rfl
          have e1 : ρ 1 = .int .i64 ((k : Nat) : Int) := hF.val 1 (by omega) (by kernel_rfl) rfl
          have e2 : ρ 2 = Tb.tv (Tb.fix F ((k : Nat) : Int) false) := hF.val 2 (by omega) (by kernel_rfl) rfl
          have e3 : ρ 3 = Tb.tv F := hF.val 3 (by omega) (by kernel_rfl) rfl
          have e4 : ρ 4 = .int .i64 ((k : Nat) : Int) := hF.val 4 (by omega) (by kernel_rfl) rfl
          have e5 : ρ 5 = Tb.tv (Tb.fix F ((k : Nat) : Int) true) := hF.val 5 (by omega) (by kernel_rfl) rfl
          have e6 : ρ 6 = Tb.tv ((Tb.fix F ((k : Nat) : Int) false) ||| (Tb.fix F ((k : Nat) : Int) true)) := hF.val 6 (by omega) (by kernel_rfl) rfl
          have k0 := hF.s_
          have k1 := k0.store 0 (((Tb.fix F ((k : Nat) : Int) false) ||| (Tb.fix F ((k : Nat) : Int) true))) (p := w.heap.size) (G := F) rfl (by have := kk.below.size; omega)
          simp only [puts, dstOf, e0, e1, e2, e3, e4, e5, e6]
          obtain ⟨⟨a0, a1, a2, a3⟩, c0, c1, c2, c3⟩ := tfacts (k0.at_ 0 _ _ rfl)
          replace k1 : Keep w _ [(w.heap.size, _), (w.heap.size + 1, 0#256)] := k1
          go_wp2_with fail
          exact ⟨⟨k + 1, by omega, by go_num, by rw [HY.out]; exact k1⟩, by simp [intOf]; omega⟩
    · obtain rfl : k = 8 := by omega
      rw [← Tb.halves_def] at kk
      obtain ⟨⟨a0, a1, a2, a3⟩, b0, b1, b2, b3⟩ := tfacts (kk.at_ 0 _ _ rfl)
      obtain ⟨⟨c0, c1, c2, c3⟩, d0, d1, d2, d3⟩ := tfacts (kk.at_ 1 _ _ rfl)
      have hb := kk.below
      clear kk
      go_wp2_with fail
      refine bodyPost_ret (v := Tb.tv (Tb.halves (fun F G => F ||| G) f m)) (by simp [results, Try.results41, go_sem, c0, c1, c2, c3]) rfl ⟨rfl, ?_⟩
      (repeat (first | (with_reducible exact Below.refl _ _) | (with_reducible assumption) | (with_reducible refine Below.drew ?_) | (with_reducible refine Below.setCell ?_ ?_ _; rotate_left; (first | omega | (simp <;> omega))) | (with_reducible refine Below.alloc ?_ ?_ _; rotate_left; (first | omega | (simp <;> omega))) | (with_reducible refine Below.trans ?_ (hb.mono ?_); rotate_left; (first | omega | (simp <;> omega)))))
end Go.Proofs.Ytfgokhafiffbaaa

/-
  Next and Prev of tables: the laws of TruthRels, TruthSteps. No program in sight.
-/
namespace Go.Proofs.Ytfgokhafiffbaaa
set_option linter.unusedVariables false
namespace Tb
theorem next_get (s r : T) {x : Nat} (hx : x < 256) : (next s r).getLsbD x = true ↔ ∃ y, y < 256 ∧ nx x y = true ∧ s.getLsbD y = true ∧ r.getLsbD y = true := by
  rw [next_def, tab_get]
  simp only [hx, decide_true, Bool.true_and]
  rw [anyTo_spec]
  constructor
  · rintro ⟨y, hy, h⟩
    simp only [BitVec.getLsbD_and, Bool.and_eq_true] at h
    exact ⟨y, hy, h.1, h.2.1, h.2.2⟩
  · rintro ⟨y, hy, h1, h2, h3⟩
    exact ⟨y, hy, by simp [h1, h2, h3]⟩
theorem prev_get (s r : T) {x : Nat} (hx : x < 256) : (prev s r).getLsbD x = true ↔ ∃ y, y < 256 ∧ pv x y = true ∧ r.getLsbD y = true ∧ s.getLsbD (half y) = true := by
  rw [prev_def, tab_get]
  simp only [hx, decide_true, Bool.true_and]
  rw [anyTo_spec]
  constructor
  · rintro ⟨y, hy, h⟩
    simp only [Bool.and_eq_true] at h
    exact ⟨y, hy, h.1.1, h.1.2, h.2⟩
  · rintro ⟨y, hy, h1, h2, h3⟩
    exact ⟨y, hy, by simp [h1, h2, h3]⟩
theorem next_or_l (p q r : T) : next (p ||| q) r = next p r ||| next q r := by
  refine ext_iff fun x hx => ?_
  rw [BitVec.getLsbD_or, Bool.or_eq_true, next_get _ _ hx, next_get _ _ hx, next_get _ _ hx]
  constructor
  · rintro ⟨y, hy, h1, h2, h3⟩
    rw [BitVec.getLsbD_or, Bool.or_eq_true] at h2
    exact h2.elim (fun h => .inl ⟨y, hy, h1, h, h3⟩) (fun h => .inr ⟨y, hy, h1, h, h3⟩)
  · rintro (⟨y, hy, h1, h2, h3⟩ | ⟨y, hy, h1, h2, h3⟩)
    · exact ⟨y, hy, h1, by rw [BitVec.getLsbD_or, h2]; rfl, h3⟩
    · exact ⟨y, hy, h1, by rw [BitVec.getLsbD_or, h2]; simp, h3⟩
theorem next_or_r (p r t : T) : next p (r ||| t) = next p r ||| next p t := by
  refine ext_iff fun x hx => ?_
  rw [BitVec.getLsbD_or, Bool.or_eq_true, next_get _ _ hx, next_get _ _ hx, next_get _ _ hx]
  constructor
  · rintro ⟨y, hy, h1, h2, h3⟩
    rw [BitVec.getLsbD_or, Bool.or_eq_true] at h3
    exact h3.elim (fun h => .inl ⟨y, hy, h1, h2, h⟩) (fun h => .inr ⟨y, hy, h1, h2, h⟩)
  · rintro (⟨y, hy, h1, h2, h3⟩ | ⟨y, hy, h1, h2, h3⟩)
    · exact ⟨y, hy, h1, h2, by rw [BitVec.getLsbD_or, h3]; rfl⟩
    · exact ⟨y, hy, h1, h2, by rw [BitVec.getLsbD_or, h3]; simp⟩
theorem prev_or_l (p q r : T) : prev (p ||| q) r = prev p r ||| prev q r := by
  refine ext_iff fun x hx => ?_
  rw [BitVec.getLsbD_or, Bool.or_eq_true, prev_get _ _ hx, prev_get _ _ hx, prev_get _ _ hx]
  constructor
  · rintro ⟨y, hy, h1, h2, h3⟩
    rw [BitVec.getLsbD_or, Bool.or_eq_true] at h3
    exact h3.elim (fun h => .inl ⟨y, hy, h1, h2, h⟩) (fun h => .inr ⟨y, hy, h1, h2, h⟩)
  · rintro (⟨y, hy, h1, h2, h3⟩ | ⟨y, hy, h1, h2, h3⟩)
    · exact ⟨y, hy, h1, h2, by rw [BitVec.getLsbD_or, h3]; rfl⟩
    · exact ⟨y, hy, h1, h2, by rw [BitVec.getLsbD_or, h3]; simp⟩
theorem prev_or_r (p r t : T) : prev p (r ||| t) = prev p r ||| prev p t := by
  refine ext_iff fun x hx => ?_
  rw [BitVec.getLsbD_or, Bool.or_eq_true, prev_get _ _ hx, prev_get _ _ hx, prev_get _ _ hx]
  constructor
  · rintro ⟨y, hy, h1, h2, h3⟩
    rw [BitVec.getLsbD_or, Bool.or_eq_true] at h2
    exact h2.elim (fun h => .inl ⟨y, hy, h1, h, h3⟩) (fun h => .inr ⟨y, hy, h1, h, h3⟩)
  · rintro (⟨y, hy, h1, h2, h3⟩ | ⟨y, hy, h1, h2, h3⟩)
    · exact ⟨y, hy, h1, by rw [BitVec.getLsbD_or, h2]; rfl, h3⟩
    · exact ⟨y, hy, h1, by rw [BitVec.getLsbD_or, h2]; simp, h3⟩
theorem next_zero (p : T) : next p 0#256 = 0#256 := ext_iff fun x hx => by
  rw [next_get _ _ hx]
  constructor
  · rintro ⟨y, hy, h1, h2, h3⟩; simp at h3
  · intro h; simp at h
theorem prev_zero (r : T) : prev 0#256 r = 0#256 := ext_iff fun x hx => by
  rw [prev_get _ _ hx]
  constructor
  · rintro ⟨y, hy, h1, h2, h3⟩; simp at h3
  · intro h; simp at h
end Tb
end Go.Proofs.Ytfgokhafiffbaaa

/-
  Who is in Next, who in Prev, told by pairs: the law TruthSteps. No program in sight.
-/
namespace Go.Proofs.Ytfgokhafiffbaaa
set_option linter.unusedVariables false
namespace Tb
theorem any_succ (q : Nat → Bool) (k : Nat) : anyTo q (k + 1) = (anyTo q k || q k) := by rw [anyTo]
theorem any_zero (q : Nat → Bool) : anyTo q 0 = false := by rw [anyTo]
theorem half_and : ∀ y : Nat, y < 256 → (y / 2 &&& 85) = half y := by unfold half; decide +kernel
theorem odd_half : ∀ y : Nat, y < 256 → (y &&& 170) = half y * 2 := by unfold half; decide +kernel
theorem half_walk2 (y : Nat) (hy : y < 256) : bits .and .u8 ((y : Int) / 2) 85 = (half y : Int) := by
  have e := u8_and_nat (y / 2) 85 (by omega) (by omega)
  rw [half_and y hy] at e
  rw [← e]; norm_cast
theorem even_walk (y : Nat) (hy : y < 256) : bits .and .u8 (y : Int) 85 = ((y &&& 85 : Nat) : Int) := u8_and_nat y 85 hy (by omega)
theorem nx_half (x y : Nat) (hy : y < 256) : nx x y = (half y == (x &&& 85)) := by
  unfold nx
  rw [odd_half y hy, Bool.eq_iff_iff, beq_iff_eq, beq_iff_eq]
  omega
theorem pv_even (x y : Nat) : pv x y = ((y &&& 85) == (x &&& 85)) := by unfold pv; rfl
/-- from a pair of the relation -/
def came (s r : T) (x : Nat) : Nat → Bool := fun y => r.getLsbD y && s.getLsbD y && (half y == (x &&& 85))
def goes (s r : T) (x : Nat) : Nat → Bool := fun y => r.getLsbD y && ((y &&& 85) == (x &&& 85)) && s.getLsbD (half y)
theorem next_came (s r : T) {x : Nat} (hx : x < 256) : (next s r).getLsbD x = anyTo (came s r x) 256 := by
  rw [Bool.eq_iff_iff, next_get s r hx, anyTo_spec]
  constructor
  · rintro ⟨y, hy, h1, h2, h3⟩
    rw [nx_half x y hy] at h1
    exact ⟨y, hy, by unfold came; rw [h1, h2, h3]; rfl⟩
  · rintro ⟨y, hy, h⟩
    unfold came at h
    simp only [Bool.and_eq_true] at h
    exact ⟨y, hy, by rw [nx_half x y hy]; exact h.2, h.1.2, h.1.1⟩
theorem prev_goes (s r : T) {x : Nat} (hx : x < 256) : (prev s r).getLsbD x = anyTo (goes s r x) 256 := by
  rw [Bool.eq_iff_iff, prev_get s r hx, anyTo_spec]
  constructor
  · rintro ⟨y, hy, h1, h2, h3⟩
    rw [pv_even x y] at h1
    exact ⟨y, hy, by unfold goes; rw [h1, h2, h3]; rfl⟩
  · rintro ⟨y, hy, h⟩
    unfold goes at h
    simp only [Bool.and_eq_true] at h
    exact ⟨y, hy, by rw [pv_even x y]; exact h.1.2, h.1.1, h.2⟩
theorem agree_even {x y : Nat} (hx : x < 256) (hy : y < 256) (h : Agree 170 x y) : x &&& 85 = y &&& 85 := by
  apply eq_of_bits (andN_lt hx) (andN_lt hy)
  intro i hi
  rw [Nat.testBit_and, Nat.testBit_and]
  by_cases e : Nat.testBit 170 i = false
  · rw [h i hi e]
  · have : ∀ i, i < 8 → ¬ Nat.testBit 170 i = false → Nat.testBit 85 i = false := by decide
    rw [this i hi e]; simp
theorem indep_next (s r : T) : Indep (next s r) 170 := fun x y hx hy h hf => by
  rw [next_came _ _ hx] at hf
  rw [next_came _ _ hy]
  unfold came at hf ⊢
  rw [agree_even hx hy h] at hf
  exact hf
theorem indep_prev (s r : T) : Indep (prev s r) 170 := fun x y hx hy h hf => by
  rw [prev_goes _ _ hx] at hf
  rw [prev_goes _ _ hy]
  unfold goes at hf ⊢
  rw [agree_even hx hy h] at hf
  exact hf
attribute [irreducible] came goes
end Tb
end Go.Proofs.Ytfgokhafiffbaaa

/-
  What the document's quantifiers, Next and Prev come to. No program in sight.
-/
namespace Go.Proofs.Ytfgokhafiffbaaa
set_option linter.unusedVariables false
namespace Tb
theorem not_exs_not (f : T) (m : Nat) : ~~~ (halves (fun F G => F ||| G) (~~~f) m) = halves (fun F G => F &&& G) f m := by
  refine ext_iff fun x hx => ?_
  rw [all_get _ _ hx, BitVec.getLsbD_not]
  simp only [hx, decide_true, Bool.true_and, Bool.not_eq_true']
  rw [← Bool.not_eq_true, exs_get _ _ hx]
  constructor
  · intro h y hy ha
    cases e : f.getLsbD y
    · exact absurd ⟨y, hy, by rw [BitVec.getLsbD_not, e]; simp [hy], ha⟩ h
    · rfl
  · rintro h ⟨y, hy, hn, ha⟩
    rw [BitVec.getLsbD_not, h y hy ha] at hn
    simp at hn
/-- variables set one by one -/
def rstTo (f : T) (m v : Nat) : Nat → T
  | 0 => f
  | k + 1 => if m.testBit k then fix (rstTo f m v k) (k : Int) (v.testBit k) else rstTo f m v k
theorem rstTo_get (f : T) (m v : Nat) : ∀ k, k ≤ 8 → ∀ x y, x < 256 → y < 256 → (∀ i, i < 8 → y.testBit i = if i < k ∧ m.testBit i = true then v.testBit i else x.testBit i) → (rstTo f m v k).getLsbD x = f.getLsbD y := by
  intro k
  induction k with
  | zero =>
    intro _ x y hx hy h
    rw [rstTo, eq_of_bits hy hx fun i hi => by rw [h i hi]; simp]
  | succ k ih =>
    intro hk x y hx hy h
    rw [rstTo]
    split
    · rename_i hm
      rw [fix_get (by omega) hx]
      refine ih (by omega) _ y (wth_lt x hx k (by omega) _) hy fun i hi => ?_
      rw [h i hi, wth_bit x hx k (by omega) _ i hi]
      by_cases e : i = k
      · subst e; simp [hm]
      · by_cases h2 : i < k
        · simp [show i < k + 1 from by omega, h2, e]
        · simp [show ¬ i < k + 1 from by omega, h2, e]
    · rename_i hm
      refine ih (by omega) x y hx hy fun i hi => ?_
      rw [h i hi]
      by_cases e : i = k
      · subst e; simp at hm; simp [hm]
      · by_cases h2 : i < k
        · simp [show i < k + 1 from by omega, h2]
        · simp [show ¬ i < k + 1 from by omega, h2]
theorem rstTo_all (f : T) (m v : Nat) (hm : m < 256) (hv : v < 256) : rstTo f m v 8 = restrict f m v := ext_get fun x hx => by
  rw [restrict_get _ _ _ hx]
  refine rstTo_get f m v 8 (by omega) x _ hx (rstx_lt _ _ _ hx hv) fun i hi => ?_
  rw [rstx_bit _ _ _ hm i hi]
  simp [hi]
theorem rstTo_zero (f : T) (m v : Nat) : rstTo f m v 0 = f := by rw [rstTo]
theorem rstTo_yes {f : T} {m v k : Nat} (h : m.testBit k = true) : rstTo f m v (k + 1) = fix (rstTo f m v k) (k : Int) (v.testBit k) := by rw [rstTo]; simp [h]
theorem rstTo_no {f : T} {m v k : Nat} (h : m.testBit k = false) : rstTo f m v (k + 1) = rstTo f m v k := by rw [rstTo]; simp [h]
/-- the even bits, packed -/
def hf (y : Nat) : Nat := (y &&& 1) ||| (y / 2 &&& 2) ||| (y / 4 &&& 4) ||| (y / 8 &&& 8)
def unhf (n : Nat) : Nat := (n &&& 1) ||| ((n &&& 2) * 2) ||| ((n &&& 4) * 4) ||| ((n &&& 8) * 8)
theorem hf_lt : ∀ y : Nat, y < 256 → hf y < 16 := by decide +kernel
theorem hf_un : ∀ y : Nat, y < 256 → unhf (hf y) = (y &&& 85) := by decide +kernel
theorem hf_and : ∀ y : Nat, y < 256 → hf y = hf (y &&& 85) := by decide +kernel
theorem hf_walk : ∀ y : Nat, y < 256 → bits .or .i64 (bits .or .i64 (bits .or .i64 (bits .and .i64 (y : Int) 1) (bits .and .i64 ((y : Int) / 2) 2)) (bits .and .i64 ((y : Int) / 4) 4)) (bits .and .i64 ((y : Int) / 8) 8) = (hf y : Int) := by decide +kernel
theorem hf_eq {x y : Nat} (hx : x < 256) (hy : y < 256) : (hf y == hf x) = ((y &&& 85) == (x &&& 85)) := by
  rw [Bool.eq_iff_iff, beq_iff_eq, beq_iff_eq]
  exact ⟨fun h => by rw [← hf_un y hy, ← hf_un x hx, h], fun h => by rw [hf_and y hy, hf_and x hx, h]⟩
/-- who leads there, told by what is packed -/
def cameR (s r : T) (j : Nat) : Nat → Bool := fun y => s.getLsbD y && r.getLsbD y && (hf (y / 2) == j)
def goesR (s r : T) (x : Nat) : Nat → Bool := fun y => (hf y == hf x) && r.getLsbD y && s.getLsbD (half y)
theorem any_congr {p q : Nat → Bool} {n : Nat} (h : ∀ y, y < n → p y = q y) : anyTo p n = anyTo q n := by
  rw [Bool.eq_iff_iff, anyTo_spec, anyTo_spec]
  exact ⟨fun ⟨k, hk, e⟩ => ⟨k, hk, by rw [← h k hk]; exact e⟩, fun ⟨k, hk, e⟩ => ⟨k, hk, by rw [h k hk]; exact e⟩⟩
theorem next_ref (s r : T) {x : Nat} (hx : x < 256) : (next s r).getLsbD x = anyTo (cameR s r (hf x)) 256 := by
  rw [next_came s r hx]
  refine any_congr fun y hy => ?_
  unfold came cameR
  rw [hf_eq hx (show y / 2 < 256 from by omega), half_and y hy]
  cases s.getLsbD y <;> cases r.getLsbD y <;> rfl
theorem prev_ref (s r : T) {x : Nat} (hx : x < 256) : (prev s r).getLsbD x = anyTo (goesR s r x) 256 := by
  rw [prev_goes s r hx]
  refine any_congr fun y hy => ?_
  unfold goes goesR
  rw [hf_eq hx hy]
  cases s.getLsbD (half y) <;> cases r.getLsbD y <;> simp
theorem tab_next (s r : T) : tab (fun x => anyTo (cameR s r (hf x)) 256) = next s r := tab_eq fun x hx => (next_ref s r hx).symm
theorem tab_prev (s r : T) : tab (fun x => anyTo (goesR s r x) 256) = prev s r := tab_eq fun x hx => (prev_ref s r hx).symm
theorem i64_even : ∀ y : Nat, y < 256 → bits .and .i64 ((y : Int) / 2) 85 = (half y : Int) := by unfold half; decide +kernel
attribute [irreducible] hf rstTo cameR goesR
end Tb
end Go.Proofs.Ytfgokhafiffbaaa

/-
  The walks of the document's tables, sixth part: all of a mask, variables set for good, packed bits.
-/
namespace Go.Proofs.Ytfgokhafiffbaaa
set_option linter.unusedVariables false
open Go.RowKit

set_option maxRecDepth 100000 in
set_option maxHeartbeats 1000000 in
theorem rforall_any (f : Tb.T) (m : Nat) (w : World) (hm : m < 256) :
    Calls Try.prog 40 #[Tb.tv f, .int .u8 (m : Int)] w fun e w' => e = .returned (Tb.tv (Tb.halves (fun F G => F &&& G) f m)) ∧ Below w.heap.size w w' := by
  have hK := ((Keep.nil w).new f).new 0#256
  simp only [List.cons_append, List.nil_append, alloc_size, Tb.tcells_zero] at hK
  have H1 := Bx.mk (fun w => rnot_any f w)
  have H2 := Bx.mk (fun w => rexists_any (~~~f) m w hm)
  have h3 := fun w => rnot_any (Tb.halves (fun F G => F ||| G) (~~~f) m) w
  rw [Tb.not_exs_not] at h3
  have H3 := Bx.mk h3
  clear h3
  go_enter Try.func40, Try.ntmps40
  go_wp2_with fail
  refine (H1.out _).mono ?_
  rintro e w1 ⟨rfl, b1⟩
  replace hK := hK.step b1
  clear b1
  go_wp2_with fail
  refine (H2.out _).mono ?_
  rintro e w1 ⟨rfl, b1⟩
  replace hK := hK.step b1
  clear b1
  go_wp2_with fail
  refine (H3.out _).mono ?_
  rintro e w1 ⟨rfl, b1⟩
  replace hK := hK.step b1
  obtain ⟨⟨a0, a1, a2, a3⟩, c0, c1, c2, c3⟩ := tfacts (hK.at_ 1 _ _ rfl)
  have hb := hK.below
  clear b1 hK
  go_wp2_with fail
  refine bodyPost_ret (v := Tb.tv (Tb.halves (fun F G => F &&& G) f m)) (by simp [results, Try.results40, go_sem, a0, a1, a2, a3]) rfl ⟨rfl, ?_⟩
  (repeat (first | (with_reducible exact Below.refl _ _) | (with_reducible assumption) | (with_reducible refine Below.drew ?_) | (with_reducible refine Below.setCell ?_ ?_ _; rotate_left; (first | omega | (simp <;> omega))) | (with_reducible refine Below.alloc ?_ ?_ _; rotate_left; (first | omega | (simp <;> omega))) | (with_reducible refine Below.trans ?_ (hb.mono ?_); rotate_left; (first | omega | (simp <;> omega)))))

end Go.Proofs.Ytfgokhafiffbaaa

/-
  Formulas of the document: Is, Func.
-/
namespace Go.Proofs.Ytfgokhafiffbaaa
set_option linter.unusedVariables false
open Go.RowKit
set_option maxHeartbeats 4000000 in
theorem ris_any (t : Tr) (sl : Value) (B : Nat → Prop) (w : World) (hn : (t.on .nil).nodes ≤ 4000) (hs : SlF w B sl t.kids) :
    Calls Try.prog 19 #[Ev t sl] w fun e w' => e = .returned (.bool (Ex.is t)) ∧ Below w.heap.size w w' := by
  obtain ⟨pp, cap, rfl⟩ := hs.is
  have hb := boxE w t.k t.a t.v (.slice pp t.kids.len cap)
  have hO := OneE.box (s := t) (Below.refl w.heap.size w) hs
  have HO := Bx.mk hO
  have hn2 := hn
  rw [Fo.nodes_on, show Fo.nil.nodes = 0 from rfl, Nat.add_zero] at hn2
  have hcl := Fo.cl_all t.kids (m := 4000) (n := 1) hn2
  have hC := count_any t _ _ _ 4000 (by omega) hO.sa
  rw [hcl] at hC
  have hF := fun u (h : OneE w u w.heap.size t (.slice pp t.kids.len cap)) => form_any t _ _ u (by omega) h.sa
  have HC := Bx.mk hC
  have HF := Bx.mk hF
  have HI := Bx.mk (show Ex.is t = Ex.ok t from by unfold Ex.is Ex.ok; rw [decide_eq_true hn, Fo.allPlain_on]; simp [Fo.allPlain])
  have q : ((1 + t.kids.nodes : Nat) : Int) ≤ 4000 := by omega
  obtain ⟨c0, c1, c2, c3, _, _, _, _⟩ := cells4 hb
  clear hb hO hn hn2 hcl hC hF hs
  unfold Ev at HC HF ⊢
  generalize 1 + t.kids.nodes = cc at *
  go_enter Try.func19, Try.ntmps19
  go_wp2_with fail
  refine HC.out.mono ?_
  rintro e w1 ⟨rfl, hb1⟩
  have HO1 := Bx.mk (HO.out.step hb1)
  clear c0 c1 c2 c3 hb1 HO
  obtain ⟨c0, c1, c2, c3, _, _, _, _⟩ := cells4 HO1.out.a
  go_wp2_with fail
  refine (HF.out _ HO1.out).mono ?_
  rintro e w2 ⟨rfl, hb2⟩
  have HB := Bx.mk (HO1.out.step hb2).be
  clear hb2 c0 c1 c2 c3
  go_wp2_with fail
  go_ret
  exact ⟨by rw [HI.out]; rfl, HB.out⟩
def T2z (n : Nat) : Prop := ∀ (t : Tr) (sl : Value) (B : Nat → Prop) (u : World), (t.on .nil).nodes ≤ n → (t.on .nil).allPlain = true → SlF u B sl t.kids →
  Calls Try.prog 22 #[Ev t sl] u fun e w' => e = .returned (Tb.tv (Ex.table t)) ∧ Below u.heap.size u w'
theorem pow_modS {m : Nat} (h : 2 ^ m < 256) : (2 : Int) ^ m % 256 = (2 : Int) ^ m := by
  have := pow_mod8 h
  rw [this]; simp

set_option maxHeartbeats 8000000 in
theorem rtable_1 (n : Nat) (ih : T2z n) (a : Int) (v : Int) (pp : Option Addr) (cap : Nat) (w : World)  :
    Calls Try.prog 22 #[.agg #[.int .i64 1, .int .i64 a, .int .i64 v, .slice pp 0 cap]] w fun e w' => e = .returned (Tb.tv (Ex.tabk 1 v [])) ∧ Below w.heap.size w w' := by
  have H0 := Bx.mk (TS.start w 1 a v (.slice pp 0 cap))
  have IH := Bx.mk ih
  clear ih
  go_enter Try.func22, Try.ntmps22
  go_wp2_with fail
  try rw [zeros_tab]
  try rw [lc_zero]
  generalize hW : World.alloc (World.alloc (World.alloc _ _) _) _ = W0
  have H1 : Bx (TS w W0 1 a v (.slice pp 0 cap) 0#256 0#256 0#256) := ⟨by rw [← hW]; exact H0.out⟩
  clear hW H0
  refine wp_loop_rounds 1 ?_
  obtain ⟨⟨e0, e2, e3⟩, ⟨q0, q1, q2, q3, q4, q5, q6, q7, q8, q9, qa, qb⟩, f0, f1, f2, f3, f4, f5, f6, f7, f8, f9, fa, fb⟩ := H1.out.cells
  rw [rounds_succ]
  go_wp2_with fail
  clear e0 e2 e3 q0 q1 q2 q3 q4 q5 q6 q7 q8 q9 qa qb f0 f1 f2 f3 f4 f5 f6 f7 f8 f9 fa fb
  refine (rvar_any v _).mono ?_
  rintro e u9 ⟨rfl, hb9⟩
  have h9 := H1.out.step hb9
  obtain ⟨⟨r0, r1, r2, r3⟩, g0, g1, g2, g3⟩ := tfacts h9.r
  have HSf := Bx.mk (store4 (F := Tb.var v) h9.r)
  have HBf := Bx.mk (below4 (F := Tb.var v) (p := w.heap.size + 1) h9.be (by omega))
  clear h9 hb9
  generalize hR : Tb.var v = R at HSf HBf ⊢
  have HR := Bx.mk hR
  clear hR
  unfold Tb.tv
  go_wp2_with fail
  clear r0 r1 r2 r3 g0 g1 g2 g3
  obtain ⟨⟨r0, r1, r2, r3⟩, _, _, _, _⟩ := tfacts HSf.out
  refine bodyPost_ret (v := Tb.tv R) (by simp [results, Try.results22, go_sem, r0, r1, r2, r3] <;> rfl) rfl ⟨?_, HBf.out⟩
  rw [← HR.out]
  unfold Ex.tabk
  simp
set_option maxHeartbeats 8000000 in
theorem rtable_2 (n : Nat) (ih : T2z n) (a : Int) (v : Int) (pp : Option Addr) (cap : Nat) (w : World)  :
    Calls Try.prog 22 #[.agg #[.int .i64 2, .int .i64 a, .int .i64 v, .slice pp 0 cap]] w fun e w' => e = .returned (Tb.tv (Ex.tabk 2 v [])) ∧ Below w.heap.size w w' := by
  have H0 := Bx.mk (TS.start w 2 a v (.slice pp 0 cap))
  have IH := Bx.mk ih
  clear ih
  go_enter Try.func22, Try.ntmps22
  go_wp2_with fail
  try rw [zeros_tab]
  try rw [lc_zero]
  generalize hW : World.alloc (World.alloc (World.alloc _ _) _) _ = W0
  have H1 : Bx (TS w W0 2 a v (.slice pp 0 cap) 0#256 0#256 0#256) := ⟨by rw [← hW]; exact H0.out⟩
  clear hW H0
  refine wp_loop_rounds 1 ?_
  obtain ⟨⟨e0, e2, e3⟩, ⟨q0, q1, q2, q3, q4, q5, q6, q7, q8, q9, qa, qb⟩, f0, f1, f2, f3, f4, f5, f6, f7, f8, f9, fa, fb⟩ := H1.out.cells
  rw [rounds_succ]
  go_wp2_with fail
  clear e0 e2 e3 q0 q1 q2 q3 q4 q5 q6 q7 q8 q9 qa qb f0 f1 f2 f3 f4 f5 f6 f7 f8 f9 fa fb
  refine (rconst_any (decide (v = 1)) _).mono ?_
  rintro e u9 ⟨rfl, hb9⟩
  have h9 := H1.out.step hb9
  obtain ⟨⟨r0, r1, r2, r3⟩, g0, g1, g2, g3⟩ := tfacts h9.r
  have HSf := Bx.mk (store4 (F := Tb.cst (decide (v = 1))) h9.r)
  have HBf := Bx.mk (below4 (F := Tb.cst (decide (v = 1))) (p := w.heap.size + 1) h9.be (by omega))
  clear h9 hb9
  generalize hR : Tb.cst (decide (v = 1)) = R at HSf HBf ⊢
  have HR := Bx.mk hR
  clear hR
  unfold Tb.tv
  go_wp2_with fail
  clear r0 r1 r2 r3 g0 g1 g2 g3
  obtain ⟨⟨r0, r1, r2, r3⟩, _, _, _, _⟩ := tfacts HSf.out
  refine bodyPost_ret (v := Tb.tv R) (by simp [results, Try.results22, go_sem, r0, r1, r2, r3] <;> rfl) rfl ⟨?_, HBf.out⟩
  rw [← HR.out]
  unfold Ex.tabk
  simp
set_option maxHeartbeats 8000000 in
theorem rtable_3 (n : Nat) (ih : T2z n) (a : Int) (v : Int) (b o cap : Nat) (w : World) (x : Tr) (sx : Value) (Kx : Kid w b o x sx) (Nx : (x.on .nil).nodes ≤ n) (Px : (x.on .nil).allPlain = true) :
    Calls Try.prog 22 #[.agg #[.int .i64 3, .int .i64 a, .int .i64 v, .slice (some ⟨b, o, none⟩) 1 cap]] w fun e w' => e = .returned (Tb.tv (Ex.tabk 3 v [Ex.table x])) ∧ Below w.heap.size w w' := by
  have H0 := Bx.mk (TS.start w 3 a v (.slice (some ⟨b, o, none⟩) 1 cap))
  have BKx := Bx.mk Kx
  have BNx := Bx.mk Nx
  have BPx := Bx.mk Px
  have IH := Bx.mk ih
  clear ih Kx Nx Px
  go_enter Try.func22, Try.ntmps22
  go_wp2_with fail
  try rw [zeros_tab]
  try rw [lc_zero]
  generalize hW : World.alloc (World.alloc (World.alloc _ _) _) _ = W0
  have H1 : Bx (TS w W0 3 a v (.slice (some ⟨b, o, none⟩) 1 cap) 0#256 0#256 0#256) := ⟨by rw [← hW]; exact H0.out⟩
  clear hW H0
  refine wp_loop_rounds 2 ?_
  rw [rounds_succ]
  have hk0 := BKx.out.below H1.out.be
  obtain ⟨k0, k1, k2, k3, kS⟩ := hk0
  obtain ⟨px, cx, rfl⟩ := kS.is
  have HI := Bx.mk (IH.out x _ _ _ BNx.out BPx.out kS)
  obtain ⟨e0, e2, e3⟩ := H1.out.cells.1
  clear kS
  unfold Ev at HI
  go_wp2_with fail
  refine HI.out.mono ?_
  rintro e u0 ⟨rfl, hb0⟩
  have hT := H1.out.step hb0
  clear k0 k1 k2 k3 HI e0 e2 e3
  obtain ⟨_, ⟨q0, q1, q2, q3, q4, q5, q6, q7, q8, q9, qa, qb⟩, f0, f1, f2, f3, f4, f5, f6, f7, f8, f9, fa, fb⟩ := hT.cells
  have HT := Bx.mk hT
  clear hT hb0
  generalize hF0 : Ex.table x = F0
  have HF0 := Bx.mk hF0
  clear hF0
  unfold Tb.tv
  go_wp2_with fail
  clear q0 q1 q2 q3 q4 q5 q6 q7 q8 q9 qa qb f0 f1 f2 f3 f4 f5 f6 f7 f8 f9 fa fb
  have H2 := Bx.mk (HT.out.put0 F0)
  obtain ⟨⟨e0, e2, e3⟩, ⟨q0, q1, q2, q3, q4, q5, q6, q7, q8, q9, qa, qb⟩, f0, f1, f2, f3, f4, f5, f6, f7, f8, f9, fa, fb⟩ := H2.out.cells
  rw [rounds_succ]
  go_wp2_with fail
  clear e0 e2 e3 q0 q1 q2 q3 q4 q5 q6 q7 q8 q9 qa qb f0 f1 f2 f3 f4 f5 f6 f7 f8 f9 fa fb
  refine (rnot_any F0 _).mono ?_
  rintro e u9 ⟨rfl, hb9⟩
  have h9 := H2.out.step hb9
  obtain ⟨⟨r0, r1, r2, r3⟩, g0, g1, g2, g3⟩ := tfacts h9.r
  have HSf := Bx.mk (store4 (F := ~~~F0) h9.r)
  have HBf := Bx.mk (below4 (F := ~~~F0) (p := w.heap.size + 1) h9.be (by omega))
  clear h9 hb9
  generalize hR : ~~~F0 = R at HSf HBf ⊢
  have HR := Bx.mk hR
  clear hR
  unfold Tb.tv
  go_wp2_with fail
  clear r0 r1 r2 r3 g0 g1 g2 g3
  obtain ⟨⟨r0, r1, r2, r3⟩, _, _, _, _⟩ := tfacts HSf.out
  refine bodyPost_ret (v := Tb.tv R) (by simp [results, Try.results22, go_sem, r0, r1, r2, r3] <;> rfl) rfl ⟨?_, HBf.out⟩
  rw [← HR.out, ← HF0.out]
  unfold Ex.tabk
  simp
set_option maxHeartbeats 8000000 in
theorem rtable_4 (n : Nat) (ih : T2z n) (a : Int) (v : Int) (b o cap : Nat) (w : World) (x : Tr) (sx : Value) (Kx : Kid w b o x sx) (Nx : (x.on .nil).nodes ≤ n) (Px : (x.on .nil).allPlain = true) (y : Tr) (sy : Value) (Ky : Kid w b (o + 4) y sy) (Ny : (y.on .nil).nodes ≤ n) (Py : (y.on .nil).allPlain = true) :
    Calls Try.prog 22 #[.agg #[.int .i64 4, .int .i64 a, .int .i64 v, .slice (some ⟨b, o, none⟩) 2 cap]] w fun e w' => e = .returned (Tb.tv (Ex.tabk 4 v [Ex.table x, Ex.table y])) ∧ Below w.heap.size w w' := by
  have H0 := Bx.mk (TS.start w 4 a v (.slice (some ⟨b, o, none⟩) 2 cap))
  have BKx := Bx.mk Kx
  have BNx := Bx.mk Nx
  have BPx := Bx.mk Px
  have BKy := Bx.mk Ky
  have BNy := Bx.mk Ny
  have BPy := Bx.mk Py
  have IH := Bx.mk ih
  clear ih Kx Nx Px Ky Ny Py
  go_enter Try.func22, Try.ntmps22
  go_wp2_with fail
  try rw [zeros_tab]
  try rw [lc_zero]
  generalize hW : World.alloc (World.alloc (World.alloc _ _) _) _ = W0
  have H1 : Bx (TS w W0 4 a v (.slice (some ⟨b, o, none⟩) 2 cap) 0#256 0#256 0#256) := ⟨by rw [← hW]; exact H0.out⟩
  clear hW H0
  refine wp_loop_rounds 3 ?_
  rw [rounds_succ]
  have hk0 := BKx.out.below H1.out.be
  obtain ⟨k0, k1, k2, k3, kS⟩ := hk0
  obtain ⟨px, cx, rfl⟩ := kS.is
  have HI := Bx.mk (IH.out x _ _ _ BNx.out BPx.out kS)
  obtain ⟨e0, e2, e3⟩ := H1.out.cells.1
  clear kS
  unfold Ev at HI
  go_wp2_with fail
  refine HI.out.mono ?_
  rintro e u0 ⟨rfl, hb0⟩
  have hT := H1.out.step hb0
  clear k0 k1 k2 k3 HI e0 e2 e3
  obtain ⟨_, ⟨q0, q1, q2, q3, q4, q5, q6, q7, q8, q9, qa, qb⟩, f0, f1, f2, f3, f4, f5, f6, f7, f8, f9, fa, fb⟩ := hT.cells
  have HT := Bx.mk hT
  clear hT hb0
  generalize hF0 : Ex.table x = F0
  have HF0 := Bx.mk hF0
  clear hF0
  unfold Tb.tv
  go_wp2_with fail
  clear q0 q1 q2 q3 q4 q5 q6 q7 q8 q9 qa qb f0 f1 f2 f3 f4 f5 f6 f7 f8 f9 fa fb
  have H2 := Bx.mk (HT.out.put0 F0)
  rw [rounds_succ]
  have hk1 := BKy.out.below H2.out.be
  obtain ⟨k0, k1, k2, k3, kS⟩ := hk1
  obtain ⟨py, cy, rfl⟩ := kS.is
  have HI := Bx.mk (IH.out y _ _ _ BNy.out BPy.out kS)
  obtain ⟨e0, e2, e3⟩ := H2.out.cells.1
  clear kS
  unfold Ev at HI
  go_wp2_with fail
  refine HI.out.mono ?_
  rintro e u1 ⟨rfl, hb1⟩
  have hT := H2.out.step hb1
  clear k0 k1 k2 k3 HI e0 e2 e3
  obtain ⟨_, ⟨q0, q1, q2, q3, q4, q5, q6, q7, q8, q9, qa, qb⟩, f0, f1, f2, f3, f4, f5, f6, f7, f8, f9, fa, fb⟩ := hT.cells
  have HT := Bx.mk hT
  clear hT hb1
  generalize hF1 : Ex.table y = F1
  have HF1 := Bx.mk hF1
  clear hF1
  unfold Tb.tv
  go_wp2_with fail
  clear q0 q1 q2 q3 q4 q5 q6 q7 q8 q9 qa qb f0 f1 f2 f3 f4 f5 f6 f7 f8 f9 fa fb
  have H3 := Bx.mk (HT.out.put1 F1)
  obtain ⟨⟨e0, e2, e3⟩, ⟨q0, q1, q2, q3, q4, q5, q6, q7, q8, q9, qa, qb⟩, f0, f1, f2, f3, f4, f5, f6, f7, f8, f9, fa, fb⟩ := H3.out.cells
  rw [rounds_succ]
  go_wp2_with fail
  clear e0 e2 e3 q0 q1 q2 q3 q4 q5 q6 q7 q8 q9 qa qb f0 f1 f2 f3 f4 f5 f6 f7 f8 f9 fa fb
  refine (rand_any F0 F1 _).mono ?_
  rintro e u9 ⟨rfl, hb9⟩
  have h9 := H3.out.step hb9
  obtain ⟨⟨r0, r1, r2, r3⟩, g0, g1, g2, g3⟩ := tfacts h9.r
  have HSf := Bx.mk (store4 (F := F0 &&& F1) h9.r)
  have HBf := Bx.mk (below4 (F := F0 &&& F1) (p := w.heap.size + 1) h9.be (by omega))
  clear h9 hb9
  generalize hR : F0 &&& F1 = R at HSf HBf ⊢
  have HR := Bx.mk hR
  clear hR
  unfold Tb.tv
  go_wp2_with fail
  clear r0 r1 r2 r3 g0 g1 g2 g3
  obtain ⟨⟨r0, r1, r2, r3⟩, _, _, _, _⟩ := tfacts HSf.out
  refine bodyPost_ret (v := Tb.tv R) (by simp [results, Try.results22, go_sem, r0, r1, r2, r3] <;> rfl) rfl ⟨?_, HBf.out⟩
  rw [← HR.out, ← HF0.out, ← HF1.out]
  unfold Ex.tabk
  simp
set_option maxHeartbeats 8000000 in
theorem rtable_5 (n : Nat) (ih : T2z n) (a : Int) (v : Int) (b o cap : Nat) (w : World) (x : Tr) (sx : Value) (Kx : Kid w b o x sx) (Nx : (x.on .nil).nodes ≤ n) (Px : (x.on .nil).allPlain = true) (y : Tr) (sy : Value) (Ky : Kid w b (o + 4) y sy) (Ny : (y.on .nil).nodes ≤ n) (Py : (y.on .nil).allPlain = true) :
    Calls Try.prog 22 #[.agg #[.int .i64 5, .int .i64 a, .int .i64 v, .slice (some ⟨b, o, none⟩) 2 cap]] w fun e w' => e = .returned (Tb.tv (Ex.tabk 5 v [Ex.table x, Ex.table y])) ∧ Below w.heap.size w w' := by
  have H0 := Bx.mk (TS.start w 5 a v (.slice (some ⟨b, o, none⟩) 2 cap))
  have BKx := Bx.mk Kx
  have BNx := Bx.mk Nx
  have BPx := Bx.mk Px
  have BKy := Bx.mk Ky
  have BNy := Bx.mk Ny
  have BPy := Bx.mk Py
  have IH := Bx.mk ih
  clear ih Kx Nx Px Ky Ny Py
  go_enter Try.func22, Try.ntmps22
  go_wp2_with fail
  try rw [zeros_tab]
  try rw [lc_zero]
  generalize hW : World.alloc (World.alloc (World.alloc _ _) _) _ = W0
  have H1 : Bx (TS w W0 5 a v (.slice (some ⟨b, o, none⟩) 2 cap) 0#256 0#256 0#256) := ⟨by rw [← hW]; exact H0.out⟩
  clear hW H0
  refine wp_loop_rounds 3 ?_
  rw [rounds_succ]
  have hk0 := BKx.out.below H1.out.be
  obtain ⟨k0, k1, k2, k3, kS⟩ := hk0
  obtain ⟨px, cx, rfl⟩ := kS.is
  have HI := Bx.mk (IH.out x _ _ _ BNx.out BPx.out kS)
  obtain ⟨e0, e2, e3⟩ := H1.out.cells.1
  clear kS
  unfold Ev at HI
  go_wp2_with fail
  refine HI.out.mono ?_
  rintro e u0 ⟨rfl, hb0⟩
  have hT := H1.out.step hb0
  clear k0 k1 k2 k3 HI e0 e2 e3
  obtain ⟨_, ⟨q0, q1, q2, q3, q4, q5, q6, q7, q8, q9, qa, qb⟩, f0, f1, f2, f3, f4, f5, f6, f7, f8, f9, fa, fb⟩ := hT.cells
  have HT := Bx.mk hT
  clear hT hb0
  generalize hF0 : Ex.table x = F0
  have HF0 := Bx.mk hF0
  clear hF0
  unfold Tb.tv
  go_wp2_with fail
  clear q0 q1 q2 q3 q4 q5 q6 q7 q8 q9 qa qb f0 f1 f2 f3 f4 f5 f6 f7 f8 f9 fa fb
  have H2 := Bx.mk (HT.out.put0 F0)
  rw [rounds_succ]
  have hk1 := BKy.out.below H2.out.be
  obtain ⟨k0, k1, k2, k3, kS⟩ := hk1
  obtain ⟨py, cy, rfl⟩ := kS.is
  have HI := Bx.mk (IH.out y _ _ _ BNy.out BPy.out kS)
  obtain ⟨e0, e2, e3⟩ := H2.out.cells.1
  clear kS
  unfold Ev at HI
  go_wp2_with fail
  refine HI.out.mono ?_
  rintro e u1 ⟨rfl, hb1⟩
  have hT := H2.out.step hb1
  clear k0 k1 k2 k3 HI e0 e2 e3
  obtain ⟨_, ⟨q0, q1, q2, q3, q4, q5, q6, q7, q8, q9, qa, qb⟩, f0, f1, f2, f3, f4, f5, f6, f7, f8, f9, fa, fb⟩ := hT.cells
  have HT := Bx.mk hT
  clear hT hb1
  generalize hF1 : Ex.table y = F1
  have HF1 := Bx.mk hF1
  clear hF1
  unfold Tb.tv
  go_wp2_with fail
  clear q0 q1 q2 q3 q4 q5 q6 q7 q8 q9 qa qb f0 f1 f2 f3 f4 f5 f6 f7 f8 f9 fa fb
  have H3 := Bx.mk (HT.out.put1 F1)
  obtain ⟨⟨e0, e2, e3⟩, ⟨q0, q1, q2, q3, q4, q5, q6, q7, q8, q9, qa, qb⟩, f0, f1, f2, f3, f4, f5, f6, f7, f8, f9, fa, fb⟩ := H3.out.cells
  rw [rounds_succ]
  go_wp2_with fail
  clear e0 e2 e3 q0 q1 q2 q3 q4 q5 q6 q7 q8 q9 qa qb f0 f1 f2 f3 f4 f5 f6 f7 f8 f9 fa fb
  refine (ror_any F0 F1 _).mono ?_
  rintro e u9 ⟨rfl, hb9⟩
  have h9 := H3.out.step hb9
  obtain ⟨⟨r0, r1, r2, r3⟩, g0, g1, g2, g3⟩ := tfacts h9.r
  have HSf := Bx.mk (store4 (F := F0 ||| F1) h9.r)
  have HBf := Bx.mk (below4 (F := F0 ||| F1) (p := w.heap.size + 1) h9.be (by omega))
  clear h9 hb9
  generalize hR : F0 ||| F1 = R at HSf HBf ⊢
  have HR := Bx.mk hR
  clear hR
  unfold Tb.tv
  go_wp2_with fail
  clear r0 r1 r2 r3 g0 g1 g2 g3
  obtain ⟨⟨r0, r1, r2, r3⟩, _, _, _, _⟩ := tfacts HSf.out
  refine bodyPost_ret (v := Tb.tv R) (by simp [results, Try.results22, go_sem, r0, r1, r2, r3] <;> rfl) rfl ⟨?_, HBf.out⟩
  rw [← HR.out, ← HF0.out, ← HF1.out]
  unfold Ex.tabk
  simp
set_option maxHeartbeats 8000000 in
theorem rtable_6 (n : Nat) (ih : T2z n) (a : Int) (v : Int) (b o cap : Nat) (w : World) (x : Tr) (sx : Value) (Kx : Kid w b o x sx) (Nx : (x.on .nil).nodes ≤ n) (Px : (x.on .nil).allPlain = true) (y : Tr) (sy : Value) (Ky : Kid w b (o + 4) y sy) (Ny : (y.on .nil).nodes ≤ n) (Py : (y.on .nil).allPlain = true) :
    Calls Try.prog 22 #[.agg #[.int .i64 6, .int .i64 a, .int .i64 v, .slice (some ⟨b, o, none⟩) 2 cap]] w fun e w' => e = .returned (Tb.tv (Ex.tabk 6 v [Ex.table x, Ex.table y])) ∧ Below w.heap.size w w' := by
  have H0 := Bx.mk (TS.start w 6 a v (.slice (some ⟨b, o, none⟩) 2 cap))
  have BKx := Bx.mk Kx
  have BNx := Bx.mk Nx
  have BPx := Bx.mk Px
  have BKy := Bx.mk Ky
  have BNy := Bx.mk Ny
  have BPy := Bx.mk Py
  have IH := Bx.mk ih
  clear ih Kx Nx Px Ky Ny Py
  go_enter Try.func22, Try.ntmps22
  go_wp2_with fail
  try rw [zeros_tab]
  try rw [lc_zero]
  generalize hW : World.alloc (World.alloc (World.alloc _ _) _) _ = W0
  have H1 : Bx (TS w W0 6 a v (.slice (some ⟨b, o, none⟩) 2 cap) 0#256 0#256 0#256) := ⟨by rw [← hW]; exact H0.out⟩
  clear hW H0
  refine wp_loop_rounds 3 ?_
  rw [rounds_succ]
  have hk0 := BKx.out.below H1.out.be
  obtain ⟨k0, k1, k2, k3, kS⟩ := hk0
  obtain ⟨px, cx, rfl⟩ := kS.is
  have HI := Bx.mk (IH.out x _ _ _ BNx.out BPx.out kS)
  obtain ⟨e0, e2, e3⟩ := H1.out.cells.1
  clear kS
  unfold Ev at HI
  go_wp2_with fail
  refine HI.out.mono ?_
  rintro e u0 ⟨rfl, hb0⟩
  have hT := H1.out.step hb0
  clear k0 k1 k2 k3 HI e0 e2 e3
  obtain ⟨_, ⟨q0, q1, q2, q3, q4, q5, q6, q7, q8, q9, qa, qb⟩, f0, f1, f2, f3, f4, f5, f6, f7, f8, f9, fa, fb⟩ := hT.cells
  have HT := Bx.mk hT
  clear hT hb0
  generalize hF0 : Ex.table x = F0
  have HF0 := Bx.mk hF0
  clear hF0
  unfold Tb.tv
  go_wp2_with fail
  clear q0 q1 q2 q3 q4 q5 q6 q7 q8 q9 qa qb f0 f1 f2 f3 f4 f5 f6 f7 f8 f9 fa fb
  have H2 := Bx.mk (HT.out.put0 F0)
  rw [rounds_succ]
  have hk1 := BKy.out.below H2.out.be
  obtain ⟨k0, k1, k2, k3, kS⟩ := hk1
  obtain ⟨py, cy, rfl⟩ := kS.is
  have HI := Bx.mk (IH.out y _ _ _ BNy.out BPy.out kS)
  obtain ⟨e0, e2, e3⟩ := H2.out.cells.1
  clear kS
  unfold Ev at HI
  go_wp2_with fail
  refine HI.out.mono ?_
  rintro e u1 ⟨rfl, hb1⟩
  have hT := H2.out.step hb1
  clear k0 k1 k2 k3 HI e0 e2 e3
  obtain ⟨_, ⟨q0, q1, q2, q3, q4, q5, q6, q7, q8, q9, qa, qb⟩, f0, f1, f2, f3, f4, f5, f6, f7, f8, f9, fa, fb⟩ := hT.cells
  have HT := Bx.mk hT
  clear hT hb1
  generalize hF1 : Ex.table y = F1
  have HF1 := Bx.mk hF1
  clear hF1
  unfold Tb.tv
  go_wp2_with fail
  clear q0 q1 q2 q3 q4 q5 q6 q7 q8 q9 qa qb f0 f1 f2 f3 f4 f5 f6 f7 f8 f9 fa fb
  have H3 := Bx.mk (HT.out.put1 F1)
  obtain ⟨⟨e0, e2, e3⟩, ⟨q0, q1, q2, q3, q4, q5, q6, q7, q8, q9, qa, qb⟩, f0, f1, f2, f3, f4, f5, f6, f7, f8, f9, fa, fb⟩ := H3.out.cells
  rw [rounds_succ]
  go_wp2_with fail
  clear e0 e2 e3 q0 q1 q2 q3 q4 q5 q6 q7 q8 q9 qa qb f0 f1 f2 f3 f4 f5 f6 f7 f8 f9 fa fb
  refine (rxor_any F0 F1 _).mono ?_
  rintro e u9 ⟨rfl, hb9⟩
  have h9 := H3.out.step hb9
  obtain ⟨⟨r0, r1, r2, r3⟩, g0, g1, g2, g3⟩ := tfacts h9.r
  have HSf := Bx.mk (store4 (F := F0 ^^^ F1) h9.r)
  have HBf := Bx.mk (below4 (F := F0 ^^^ F1) (p := w.heap.size + 1) h9.be (by omega))
  clear h9 hb9
  generalize hR : F0 ^^^ F1 = R at HSf HBf ⊢
  have HR := Bx.mk hR
  clear hR
  unfold Tb.tv
  go_wp2_with fail
  clear r0 r1 r2 r3 g0 g1 g2 g3
  obtain ⟨⟨r0, r1, r2, r3⟩, _, _, _, _⟩ := tfacts HSf.out
  refine bodyPost_ret (v := Tb.tv R) (by simp [results, Try.results22, go_sem, r0, r1, r2, r3] <;> rfl) rfl ⟨?_, HBf.out⟩
  rw [← HR.out, ← HF0.out, ← HF1.out]
  unfold Ex.tabk
  simp
set_option maxHeartbeats 8000000 in
theorem rtable_7 (n : Nat) (ih : T2z n) (a : Int) (v : Int) (b o cap : Nat) (w : World) (x : Tr) (sx : Value) (Kx : Kid w b o x sx) (Nx : (x.on .nil).nodes ≤ n) (Px : (x.on .nil).allPlain = true) (y : Tr) (sy : Value) (Ky : Kid w b (o + 4) y sy) (Ny : (y.on .nil).nodes ≤ n) (Py : (y.on .nil).allPlain = true) :
    Calls Try.prog 22 #[.agg #[.int .i64 7, .int .i64 a, .int .i64 v, .slice (some ⟨b, o, none⟩) 2 cap]] w fun e w' => e = .returned (Tb.tv (Ex.tabk 7 v [Ex.table x, Ex.table y])) ∧ Below w.heap.size w w' := by
  have H0 := Bx.mk (TS.start w 7 a v (.slice (some ⟨b, o, none⟩) 2 cap))
  have BKx := Bx.mk Kx
  have BNx := Bx.mk Nx
  have BPx := Bx.mk Px
  have BKy := Bx.mk Ky
  have BNy := Bx.mk Ny
  have BPy := Bx.mk Py
  have IH := Bx.mk ih
  clear ih Kx Nx Px Ky Ny Py
  go_enter Try.func22, Try.ntmps22
  go_wp2_with fail
  try rw [zeros_tab]
  try rw [lc_zero]
  generalize hW : World.alloc (World.alloc (World.alloc _ _) _) _ = W0
  have H1 : Bx (TS w W0 7 a v (.slice (some ⟨b, o, none⟩) 2 cap) 0#256 0#256 0#256) := ⟨by rw [← hW]; exact H0.out⟩
  clear hW H0
  refine wp_loop_rounds 3 ?_
  rw [rounds_succ]
  have hk0 := BKx.out.below H1.out.be
  obtain ⟨k0, k1, k2, k3, kS⟩ := hk0
  obtain ⟨px, cx, rfl⟩ := kS.is
  have HI := Bx.mk (IH.out x _ _ _ BNx.out BPx.out kS)
  obtain ⟨e0, e2, e3⟩ := H1.out.cells.1
  clear kS
  unfold Ev at HI
  go_wp2_with fail
  refine HI.out.mono ?_
  rintro e u0 ⟨rfl, hb0⟩
  have hT := H1.out.step hb0
  clear k0 k1 k2 k3 HI e0 e2 e3
  obtain ⟨_, ⟨q0, q1, q2, q3, q4, q5, q6, q7, q8, q9, qa, qb⟩, f0, f1, f2, f3, f4, f5, f6, f7, f8, f9, fa, fb⟩ := hT.cells
  have HT := Bx.mk hT
  clear hT hb0
  generalize hF0 : Ex.table x = F0
  have HF0 := Bx.mk hF0
  clear hF0
  unfold Tb.tv
  go_wp2_with fail
  clear q0 q1 q2 q3 q4 q5 q6 q7 q8 q9 qa qb f0 f1 f2 f3 f4 f5 f6 f7 f8 f9 fa fb
  have H2 := Bx.mk (HT.out.put0 F0)
  rw [rounds_succ]
  have hk1 := BKy.out.below H2.out.be
  obtain ⟨k0, k1, k2, k3, kS⟩ := hk1
  obtain ⟨py, cy, rfl⟩ := kS.is
  have HI := Bx.mk (IH.out y _ _ _ BNy.out BPy.out kS)
  obtain ⟨e0, e2, e3⟩ := H2.out.cells.1
  clear kS
  unfold Ev at HI
  go_wp2_with fail
  refine HI.out.mono ?_
  rintro e u1 ⟨rfl, hb1⟩
  have hT := H2.out.step hb1
  clear k0 k1 k2 k3 HI e0 e2 e3
  obtain ⟨_, ⟨q0, q1, q2, q3, q4, q5, q6, q7, q8, q9, qa, qb⟩, f0, f1, f2, f3, f4, f5, f6, f7, f8, f9, fa, fb⟩ := hT.cells
  have HT := Bx.mk hT
  clear hT hb1
  generalize hF1 : Ex.table y = F1
  have HF1 := Bx.mk hF1
  clear hF1
  unfold Tb.tv
  go_wp2_with fail
  clear q0 q1 q2 q3 q4 q5 q6 q7 q8 q9 qa qb f0 f1 f2 f3 f4 f5 f6 f7 f8 f9 fa fb
  have H3 := Bx.mk (HT.out.put1 F1)
  obtain ⟨⟨e0, e2, e3⟩, ⟨q0, q1, q2, q3, q4, q5, q6, q7, q8, q9, qa, qb⟩, f0, f1, f2, f3, f4, f5, f6, f7, f8, f9, fa, fb⟩ := H3.out.cells
  rw [rounds_succ]
  go_wp2_with fail
  clear e0 e2 e3 q0 q1 q2 q3 q4 q5 q6 q7 q8 q9 qa qb f0 f1 f2 f3 f4 f5 f6 f7 f8 f9 fa fb
  refine region_any 6 (fun u => TS w u 7 a v (.slice (some ⟨b, o, none⟩) 2 cap) F0 F1 0#256) (by kernel_rfl) ?_
  generalize hu : World.drew _ = u0
  have hS0 : TS w u0 7 a v (.slice (some ⟨b, o, none⟩) 2 cap) F0 F1 0#256 := by rw [← hu]; exact H3.out.step ((Below.refl _ _).drew)
  clear hu
  refine any_take (i := 0) (.pointer (some ⟨w.heap.size + 2, 0, none⟩)) rfl rfl (by kernel_rfl) (by kernel_rfl) (by kernel_rfl) (by kernel_rfl) (fun _ _ d _ _ h => by cases d <;> exact h) (fun u hS => rfl) hS0 ?_
  (try simp only [Act.put]); (try simp only [List.getElem_toArray]); (try simp only [List.getElem_cons_succ]); (try simp only [List.getElem_cons_zero]); (try simp only [List.setIfInBounds_toArray]); (try simp only [List.set_cons_succ]); (try simp only [List.set_cons_zero])
  refine any_take (i := 1) (Tb.tv F0) rfl rfl (by kernel_rfl) (by kernel_rfl) (by kernel_rfl) (by kernel_rfl) (fun _ _ d _ _ h => by cases d <;> exact h) (fun u hS => exec_loadL rfl rfl hS.cells.2.1.1 hS.cells.2.1.2.1 hS.cells.2.1.2.2.1 hS.cells.2.1.2.2.2.1) hS0 ?_
  (try simp only [Act.put]); (try simp only [List.getElem_toArray]); (try simp only [List.getElem_cons_succ]); (try simp only [List.getElem_cons_zero]); (try simp only [List.setIfInBounds_toArray]); (try simp only [List.set_cons_succ]); (try simp only [List.set_cons_zero])
  refine any_take (i := 3) (.pointer (some ⟨w.heap.size + 2, 4, none⟩)) rfl rfl (by kernel_rfl) (by kernel_rfl) (by kernel_rfl) (by kernel_rfl) (fun _ _ d _ _ h => by cases d <;> exact h) (fun u hS => rfl) hS0 ?_
  (try simp only [Act.put]); (try simp only [List.getElem_toArray]); (try simp only [List.getElem_cons_succ]); (try simp only [List.getElem_cons_zero]); (try simp only [List.setIfInBounds_toArray]); (try simp only [List.set_cons_succ]); (try simp only [List.set_cons_zero])
  refine any_take (i := 4) (Tb.tv F1) rfl rfl (by kernel_rfl) (by kernel_rfl) (by kernel_rfl) (by kernel_rfl) (fun _ _ d _ _ h => by cases d <;> exact h) (fun u hS => exec_loadL rfl rfl hS.cells.2.1.2.2.2.2.1 hS.cells.2.1.2.2.2.2.2.1 hS.cells.2.1.2.2.2.2.2.2.1 hS.cells.2.1.2.2.2.2.2.2.2.1) hS0 ?_
  (try simp only [Act.put]); (try simp only [List.getElem_toArray]); (try simp only [List.getElem_cons_succ]); (try simp only [List.getElem_cons_zero]); (try simp only [List.setIfInBounds_toArray]); (try simp only [List.set_cons_succ]); (try simp only [List.set_cons_zero])
  refine any_branch [2] (by kernel_rfl) rfl fun ix hix => ?_
  simp only [List.mem_cons, List.not_mem_nil, or_false] at hix
  subst hix
  refine any_op rfl rfl fun K hK => ?_
  go_simp
  refine (rnot_any F0 _).mono ?_
  rintro e u8 ⟨rfl, hb8⟩
  have h8 := hS0.step hb8
  refine hK _ _ (fun _ => h8) ?_
  (try simp only [Act.put]); (try simp only [List.getElem_toArray]); (try simp only [List.getElem_cons_succ]); (try simp only [List.getElem_cons_zero]); (try simp only [List.setIfInBounds_toArray]); (try simp only [List.set_cons_succ]); (try simp only [List.set_cons_zero])
  clear hK
  refine any_branch [5] (by kernel_rfl) rfl fun ix hix => ?_
  simp only [List.mem_cons, List.not_mem_nil, or_false] at hix
  subst hix
  refine any_op rfl rfl fun K hK => ?_
  go_simp
  refine (ror_any (~~~F0) F1 _).mono ?_
  rintro e u9 ⟨rfl, hb9⟩
  have h9 := h8.step hb9
  refine hK _ _ (fun _ => h9) ?_
  (try simp only [Act.put]); (try simp only [List.getElem_toArray]); (try simp only [List.getElem_cons_succ]); (try simp only [List.getElem_cons_zero]); (try simp only [List.setIfInBounds_toArray]); (try simp only [List.set_cons_succ]); (try simp only [List.set_cons_zero])
  clear hK
  refine any_branch [6] (by kernel_rfl) rfl fun ix hix => ?_
  simp only [List.mem_cons, List.not_mem_nil, or_false] at hix
  subst hix
  refine any_op rfl rfl fun K hK => ?_
  obtain ⟨⟨r0, r1, r2, r3⟩, g0, g1, g2, g3⟩ := tfacts h9.r
  have HSf := Bx.mk (store4 (F := (~~~F0) ||| F1) h9.r)
  have HBf := Bx.mk (below4 (F := (~~~F0) ||| F1) (p := w.heap.size + 1) h9.be (by omega))
  clear hS0 h8 hb8
  generalize hR : (~~~F0) ||| F1 = R at HSf HBf ⊢
  have HR := Bx.mk hR
  clear hR
  unfold Tb.tv
  go_simp
  refine hK _ _ (fun h => absurd rfl h) ?_
  (try simp only [Act.put]); (try simp only [List.getElem_toArray]); (try simp only [List.getElem_cons_succ]); (try simp only [List.getElem_cons_zero]); (try simp only [List.setIfInBounds_toArray]); (try simp only [List.set_cons_succ]); (try simp only [List.set_cons_zero])
  clear hK
  refine any_end (by kernel_rfl) ?_
  clear h9 hb9
  go_wp2_with fail
  clear r0 r1 r2 r3 g0 g1 g2 g3
  obtain ⟨⟨r0, r1, r2, r3⟩, _, _, _, _⟩ := tfacts HSf.out
  refine bodyPost_ret (v := Tb.tv R) (by simp [results, Try.results22, go_sem, r0, r1, r2, r3] <;> rfl) rfl ⟨?_, HBf.out⟩
  rw [← HR.out, ← HF0.out, ← HF1.out]
  unfold Ex.tabk
  simp
set_option maxHeartbeats 8000000 in
theorem rtable_8 (n : Nat) (ih : T2z n) (a : Int) (v : Int) (b o cap : Nat) (w : World) (x : Tr) (sx : Value) (Kx : Kid w b o x sx) (Nx : (x.on .nil).nodes ≤ n) (Px : (x.on .nil).allPlain = true) (y : Tr) (sy : Value) (Ky : Kid w b (o + 4) y sy) (Ny : (y.on .nil).nodes ≤ n) (Py : (y.on .nil).allPlain = true) :
    Calls Try.prog 22 #[.agg #[.int .i64 8, .int .i64 a, .int .i64 v, .slice (some ⟨b, o, none⟩) 2 cap]] w fun e w' => e = .returned (Tb.tv (Ex.tabk 8 v [Ex.table x, Ex.table y])) ∧ Below w.heap.size w w' := by
  have H0 := Bx.mk (TS.start w 8 a v (.slice (some ⟨b, o, none⟩) 2 cap))
  have BKx := Bx.mk Kx
  have BNx := Bx.mk Nx
  have BPx := Bx.mk Px
  have BKy := Bx.mk Ky
  have BNy := Bx.mk Ny
  have BPy := Bx.mk Py
  have IH := Bx.mk ih
  clear ih Kx Nx Px Ky Ny Py
  go_enter Try.func22, Try.ntmps22
  go_wp2_with fail
  try rw [zeros_tab]
  try rw [lc_zero]
  generalize hW : World.alloc (World.alloc (World.alloc _ _) _) _ = W0
  have H1 : Bx (TS w W0 8 a v (.slice (some ⟨b, o, none⟩) 2 cap) 0#256 0#256 0#256) := ⟨by rw [← hW]; exact H0.out⟩
  clear hW H0
  refine wp_loop_rounds 3 ?_
  rw [rounds_succ]
  have hk0 := BKx.out.below H1.out.be
  obtain ⟨k0, k1, k2, k3, kS⟩ := hk0
  obtain ⟨px, cx, rfl⟩ := kS.is
  have HI := Bx.mk (IH.out x _ _ _ BNx.out BPx.out kS)
  obtain ⟨e0, e2, e3⟩ := H1.out.cells.1
  clear kS
  unfold Ev at HI
  go_wp2_with fail
  refine HI.out.mono ?_
  rintro e u0 ⟨rfl, hb0⟩
  have hT := H1.out.step hb0
  clear k0 k1 k2 k3 HI e0 e2 e3
  obtain ⟨_, ⟨q0, q1, q2, q3, q4, q5, q6, q7, q8, q9, qa, qb⟩, f0, f1, f2, f3, f4, f5, f6, f7, f8, f9, fa, fb⟩ := hT.cells
  have HT := Bx.mk hT
  clear hT hb0
  generalize hF0 : Ex.table x = F0
  have HF0 := Bx.mk hF0
  clear hF0
  unfold Tb.tv
  go_wp2_with fail
  clear q0 q1 q2 q3 q4 q5 q6 q7 q8 q9 qa qb f0 f1 f2 f3 f4 f5 f6 f7 f8 f9 fa fb
  have H2 := Bx.mk (HT.out.put0 F0)
  rw [rounds_succ]
  have hk1 := BKy.out.below H2.out.be
  obtain ⟨k0, k1, k2, k3, kS⟩ := hk1
  obtain ⟨py, cy, rfl⟩ := kS.is
  have HI := Bx.mk (IH.out y _ _ _ BNy.out BPy.out kS)
  obtain ⟨e0, e2, e3⟩ := H2.out.cells.1
  clear kS
  unfold Ev at HI
  go_wp2_with fail
  refine HI.out.mono ?_
  rintro e u1 ⟨rfl, hb1⟩
  have hT := H2.out.step hb1
  clear k0 k1 k2 k3 HI e0 e2 e3
  obtain ⟨_, ⟨q0, q1, q2, q3, q4, q5, q6, q7, q8, q9, qa, qb⟩, f0, f1, f2, f3, f4, f5, f6, f7, f8, f9, fa, fb⟩ := hT.cells
  have HT := Bx.mk hT
  clear hT hb1
  generalize hF1 : Ex.table y = F1
  have HF1 := Bx.mk hF1
  clear hF1
  unfold Tb.tv
  go_wp2_with fail
  clear q0 q1 q2 q3 q4 q5 q6 q7 q8 q9 qa qb f0 f1 f2 f3 f4 f5 f6 f7 f8 f9 fa fb
  have H3 := Bx.mk (HT.out.put1 F1)
  obtain ⟨⟨e0, e2, e3⟩, ⟨q0, q1, q2, q3, q4, q5, q6, q7, q8, q9, qa, qb⟩, f0, f1, f2, f3, f4, f5, f6, f7, f8, f9, fa, fb⟩ := H3.out.cells
  rw [rounds_succ]
  go_wp2_with fail
  clear e0 e2 e3 q0 q1 q2 q3 q4 q5 q6 q7 q8 q9 qa qb f0 f1 f2 f3 f4 f5 f6 f7 f8 f9 fa fb
  refine (rxor_any F0 F1 _).mono ?_
  rintro e u8 ⟨rfl, hb8⟩
  have H8 := Bx.mk (H3.out.step hb8)
  clear hb8
  go_wp2_with fail
  refine (rnot_any (F0 ^^^ F1) _).mono ?_
  rintro e u9 ⟨rfl, hb9⟩
  have h9 := H8.out.step hb9
  obtain ⟨⟨r0, r1, r2, r3⟩, g0, g1, g2, g3⟩ := tfacts h9.r
  have HSf := Bx.mk (store4 (F := ~~~(F0 ^^^ F1)) h9.r)
  have HBf := Bx.mk (below4 (F := ~~~(F0 ^^^ F1)) (p := w.heap.size + 1) h9.be (by omega))
  clear h9 hb9
  generalize hR : ~~~(F0 ^^^ F1) = R at HSf HBf ⊢
  have HR := Bx.mk hR
  clear hR
  unfold Tb.tv
  go_wp2_with fail
  clear r0 r1 r2 r3 g0 g1 g2 g3
  obtain ⟨⟨r0, r1, r2, r3⟩, _, _, _, _⟩ := tfacts HSf.out
  refine bodyPost_ret (v := Tb.tv R) (by simp [results, Try.results22, go_sem, r0, r1, r2, r3] <;> rfl) rfl ⟨?_, HBf.out⟩
  rw [← HR.out, ← HF0.out, ← HF1.out]
  unfold Ex.tabk
  simp
set_option maxHeartbeats 8000000 in
theorem rtable_9 (n : Nat) (ih : T2z n) (a : Int) (v : Int) (b o cap : Nat) (w : World) (x : Tr) (sx : Value) (Kx : Kid w b o x sx) (Nx : (x.on .nil).nodes ≤ n) (Px : (x.on .nil).allPlain = true) (y : Tr) (sy : Value) (Ky : Kid w b (o + 4) y sy) (Ny : (y.on .nil).nodes ≤ n) (Py : (y.on .nil).allPlain = true) (z : Tr) (sz : Value) (Kz : Kid w b (o + 8) z sz) (Nz : (z.on .nil).nodes ≤ n) (Pz : (z.on .nil).allPlain = true) :
    Calls Try.prog 22 #[.agg #[.int .i64 9, .int .i64 a, .int .i64 v, .slice (some ⟨b, o, none⟩) 3 cap]] w fun e w' => e = .returned (Tb.tv (Ex.tabk 9 v [Ex.table x, Ex.table y, Ex.table z])) ∧ Below w.heap.size w w' := by
  have H0 := Bx.mk (TS.start w 9 a v (.slice (some ⟨b, o, none⟩) 3 cap))
  have BKx := Bx.mk Kx
  have BNx := Bx.mk Nx
  have BPx := Bx.mk Px
  have BKy := Bx.mk Ky
  have BNy := Bx.mk Ny
  have BPy := Bx.mk Py
  have BKz := Bx.mk Kz
  have BNz := Bx.mk Nz
  have BPz := Bx.mk Pz
  have IH := Bx.mk ih
  clear ih Kx Nx Px Ky Ny Py Kz Nz Pz
  go_enter Try.func22, Try.ntmps22
  go_wp2_with fail
  try rw [zeros_tab]
  try rw [lc_zero]
  generalize hW : World.alloc (World.alloc (World.alloc _ _) _) _ = W0
  have H1 : Bx (TS w W0 9 a v (.slice (some ⟨b, o, none⟩) 3 cap) 0#256 0#256 0#256) := ⟨by rw [← hW]; exact H0.out⟩
  clear hW H0
  refine wp_loop_rounds 4 ?_
  rw [rounds_succ]
  have hk0 := BKx.out.below H1.out.be
  obtain ⟨k0, k1, k2, k3, kS⟩ := hk0
  obtain ⟨px, cx, rfl⟩ := kS.is
  have HI := Bx.mk (IH.out x _ _ _ BNx.out BPx.out kS)
  obtain ⟨e0, e2, e3⟩ := H1.out.cells.1
  clear kS
  unfold Ev at HI
  go_wp2_with fail
  refine HI.out.mono ?_
  rintro e u0 ⟨rfl, hb0⟩
  have hT := H1.out.step hb0
  clear k0 k1 k2 k3 HI e0 e2 e3
  obtain ⟨_, ⟨q0, q1, q2, q3, q4, q5, q6, q7, q8, q9, qa, qb⟩, f0, f1, f2, f3, f4, f5, f6, f7, f8, f9, fa, fb⟩ := hT.cells
  have HT := Bx.mk hT
  clear hT hb0
  generalize hF0 : Ex.table x = F0
  have HF0 := Bx.mk hF0
  clear hF0
  unfold Tb.tv
  go_wp2_with fail
  clear q0 q1 q2 q3 q4 q5 q6 q7 q8 q9 qa qb f0 f1 f2 f3 f4 f5 f6 f7 f8 f9 fa fb
  have H2 := Bx.mk (HT.out.put0 F0)
  rw [rounds_succ]
  have hk1 := BKy.out.below H2.out.be
  obtain ⟨k0, k1, k2, k3, kS⟩ := hk1
  obtain ⟨py, cy, rfl⟩ := kS.is
  have HI := Bx.mk (IH.out y _ _ _ BNy.out BPy.out kS)
  obtain ⟨e0, e2, e3⟩ := H2.out.cells.1
  clear kS
  unfold Ev at HI
  go_wp2_with fail
  refine HI.out.mono ?_
  rintro e u1 ⟨rfl, hb1⟩
  have hT := H2.out.step hb1
  clear k0 k1 k2 k3 HI e0 e2 e3
  obtain ⟨_, ⟨q0, q1, q2, q3, q4, q5, q6, q7, q8, q9, qa, qb⟩, f0, f1, f2, f3, f4, f5, f6, f7, f8, f9, fa, fb⟩ := hT.cells
  have HT := Bx.mk hT
  clear hT hb1
  generalize hF1 : Ex.table y = F1
  have HF1 := Bx.mk hF1
  clear hF1
  unfold Tb.tv
  go_wp2_with fail
  clear q0 q1 q2 q3 q4 q5 q6 q7 q8 q9 qa qb f0 f1 f2 f3 f4 f5 f6 f7 f8 f9 fa fb
  have H3 := Bx.mk (HT.out.put1 F1)
  rw [rounds_succ]
  have hk2 := BKz.out.below H3.out.be
  obtain ⟨k0, k1, k2, k3, kS⟩ := hk2
  obtain ⟨pz, cz, rfl⟩ := kS.is
  have HI := Bx.mk (IH.out z _ _ _ BNz.out BPz.out kS)
  obtain ⟨e0, e2, e3⟩ := H3.out.cells.1
  clear kS
  unfold Ev at HI
  go_wp2_with fail
  refine HI.out.mono ?_
  rintro e u2 ⟨rfl, hb2⟩
  have hT := H3.out.step hb2
  clear k0 k1 k2 k3 HI e0 e2 e3
  obtain ⟨_, ⟨q0, q1, q2, q3, q4, q5, q6, q7, q8, q9, qa, qb⟩, f0, f1, f2, f3, f4, f5, f6, f7, f8, f9, fa, fb⟩ := hT.cells
  have HT := Bx.mk hT
  clear hT hb2
  generalize hF2 : Ex.table z = F2
  have HF2 := Bx.mk hF2
  clear hF2
  unfold Tb.tv
  go_wp2_with fail
  clear q0 q1 q2 q3 q4 q5 q6 q7 q8 q9 qa qb f0 f1 f2 f3 f4 f5 f6 f7 f8 f9 fa fb
  have H4 := Bx.mk (HT.out.put2 F2)
  obtain ⟨⟨e0, e2, e3⟩, ⟨q0, q1, q2, q3, q4, q5, q6, q7, q8, q9, qa, qb⟩, f0, f1, f2, f3, f4, f5, f6, f7, f8, f9, fa, fb⟩ := H4.out.cells
  rw [rounds_succ]
  go_wp2_with fail
  clear e0 e2 e3 q0 q1 q2 q3 q4 q5 q6 q7 q8 q9 qa qb f0 f1 f2 f3 f4 f5 f6 f7 f8 f9 fa fb
  refine (rite_any F0 F1 F2 _).mono ?_
  rintro e u9 ⟨rfl, hb9⟩
  have h9 := H4.out.step hb9
  obtain ⟨⟨r0, r1, r2, r3⟩, g0, g1, g2, g3⟩ := tfacts h9.r
  have HSf := Bx.mk (store4 (F := (F0 &&& F1) ||| (~~~F0 &&& F2)) h9.r)
  have HBf := Bx.mk (below4 (F := (F0 &&& F1) ||| (~~~F0 &&& F2)) (p := w.heap.size + 1) h9.be (by omega))
  clear h9 hb9
  generalize hR : (F0 &&& F1) ||| (~~~F0 &&& F2) = R at HSf HBf ⊢
  have HR := Bx.mk hR
  clear hR
  unfold Tb.tv
  go_wp2_with fail
  clear r0 r1 r2 r3 g0 g1 g2 g3
  obtain ⟨⟨r0, r1, r2, r3⟩, _, _, _, _⟩ := tfacts HSf.out
  refine bodyPost_ret (v := Tb.tv R) (by simp [results, Try.results22, go_sem, r0, r1, r2, r3] <;> rfl) rfl ⟨?_, HBf.out⟩
  rw [← HR.out, ← HF0.out, ← HF1.out, ← HF2.out]
  unfold Ex.tabk
  simp
set_option maxHeartbeats 8000000 in
theorem rtable_10 (n : Nat) (ih : T2z n) (a : Int) (m : Nat) (hm : m < 8) (b o cap : Nat) (w : World) (x : Tr) (sx : Value) (Kx : Kid w b o x sx) (Nx : (x.on .nil).nodes ≤ n) (Px : (x.on .nil).allPlain = true) :
    Calls Try.prog 22 #[.agg #[.int .i64 10, .int .i64 a, .int .i64 (m : Int), .slice (some ⟨b, o, none⟩) 1 cap]] w fun e w' => e = .returned (Tb.tv (Ex.tabk 10 (m : Int) [Ex.table x])) ∧ Below w.heap.size w w' := by
  have H0 := Bx.mk (TS.start w 10 a (m : Int) (.slice (some ⟨b, o, none⟩) 1 cap))
  have BKx := Bx.mk Kx
  have BNx := Bx.mk Nx
  have BPx := Bx.mk Px
  have IH := Bx.mk ih
  clear ih Kx Nx Px
  have hmi : (m : Int) < 8 := by omega
  have hmw : wrap64 (m : Int) = (m : Int) := w64 _ (by omega)
  have HPW := Bx.mk (pow_lt8 hm)
  have hpm := pow_modS HPW.out
  go_enter Try.func22, Try.ntmps22
  go_wp2_with fail
  try rw [zeros_tab]
  try rw [lc_zero]
  generalize hW : World.alloc (World.alloc (World.alloc _ _) _) _ = W0
  have H1 : Bx (TS w W0 10 a (m : Int) (.slice (some ⟨b, o, none⟩) 1 cap) 0#256 0#256 0#256) := ⟨by rw [← hW]; exact H0.out⟩
  clear hW H0
  refine wp_loop_rounds 2 ?_
  rw [rounds_succ]
  have hk0 := BKx.out.below H1.out.be
  obtain ⟨k0, k1, k2, k3, kS⟩ := hk0
  obtain ⟨px, cx, rfl⟩ := kS.is
  have HI := Bx.mk (IH.out x _ _ _ BNx.out BPx.out kS)
  obtain ⟨e0, e2, e3⟩ := H1.out.cells.1
  clear kS
  unfold Ev at HI
  go_wp2_with fail
  refine HI.out.mono ?_
  rintro e u0 ⟨rfl, hb0⟩
  have hT := H1.out.step hb0
  clear k0 k1 k2 k3 HI e0 e2 e3
  obtain ⟨_, ⟨q0, q1, q2, q3, q4, q5, q6, q7, q8, q9, qa, qb⟩, f0, f1, f2, f3, f4, f5, f6, f7, f8, f9, fa, fb⟩ := hT.cells
  have HT := Bx.mk hT
  clear hT hb0
  generalize hF0 : Ex.table x = F0
  have HF0 := Bx.mk hF0
  clear hF0
  unfold Tb.tv
  go_wp2_with fail
  clear q0 q1 q2 q3 q4 q5 q6 q7 q8 q9 qa qb f0 f1 f2 f3 f4 f5 f6 f7 f8 f9 fa fb
  have H2 := Bx.mk (HT.out.put0 F0)
  obtain ⟨⟨e0, e2, e3⟩, ⟨q0, q1, q2, q3, q4, q5, q6, q7, q8, q9, qa, qb⟩, f0, f1, f2, f3, f4, f5, f6, f7, f8, f9, fa, fb⟩ := H2.out.cells
  rw [rounds_succ]
  go_wp2_with fail
  clear e0 e2 e3 q0 q1 q2 q3 q4 q5 q6 q7 q8 q9 qa qb f0 f1 f2 f3 f4 f5 f6 f7 f8 f9 fa fb
  have hcc := fun W => rforall_any F0 (2 ^ m) W HPW.out
  rw [show ((2 ^ m : Nat) : Int) = (2 : Int) ^ m from by simp] at hcc
  refine (hcc _).mono ?_
  rintro e u9 ⟨rfl, hb9⟩
  have h9 := H2.out.step hb9
  obtain ⟨⟨r0, r1, r2, r3⟩, g0, g1, g2, g3⟩ := tfacts h9.r
  have HSf := Bx.mk (store4 (F := Tb.halves (fun F G => F &&& G) F0 (2 ^ m)) h9.r)
  have HBf := Bx.mk (below4 (F := Tb.halves (fun F G => F &&& G) F0 (2 ^ m)) (p := w.heap.size + 1) h9.be (by omega))
  clear h9 hb9
  generalize hR : Tb.halves (fun F G => F &&& G) F0 (2 ^ m) = R at HSf HBf ⊢
  have HR := Bx.mk hR
  clear hR
  unfold Tb.tv
  go_wp2_with fail
  clear r0 r1 r2 r3 g0 g1 g2 g3
  obtain ⟨⟨r0, r1, r2, r3⟩, _, _, _, _⟩ := tfacts HSf.out
  refine bodyPost_ret (v := Tb.tv R) (by simp [results, Try.results22, go_sem, r0, r1, r2, r3] <;> rfl) rfl ⟨?_, HBf.out⟩
  rw [← HR.out, ← HF0.out]
  unfold Ex.tabk
  simp
set_option maxHeartbeats 8000000 in
theorem rtable_11 (n : Nat) (ih : T2z n) (a : Int) (m : Nat) (hm : m < 8) (b o cap : Nat) (w : World) (x : Tr) (sx : Value) (Kx : Kid w b o x sx) (Nx : (x.on .nil).nodes ≤ n) (Px : (x.on .nil).allPlain = true) :
    Calls Try.prog 22 #[.agg #[.int .i64 11, .int .i64 a, .int .i64 (m : Int), .slice (some ⟨b, o, none⟩) 1 cap]] w fun e w' => e = .returned (Tb.tv (Ex.tabk 11 (m : Int) [Ex.table x])) ∧ Below w.heap.size w w' := by
  have H0 := Bx.mk (TS.start w 11 a (m : Int) (.slice (some ⟨b, o, none⟩) 1 cap))
  have BKx := Bx.mk Kx
  have BNx := Bx.mk Nx
  have BPx := Bx.mk Px
  have IH := Bx.mk ih
  clear ih Kx Nx Px
  have hmi : (m : Int) < 8 := by omega
  have hmw : wrap64 (m : Int) = (m : Int) := w64 _ (by omega)
  have HPW := Bx.mk (pow_lt8 hm)
  have hpm := pow_modS HPW.out
  go_enter Try.func22, Try.ntmps22
  go_wp2_with fail
  try rw [zeros_tab]
  try rw [lc_zero]
  generalize hW : World.alloc (World.alloc (World.alloc _ _) _) _ = W0
  have H1 : Bx (TS w W0 11 a (m : Int) (.slice (some ⟨b, o, none⟩) 1 cap) 0#256 0#256 0#256) := ⟨by rw [← hW]; exact H0.out⟩
  clear hW H0
  refine wp_loop_rounds 2 ?_
  rw [rounds_succ]
  have hk0 := BKx.out.below H1.out.be
  obtain ⟨k0, k1, k2, k3, kS⟩ := hk0
  obtain ⟨px, cx, rfl⟩ := kS.is
  have HI := Bx.mk (IH.out x _ _ _ BNx.out BPx.out kS)
  obtain ⟨e0, e2, e3⟩ := H1.out.cells.1
  clear kS
  unfold Ev at HI
  go_wp2_with fail
  refine HI.out.mono ?_
  rintro e u0 ⟨rfl, hb0⟩
  have hT := H1.out.step hb0
  clear k0 k1 k2 k3 HI e0 e2 e3
  obtain ⟨_, ⟨q0, q1, q2, q3, q4, q5, q6, q7, q8, q9, qa, qb⟩, f0, f1, f2, f3, f4, f5, f6, f7, f8, f9, fa, fb⟩ := hT.cells
  have HT := Bx.mk hT
  clear hT hb0
  generalize hF0 : Ex.table x = F0
  have HF0 := Bx.mk hF0
  clear hF0
  unfold Tb.tv
  go_wp2_with fail
  clear q0 q1 q2 q3 q4 q5 q6 q7 q8 q9 qa qb f0 f1 f2 f3 f4 f5 f6 f7 f8 f9 fa fb
  have H2 := Bx.mk (HT.out.put0 F0)
  obtain ⟨⟨e0, e2, e3⟩, ⟨q0, q1, q2, q3, q4, q5, q6, q7, q8, q9, qa, qb⟩, f0, f1, f2, f3, f4, f5, f6, f7, f8, f9, fa, fb⟩ := H2.out.cells
  rw [rounds_succ]
  go_wp2_with fail
  clear e0 e2 e3 q0 q1 q2 q3 q4 q5 q6 q7 q8 q9 qa qb f0 f1 f2 f3 f4 f5 f6 f7 f8 f9 fa fb
  have hcc := fun W => rexists_any F0 (2 ^ m) W HPW.out
  rw [show ((2 ^ m : Nat) : Int) = (2 : Int) ^ m from by simp] at hcc
  refine (hcc _).mono ?_
  rintro e u9 ⟨rfl, hb9⟩
  have h9 := H2.out.step hb9
  obtain ⟨⟨r0, r1, r2, r3⟩, g0, g1, g2, g3⟩ := tfacts h9.r
  have HSf := Bx.mk (store4 (F := Tb.halves (fun F G => F ||| G) F0 (2 ^ m)) h9.r)
  have HBf := Bx.mk (below4 (F := Tb.halves (fun F G => F ||| G) F0 (2 ^ m)) (p := w.heap.size + 1) h9.be (by omega))
  clear h9 hb9
  generalize hR : Tb.halves (fun F G => F ||| G) F0 (2 ^ m) = R at HSf HBf ⊢
  have HR := Bx.mk hR
  clear hR
  unfold Tb.tv
  go_wp2_with fail
  clear r0 r1 r2 r3 g0 g1 g2 g3
  obtain ⟨⟨r0, r1, r2, r3⟩, _, _, _, _⟩ := tfacts HSf.out
  refine bodyPost_ret (v := Tb.tv R) (by simp [results, Try.results22, go_sem, r0, r1, r2, r3] <;> rfl) rfl ⟨?_, HBf.out⟩
  rw [← HR.out, ← HF0.out]
  unfold Ex.tabk
  simp
theorem T2z.succ (n : Nat) (ih : T2z n) : T2z (n + 1) := by
  intro t sl B u hn hp hs
  rw [Fo.nodes_on] at hn
  rw [Fo.allPlain_on, Bool.and_eq_true, Bool.and_eq_true] at hp
  obtain ⟨⟨hpl, hka⟩, _⟩ := hp
  obtain ⟨h1, h2, h3, h4, h5⟩ := plain_shape hpl
  obtain ⟨k, a, v, kids⟩ := t
  simp only [] at h1 h2 h3 h4 h5 hn hka hs
  have hnil : (Fo.nil).nodes = 0 := rfl
  rw [hnil] at hn
  obtain ⟨p, cap, b, o, rfl, hpn, hcap, hr⟩ := hs
  unfold Ev Ex.table
  simp only []
  have hc : k = 1 ∨ k = 2 ∨ k = 3 ∨ k = 4 ∨ k = 5 ∨ k = 6 ∨ k = 7 ∨ k = 8 ∨ k = 9 ∨ k = 10 ∨ k = 11 := by omega
  have a0 : (k = 1 ∨ k = 2) → kids = .nil := fun h => Fo.len0 (by rw [h3, Ex.kids0 (by omega)])
  have hone : ∀ (x : Tr), kids = x.on .nil → ∃ sx, p = some ⟨b, o, none⟩ ∧ Kid u b o x sx ∧ (x.on .nil).nodes ≤ n ∧ (x.on .nil).allPlain = true := fun x e => by
    subst e
    obtain ⟨sx, K, _⟩ := kid_of hr
    rw [Fo.nodes_on] at hn
    refine ⟨sx, ?_, K, by rw [Fo.nodes_on]; omega, hka⟩
    rcases hpn with ⟨e, _⟩ | e
    · cases e
    · exact e
  have htwo : ∀ (x y : Tr), kids = x.on (y.on .nil) → ∃ sx sy, p = some ⟨b, o, none⟩ ∧ (Kid u b o x sx ∧ (x.on .nil).nodes ≤ n ∧ (x.on .nil).allPlain = true) ∧ (Kid u b (o + 4) y sy ∧ (y.on .nil).nodes ≤ n ∧ (y.on .nil).allPlain = true) := fun x y e => by
    subst e
    obtain ⟨sx, K, hr2⟩ := kid_of hr
    obtain ⟨sy, K2, _⟩ := kid_of hr2
    rw [Fo.nodes_on, Fo.nodes_on] at hn
    rw [Fo.allPlain_on, Bool.and_eq_true] at hka
    refine ⟨sx, sy, ?_, ⟨K, by rw [Fo.nodes_on]; omega, by rw [Fo.allPlain_on, hka.1]; rfl⟩, ⟨K2, by rw [Fo.nodes_on]; omega, hka.2⟩⟩
    rcases hpn with ⟨e, _⟩ | e
    · cases e
    · exact e
  have hthree : ∀ (x y z : Tr), kids = x.on (y.on (z.on .nil)) → ∃ sx sy sz, p = some ⟨b, o, none⟩ ∧ (Kid u b o x sx ∧ (x.on .nil).nodes ≤ n ∧ (x.on .nil).allPlain = true) ∧ (Kid u b (o + 4) y sy ∧ (y.on .nil).nodes ≤ n ∧ (y.on .nil).allPlain = true) ∧ (Kid u b (o + 4 + 4) z sz ∧ (z.on .nil).nodes ≤ n ∧ (z.on .nil).allPlain = true) := fun x y z e => by
    subst e
    obtain ⟨sx, K, hr2⟩ := kid_of hr
    obtain ⟨sy, K2, hr3⟩ := kid_of hr2
    obtain ⟨sz, K3, _⟩ := kid_of hr3
    rw [Fo.nodes_on, Fo.nodes_on, Fo.nodes_on] at hn
    rw [Fo.allPlain_on, Bool.and_eq_true, Fo.allPlain_on y, Bool.and_eq_true (Ex.plain y && y.kids.allPlain)] at hka
    refine ⟨sx, sy, sz, ?_, ⟨K, by rw [Fo.nodes_on]; omega, by rw [Fo.allPlain_on, hka.1]; rfl⟩, ⟨K2, by rw [Fo.nodes_on]; omega, by rw [Fo.allPlain_on, hka.2.1]; rfl⟩, ⟨K3, by rw [Fo.nodes_on]; omega, hka.2.2⟩⟩
    rcases hpn with ⟨e, _⟩ | e
    · cases e
    · exact e
  have k1 : (k = 3 ∨ k = 10 ∨ k = 11) → kids.len = 1 := fun h => by rw [h3, Ex.kids1 h]
  have k2 : (4 ≤ k ∧ k ≤ 8) → kids.len = 2 := fun h => by rw [h3, Ex.kids2 h]
  have k3 : k = 9 → kids.len = 3 := fun h => by rw [h3, Ex.kids3 h]
  have hv8 : (k = 10 ∨ k = 11) → ∃ m : Nat, v = (m : Int) ∧ m < 8 := fun h => by
    have ht : Ex.top k = 7 := by unfold Ex.top; rw [if_pos (by omega)]
    rw [ht] at h5
    exact ⟨v.toNat, by omega, by omega⟩
  rcases hc with rfl | rfl | rfl | rfl | rfl | rfl | rfl | rfl | rfl | rfl | rfl
  · have e := a0 (.inl rfl); subst e
    exact rtable_1 n ih a v p cap u
  · have e := a0 (.inr rfl); subst e
    exact rtable_2 n ih a v p cap u
  · obtain ⟨x, e⟩ := Fo.len1 (k1 (by omega))
    obtain ⟨sx, rfl, K, hx, px⟩ := hone x e
    subst e
    exact rtable_3 n ih a v b o cap u x sx K hx px
  · obtain ⟨x, y, e⟩ := Fo.len2 (k2 (by omega))
    obtain ⟨sx, sy, rfl, ⟨K, hx, px⟩, K2, hy, py⟩ := htwo x y e
    subst e
    exact rtable_4 n ih a v b o cap u x sx K hx px y sy K2 hy py
  · obtain ⟨x, y, e⟩ := Fo.len2 (k2 (by omega))
    obtain ⟨sx, sy, rfl, ⟨K, hx, px⟩, K2, hy, py⟩ := htwo x y e
    subst e
    exact rtable_5 n ih a v b o cap u x sx K hx px y sy K2 hy py
  · obtain ⟨x, y, e⟩ := Fo.len2 (k2 (by omega))
    obtain ⟨sx, sy, rfl, ⟨K, hx, px⟩, K2, hy, py⟩ := htwo x y e
    subst e
    exact rtable_6 n ih a v b o cap u x sx K hx px y sy K2 hy py
  · obtain ⟨x, y, e⟩ := Fo.len2 (k2 (by omega))
    obtain ⟨sx, sy, rfl, ⟨K, hx, px⟩, K2, hy, py⟩ := htwo x y e
    subst e
    exact rtable_7 n ih a v b o cap u x sx K hx px y sy K2 hy py
  · obtain ⟨x, y, e⟩ := Fo.len2 (k2 (by omega))
    obtain ⟨sx, sy, rfl, ⟨K, hx, px⟩, K2, hy, py⟩ := htwo x y e
    subst e
    exact rtable_8 n ih a v b o cap u x sx K hx px y sy K2 hy py
  · obtain ⟨x, y, z, e⟩ := Fo.len3 (k3 rfl)
    obtain ⟨sx, sy, sz, rfl, ⟨K, hx, px⟩, ⟨K2, hy, py⟩, K3, hz, pz⟩ := hthree x y z e
    subst e
    exact rtable_9 n ih a v b o cap u x sx K hx px y sy K2 hy py z sz K3 hz pz
  · obtain ⟨x, e⟩ := Fo.len1 (k1 (by omega))
    obtain ⟨sx, rfl, K, hx, px⟩ := hone x e
    obtain ⟨m, rfl, hm⟩ := hv8 (.inl rfl)
    subst e
    exact rtable_10 n ih a m hm b o cap u x sx K hx px
  · obtain ⟨x, e⟩ := Fo.len1 (k1 (by omega))
    obtain ⟨sx, rfl, K, hx, px⟩ := hone x e
    obtain ⟨m, rfl, hm⟩ := hv8 (.inr rfl)
    subst e
    exact rtable_11 n ih a m hm b o cap u x sx K hx px
theorem T2z.all : ∀ n, T2z n
  | 0 => fun t sl B u h => by rw [Fo.nodes_on] at h; omega
  | n + 1 => T2z.succ n (T2z.all n)
theorem rtable_any (t : Tr) (sl : Value) (B : Nat → Prop) (u : World) (hp : (t.on .nil).allPlain = true) (hs : SlF u B sl t.kids) :
    Calls Try.prog 22 #[Ev t sl] u fun e w' => e = .returned (Tb.tv (Ex.table t)) ∧ Below u.heap.size u w' := T2z.all _ t sl B u (Nat.le_refl _) hp hs

end Go.Proofs.Ytfgokhafiffbaaa

/-
  ExprBinds: name, first, join.
-/
namespace Go.Proofs.Ytfgokhafiffbaaa
set_option linter.unusedVariables false
open Go.RowKit Go.Lib

/-- a place, or -1 -/
def Bi.at1 : Option Nat → Int
  | some j => (j : Int)
  | none => -1
theorem Bi.first_snoc (k : Nat) : ∀ (l : List Nat) (x : Nat), Bi.first k (l ++ [x]) = if x = k then (if k = 3 ∨ Bi.first k l = none then some l.length else Bi.first k l) else Bi.first k l
  | [], x => by
    by_cases h : x = k
    · subst h; by_cases h3 : x = 3 <;> simp [Bi.first, h3]
    · simp [Bi.first, h]
  | y :: l, x => by
    have ih := Bi.first_snoc k l x
    rw [List.cons_append, Bi.first, ih, Bi.first]
    by_cases hx : x = k
    · by_cases hy : y = k
      · by_cases h3 : k = 3
        · simp [hx, hy, h3]
        · simp [hx, hy, h3]
      · by_cases h3 : k = 3
        · simp [hx, hy, h3]
        · cases hf : Bi.first k l <;> simp [hx, hy, h3, hf]
    · by_cases hy : y = k
      · simp [hx, hy]
      · simp [hx, hy]
theorem Bi.first_none {k : Nat} {l : List Nat} : Bi.at1 (Bi.first k l) < 0 ↔ Bi.first k l = none := by
  cases Bi.first k l with
  | none => simp [Bi.at1]
  | some j => simp [Bi.at1]
set_option maxHeartbeats 4000000 in
theorem first_any (L : List Nat) (k : Nat) (hk : k < 5) (hL : L.length ≤ 1000) (hb5 : ∀ x ∈ L, x < 5) (p : Option Addr) (cap b o : Nat) (w : World) (hp : L ≠ [] → p = some ⟨b, o, none⟩) (hc : ∀ (j x : Nat), L[j]? = some x → w.cell? ⟨b, o + j, none⟩ = some (.int .i64 (x : Int))) :
    Calls Try.prog 11 #[.slice p L.length cap, .int .i64 (k : Int)] w fun e w' => e = .returned (.int .i64 (Bi.at1 (Bi.first k L))) ∧ Below w.heap.size w w' := by
  have HP := Bx.mk hp
  have HC := Bx.mk hc
  have HL := Bx.mk hL
  have H5 := Bx.mk hb5
  clear hp hc hL hb5
  go_enter Try.func11, Try.ntmps11
  go_wp2_with fail
  go_loop [5, 6] (fun a j => ∃ (i : Nat), i ≤ L.length ∧ j = .int .i64 (i : Int) ∧ a = .int .i64 (Bi.at1 (Bi.first k (L.take i)))) (fun _ j => L.length - (intOf j).toNat)
  case atStart => exact ⟨0, Nat.zero_le _, rfl, by rw [List.take_zero]; rfl⟩
  case round =>
    obtain ⟨i, hi, rfl, rfl⟩ := hrel
    have HI := Bx.mk hi
    by_cases hlt : i < L.length
    · have q : (i : Int) < (L.length : Int) := by omega
      obtain ⟨x, hx⟩ : ∃ x, L[i]? = some x := ⟨_, List.getElem?_eq_getElem hlt⟩
      have hpp := HP.out (by intro e; rw [e] at hlt; simp at hlt)
      subst hpp
      have hcell := HC.out i x hx
      have hxs : L.take (i + 1) = L.take i ++ [x] := by rw [List.take_add_one, hx]; rfl
      have hsn := Bi.first_snoc k (L.take i) x
      rw [← hxs, List.length_take, Nat.min_eq_left (by omega)] at hsn
      have hfn := Bi.first_none (k := k) (l := L.take i)
      have hll := HL.out
      have b3 : -9223372036854775808 ≤ (i : Int) + 1 ∧ (i : Int) + 1 ≤ 9223372036854775807 := by omega
      have hw : wrap64 ((i : Int) + 1) = (i : Int) + 1 := w64 _ b3
      have HLT := Bx.mk hlt
      by_cases hxk : x = k
      · have q1 : ((x : Int) == (k : Int)) = true := by rw [beq_iff_eq]; omega
        rw [if_pos hxk] at hsn
        by_cases hneg : Bi.at1 (Bi.first k (L.take i)) < 0
        · rw [if_pos (.inr (hfn.1 hneg))] at hsn
          have HSN := Bx.mk hsn
          have qd : decide (Bi.at1 (Bi.first k (L.take i)) < 0) = true := decide_eq_true hneg
          clear hsn hfn hx hxs hxk hi hll b3 hlt
          go_wp2_with fail
          refine ⟨⟨i + 1, by have := HLT.out; omega, by go_num, by rw [HSN.out]; rfl⟩, ?_⟩
          rw [intOf_i, intOf_i]
          (try rw [hw])
          have := HLT.out
          clear hw
          omega
        · by_cases h3 : k = 3
          · subst h3
            rw [if_pos (.inl rfl)] at hsn
            have q1' : ((x : Int) == 3) = true := by rw [beq_iff_eq]; omega
            have q1'' : (x : Int) = 3 := by omega
            clear q1
            have HSN := Bx.mk hsn
            have qd : decide (Bi.at1 (Bi.first 3 (L.take i)) < 0) = false := decide_eq_false hneg
            clear hsn hfn hx hxs hxk hi hll b3 hlt
            go_wp2_with fail
            refine ⟨⟨i + 1, by have := HLT.out; omega, by go_num, by rw [HSN.out]; rfl⟩, ?_⟩
            rw [intOf_i, intOf_i]
            (try rw [hw])
            have := HLT.out
            clear hw
            omega
          · have hnn : ¬ (k = 3 ∨ Bi.first k (L.take i) = none) := by
              rintro (h | h)
              · exact h3 h
              · exact hneg (hfn.2 h)
            rw [if_neg hnn] at hsn
            have q3 : ((k : Int) == 3) = false := by rw [beq_eq_false_iff_ne]; omega
            have HSN := Bx.mk hsn
            have qd : decide (Bi.at1 (Bi.first k (L.take i)) < 0) = false := decide_eq_false hneg
            clear hsn hfn hx hxs hxk hi hll b3 hlt hnn h3
            go_wp2_with fail
            refine ⟨⟨i + 1, by have := HLT.out; omega, by go_num, by rw [HSN.out]⟩, ?_⟩
            rw [intOf_i, intOf_i]
            (try rw [hw])
            have := HLT.out
            clear hw
            omega
      · have q1 : ((x : Int) == (k : Int)) = false := by rw [beq_eq_false_iff_ne]; omega
        rw [if_neg hxk] at hsn
        have HSN := Bx.mk hsn
        clear hsn hfn hx hxs hxk hi hll b3 hlt
        go_wp2_with fail
        refine ⟨⟨i + 1, by have := HLT.out; omega, by go_num, by rw [HSN.out]⟩, ?_⟩
        rw [intOf_i, intOf_i]
        (try rw [hw])
        have := HLT.out
        clear hw
        omega
    · have q : ¬ (i : Int) < (L.length : Int) := by omega
      obtain rfl : i = L.length := by omega
      have HV := Bx.mk (show L.take L.length = L from List.take_of_length_le (Nat.le_refl _))
      clear hi hlt
      go_wp2_with fail
      go_ret
      exact ⟨by first | rfl | (rw [HV.out]; rfl), Below.refl _ _⟩
set_option maxHeartbeats 4000000 in
theorem name_any (v : Nat) (hv : v < 256) (w : World) : Calls Try.prog 9 #[.int .u8 (v : Int)] w fun e w' => e = .returned (.string (strOf [118, 48 + v % 8])) ∧ Below w.heap.size w w' := by
  have e0 : (v : Int) % 8 = ((v % 8 : Nat) : Int) := by omega
  have hm8 : v % 8 < 8 := Nat.mod_lt _ (by omega)
  generalize v % 8 = m at e0 hm8
  have hw3 : IntKind.u8.wrap (48 + (m : Int)) = 48 + (m : Int) := by rw [IntKind.wrap_u8]; omega
  have hw4 : (48 + (m : Int)) % 256 = 48 + (m : Int) := by omega
  have hB := Blk.new w 5 #[.int .u8 (48 + (m : Int))]
  have hO : OwnB (w.alloc (.cells #[.int .u8 (48 + (m : Int))] 5)) w.heap.size (.slice (some ⟨w.heap.size, 0, none⟩) 1 1) [Nat.toUInt8 (48 + m)] := by
    refine ⟨rfl, .inr ⟨w.heap.size, 1, #[.int .u8 (48 + (m : Int))], rfl, Nat.le_refl _, hB.eq, Nat.le_refl _, by unfold maxLen; omega, rfl, ?_⟩⟩
    have e : ((Nat.toUInt8 (48 + m)).toNat : Int) = 48 + (m : Int) := by
      have : (Nat.toUInt8 (48 + m)).toNat = 48 + m := by simp [Nat.toUInt8, UInt8.toNat_ofNat', Nat.mod_eq_of_lt (show 48 + m < 256 by omega)]
      rw [this]; omega
    simp
    omega
  have hC := hO.str (by simp)
  have HE := Bx.mk (show ({ data := #[118] } : ByteArray) ++ ⟨#[48 + UInt8.ofNat m]⟩ = strOf [118, 48 + m] from by unfold strOf; simp [Nat.toUInt8]; rfl)
  clear hO hB
  go_enter Try.func9, Try.ntmps9
  go_wp2_with fail
  go_ret
  exact ⟨by rw [← HE.out]; rfl, (Below.refl _ _).alloc (Nat.le_refl _) _⟩
end Go.Proofs.Ytfgokhafiffbaaa

/-
  ExprBinds: join.
-/
namespace Go.Proofs.Ytfgokhafiffbaaa
set_option linter.unusedVariables false
open Go.RowKit
/-- two tables joined -/
def Bi.joinT (k : Nat) (f g : Tb.T) : Tb.T := match k with | 0 => f &&& g | 1 => f ^^^ g | 2 => f ||| g | 3 => (~~~f) ||| g | _ => ~~~(f ^^^ g)

set_option maxHeartbeats 4000000 in
theorem join_0 (f g : Tb.T) (w : World) : Calls Try.prog 12 #[.int .i64 0, Tb.tv f, Tb.tv g] w fun e w' => e = .returned (Tb.tv (f &&& g)) ∧ Below w.heap.size w w' := by
  have hK := (((Keep.nil w).new f).new g).new 0#256
  simp only [List.cons_append, List.nil_append, alloc_size] at hK
  have HK := Bx.mk hK
  clear hK
  go_enter Try.func12, Try.ntmps12
  go_wp2_with fail
  rw [zeros_tab]
  refine (rand_any f g _).mono ?_
  rintro e u1 ⟨rfl, hb1⟩
  have hS2 := HK.out.step hb1
  obtain ⟨⟨r0, r1, r2, r3⟩, g0, g1, g2, g3⟩ := tfacts (hS2.at_ 2 _ _ rfl)
  have HSf := Bx.mk (hS2.store 2 (f &&& g) rfl (by omega))
  clear hb1 hS2
  unfold Tb.tv
  go_wp2_with fail
  clear r0 r1 r2 r3 g0 g1 g2 g3
  have hE := HSf.out.at_ 2 _ _ rfl
  obtain ⟨⟨r0, r1, r2, r3⟩, _, _, _, _⟩ := tfacts hE
  refine bodyPost_ret (v := Tb.tv (f &&& g)) (by simp [results, Try.results12, go_sem, r0, r1, r2, r3] <;> rfl) rfl ⟨rfl, HSf.out.below⟩

set_option maxHeartbeats 4000000 in
theorem join_1 (f g : Tb.T) (w : World) : Calls Try.prog 12 #[.int .i64 1, Tb.tv f, Tb.tv g] w fun e w' => e = .returned (Tb.tv (f ^^^ g)) ∧ Below w.heap.size w w' := by
  have hK := (((Keep.nil w).new f).new g).new 0#256
  simp only [List.cons_append, List.nil_append, alloc_size] at hK
  have HK := Bx.mk hK
  clear hK
  go_enter Try.func12, Try.ntmps12
  go_wp2_with fail
  rw [zeros_tab]
  refine (rxor_any f g _).mono ?_
  rintro e u1 ⟨rfl, hb1⟩
  have hS2 := HK.out.step hb1
  obtain ⟨⟨r0, r1, r2, r3⟩, g0, g1, g2, g3⟩ := tfacts (hS2.at_ 2 _ _ rfl)
  have HSf := Bx.mk (hS2.store 2 (f ^^^ g) rfl (by omega))
  clear hb1 hS2
  unfold Tb.tv
  go_wp2_with fail
  clear r0 r1 r2 r3 g0 g1 g2 g3
  have hE := HSf.out.at_ 2 _ _ rfl
  obtain ⟨⟨r0, r1, r2, r3⟩, _, _, _, _⟩ := tfacts hE
  refine bodyPost_ret (v := Tb.tv (f ^^^ g)) (by simp [results, Try.results12, go_sem, r0, r1, r2, r3] <;> rfl) rfl ⟨rfl, HSf.out.below⟩

set_option maxHeartbeats 4000000 in
theorem join_2 (f g : Tb.T) (w : World) : Calls Try.prog 12 #[.int .i64 2, Tb.tv f, Tb.tv g] w fun e w' => e = .returned (Tb.tv (f ||| g)) ∧ Below w.heap.size w w' := by
  have hK := (((Keep.nil w).new f).new g).new 0#256
  simp only [List.cons_append, List.nil_append, alloc_size] at hK
  have HK := Bx.mk hK
  clear hK
  go_enter Try.func12, Try.ntmps12
  go_wp2_with fail
  rw [zeros_tab]
  refine (ror_any f g _).mono ?_
  rintro e u1 ⟨rfl, hb1⟩
  have hS2 := HK.out.step hb1
  obtain ⟨⟨r0, r1, r2, r3⟩, g0, g1, g2, g3⟩ := tfacts (hS2.at_ 2 _ _ rfl)
  have HSf := Bx.mk (hS2.store 2 (f ||| g) rfl (by omega))
  clear hb1 hS2
  unfold Tb.tv
  go_wp2_with fail
  clear r0 r1 r2 r3 g0 g1 g2 g3
  have hE := HSf.out.at_ 2 _ _ rfl
  obtain ⟨⟨r0, r1, r2, r3⟩, _, _, _, _⟩ := tfacts hE
  refine bodyPost_ret (v := Tb.tv (f ||| g)) (by simp [results, Try.results12, go_sem, r0, r1, r2, r3] <;> rfl) rfl ⟨rfl, HSf.out.below⟩

set_option maxHeartbeats 4000000 in
theorem join_3 (f g : Tb.T) (w : World) : Calls Try.prog 12 #[.int .i64 3, Tb.tv f, Tb.tv g] w fun e w' => e = .returned (Tb.tv ((~~~f) ||| g)) ∧ Below w.heap.size w w' := by
  have hK := (((Keep.nil w).new f).new g).new 0#256
  simp only [List.cons_append, List.nil_append, alloc_size] at hK
  have HK := Bx.mk hK
  clear hK
  go_enter Try.func12, Try.ntmps12
  go_wp2_with fail
  refine region_any 4 (fun u => Keep w u [(w.heap.size, f), (w.heap.size + 1, g), (w.heap.size + 1 + 1, 0#256)]) (by kernel_rfl) ?_
  rw [zeros_tab]
  generalize hu : World.drew _ = u0
  have hS0 : Keep w u0 [(w.heap.size, f), (w.heap.size + 1, g), (w.heap.size + 1 + 1, 0#256)] := by rw [← hu]; exact HK.out.drew
  clear hu HK
  refine any_take (i := 0) (Tb.tv f) rfl rfl (by kernel_rfl) (by kernel_rfl) (by kernel_rfl) (by kernel_rfl) (fun _ _ d _ _ h => by cases d <;> exact h) (fun u hS => exec_load rfl rfl (hS.at_ 0 _ _ rfl)) hS0 ?_
  (try simp only [Act.put]); (try simp only [List.getElem_toArray]); (try simp only [List.getElem_cons_succ]); (try simp only [List.getElem_cons_zero]); (try simp only [List.setIfInBounds_toArray]); (try simp only [List.set_cons_succ]); (try simp only [List.set_cons_zero])
  refine any_take (i := 2) (Tb.tv g) rfl rfl (by kernel_rfl) (by kernel_rfl) (by kernel_rfl) (by kernel_rfl) (fun _ _ d _ _ h => by cases d <;> exact h) (fun u hS => exec_load rfl rfl (hS.at_ 1 _ _ rfl)) hS0 ?_
  (try simp only [Act.put]); (try simp only [List.getElem_toArray]); (try simp only [List.getElem_cons_succ]); (try simp only [List.getElem_cons_zero]); (try simp only [List.setIfInBounds_toArray]); (try simp only [List.set_cons_succ]); (try simp only [List.set_cons_zero])
  refine any_branch [1] (by kernel_rfl) rfl fun ix hix => ?_
  simp only [List.mem_cons, List.not_mem_nil, or_false] at hix
  subst hix
  refine any_op rfl rfl fun K hK => ?_
  go_simp
  refine (rnot_any f _).mono ?_
  rintro e u1 ⟨rfl, hb1⟩
  have hS1 := hS0.step hb1
  refine hK _ _ (fun _ => hS1) ?_
  (try simp only [Act.put]); (try simp only [List.getElem_toArray]); (try simp only [List.getElem_cons_succ]); (try simp only [List.getElem_cons_zero]); (try simp only [List.setIfInBounds_toArray]); (try simp only [List.set_cons_succ]); (try simp only [List.set_cons_zero])
  clear hK
  refine any_branch [3] (by kernel_rfl) rfl fun ix hix => ?_
  simp only [List.mem_cons, List.not_mem_nil, or_false] at hix
  subst hix
  refine any_op rfl rfl fun K hK => ?_
  go_simp
  refine (ror_any (~~~f) g _).mono ?_
  rintro e u2 ⟨rfl, hb2⟩
  have hS2 := hS1.step hb2
  refine hK _ _ (fun _ => hS2) ?_
  (try simp only [Act.put]); (try simp only [List.getElem_toArray]); (try simp only [List.getElem_cons_succ]); (try simp only [List.getElem_cons_zero]); (try simp only [List.setIfInBounds_toArray]); (try simp only [List.set_cons_succ]); (try simp only [List.set_cons_zero])
  clear hK
  refine any_branch [4] (by kernel_rfl) rfl fun ix hix => ?_
  simp only [List.mem_cons, List.not_mem_nil, or_false] at hix
  subst hix
  refine any_op rfl rfl fun K hK => ?_
  obtain ⟨⟨r0, r1, r2, r3⟩, g0, g1, g2, g3⟩ := tfacts (hS2.at_ 2 _ _ rfl)
  unfold Tb.tv
  go_simp
  refine hK _ _ (fun h => absurd rfl h) ?_
  (try simp only [Act.put]); (try simp only [List.getElem_toArray]); (try simp only [List.getElem_cons_succ]); (try simp only [List.getElem_cons_zero]); (try simp only [List.setIfInBounds_toArray]); (try simp only [List.set_cons_succ]); (try simp only [List.set_cons_zero])
  clear hK
  refine any_end (by kernel_rfl) ?_
  have HSf := Bx.mk (hS2.store 2 ((~~~f) ||| g) rfl (by omega))
  clear r0 r1 r2 r3 g0 g1 g2 g3 hS0 hS1 hS2 hb1 hb2
  go_wp2_with fail
  have hE := HSf.out.at_ 2 _ _ rfl
  obtain ⟨⟨r0, r1, r2, r3⟩, _, _, _, _⟩ := tfacts hE
  refine bodyPost_ret (v := Tb.tv ((~~~f) ||| g)) (by simp [results, Try.results12, go_sem, r0, r1, r2, r3] <;> rfl) rfl ⟨rfl, HSf.out.below⟩

set_option maxHeartbeats 4000000 in
theorem join_4 (f g : Tb.T) (w : World) : Calls Try.prog 12 #[.int .i64 4, Tb.tv f, Tb.tv g] w fun e w' => e = .returned (Tb.tv (~~~(f ^^^ g))) ∧ Below w.heap.size w w' := by
  have hK := (((Keep.nil w).new f).new g).new 0#256
  simp only [List.cons_append, List.nil_append, alloc_size] at hK
  have HK := Bx.mk hK
  clear hK
  go_enter Try.func12, Try.ntmps12
  go_wp2_with fail
  rw [zeros_tab]
  refine (rxor_any f g _).mono ?_
  rintro e u1 ⟨rfl, hb1⟩
  have HS1 := Bx.mk (HK.out.step hb1)
  clear hb1
  go_wp2_with fail
  refine (rnot_any (f ^^^ g) _).mono ?_
  rintro e u2 ⟨rfl, hb2⟩
  have hS2 := HS1.out.step hb2
  obtain ⟨⟨r0, r1, r2, r3⟩, g0, g1, g2, g3⟩ := tfacts (hS2.at_ 2 _ _ rfl)
  have HSf := Bx.mk (hS2.store 2 (~~~(f ^^^ g)) rfl (by omega))
  clear hb2 hS2
  unfold Tb.tv
  go_wp2_with fail
  clear r0 r1 r2 r3 g0 g1 g2 g3
  have hE := HSf.out.at_ 2 _ _ rfl
  obtain ⟨⟨r0, r1, r2, r3⟩, _, _, _, _⟩ := tfacts hE
  refine bodyPost_ret (v := Tb.tv (~~~(f ^^^ g))) (by simp [results, Try.results12, go_sem, r0, r1, r2, r3] <;> rfl) rfl ⟨rfl, HSf.out.below⟩

theorem join_any (k : Nat) (hk : k < 5) (f g : Tb.T) (w : World) : Calls Try.prog 12 #[.int .i64 (k : Int), Tb.tv f, Tb.tv g] w fun e w' => e = .returned (Tb.tv (Bi.joinT k f g)) ∧ Below w.heap.size w w' := by
  have hc : k = 0 ∨ k = 1 ∨ k = 2 ∨ k = 3 ∨ k = 4 := by omega
  rcases hc with rfl | rfl | rfl | rfl | rfl
  · exact join_0 f g w
  · exact join_1 f g w
  · exact join_2 f g w
  · exact join_3 f g w
  · exact join_4 f g w
end Go.Proofs.Ytfgokhafiffbaaa
