/-
  The walks of the document's tables, fourth part: one of the first six variables set for good.
-/
import Derived.Test.YtfkefgelceaimaaDoorRefC
import Derived.Deep.DeepCutAuto
namespace Go.Proofs.YtfkefgelceaimaaDoor
set_option linter.unusedVariables false
open Go.RowKit
theorem Tb.wrap_pow64 (k : Nat) (hk : k < 64) : IntKind.u64.wrap ((2 : Int) ^ k) = ((2 ^ k : Nat) : Int) := by
  have h : 2 ^ k < 2 ^ 64 := Nat.pow_lt_pow_right (by omega) hk
  rw [Tb.pow64] at h
  rw [IntKind.wrap_u64, show (2 : Int) ^ k = ((2 ^ k : Nat) : Int) from by norm_cast]
  generalize 2 ^ k = t at h ⊢
  omega
theorem Tb.mk_step {v k : Nat} (hk : k < 64) (hb : k.testBit v = true) : bits .or .u64 (Tb.mk v k : Int) ((2 ^ k : Nat) : Int) = (Tb.mk v (k + 1) : Int) := by
  have h : 2 ^ k < 2 ^ 64 := Nat.pow_lt_pow_right (by omega) hk
  rw [Tb.pow64] at h
  have hm := Tb.mk_lt v k
  rw [u64_or_nat _ _ (by omega) h, show Tb.mk v (k + 1) = Tb.mk v k ||| 2 ^ k from by rw [Tb.mk]; simp [hb]]
theorem Tb.mk_stay {v k : Nat} (hb : k.testBit v = false) : (Tb.mk v k : Int) = (Tb.mk v (k + 1) : Int) := by
  rw [show Tb.mk v (k + 1) = Tb.mk v k from by rw [Tb.mk]; simp [hb]]
theorem Tb.and_pow {v k : Nat} (hv : v < 6) (hk : k < 64) : bits .and .u64 (k : Int) ((2 ^ v : Nat) : Int) = if k.testBit v then ((2 ^ v : Nat) : Int) else 0 := by
  have h : 2 ^ v < 2 ^ 64 := Nat.pow_lt_pow_right (by omega) (by omega)
  rw [Tb.pow64] at h
  rw [u64_and_nat _ _ (by omega) h]
  have e : k &&& 2 ^ v = if k.testBit v then 2 ^ v else 0 := by
    apply Nat.eq_of_testBit_eq
    intro i
    rw [Nat.testBit_and, Nat.testBit_two_pow]
    by_cases hi : v = i
    · subst hi; cases hb : k.testBit v <;> simp
    · cases hb : k.testBit v <;> simp [hi]
  rw [e]
  cases k.testBit v <;> rfl

set_option maxRecDepth 100000 in
set_option maxHeartbeats 2000000 in
theorem rfixlow_true (f : Tb.T) (v : Nat) (w : World) (hv : v < 6) :
    Calls Tryd.prog 44 #[Tb.tv f, .int .i64 (v : Int), .bool true] w fun e w' => e = .returned (Tb.tv (Tb.fix f (v : Int) true)) ∧ Below w.heap.size w w' := by
  have n0 : ¬ ((v : Int) < 0) := by omega
  have n8 : ¬ ((v : Int) ≥ 8) := by omega
  have n6 : ¬ ((v : Int) ≥ 6) := by omega
  have hq2 : IntKind.u64.wrap (v : Int) = (v : Int) := by rw [IntKind.wrap_u64]; omega
  have hs := Tb.wrap_pow64 v (by omega)
  have hsb : 2 ^ v ≤ 32 := by have := Nat.pow_le_pow_right (show 0 < 2 by omega) (show v ≤ 5 by omega); simpa using this
  have hs0 : 0 < 2 ^ v := Nat.two_pow_pos v
  have HA := Bx.mk (fun k (hk : k < 64) => Tb.and_pow hv hk)
  have HF := Bx.mk (fun c (hc : c < 4) => Tb.fix_low_true f v c hv hc)
  generalize hS : 2 ^ v = s at hs hsb hs0 HA HF
  have s1 : ((s : Int) == 0) = false := by rw [beq_eq_false_iff_ne]; omega
  clear hS
  go_enter Tryd.func44, Tryd.ntmps44
  go_wp2_with fail
  go_loopw [10, 12] (fun m i wr => ∃ k : Nat, k ≤ 64 ∧ i = .int .u64 k ∧ m = .int .u64 (Tb.mk v k : Int) ∧ wr = ((w.alloc (.cells #[.int .u64 (Tb.wd f 0), .int .u64 (Tb.wd f 1), .int .u64 (Tb.wd f 2), .int .u64 (Tb.wd f 3)] 24)).alloc (.cells #[.int .u64 0, .int .u64 0, .int .u64 0, .int .u64 0] 24))) (fun _ i _ => 64 - (intOf i).toNat)
  case atStart => exact ⟨0, by omega, rfl, by unfold Tb.mk; rfl, rfl⟩
  case round =>
    obtain ⟨k, hk, rfl, rfl, rfl⟩ := hrel
    by_cases hlt : k < 64
    · have ha := HA.out k hlt
      have hq : IntKind.u64.wrap ((k : Int) + 1) = (k : Int) + 1 := by rw [IntKind.wrap_u64]; omega
      cases hb : k.testBit v with
      | false =>
        rw [hb] at ha
        simp only [Bool.false_eq_true, if_false] at ha
        have hm := Bx.mk (Tb.mk_stay hb)
        clear hb
        go_wp2_with fail
        exact ⟨⟨k + 1, by omega, by simp, by rw [hm.out], trivial⟩, by simp [intOf]; omega⟩
      | true =>
        rw [hb] at ha
        simp only [if_true] at ha
        have hm := Bx.mk (Tb.mk_step hlt hb)
        have hw := Bx.mk (Tb.wrap_pow64 k hlt)
        clear hb
        go_wp2_with fail
        exact ⟨⟨k + 1, by omega, by simp, by rw [← hm.out, ← hw.out], trivial⟩, by simp [intOf]; omega⟩
    · obtain rfl : k = 64 := by omega
      clear HA
      have m0 : min s 64 = s := by omega
      go_wp2_with fail
      refine wp_loop_rounds 5 ?_
      rw [rounds_succ]
      go_wp2_with fail
      rw [rounds_succ]
      go_wp2_with fail
      rw [rounds_succ]
      go_wp2_with fail
      rw [rounds_succ]
      go_wp2_with fail
      rw [rounds_succ]
      go_wp2_with fail
      refine bodyPost_ret (v := .agg #[.int .u64 (bits .or .u64 (bits .and .u64 (Tb.wd f 0) (Tb.mk v 64 : Int)) (bits .and .u64 (Tb.wd f 0) (Tb.mk v 64 : Int) / 2 ^ s)), .int .u64 (bits .or .u64 (bits .and .u64 (Tb.wd f 1) (Tb.mk v 64 : Int)) (bits .and .u64 (Tb.wd f 1) (Tb.mk v 64 : Int) / 2 ^ s)), .int .u64 (bits .or .u64 (bits .and .u64 (Tb.wd f 2) (Tb.mk v 64 : Int)) (bits .and .u64 (Tb.wd f 2) (Tb.mk v 64 : Int) / 2 ^ s)), .int .u64 (bits .or .u64 (bits .and .u64 (Tb.wd f 3) (Tb.mk v 64 : Int)) (bits .and .u64 (Tb.wd f 3) (Tb.mk v 64 : Int) / 2 ^ s))]) (by simp [results, Tryd.results44, go_sem]) rfl ⟨by rw [HF.out 0 (by omega), HF.out 1 (by omega), HF.out 2 (by omega), HF.out 3 (by omega)], ?_⟩
      (repeat (first | (with_reducible exact Below.refl _ _) | (with_reducible assumption) | (with_reducible refine Below.drew ?_) | (with_reducible refine Below.setCell ?_ ?_ _; rotate_left; (first | omega | (simp <;> omega))) | (with_reducible refine Below.alloc ?_ ?_ _; rotate_left; (first | omega | (simp <;> omega)))))
set_option maxRecDepth 100000 in
set_option maxHeartbeats 2000000 in
theorem rfixlow_false (f : Tb.T) (v : Nat) (w : World) (hv : v < 6) :
    Calls Tryd.prog 44 #[Tb.tv f, .int .i64 (v : Int), .bool false] w fun e w' => e = .returned (Tb.tv (Tb.fix f (v : Int) false)) ∧ Below w.heap.size w w' := by
  have n0 : ¬ ((v : Int) < 0) := by omega
  have n8 : ¬ ((v : Int) ≥ 8) := by omega
  have n6 : ¬ ((v : Int) ≥ 6) := by omega
  have hq2 : IntKind.u64.wrap (v : Int) = (v : Int) := by rw [IntKind.wrap_u64]; omega
  have hs := Tb.wrap_pow64 v (by omega)
  have hsb : 2 ^ v ≤ 32 := by have := Nat.pow_le_pow_right (show 0 < 2 by omega) (show v ≤ 5 by omega); simpa using this
  have hs0 : 0 < 2 ^ v := Nat.two_pow_pos v
  have HA := Bx.mk (fun k (hk : k < 64) => Tb.and_pow hv hk)
  have HF := Bx.mk (fun c (hc : c < 4) => Tb.fix_low_false f v c hv hc)
  generalize hS : 2 ^ v = s at hs hsb hs0 HA HF
  have s1 : ((s : Int) == 0) = false := by rw [beq_eq_false_iff_ne]; omega
  clear hS
  go_enter Tryd.func44, Tryd.ntmps44
  go_wp2_with fail
  go_loopw [10, 12] (fun m i wr => ∃ k : Nat, k ≤ 64 ∧ i = .int .u64 k ∧ m = .int .u64 (Tb.mk v k : Int) ∧ wr = ((w.alloc (.cells #[.int .u64 (Tb.wd f 0), .int .u64 (Tb.wd f 1), .int .u64 (Tb.wd f 2), .int .u64 (Tb.wd f 3)] 24)).alloc (.cells #[.int .u64 0, .int .u64 0, .int .u64 0, .int .u64 0] 24))) (fun _ i _ => 64 - (intOf i).toNat)
  case atStart => exact ⟨0, by omega, rfl, by unfold Tb.mk; rfl, rfl⟩
  case round =>
    obtain ⟨k, hk, rfl, rfl, rfl⟩ := hrel
    by_cases hlt : k < 64
    · have ha := HA.out k hlt
      have hq : IntKind.u64.wrap ((k : Int) + 1) = (k : Int) + 1 := by rw [IntKind.wrap_u64]; omega
      cases hb : k.testBit v with
      | false =>
        rw [hb] at ha
        simp only [Bool.false_eq_true, if_false] at ha
        have hm := Bx.mk (Tb.mk_stay hb)
        clear hb
        go_wp2_with fail
        exact ⟨⟨k + 1, by omega, by simp, by rw [hm.out], trivial⟩, by simp [intOf]; omega⟩
      | true =>
        rw [hb] at ha
        simp only [if_true] at ha
        have hm := Bx.mk (Tb.mk_step hlt hb)
        have hw := Bx.mk (Tb.wrap_pow64 k hlt)
        clear hb
        go_wp2_with fail
        exact ⟨⟨k + 1, by omega, by simp, by rw [← hm.out, ← hw.out], trivial⟩, by simp [intOf]; omega⟩
    · obtain rfl : k = 64 := by omega
      clear HA
      have m0 : min s 64 = s := by omega
      go_wp2_with fail
      refine wp_loop_rounds 5 ?_
      rw [rounds_succ]
      go_wp2_with fail
      rw [rounds_succ]
      go_wp2_with fail
      rw [rounds_succ]
      go_wp2_with fail
      rw [rounds_succ]
      go_wp2_with fail
      rw [rounds_succ]
      go_wp2_with fail
      refine bodyPost_ret (v := .agg #[.int .u64 (bits .or .u64 (bits .andNot .u64 (Tb.wd f 0) (Tb.mk v 64 : Int)) (IntKind.u64.wrap (bits .andNot .u64 (Tb.wd f 0) (Tb.mk v 64 : Int) * 2 ^ s))), .int .u64 (bits .or .u64 (bits .andNot .u64 (Tb.wd f 1) (Tb.mk v 64 : Int)) (IntKind.u64.wrap (bits .andNot .u64 (Tb.wd f 1) (Tb.mk v 64 : Int) * 2 ^ s))), .int .u64 (bits .or .u64 (bits .andNot .u64 (Tb.wd f 2) (Tb.mk v 64 : Int)) (IntKind.u64.wrap (bits .andNot .u64 (Tb.wd f 2) (Tb.mk v 64 : Int) * 2 ^ s))), .int .u64 (bits .or .u64 (bits .andNot .u64 (Tb.wd f 3) (Tb.mk v 64 : Int)) (IntKind.u64.wrap (bits .andNot .u64 (Tb.wd f 3) (Tb.mk v 64 : Int) * 2 ^ s)))]) (by simp [results, Tryd.results44, go_sem]) rfl ⟨by rw [HF.out 0 (by omega), HF.out 1 (by omega), HF.out 2 (by omega), HF.out 3 (by omega)], ?_⟩
      (repeat (first | (with_reducible exact Below.refl _ _) | (with_reducible assumption) | (with_reducible refine Below.drew ?_) | (with_reducible refine Below.setCell ?_ ?_ _; rotate_left; (first | omega | (simp <;> omega))) | (with_reducible refine Below.alloc ?_ ?_ _; rotate_left; (first | omega | (simp <;> omega)))))

theorem rfix_any (f : Tb.T) (v : Int) (b : Bool) (w : World) :
    Calls Tryd.prog 44 #[Tb.tv f, .int .i64 v, .bool b] w fun e w' => e = .returned (Tb.tv (Tb.fix f v b)) ∧ Below w.heap.size w w' := by
  cases hk : Tb.kn v with
  | false => rw [Tb.fix_no hk]; exact rfix_none f v b w hk
  | true =>
    obtain ⟨h0, h8⟩ := kn_yes hk
    by_cases h6 : v < 6
    · obtain ⟨n, rfl⟩ : ∃ n : Nat, v = (n : Int) := ⟨v.toNat, by omega⟩
      cases b
      · exact rfixlow_false f n w (by omega)
      · exact rfixlow_true f n w (by omega)
    · have : v = 6 ∨ v = 7 := by omega
      rcases this with rfl | rfl <;> cases b
      · exact rfix6false_any f w
      · exact rfix6true_any f w
      · exact rfix7false_any f w
      · exact rfix7true_any f w
end Go.Proofs.YtfkefgelceaimaaDoor
