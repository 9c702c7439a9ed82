/-
  The walks of package truth, eighth part: what a table hangs on, how many, the least.
-/
import Derived.Test.YtfkefgelceaimaaDoorTruthG
import Derived.Test.YtfkefgelceaimaaDoorTabEq
import Derived.Test.YtfkefgelceaimaaDoorTabPlain2
namespace Go.Proofs.YtfkefgelceaimaaDoor
set_option linter.unusedVariables false
open Go.RowKit

set_option maxRecDepth 100000 in
set_option maxHeartbeats 2000000 in
theorem support_any (f : Tb.T) (w : World) :
    Calls Tryd.prog 17 #[Tb.tv f] w fun e w' => e = .returned (.int .u8 (Tb.support f : Int)) ∧ Below w.heap.size w w' := by
  go_enter Tryd.func17, Tryd.ntmps17
  go_wp2_with fail
  go_loopw [3, 4, 5] (fun m _ i wr => ∃ k : Nat, k ≤ 8 ∧ i = .int .i64 k ∧ m = .int .u8 (Tb.supTo f k : Int) ∧ Below w.heap.size w wr ∧ Blk wr w.heap.size 24 (Tb.tcells f)) (fun _ _ i _ => 8 - (intOf i).toNat)
  case atStart => exact ⟨0, by omega, rfl, by unfold Tb.supTo; rfl, (Below.refl _ _).alloc (by simp) _, Blk.new _ _ _⟩
  case round =>
    rename_i wr
    obtain ⟨k, hk, rfl, rfl, hbw, hB0⟩ := hrel
    by_cases hlt : k < 8
    · have hsz : w.heap.size < wr.heap.size := hB0.lt
      obtain ⟨⟨a0, a1, a2, a3⟩, b0, b1, b2, b3⟩ := tfacts hB0
      obtain ⟨b, hd⟩ : ∃ b, Bx (decide (Tb.fix f (k : Int) false = Tb.fix f (k : Int) true) = b) := ⟨_, ⟨rfl⟩⟩
      have heq := run_equal_max hd.out
      go_wp2_with fail
      refine region_order [(0, true), (1, true), (3, true), (4, true), (2, false), (5, false), (6, true)] 7 (fun w' => Below w.heap.size w w' ∧ w.heap.size < w'.heap.size ∧ Below (w.heap.size + 1) wr w' ∧ (w'.cell? ⟨w.heap.size, 0, none⟩ = some (.int .u64 (Tb.wd f 0)) ∧ w'.cell? ⟨w.heap.size, 1, none⟩ = some (.int .u64 (Tb.wd f 1)) ∧ w'.cell? ⟨w.heap.size, 2, none⟩ = some (.int .u64 (Tb.wd f 2)) ∧ w'.cell? ⟨w.heap.size, 3, none⟩ = some (.int .u64 (Tb.wd f 3)))) (by kernel_rfl) (by kernel_rfl) (fun _ _ d _ _ h => by cases d <;> exact h) ?_ ?_
      · (((try go_split_ands); (repeat' apply And.intro) <;> first | (with_reducible assumption) | omega | (with_reducible refine (hcl _ _ ?_).trans ?_; (first | omega | (simp <;> omega)); (first | (with_reducible assumption) | (go_simp; done))) | (with_reducible refine (hfz _ _ ?_).trans ?_; (first | omega | (simp <;> omega)); (first | (with_reducible assumption) | (go_simp; done))) | (with_reducible refine cval_ok ?_; (first | (with_reducible refine (congrArg Option.isSome (hcl _ _ ?_)).trans ?_; (first | omega | (simp <;> omega)); (go_simp; done)) | (go_simp; done))) | ((repeat (first | (with_reducible exact Below.refl _ _) | (with_reducible assumption) | (with_reducible refine Below.drew ?_) | (with_reducible refine Below.setCell ?_ ?_ _; rotate_left; (first | omega | (simp <;> omega))) | (with_reducible refine Below.alloc ?_ ?_ _; rotate_left; (first | omega | (simp <;> omega))) | (with_reducible refine Below.trans ?_ (hb.mono ?_); rotate_left; (first | omega | (simp <;> omega))))); done) | ((repeat (first | (with_reducible exact Below.refl _ _) | (with_reducible assumption) | (with_reducible refine Below.drew ?_) | (with_reducible refine Below.setCell ?_ ?_ _; rotate_left; (first | omega | (simp <;> omega))) | (with_reducible refine Below.alloc ?_ ?_ _; rotate_left; (first | omega | (simp <;> omega))))); done) | (simp <;> omega) | (go_simp; done) | (go_simp <;> omega)))
      · repeat (refine wpG_take (v := ?_) rfl rfl ?_ ?_; rotate_left; (focus (intro w hS; (try dsimp only at hS); go_split_ands; go_simp; try (with_reducible rfl))); (try simp only [Act.put]); (try simp only [List.setIfInBounds_toArray]); (try simp only [List.set_cons_succ]); (try simp only [List.set_cons_zero]))
        (refine wpG_op rfl rfl ?_; intro K hK; go_simp)
        refine (fix_any f k false _).mono ?_
        rintro e w1 ⟨rfl, hb⟩
        (obtain ⟨hcl, hfz⟩ := bcell hb; have hz := hb.size; (try simp only [drew_size] at hz); (try simp only [alloc_size] at hz); (try simp only [drew_size] at hz); (try simp only [alloc_size] at hz))
        go_simp
        (refine hK _ _ ?_ (fun hSn => ?_); (focus (((try go_split_ands); (repeat' apply And.intro) <;> first | (with_reducible assumption) | omega | (with_reducible refine (hcl _ _ ?_).trans ?_; (first | omega | (simp <;> omega)); (first | (with_reducible assumption) | (go_simp; done))) | (with_reducible refine (hfz _ _ ?_).trans ?_; (first | omega | (simp <;> omega)); (first | (with_reducible assumption) | (go_simp; done))) | (with_reducible refine cval_ok ?_; (first | (with_reducible refine (congrArg Option.isSome (hcl _ _ ?_)).trans ?_; (first | omega | (simp <;> omega)); (go_simp; done)) | (go_simp; done))) | ((repeat (first | (with_reducible exact Below.refl _ _) | (with_reducible assumption) | (with_reducible refine Below.drew ?_) | (with_reducible refine Below.setCell ?_ ?_ _; rotate_left; (first | omega | (simp <;> omega))) | (with_reducible refine Below.alloc ?_ ?_ _; rotate_left; (first | omega | (simp <;> omega))) | (with_reducible refine Below.trans ?_ (hb.mono ?_); rotate_left; (first | omega | (simp <;> omega))))); done) | ((repeat (first | (with_reducible exact Below.refl _ _) | (with_reducible assumption) | (with_reducible refine Below.drew ?_) | (with_reducible refine Below.setCell ?_ ?_ _; rotate_left; (first | omega | (simp <;> omega))) | (with_reducible refine Below.alloc ?_ ?_ _; rotate_left; (first | omega | (simp <;> omega))))); done) | (simp <;> omega) | (go_simp; done) | (go_simp <;> omega)))); clear hK K; (try dsimp only at hSn); go_split_ands; (try simp only [Act.put]); (try simp only [List.setIfInBounds_toArray]); (try simp only [List.set_cons_succ]); (try simp only [List.set_cons_zero]))
        clear hcl hfz hz hb
        (refine wpG_op rfl rfl ?_; intro K hK; go_simp)
        refine (fix_any f k true _).mono ?_
        rintro e w2 ⟨rfl, hb⟩
        (obtain ⟨hcl, hfz⟩ := bcell hb; have hz := hb.size; (try simp only [drew_size] at hz); (try simp only [alloc_size] at hz); (try simp only [drew_size] at hz); (try simp only [alloc_size] at hz))
        go_simp
        (refine hK _ _ ?_ (fun hSn => ?_); (focus (((try go_split_ands); (repeat' apply And.intro) <;> first | (with_reducible assumption) | omega | (with_reducible refine (hcl _ _ ?_).trans ?_; (first | omega | (simp <;> omega)); (first | (with_reducible assumption) | (go_simp; done))) | (with_reducible refine (hfz _ _ ?_).trans ?_; (first | omega | (simp <;> omega)); (first | (with_reducible assumption) | (go_simp; done))) | (with_reducible refine cval_ok ?_; (first | (with_reducible refine (congrArg Option.isSome (hcl _ _ ?_)).trans ?_; (first | omega | (simp <;> omega)); (go_simp; done)) | (go_simp; done))) | ((repeat (first | (with_reducible exact Below.refl _ _) | (with_reducible assumption) | (with_reducible refine Below.drew ?_) | (with_reducible refine Below.setCell ?_ ?_ _; rotate_left; (first | omega | (simp <;> omega))) | (with_reducible refine Below.alloc ?_ ?_ _; rotate_left; (first | omega | (simp <;> omega))) | (with_reducible refine Below.trans ?_ (hb.mono ?_); rotate_left; (first | omega | (simp <;> omega))))); done) | ((repeat (first | (with_reducible exact Below.refl _ _) | (with_reducible assumption) | (with_reducible refine Below.drew ?_) | (with_reducible refine Below.setCell ?_ ?_ _; rotate_left; (first | omega | (simp <;> omega))) | (with_reducible refine Below.alloc ?_ ?_ _; rotate_left; (first | omega | (simp <;> omega))))); done) | (simp <;> omega) | (go_simp; done) | (go_simp <;> omega)))); clear hK K; (try dsimp only at hSn); go_split_ands; (try simp only [Act.put]); (try simp only [List.setIfInBounds_toArray]); (try simp only [List.set_cons_succ]); (try simp only [List.set_cons_zero]))
        clear hcl hfz hz hb
        (refine wpG_take (v := ?_) rfl rfl ?_ ?_; rotate_left; (focus (intro w hS; (try dsimp only at hS); go_split_ands; go_simp; try (with_reducible rfl))); (try simp only [Act.put]); (try simp only [List.setIfInBounds_toArray]); (try simp only [List.set_cons_succ]); (try simp only [List.set_cons_zero]))
        refine wpG_nil ?_
        have hwr : Below (w.heap.size + 1) wr w2 := by assumption
        have hww : Below w.heap.size w w2 := by assumption
        have hB2 := hB0.below hwr (by omega)
        clear hB0 hwr a0 a1 a2 a3 b0 b1 b2 b3
        cases b with
        | true =>
          have hs := Tb.supTo_same (of_decide_eq_true hd.out)
          have HS := Bx.mk hs
          clear hs
          go_wp2_with fail
          exact ⟨⟨k + 1, by omega, by go_num, by rw [HS.out], hww, hB2⟩, by simp [intOf]; omega⟩
        | false =>
          have hs := Tb.supTo_other (of_decide_eq_false hd.out) (by omega)
          have HS := Bx.mk hs
          clear hs
          go_wp2_with fail
          exact ⟨⟨k + 1, by omega, by go_num, by rw [HS.out], hww, hB2⟩, by simp [intOf]; omega⟩
    · obtain rfl : k = 8 := by omega
      go_wp2_with fail
      go_ret
      exact ⟨by rw [Tb.support_def]; rfl, hbw⟩

end Go.Proofs.YtfkefgelceaimaaDoor
