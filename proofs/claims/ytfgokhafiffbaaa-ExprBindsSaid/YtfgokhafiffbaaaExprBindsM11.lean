/-
  Texts on which the law ExprBinds rests, part 11 of 22.
-/
import Derived.Test.YtfgokhafiffbaaaExprBindsM10
/-
  Formulas: plain.
-/
namespace Go.Proofs.Ytfgokhafiffbaaa
set_option linter.unusedVariables false
open Go.RowKit

def Ex.top (k : Int) : Int := if k = 1 ∨ k = 10 ∨ k = 11 then 7 else if k = 2 then 1 else 0
/-- is one node right? -/
def Ex.plain (t : Tr) : Bool := decide (1 ≤ t.k) && decide (t.k ≤ 11) && decide (t.kids.len = Ex.kids t.k) && (decide (0 ≤ t.v) && decide (t.v ≤ Ex.top t.k))
theorem boxE (w : World) (k a v : Int) (sl : Value) : Blk (w.alloc (.cells #[.int .i64 k, .int .i64 a, .int .i64 v, sl] 36)) w.heap.size 36 #[.int .i64 k, .int .i64 a, .int .i64 v, sl] := Blk.new _ _ _
set_option maxHeartbeats 8000000 in
theorem plain_any (t : Tr) (pp : Option Addr) (cap : Nat) (w : World) : Calls Try.prog 34 #[Ev t (.slice pp t.kids.len cap)] w fun e w' => e = .returned (.bool (Ex.plain t)) ∧ Below w.heap.size w w' := by
  obtain ⟨k, a, v, kids⟩ := t
  obtain ⟨c0, c1, c2, c3, _, _, _, _⟩ := cells4 (boxE w k a v (.slice pp kids.len cap))
  have hb := Bx.mk ((Below.refl w.heap.size w).alloc (Nat.le_refl _) (.cells #[.int .i64 k, .int .i64 a, .int .i64 v, .slice pp kids.len cap] 36))
  unfold Ev
  simp only []

  by_cases h1 : k < 1
  · have HF := Bx.mk (show Ex.plain ⟨k, a, v, kids⟩ = false from by unfold Ex.plain; simp; omega)
    go_enter Try.func34, Try.ntmps34
    go_wp2_with fail
    generalize w.alloc (.cells #[.int .i64 k, .int .i64 a, .int .i64 v, .slice pp kids.len cap] 36) = W at c0 c1 c2 c3 hb ⊢
    refine region_stB (by kernel_rfl) (by kernel_rfl) ?_
    (repeat (refine stB_step (fun K hK => ?_); go_simp; refine hK _ ?_; clear hK K))
    refine stB_nil ?_
    go_wp2_with fail
    go_ret
    exact ⟨by rw [HF.out]; rfl, hb.out.drew⟩
  · by_cases h2 : k > 11
    · have HF := Bx.mk (show Ex.plain ⟨k, a, v, kids⟩ = false from by unfold Ex.plain; simp; omega)
      go_enter Try.func34, Try.ntmps34
      go_wp2_with fail
      generalize w.alloc (.cells #[.int .i64 k, .int .i64 a, .int .i64 v, .slice pp kids.len cap] 36) = W at c0 c1 c2 c3 hb ⊢
      refine region_stB (by kernel_rfl) (by kernel_rfl) ?_
      (repeat (refine stB_step (fun K hK => ?_); go_simp; refine hK _ ?_; clear hK K))
      refine stB_nil ?_
      go_wp2_with fail
      go_ret
      exact ⟨by rw [HF.out]; rfl, hb.out.drew⟩
    · have hK := kids_any k
      by_cases h3 : kids.len = Ex.kids k
      · have q3 : (kids.len : Int) = (Ex.kids k : Int) := by omega
        have hTop : Ex.plain ⟨k, a, v, kids⟩ = (decide (0 ≤ v) && decide (v ≤ Ex.top k)) := by unfold Ex.plain; simp [h3]; omega
        have HTop := Bx.mk hTop
        have HK := Bx.mk hK
        clear hTop h3 hK
        have hc : k = 1 ∨ k = 2 ∨ k = 3 ∨ k = 4 ∨ k = 5 ∨ k = 6 ∨ k = 7 ∨ k = 8 ∨ k = 9 ∨ k = 10 ∨ k = 11 := by omega
        clear h1 h2
        rcases hc with rfl | rfl | rfl | rfl | rfl | rfl | rfl | rfl | rfl | rfl | rfl
        · by_cases h0 : v ≥ 0
          · by_cases ht : v ≤ 7
            · have HR := Bx.mk (show (decide (0 ≤ v) && decide (v ≤ Ex.top 1)) = true from by unfold Ex.top; simp; omega)
              go_enter Try.func34, Try.ntmps34
              go_wp2_with fail
              generalize w.alloc (.cells #[.int .i64 1, .int .i64 a, .int .i64 v, .slice pp kids.len cap] 36) = W at c0 c1 c2 c3 hb ⊢
              refine region_stB (by kernel_rfl) (by kernel_rfl) ?_
              (repeat (refine stB_step (fun K hK => ?_); go_simp; refine hK _ ?_; clear hK K))
              (refine stB_step (fun K hK => ?_); go_simp; refine ⟨_, HK.out _, hK _ ?_⟩; clear hK K)
              (repeat (refine stB_step (fun K hK => ?_); go_simp; refine hK _ ?_; clear hK K))
              refine stB_nil ?_
              go_wp2_with fail
              go_ret
              exact ⟨by rw [HTop.out, HR.out]; rfl, hb.out.drew⟩
            · have HR := Bx.mk (show (decide (0 ≤ v) && decide (v ≤ Ex.top 1)) = false from by unfold Ex.top; simp; omega)
              go_enter Try.func34, Try.ntmps34
              go_wp2_with fail
              generalize w.alloc (.cells #[.int .i64 1, .int .i64 a, .int .i64 v, .slice pp kids.len cap] 36) = W at c0 c1 c2 c3 hb ⊢
              refine region_stB (by kernel_rfl) (by kernel_rfl) ?_
              (repeat (refine stB_step (fun K hK => ?_); go_simp; refine hK _ ?_; clear hK K))
              (refine stB_step (fun K hK => ?_); go_simp; refine ⟨_, HK.out _, hK _ ?_⟩; clear hK K)
              (repeat (refine stB_step (fun K hK => ?_); go_simp; refine hK _ ?_; clear hK K))
              refine stB_nil ?_
              go_wp2_with fail
              go_ret
              exact ⟨by rw [HTop.out, HR.out]; show Ending.returned (Value.bool (decide (v ≤ 7))) = _; rw [decide_eq_false (by omega)], hb.out.drew⟩
          · have HR := Bx.mk (show (decide (0 ≤ v) && decide (v ≤ Ex.top 1)) = false from by simp; omega)
            go_enter Try.func34, Try.ntmps34
            go_wp2_with fail
            generalize w.alloc (.cells #[.int .i64 1, .int .i64 a, .int .i64 v, .slice pp kids.len cap] 36) = W at c0 c1 c2 c3 hb ⊢
            refine region_stB (by kernel_rfl) (by kernel_rfl) ?_
            (repeat (refine stB_step (fun K hK => ?_); go_simp; refine hK _ ?_; clear hK K))
            (refine stB_step (fun K hK => ?_); go_simp; refine ⟨_, HK.out _, hK _ ?_⟩; clear hK K)
            (repeat (refine stB_step (fun K hK => ?_); go_simp; refine hK _ ?_; clear hK K))
            refine stB_nil ?_
            go_wp2_with fail
            go_ret
            exact ⟨by rw [HTop.out, HR.out]; rfl, hb.out.drew⟩
        · by_cases h0 : v ≥ 0
          · by_cases ht : v ≤ 1
            · have HR := Bx.mk (show (decide (0 ≤ v) && decide (v ≤ Ex.top 2)) = true from by unfold Ex.top; simp; omega)
              go_enter Try.func34, Try.ntmps34
              go_wp2_with fail
              generalize w.alloc (.cells #[.int .i64 2, .int .i64 a, .int .i64 v, .slice pp kids.len cap] 36) = W at c0 c1 c2 c3 hb ⊢
              refine region_stB (by kernel_rfl) (by kernel_rfl) ?_
              (repeat (refine stB_step (fun K hK => ?_); go_simp; refine hK _ ?_; clear hK K))
              (refine stB_step (fun K hK => ?_); go_simp; refine ⟨_, HK.out _, hK _ ?_⟩; clear hK K)
              (repeat (refine stB_step (fun K hK => ?_); go_simp; refine hK _ ?_; clear hK K))
              refine stB_nil ?_
              go_wp2_with fail
              go_ret
              exact ⟨by rw [HTop.out, HR.out]; rfl, hb.out.drew⟩
            · have HR := Bx.mk (show (decide (0 ≤ v) && decide (v ≤ Ex.top 2)) = false from by unfold Ex.top; simp; omega)
              go_enter Try.func34, Try.ntmps34
              go_wp2_with fail
              generalize w.alloc (.cells #[.int .i64 2, .int .i64 a, .int .i64 v, .slice pp kids.len cap] 36) = W at c0 c1 c2 c3 hb ⊢
              refine region_stB (by kernel_rfl) (by kernel_rfl) ?_
              (repeat (refine stB_step (fun K hK => ?_); go_simp; refine hK _ ?_; clear hK K))
              (refine stB_step (fun K hK => ?_); go_simp; refine ⟨_, HK.out _, hK _ ?_⟩; clear hK K)
              (repeat (refine stB_step (fun K hK => ?_); go_simp; refine hK _ ?_; clear hK K))
              refine stB_nil ?_
              go_wp2_with fail
              go_ret
              exact ⟨by rw [HTop.out, HR.out]; show Ending.returned (Value.bool (decide (v ≤ 1))) = _; rw [decide_eq_false (by omega)], hb.out.drew⟩
          · have HR := Bx.mk (show (decide (0 ≤ v) && decide (v ≤ Ex.top 2)) = false from by simp; omega)
            go_enter Try.func34, Try.ntmps34
            go_wp2_with fail
            generalize w.alloc (.cells #[.int .i64 2, .int .i64 a, .int .i64 v, .slice pp kids.len cap] 36) = W at c0 c1 c2 c3 hb ⊢
            refine region_stB (by kernel_rfl) (by kernel_rfl) ?_
            (repeat (refine stB_step (fun K hK => ?_); go_simp; refine hK _ ?_; clear hK K))
            (refine stB_step (fun K hK => ?_); go_simp; refine ⟨_, HK.out _, hK _ ?_⟩; clear hK K)
            (repeat (refine stB_step (fun K hK => ?_); go_simp; refine hK _ ?_; clear hK K))
            refine stB_nil ?_
            go_wp2_with fail
            go_ret
            exact ⟨by rw [HTop.out, HR.out]; rfl, hb.out.drew⟩
        · by_cases h0 : v ≥ 0
          · by_cases ht : v ≤ 0
            · have HR := Bx.mk (show (decide (0 ≤ v) && decide (v ≤ Ex.top 3)) = true from by unfold Ex.top; simp; omega)
              go_enter Try.func34, Try.ntmps34
              go_wp2_with fail
              generalize w.alloc (.cells #[.int .i64 3, .int .i64 a, .int .i64 v, .slice pp kids.len cap] 36) = W at c0 c1 c2 c3 hb ⊢
              refine region_stB (by kernel_rfl) (by kernel_rfl) ?_
              (repeat (refine stB_step (fun K hK => ?_); go_simp; refine hK _ ?_; clear hK K))
              (refine stB_step (fun K hK => ?_); go_simp; refine ⟨_, HK.out _, hK _ ?_⟩; clear hK K)
              (repeat (refine stB_step (fun K hK => ?_); go_simp; refine hK _ ?_; clear hK K))
              refine stB_nil ?_
              go_wp2_with fail
              go_ret
              exact ⟨by rw [HTop.out, HR.out]; rfl, hb.out.drew⟩
            · have HR := Bx.mk (show (decide (0 ≤ v) && decide (v ≤ Ex.top 3)) = false from by unfold Ex.top; simp; omega)
              go_enter Try.func34, Try.ntmps34
              go_wp2_with fail
              generalize w.alloc (.cells #[.int .i64 3, .int .i64 a, .int .i64 v, .slice pp kids.len cap] 36) = W at c0 c1 c2 c3 hb ⊢
              refine region_stB (by kernel_rfl) (by kernel_rfl) ?_
              (repeat (refine stB_step (fun K hK => ?_); go_simp; refine hK _ ?_; clear hK K))
              (refine stB_step (fun K hK => ?_); go_simp; refine ⟨_, HK.out _, hK _ ?_⟩; clear hK K)
              (repeat (refine stB_step (fun K hK => ?_); go_simp; refine hK _ ?_; clear hK K))
              refine stB_nil ?_
              go_wp2_with fail
              go_ret
              exact ⟨by rw [HTop.out, HR.out]; show Ending.returned (Value.bool (decide (v ≤ 0))) = _; rw [decide_eq_false (by omega)], hb.out.drew⟩
          · have HR := Bx.mk (show (decide (0 ≤ v) && decide (v ≤ Ex.top 3)) = false from by simp; omega)
            go_enter Try.func34, Try.ntmps34
            go_wp2_with fail
            generalize w.alloc (.cells #[.int .i64 3, .int .i64 a, .int .i64 v, .slice pp kids.len cap] 36) = W at c0 c1 c2 c3 hb ⊢
            refine region_stB (by kernel_rfl) (by kernel_rfl) ?_
            (repeat (refine stB_step (fun K hK => ?_); go_simp; refine hK _ ?_; clear hK K))
            (refine stB_step (fun K hK => ?_); go_simp; refine ⟨_, HK.out _, hK _ ?_⟩; clear hK K)
            (repeat (refine stB_step (fun K hK => ?_); go_simp; refine hK _ ?_; clear hK K))
            refine stB_nil ?_
            go_wp2_with fail
            go_ret
            exact ⟨by rw [HTop.out, HR.out]; rfl, hb.out.drew⟩
        · by_cases h0 : v ≥ 0
          · by_cases ht : v ≤ 0
            · have HR := Bx.mk (show (decide (0 ≤ v) && decide (v ≤ Ex.top 4)) = true from by unfold Ex.top; simp; omega)
              go_enter Try.func34, Try.ntmps34
              go_wp2_with fail
              generalize w.alloc (.cells #[.int .i64 4, .int .i64 a, .int .i64 v, .slice pp kids.len cap] 36) = W at c0 c1 c2 c3 hb ⊢
              refine region_stB (by kernel_rfl) (by kernel_rfl) ?_
              (repeat (refine stB_step (fun K hK => ?_); go_simp; refine hK _ ?_; clear hK K))
              (refine stB_step (fun K hK => ?_); go_simp; refine ⟨_, HK.out _, hK _ ?_⟩; clear hK K)
              (repeat (refine stB_step (fun K hK => ?_); go_simp; refine hK _ ?_; clear hK K))
              refine stB_nil ?_
              go_wp2_with fail
              go_ret
              exact ⟨by rw [HTop.out, HR.out]; rfl, hb.out.drew⟩
            · have HR := Bx.mk (show (decide (0 ≤ v) && decide (v ≤ Ex.top 4)) = false from by unfold Ex.top; simp; omega)
              go_enter Try.func34, Try.ntmps34
              go_wp2_with fail
              generalize w.alloc (.cells #[.int .i64 4, .int .i64 a, .int .i64 v, .slice pp kids.len cap] 36) = W at c0 c1 c2 c3 hb ⊢
              refine region_stB (by kernel_rfl) (by kernel_rfl) ?_
              (repeat (refine stB_step (fun K hK => ?_); go_simp; refine hK _ ?_; clear hK K))
              (refine stB_step (fun K hK => ?_); go_simp; refine ⟨_, HK.out _, hK _ ?_⟩; clear hK K)
              (repeat (refine stB_step (fun K hK => ?_); go_simp; refine hK _ ?_; clear hK K))
              refine stB_nil ?_
              go_wp2_with fail
              go_ret
              exact ⟨by rw [HTop.out, HR.out]; show Ending.returned (Value.bool (decide (v ≤ 0))) = _; rw [decide_eq_false (by omega)], hb.out.drew⟩
          · have HR := Bx.mk (show (decide (0 ≤ v) && decide (v ≤ Ex.top 4)) = false from by simp; omega)
            go_enter Try.func34, Try.ntmps34
            go_wp2_with fail
            generalize w.alloc (.cells #[.int .i64 4, .int .i64 a, .int .i64 v, .slice pp kids.len cap] 36) = W at c0 c1 c2 c3 hb ⊢
            refine region_stB (by kernel_rfl) (by kernel_rfl) ?_
            (repeat (refine stB_step (fun K hK => ?_); go_simp; refine hK _ ?_; clear hK K))
            (refine stB_step (fun K hK => ?_); go_simp; refine ⟨_, HK.out _, hK _ ?_⟩; clear hK K)
            (repeat (refine stB_step (fun K hK => ?_); go_simp; refine hK _ ?_; clear hK K))
            refine stB_nil ?_
            go_wp2_with fail
            go_ret
            exact ⟨by rw [HTop.out, HR.out]; rfl, hb.out.drew⟩
        · by_cases h0 : v ≥ 0
          · by_cases ht : v ≤ 0
            · have HR := Bx.mk (show (decide (0 ≤ v) && decide (v ≤ Ex.top 5)) = true from by unfold Ex.top; simp; omega)
              go_enter Try.func34, Try.ntmps34
              go_wp2_with fail
              generalize w.alloc (.cells #[.int .i64 5, .int .i64 a, .int .i64 v, .slice pp kids.len cap] 36) = W at c0 c1 c2 c3 hb ⊢
              refine region_stB (by kernel_rfl) (by kernel_rfl) ?_
              (repeat (refine stB_step (fun K hK => ?_); go_simp; refine hK _ ?_; clear hK K))
              (refine stB_step (fun K hK => ?_); go_simp; refine ⟨_, HK.out _, hK _ ?_⟩; clear hK K)
              (repeat (refine stB_step (fun K hK => ?_); go_simp; refine hK _ ?_; clear hK K))
              refine stB_nil ?_
              go_wp2_with fail
              go_ret
              exact ⟨by rw [HTop.out, HR.out]; rfl, hb.out.drew⟩
            · have HR := Bx.mk (show (decide (0 ≤ v) && decide (v ≤ Ex.top 5)) = false from by unfold Ex.top; simp; omega)
              go_enter Try.func34, Try.ntmps34
              go_wp2_with fail
              generalize w.alloc (.cells #[.int .i64 5, .int .i64 a, .int .i64 v, .slice pp kids.len cap] 36) = W at c0 c1 c2 c3 hb ⊢
              refine region_stB (by kernel_rfl) (by kernel_rfl) ?_
              (repeat (refine stB_step (fun K hK => ?_); go_simp; refine hK _ ?_; clear hK K))
              (refine stB_step (fun K hK => ?_); go_simp; refine ⟨_, HK.out _, hK _ ?_⟩; clear hK K)
              (repeat (refine stB_step (fun K hK => ?_); go_simp; refine hK _ ?_; clear hK K))
              refine stB_nil ?_
              go_wp2_with fail
              go_ret
              exact ⟨by rw [HTop.out, HR.out]; show Ending.returned (Value.bool (decide (v ≤ 0))) = _; rw [decide_eq_false (by omega)], hb.out.drew⟩
          · have HR := Bx.mk (show (decide (0 ≤ v) && decide (v ≤ Ex.top 5)) = false from by simp; omega)
            go_enter Try.func34, Try.ntmps34
            go_wp2_with fail
            generalize w.alloc (.cells #[.int .i64 5, .int .i64 a, .int .i64 v, .slice pp kids.len cap] 36) = W at c0 c1 c2 c3 hb ⊢
            refine region_stB (by kernel_rfl) (by kernel_rfl) ?_
            (repeat (refine stB_step (fun K hK => ?_); go_simp; refine hK _ ?_; clear hK K))
            (refine stB_step (fun K hK => ?_); go_simp; refine ⟨_, HK.out _, hK _ ?_⟩; clear hK K)
            (repeat (refine stB_step (fun K hK => ?_); go_simp; refine hK _ ?_; clear hK K))
            refine stB_nil ?_
            go_wp2_with fail
            go_ret
            exact ⟨by rw [HTop.out, HR.out]; rfl, hb.out.drew⟩
        · by_cases h0 : v ≥ 0
          · by_cases ht : v ≤ 0
            · have HR := Bx.mk (show (decide (0 ≤ v) && decide (v ≤ Ex.top 6)) = true from by unfold Ex.top; simp; omega)
              go_enter Try.func34, Try.ntmps34
              go_wp2_with fail
              generalize w.alloc (.cells #[.int .i64 6, .int .i64 a, .int .i64 v, .slice pp kids.len cap] 36) = W at c0 c1 c2 c3 hb ⊢
              refine region_stB (by kernel_rfl) (by kernel_rfl) ?_
              (repeat (refine stB_step (fun K hK => ?_); go_simp; refine hK _ ?_; clear hK K))
              (refine stB_step (fun K hK => ?_); go_simp; refine ⟨_, HK.out _, hK _ ?_⟩; clear hK K)
              (repeat (refine stB_step (fun K hK => ?_); go_simp; refine hK _ ?_; clear hK K))
              refine stB_nil ?_
              go_wp2_with fail
              go_ret
              exact ⟨by rw [HTop.out, HR.out]; rfl, hb.out.drew⟩
            · have HR := Bx.mk (show (decide (0 ≤ v) && decide (v ≤ Ex.top 6)) = false from by unfold Ex.top; simp; omega)
              go_enter Try.func34, Try.ntmps34
              go_wp2_with fail
              generalize w.alloc (.cells #[.int .i64 6, .int .i64 a, .int .i64 v, .slice pp kids.len cap] 36) = W at c0 c1 c2 c3 hb ⊢
              refine region_stB (by kernel_rfl) (by kernel_rfl) ?_
              (repeat (refine stB_step (fun K hK => ?_); go_simp; refine hK _ ?_; clear hK K))
              (refine stB_step (fun K hK => ?_); go_simp; refine ⟨_, HK.out _, hK _ ?_⟩; clear hK K)
              (repeat (refine stB_step (fun K hK => ?_); go_simp; refine hK _ ?_; clear hK K))
              refine stB_nil ?_
              go_wp2_with fail
              go_ret
              exact ⟨by rw [HTop.out, HR.out]; show Ending.returned (Value.bool (decide (v ≤ 0))) = _; rw [decide_eq_false (by omega)], hb.out.drew⟩
          · have HR := Bx.mk (show (decide (0 ≤ v) && decide (v ≤ Ex.top 6)) = false from by simp; omega)
            go_enter Try.func34, Try.ntmps34
            go_wp2_with fail
            generalize w.alloc (.cells #[.int .i64 6, .int .i64 a, .int .i64 v, .slice pp kids.len cap] 36) = W at c0 c1 c2 c3 hb ⊢
            refine region_stB (by kernel_rfl) (by kernel_rfl) ?_
            (repeat (refine stB_step (fun K hK => ?_); go_simp; refine hK _ ?_; clear hK K))
            (refine stB_step (fun K hK => ?_); go_simp; refine ⟨_, HK.out _, hK _ ?_⟩; clear hK K)
            (repeat (refine stB_step (fun K hK => ?_); go_simp; refine hK _ ?_; clear hK K))
            refine stB_nil ?_
            go_wp2_with fail
            go_ret
            exact ⟨by rw [HTop.out, HR.out]; rfl, hb.out.drew⟩
        · by_cases h0 : v ≥ 0
          · by_cases ht : v ≤ 0
            · have HR := Bx.mk (show (decide (0 ≤ v) && decide (v ≤ Ex.top 7)) = true from by unfold Ex.top; simp; omega)
              go_enter Try.func34, Try.ntmps34
              go_wp2_with fail
              generalize w.alloc (.cells #[.int .i64 7, .int .i64 a, .int .i64 v, .slice pp kids.len cap] 36) = W at c0 c1 c2 c3 hb ⊢
              refine region_stB (by kernel_rfl) (by kernel_rfl) ?_
              (repeat (refine stB_step (fun K hK => ?_); go_simp; refine hK _ ?_; clear hK K))
              (refine stB_step (fun K hK => ?_); go_simp; refine ⟨_, HK.out _, hK _ ?_⟩; clear hK K)
              (repeat (refine stB_step (fun K hK => ?_); go_simp; refine hK _ ?_; clear hK K))
              refine stB_nil ?_
              go_wp2_with fail
              go_ret
              exact ⟨by rw [HTop.out, HR.out]; rfl, hb.out.drew⟩
            · have HR := Bx.mk (show (decide (0 ≤ v) && decide (v ≤ Ex.top 7)) = false from by unfold Ex.top; simp; omega)
              go_enter Try.func34, Try.ntmps34
              go_wp2_with fail
              generalize w.alloc (.cells #[.int .i64 7, .int .i64 a, .int .i64 v, .slice pp kids.len cap] 36) = W at c0 c1 c2 c3 hb ⊢
              refine region_stB (by kernel_rfl) (by kernel_rfl) ?_
              (repeat (refine stB_step (fun K hK => ?_); go_simp; refine hK _ ?_; clear hK K))
              (refine stB_step (fun K hK => ?_); go_simp; refine ⟨_, HK.out _, hK _ ?_⟩; clear hK K)
              (repeat (refine stB_step (fun K hK => ?_); go_simp; refine hK _ ?_; clear hK K))
              refine stB_nil ?_
              go_wp2_with fail
              go_ret
              exact ⟨by rw [HTop.out, HR.out]; show Ending.returned (Value.bool (decide (v ≤ 0))) = _; rw [decide_eq_false (by omega)], hb.out.drew⟩
          · have HR := Bx.mk (show (decide (0 ≤ v) && decide (v ≤ Ex.top 7)) = false from by simp; omega)
            go_enter Try.func34, Try.ntmps34
            go_wp2_with fail
            generalize w.alloc (.cells #[.int .i64 7, .int .i64 a, .int .i64 v, .slice pp kids.len cap] 36) = W at c0 c1 c2 c3 hb ⊢
            refine region_stB (by kernel_rfl) (by kernel_rfl) ?_
            (repeat (refine stB_step (fun K hK => ?_); go_simp; refine hK _ ?_; clear hK K))
            (refine stB_step (fun K hK => ?_); go_simp; refine ⟨_, HK.out _, hK _ ?_⟩; clear hK K)
            (repeat (refine stB_step (fun K hK => ?_); go_simp; refine hK _ ?_; clear hK K))
            refine stB_nil ?_
            go_wp2_with fail
            go_ret
            exact ⟨by rw [HTop.out, HR.out]; rfl, hb.out.drew⟩
        · by_cases h0 : v ≥ 0
          · by_cases ht : v ≤ 0
            · have HR := Bx.mk (show (decide (0 ≤ v) && decide (v ≤ Ex.top 8)) = true from by unfold Ex.top; simp; omega)
              go_enter Try.func34, Try.ntmps34
              go_wp2_with fail
              generalize w.alloc (.cells #[.int .i64 8, .int .i64 a, .int .i64 v, .slice pp kids.len cap] 36) = W at c0 c1 c2 c3 hb ⊢
              refine region_stB (by kernel_rfl) (by kernel_rfl) ?_
              (repeat (refine stB_step (fun K hK => ?_); go_simp; refine hK _ ?_; clear hK K))
              (refine stB_step (fun K hK => ?_); go_simp; refine ⟨_, HK.out _, hK _ ?_⟩; clear hK K)
              (repeat (refine stB_step (fun K hK => ?_); go_simp; refine hK _ ?_; clear hK K))
              refine stB_nil ?_
              go_wp2_with fail
              go_ret
              exact ⟨by rw [HTop.out, HR.out]; rfl, hb.out.drew⟩
            · have HR := Bx.mk (show (decide (0 ≤ v) && decide (v ≤ Ex.top 8)) = false from by unfold Ex.top; simp; omega)
              go_enter Try.func34, Try.ntmps34
              go_wp2_with fail
              generalize w.alloc (.cells #[.int .i64 8, .int .i64 a, .int .i64 v, .slice pp kids.len cap] 36) = W at c0 c1 c2 c3 hb ⊢
              refine region_stB (by kernel_rfl) (by kernel_rfl) ?_
              (repeat (refine stB_step (fun K hK => ?_); go_simp; refine hK _ ?_; clear hK K))
              (refine stB_step (fun K hK => ?_); go_simp; refine ⟨_, HK.out _, hK _ ?_⟩; clear hK K)
              (repeat (refine stB_step (fun K hK => ?_); go_simp; refine hK _ ?_; clear hK K))
              refine stB_nil ?_
              go_wp2_with fail
              go_ret
              exact ⟨by rw [HTop.out, HR.out]; show Ending.returned (Value.bool (decide (v ≤ 0))) = _; rw [decide_eq_false (by omega)], hb.out.drew⟩
          · have HR := Bx.mk (show (decide (0 ≤ v) && decide (v ≤ Ex.top 8)) = false from by simp; omega)
            go_enter Try.func34, Try.ntmps34
            go_wp2_with fail
            generalize w.alloc (.cells #[.int .i64 8, .int .i64 a, .int .i64 v, .slice pp kids.len cap] 36) = W at c0 c1 c2 c3 hb ⊢
            refine region_stB (by kernel_rfl) (by kernel_rfl) ?_
            (repeat (refine stB_step (fun K hK => ?_); go_simp; refine hK _ ?_; clear hK K))
            (refine stB_step (fun K hK => ?_); go_simp; refine ⟨_, HK.out _, hK _ ?_⟩; clear hK K)
            (repeat (refine stB_step (fun K hK => ?_); go_simp; refine hK _ ?_; clear hK K))
            refine stB_nil ?_
            go_wp2_with fail
            go_ret
            exact ⟨by rw [HTop.out, HR.out]; rfl, hb.out.drew⟩
        · by_cases h0 : v ≥ 0
          · by_cases ht : v ≤ 0
            · have HR := Bx.mk (show (decide (0 ≤ v) && decide (v ≤ Ex.top 9)) = true from by unfold Ex.top; simp; omega)
              go_enter Try.func34, Try.ntmps34
              go_wp2_with fail
              generalize w.alloc (.cells #[.int .i64 9, .int .i64 a, .int .i64 v, .slice pp kids.len cap] 36) = W at c0 c1 c2 c3 hb ⊢
              refine region_stB (by kernel_rfl) (by kernel_rfl) ?_
              (repeat (refine stB_step (fun K hK => ?_); go_simp; refine hK _ ?_; clear hK K))
              (refine stB_step (fun K hK => ?_); go_simp; refine ⟨_, HK.out _, hK _ ?_⟩; clear hK K)
              (repeat (refine stB_step (fun K hK => ?_); go_simp; refine hK _ ?_; clear hK K))
              refine stB_nil ?_
              go_wp2_with fail
              go_ret
              exact ⟨by rw [HTop.out, HR.out]; rfl, hb.out.drew⟩
            · have HR := Bx.mk (show (decide (0 ≤ v) && decide (v ≤ Ex.top 9)) = false from by unfold Ex.top; simp; omega)
              go_enter Try.func34, Try.ntmps34
              go_wp2_with fail
              generalize w.alloc (.cells #[.int .i64 9, .int .i64 a, .int .i64 v, .slice pp kids.len cap] 36) = W at c0 c1 c2 c3 hb ⊢
              refine region_stB (by kernel_rfl) (by kernel_rfl) ?_
              (repeat (refine stB_step (fun K hK => ?_); go_simp; refine hK _ ?_; clear hK K))
              (refine stB_step (fun K hK => ?_); go_simp; refine ⟨_, HK.out _, hK _ ?_⟩; clear hK K)
              (repeat (refine stB_step (fun K hK => ?_); go_simp; refine hK _ ?_; clear hK K))
              refine stB_nil ?_
              go_wp2_with fail
              go_ret
              exact ⟨by rw [HTop.out, HR.out]; show Ending.returned (Value.bool (decide (v ≤ 0))) = _; rw [decide_eq_false (by omega)], hb.out.drew⟩
          · have HR := Bx.mk (show (decide (0 ≤ v) && decide (v ≤ Ex.top 9)) = false from by simp; omega)
            go_enter Try.func34, Try.ntmps34
            go_wp2_with fail
            generalize w.alloc (.cells #[.int .i64 9, .int .i64 a, .int .i64 v, .slice pp kids.len cap] 36) = W at c0 c1 c2 c3 hb ⊢
            refine region_stB (by kernel_rfl) (by kernel_rfl) ?_
            (repeat (refine stB_step (fun K hK => ?_); go_simp; refine hK _ ?_; clear hK K))
            (refine stB_step (fun K hK => ?_); go_simp; refine ⟨_, HK.out _, hK _ ?_⟩; clear hK K)
            (repeat (refine stB_step (fun K hK => ?_); go_simp; refine hK _ ?_; clear hK K))
            refine stB_nil ?_
            go_wp2_with fail
            go_ret
            exact ⟨by rw [HTop.out, HR.out]; rfl, hb.out.drew⟩
        · by_cases h0 : v ≥ 0
          · by_cases ht : v ≤ 7
            · have HR := Bx.mk (show (decide (0 ≤ v) && decide (v ≤ Ex.top 10)) = true from by unfold Ex.top; simp; omega)
              go_enter Try.func34, Try.ntmps34
              go_wp2_with fail
              generalize w.alloc (.cells #[.int .i64 10, .int .i64 a, .int .i64 v, .slice pp kids.len cap] 36) = W at c0 c1 c2 c3 hb ⊢
              refine region_stB (by kernel_rfl) (by kernel_rfl) ?_
              (repeat (refine stB_step (fun K hK => ?_); go_simp; refine hK _ ?_; clear hK K))
              (refine stB_step (fun K hK => ?_); go_simp; refine ⟨_, HK.out _, hK _ ?_⟩; clear hK K)
              (repeat (refine stB_step (fun K hK => ?_); go_simp; refine hK _ ?_; clear hK K))
              refine stB_nil ?_
              go_wp2_with fail
              go_ret
              exact ⟨by rw [HTop.out, HR.out]; rfl, hb.out.drew⟩
            · have HR := Bx.mk (show (decide (0 ≤ v) && decide (v ≤ Ex.top 10)) = false from by unfold Ex.top; simp; omega)
              go_enter Try.func34, Try.ntmps34
              go_wp2_with fail
              generalize w.alloc (.cells #[.int .i64 10, .int .i64 a, .int .i64 v, .slice pp kids.len cap] 36) = W at c0 c1 c2 c3 hb ⊢
              refine region_stB (by kernel_rfl) (by kernel_rfl) ?_
              (repeat (refine stB_step (fun K hK => ?_); go_simp; refine hK _ ?_; clear hK K))
              (refine stB_step (fun K hK => ?_); go_simp; refine ⟨_, HK.out _, hK _ ?_⟩; clear hK K)
              (repeat (refine stB_step (fun K hK => ?_); go_simp; refine hK _ ?_; clear hK K))
              refine stB_nil ?_
              go_wp2_with fail
              go_ret
              exact ⟨by rw [HTop.out, HR.out]; show Ending.returned (Value.bool (decide (v ≤ 7))) = _; rw [decide_eq_false (by omega)], hb.out.drew⟩
          · have HR := Bx.mk (show (decide (0 ≤ v) && decide (v ≤ Ex.top 10)) = false from by simp; omega)
            go_enter Try.func34, Try.ntmps34
            go_wp2_with fail
            generalize w.alloc (.cells #[.int .i64 10, .int .i64 a, .int .i64 v, .slice pp kids.len cap] 36) = W at c0 c1 c2 c3 hb ⊢
            refine region_stB (by kernel_rfl) (by kernel_rfl) ?_
            (repeat (refine stB_step (fun K hK => ?_); go_simp; refine hK _ ?_; clear hK K))
            (refine stB_step (fun K hK => ?_); go_simp; refine ⟨_, HK.out _, hK _ ?_⟩; clear hK K)
            (repeat (refine stB_step (fun K hK => ?_); go_simp; refine hK _ ?_; clear hK K))
            refine stB_nil ?_
            go_wp2_with fail
            go_ret
            exact ⟨by rw [HTop.out, HR.out]; rfl, hb.out.drew⟩
        · by_cases h0 : v ≥ 0
          · by_cases ht : v ≤ 7
            · have HR := Bx.mk (show (decide (0 ≤ v) && decide (v ≤ Ex.top 11)) = true from by unfold Ex.top; simp; omega)
              go_enter Try.func34, Try.ntmps34
              go_wp2_with fail
              generalize w.alloc (.cells #[.int .i64 11, .int .i64 a, .int .i64 v, .slice pp kids.len cap] 36) = W at c0 c1 c2 c3 hb ⊢
              refine region_stB (by kernel_rfl) (by kernel_rfl) ?_
              (repeat (refine stB_step (fun K hK => ?_); go_simp; refine hK _ ?_; clear hK K))
              (refine stB_step (fun K hK => ?_); go_simp; refine ⟨_, HK.out _, hK _ ?_⟩; clear hK K)
              (repeat (refine stB_step (fun K hK => ?_); go_simp; refine hK _ ?_; clear hK K))
              refine stB_nil ?_
              go_wp2_with fail
              go_ret
              exact ⟨by rw [HTop.out, HR.out]; rfl, hb.out.drew⟩
            · have HR := Bx.mk (show (decide (0 ≤ v) && decide (v ≤ Ex.top 11)) = false from by unfold Ex.top; simp; omega)
              go_enter Try.func34, Try.ntmps34
              go_wp2_with fail
              generalize w.alloc (.cells #[.int .i64 11, .int .i64 a, .int .i64 v, .slice pp kids.len cap] 36) = W at c0 c1 c2 c3 hb ⊢
              refine region_stB (by kernel_rfl) (by kernel_rfl) ?_
              (repeat (refine stB_step (fun K hK => ?_); go_simp; refine hK _ ?_; clear hK K))
              (refine stB_step (fun K hK => ?_); go_simp; refine ⟨_, HK.out _, hK _ ?_⟩; clear hK K)
              (repeat (refine stB_step (fun K hK => ?_); go_simp; refine hK _ ?_; clear hK K))
              refine stB_nil ?_
              go_wp2_with fail
              go_ret
              exact ⟨by rw [HTop.out, HR.out]; show Ending.returned (Value.bool (decide (v ≤ 7))) = _; rw [decide_eq_false (by omega)], hb.out.drew⟩
          · have HR := Bx.mk (show (decide (0 ≤ v) && decide (v ≤ Ex.top 11)) = false from by simp; omega)
            go_enter Try.func34, Try.ntmps34
            go_wp2_with fail
            generalize w.alloc (.cells #[.int .i64 11, .int .i64 a, .int .i64 v, .slice pp kids.len cap] 36) = W at c0 c1 c2 c3 hb ⊢
            refine region_stB (by kernel_rfl) (by kernel_rfl) ?_
            (repeat (refine stB_step (fun K hK => ?_); go_simp; refine hK _ ?_; clear hK K))
            (refine stB_step (fun K hK => ?_); go_simp; refine ⟨_, HK.out _, hK _ ?_⟩; clear hK K)
            (repeat (refine stB_step (fun K hK => ?_); go_simp; refine hK _ ?_; clear hK K))
            refine stB_nil ?_
            go_wp2_with fail
            go_ret
            exact ⟨by rw [HTop.out, HR.out]; rfl, hb.out.drew⟩
      · have q3 : ¬ (kids.len : Int) = (Ex.kids k : Int) := by omega
        have HF := Bx.mk (show Ex.plain ⟨k, a, v, kids⟩ = false from by unfold Ex.plain; simp [h3])
        have HK := Bx.mk hK
        have q4 : ((kids.len : Int) == (Ex.kids k : Int)) = false := by rw [beq_eq_false_iff_ne]; omega
        have q5 : ((kids.len : Int) != (Ex.kids k : Int)) = true := by rw [bne_iff_ne]; omega
        clear h3 hK
        go_enter Try.func34, Try.ntmps34
        go_wp2_with fail
        generalize w.alloc (.cells #[.int .i64 k, .int .i64 a, .int .i64 v, .slice pp kids.len cap] 36) = W at c0 c1 c2 c3 hb ⊢
        refine region_stB (by kernel_rfl) (by kernel_rfl) ?_
        (repeat (refine stB_step (fun K hK => ?_); go_simp; refine hK _ ?_; clear hK K))
        (refine stB_step (fun K hK => ?_); go_simp; refine ⟨_, HK.out _, hK _ ?_⟩; clear hK K)
        (repeat (refine stB_step (fun K hK => ?_); go_simp; refine hK _ ?_; clear hK K))
        refine stB_nil ?_
        go_wp2_with fail
        all_goals first | (go_ret; exact ⟨by rw [HF.out]; rfl, hb.out.drew⟩) | (exfalso; simp_all)
end Go.Proofs.Ytfgokhafiffbaaa
