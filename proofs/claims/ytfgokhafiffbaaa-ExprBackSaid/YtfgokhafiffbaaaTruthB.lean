/-
  The walks of package truth, second part: tables out of what is asked of each assignment.
-/
import Derived.Test.YtfgokhafiffbaaaTruthA
namespace Go.Proofs.Ytfgokhafiffbaaa
set_option linter.unusedVariables false
open Go.RowKit

set_option maxRecDepth 100000 in
set_option maxHeartbeats 1000000 in
theorem of_any (p : Nat → Bool) (K : Nat) (caps : Array Value) (hc : ∀ args w, (callFunc K args).run Try.prog w = .ok (.enter K args) w) (w : World)
    (HJ : Bx (∀ (x : Nat) w1, x < 256 → Below w.heap.size w w1 → Calls Try.prog K (#[.int .u8 (x : Int)] ++ caps) w1 fun e w2 => e = .returned (.bool (p x)) ∧ Below w1.heap.size w1 w2)) :
    Calls Try.prog 64 #[.func (.func K) #[] caps] w fun e w' => e = .returned (Tb.tv (Tb.tab p)) ∧ Below w.heap.size w w' := by
  go_enter Try.func64, Try.ntmps64
  go_wp2_with fail
  go_loopw [4, 5] (fun _ i wr => ∃ k : Nat, k ≤ 256 ∧ i = .int .i64 k ∧ Below w.heap.size w wr ∧ Blk wr w.heap.size 29 (Tb.tcells 0#256) ∧ Blk wr (w.heap.size + 1) 29 (Tb.tcells (Tb.tabTo p k))) (fun _ i _ => 256 - (intOf i).toNat)
  case atStart =>
    refine ⟨0, by omega, rfl, ((Below.refl _ _).alloc (by simp) _).alloc (by simp) _, ?_, ?_⟩
    · rw [Tb.tcells_zero]; exact (Blk.new _ _ _).alloc _
    · rw [Tb.tabTo_zero, Tb.tcells_zero]
      have h := Blk.new (w.alloc (Obj.cells #[Value.int IntKind.u64 0, Value.int IntKind.u64 0, Value.int IntKind.u64 0, Value.int IntKind.u64 0] 29)) 29 #[Value.int IntKind.u64 0, Value.int IntKind.u64 0, Value.int IntKind.u64 0, Value.int IntKind.u64 0]
      rw [show (w.alloc (Obj.cells #[Value.int IntKind.u64 0, Value.int IntKind.u64 0, Value.int IntKind.u64 0, Value.int IntKind.u64 0] 29)).heap.size = w.heap.size + 1 from by simp] at h
      exact h
  case round =>
    rename_i wr
    obtain ⟨k, hk, rfl, hb, hB0, hB1⟩ := hrel
    by_cases hlt : k < 256
    · go_wp2_with fail
      refine (HJ.out k _ hlt hb).mono ?_
      rintro e w1 ⟨rfl, hb1⟩
      have hB0' := hB0.below hb1 hB0.lt
      have hB1' := hB1.below hb1 hB1.lt
      have hb2 := hb.trans (hb1.mono hb.size)
      clear hB0 hB1 hb hb1
      have hq5 : IntKind.i64.wrap ((k : Int) / 64) = (k : Int) / 64 := IntWalk.i64_in _ (by omega)
      have hq6 : IntKind.i64.wrap ((k : Int).tdiv 64) = (k : Int) / 64 := by rw [Int.tdiv_eq_ediv_of_nonneg (by omega)]; exact hq5
      have hq7 : (k : Int).tmod 64 = (k : Int) % 64 := Int.tmod_eq_emod_of_nonneg (by omega)
      have hq1 : (k : Int) / 64 < 4 := by omega
      have hq2 : 0 ≤ (k : Int) / 64 := by omega
      have hq3 : ((k : Int) / 64).toNat = k / 64 := by omega
      have hq4 : 0 ≤ (k : Int) % 64 := by omega
      by_cases hp : p k = true
      · have e1 : (w1.cell? ⟨w.heap.size + 1, k / 64, none⟩) = some (.int .u64 (Tb.wd (Tb.tabTo p k) (k / 64))) := (hB1'.cell _).trans (Tb.tcells_at _ k hlt)
        have e2 : (w1.frozen? ⟨w.heap.size + 1, k / 64, none⟩) = false := hB1'.frozen _
        have hset := hB1'.set_ (k / 64) (.int .u64 (bits .or .u64 (Tb.wd (Tb.tabTo p k) (k / 64)) (IntKind.u64.wrap (2 ^ (k % 64)))))
        rw [Tb.wrap_pow k, Tb.tcells_set _ k hlt, ← Tb.tabTo_yes hp, ← Tb.wrap_pow k] at hset
        have hset0 := hB0'.far (p := ⟨w.heap.size + 1, k / 64, none⟩) (by show w.heap.size ≠ w.heap.size + 1; omega) (.int .u64 (bits .or .u64 (Tb.wd (Tb.tabTo p k) (k / 64)) (IntKind.u64.wrap (2 ^ (k % 64)))))
        have hbb := hb2.setCell (p := ⟨w.heap.size + 1, k / 64, none⟩) (by show w.heap.size ≤ w.heap.size + 1; omega) (.int .u64 (bits .or .u64 (Tb.wd (Tb.tabTo p k) (k / 64)) (IntKind.u64.wrap (2 ^ (k % 64)))))
        go_wp2_with fail
        refine region_tail 9 (by kernel_rfl) (by kernel_rfl) ?_
        simp only [List.take_succ_cons, List.take_zero, List.drop_succ_cons, List.drop_zero]
        repeat still_step
        refine wpStill_nil ?_
        go_wp2_with fail
        exact ⟨⟨k + 1, by omega, by go_num, hbb.drew, hset0.drew, hset.drew⟩, by simp [intOf]; omega⟩
      · simp only [Bool.not_eq_true] at hp
        have hset := hB1'
        rw [← Tb.tabTo_no hp] at hset
        go_wp2_with fail
        exact ⟨⟨k + 1, by omega, by go_num, hb2, hB0', hset⟩, by simp [intOf]; omega⟩
    · obtain rfl : k = 256 := by omega
      obtain ⟨⟨a0, a1, a2, a3⟩, b0, b1, b2, b3⟩ := tfacts hB0
      obtain ⟨⟨c0, c1, c2, c3⟩, d0, d1, d2, d3⟩ := tfacts hB1
      rw [← Tb.tab_def] at c0 c1 c2 c3
      go_wp2_with fail
      refine bodyPost_ret (v := Tb.tv (Tb.tab p)) (by simp [results, Try.results64, go_sem, a0, a1, a2, a3]) rfl ⟨rfl, ?_⟩
      repeat (first | exact hb | refine Below.setCell ?_ (by simp) _)

end Go.Proofs.Ytfgokhafiffbaaa
