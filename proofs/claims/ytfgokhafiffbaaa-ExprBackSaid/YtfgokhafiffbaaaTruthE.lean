/-
  The walks of package truth, fifth part: what is joined of both halves.
-/
import Derived.Test.YtfgokhafiffbaaaTruthD
import Derived.Test.YtfgokhafiffbaaaRegion
namespace Go.Proofs.Ytfgokhafiffbaaa
set_option linter.unusedVariables false
open Go.RowKit

set_option maxRecDepth 100000 in
set_option maxHeartbeats 2000000 in
theorem halves_any (f : Tb.T) (mask : Nat) (K : Nat) (J : Tb.T → Tb.T → Tb.T) (hm : mask < 256) (hc : ∀ args w, (callFunc K args).run Try.prog w = .ok (.enter K args) w)
    (HJ : Bx (∀ F G w, Calls Try.prog K #[Tb.tv F, Tb.tv G] w fun e w' => e = .returned (Tb.tv (J F G)) ∧ Below w.heap.size w w')) (w : World) :
    Calls Try.prog 72 #[Tb.tv f, .int .u8 (mask : Int), .func (.func K) #[] #[]] w fun e w' => e = .returned (Tb.tv (Tb.halves J f mask)) ∧ Below w.heap.size w w' := by
  go_enter Try.func72, Try.ntmps72
  go_wp2_with fail
  go_loopw [7, 8] (fun _ i wr => ∃ k : Nat, k ≤ 8 ∧ i = .int .i64 k ∧ Below w.heap.size w wr ∧ Blk wr w.heap.size 29 (Tb.tcells (Tb.halvesTo J f mask k)) ∧ Blk wr (w.heap.size + 1) 29 (Tb.tcells 0#256)) (fun _ i _ => 8 - (intOf i).toNat)
  case atStart =>
    refine ⟨0, by omega, rfl, ((Below.refl _ _).alloc (by simp) _).alloc (by simp) _, ?_, ?_⟩
    · rw [Tb.halvesTo_zero]; exact (Blk.new _ _ _).alloc _
    · rw [Tb.tcells_zero]
      have h := Blk.new (w.alloc (Obj.cells (Tb.tcells f) 29)) 29 #[Value.int IntKind.u64 0, Value.int IntKind.u64 0, Value.int IntKind.u64 0, Value.int IntKind.u64 0]
      rw [show (w.alloc (Obj.cells (Tb.tcells f) 29)).heap.size = w.heap.size + 1 from by simp] at h
      exact h
  case round =>
    rename_i wr
    obtain ⟨k, hk, rfl, hbw, hB0, hB1⟩ := hrel
    by_cases hlt : k < 8
    · have hbit := Tb.u8_bit mask hm k hlt
      cases ht : mask.testBit k with
      | false =>
        rw [ht] at hbit
        have hset := hB0
        rw [← Tb.halvesTo_no ht] at hset
        clear ht hm
        go_wp2_with fail
        exact ⟨⟨k + 1, by omega, by go_num, hbw, hset, hB1⟩, by simp [intOf]; omega⟩
      | true =>
        rw [ht] at hbit
        have hF := Tb.halvesTo_yes (J := J) (f := f) ht
        have HF := Bx.mk hF
        generalize Tb.halvesTo J f mask k = F at *
        clear ht hm hF
        go_wp2_with fail
        have hsz : w.heap.size + 1 < wr.heap.size := hB1.lt
        obtain ⟨⟨a0, a1, a2, a3⟩, b0, b1, b2, b3⟩ := tfacts hB0
        refine region_order [(0, true), (1, true), (2, true), (4, true), (5, true), (3, false), (6, false), (7, false), (8, false)] 8 (fun w' => Below w.heap.size w w' ∧ w.heap.size + 1 < w'.heap.size ∧ Below (w.heap.size + 2) wr w' ∧
            (w'.cell? ⟨w.heap.size, 0, none⟩ = some (.int .u64 (Tb.wd F 0)) ∧ w'.cell? ⟨w.heap.size, 1, none⟩ = some (.int .u64 (Tb.wd F 1)) ∧ w'.cell? ⟨w.heap.size, 2, none⟩ = some (.int .u64 (Tb.wd F 2)) ∧ w'.cell? ⟨w.heap.size, 3, none⟩ = some (.int .u64 (Tb.wd F 3))) ∧ w'.frozen? ⟨w.heap.size, 0, none⟩ = false ∧ w'.frozen? ⟨w.heap.size, 1, none⟩ = false ∧ w'.frozen? ⟨w.heap.size, 2, none⟩ = false ∧ w'.frozen? ⟨w.heap.size, 3, none⟩ = false) (by kernel_rfl) (by kernel_rfl) (fun _ _ d _ _ h => by cases d <;> exact h) ?_ ?_
        · (((try go_split_ands); (repeat' apply And.intro) <;> first | (with_reducible assumption) | omega | (with_reducible refine (hcl _ _ ?_).trans ?_; (first | omega | (simp <;> omega)); (first | (with_reducible assumption) | (go_simp; done))) | (with_reducible refine (hfz _ _ ?_).trans ?_; (first | omega | (simp <;> omega)); (first | (with_reducible assumption) | (go_simp; done))) | (with_reducible refine cval_ok ?_; (first | (with_reducible refine (congrArg Option.isSome (hcl _ _ ?_)).trans ?_; (first | omega | (simp <;> omega)); (go_simp; done)) | (go_simp; done))) | ((repeat (first | (with_reducible exact Below.refl _ _) | (with_reducible assumption) | (with_reducible refine Below.drew ?_) | (with_reducible refine Below.setCell ?_ ?_ _; rotate_left; (first | omega | (simp <;> omega))) | (with_reducible refine Below.alloc ?_ ?_ _; rotate_left; (first | omega | (simp <;> omega))) | (with_reducible refine Below.trans ?_ (hb.mono ?_); rotate_left; (first | omega | (simp <;> omega))))); done) | ((repeat (first | (with_reducible exact Below.refl _ _) | (with_reducible assumption) | (with_reducible refine Below.drew ?_) | (with_reducible refine Below.setCell ?_ ?_ _; rotate_left; (first | omega | (simp <;> omega))) | (with_reducible refine Below.alloc ?_ ?_ _; rotate_left; (first | omega | (simp <;> omega))))); done) | (simp <;> omega) | (go_simp; done) | (go_simp <;> omega)))
        · (refine wpG_take (v := ?_) rfl rfl ?_ ?_; rotate_left; (focus (intro w hS; (try dsimp only at hS); go_split_ands; go_simp; try (with_reducible rfl))); (try simp only [Act.put]); (try simp only [List.setIfInBounds_toArray]); (try simp only [List.set_cons_succ]); (try simp only [List.set_cons_zero]))
          repeat (refine wpG_take (v := ?_) rfl rfl ?_ ?_; rotate_left; (focus (intro w hS; (try dsimp only at hS); go_split_ands; go_simp; try (with_reducible rfl))); (try simp only [Act.put]); (try simp only [List.setIfInBounds_toArray]); (try simp only [List.set_cons_succ]); (try simp only [List.set_cons_zero]))
          (refine wpG_op rfl rfl ?_; intro K hK; go_simp)
          refine (fix_any F k false _).mono ?_
          rintro e w1 ⟨rfl, hb⟩
          obtain ⟨hcl, hfz⟩ := bcell hb
          have hz := hb.size
          (try simp only [drew_size] at hz)
          go_simp
          (refine hK _ _ ?_ (fun hSn => ?_); (focus (((try go_split_ands); (repeat' apply And.intro) <;> first | (with_reducible assumption) | omega | (with_reducible refine (hcl _ _ ?_).trans ?_; (first | omega | (simp <;> omega)); (first | (with_reducible assumption) | (go_simp; done))) | (with_reducible refine (hfz _ _ ?_).trans ?_; (first | omega | (simp <;> omega)); (first | (with_reducible assumption) | (go_simp; done))) | (with_reducible refine cval_ok ?_; (first | (with_reducible refine (congrArg Option.isSome (hcl _ _ ?_)).trans ?_; (first | omega | (simp <;> omega)); (go_simp; done)) | (go_simp; done))) | ((repeat (first | (with_reducible exact Below.refl _ _) | (with_reducible assumption) | (with_reducible refine Below.drew ?_) | (with_reducible refine Below.setCell ?_ ?_ _; rotate_left; (first | omega | (simp <;> omega))) | (with_reducible refine Below.alloc ?_ ?_ _; rotate_left; (first | omega | (simp <;> omega))) | (with_reducible refine Below.trans ?_ (hb.mono ?_); rotate_left; (first | omega | (simp <;> omega))))); done) | ((repeat (first | (with_reducible exact Below.refl _ _) | (with_reducible assumption) | (with_reducible refine Below.drew ?_) | (with_reducible refine Below.setCell ?_ ?_ _; rotate_left; (first | omega | (simp <;> omega))) | (with_reducible refine Below.alloc ?_ ?_ _; rotate_left; (first | omega | (simp <;> omega))))); done) | (simp <;> omega) | (go_simp; done) | (go_simp <;> omega)))); clear hK K; (try dsimp only at hSn); go_split_ands; (try simp only [Act.put]); (try simp only [List.setIfInBounds_toArray]); (try simp only [List.set_cons_succ]); (try simp only [List.set_cons_zero]))
          clear hcl hfz hz hb
          (refine wpG_op rfl rfl ?_; intro K hK; go_simp)
          refine (fix_any F k true _).mono ?_
          rintro e w2 ⟨rfl, hb⟩
          obtain ⟨hcl, hfz⟩ := bcell hb
          have hz := hb.size
          (try simp only [drew_size] at hz)
          go_simp
          (refine hK _ _ ?_ (fun hSn => ?_); (focus (((try go_split_ands); (repeat' apply And.intro) <;> first | (with_reducible assumption) | omega | (with_reducible refine (hcl _ _ ?_).trans ?_; (first | omega | (simp <;> omega)); (first | (with_reducible assumption) | (go_simp; done))) | (with_reducible refine (hfz _ _ ?_).trans ?_; (first | omega | (simp <;> omega)); (first | (with_reducible assumption) | (go_simp; done))) | (with_reducible refine cval_ok ?_; (first | (with_reducible refine (congrArg Option.isSome (hcl _ _ ?_)).trans ?_; (first | omega | (simp <;> omega)); (go_simp; done)) | (go_simp; done))) | ((repeat (first | (with_reducible exact Below.refl _ _) | (with_reducible assumption) | (with_reducible refine Below.drew ?_) | (with_reducible refine Below.setCell ?_ ?_ _; rotate_left; (first | omega | (simp <;> omega))) | (with_reducible refine Below.alloc ?_ ?_ _; rotate_left; (first | omega | (simp <;> omega))) | (with_reducible refine Below.trans ?_ (hb.mono ?_); rotate_left; (first | omega | (simp <;> omega))))); done) | ((repeat (first | (with_reducible exact Below.refl _ _) | (with_reducible assumption) | (with_reducible refine Below.drew ?_) | (with_reducible refine Below.setCell ?_ ?_ _; rotate_left; (first | omega | (simp <;> omega))) | (with_reducible refine Below.alloc ?_ ?_ _; rotate_left; (first | omega | (simp <;> omega))))); done) | (simp <;> omega) | (go_simp; done) | (go_simp <;> omega)))); clear hK K; (try dsimp only at hSn); go_split_ands; (try simp only [Act.put]); (try simp only [List.setIfInBounds_toArray]); (try simp only [List.set_cons_succ]); (try simp only [List.set_cons_zero]))
          clear hcl hfz hz hb
          (refine wpG_op rfl rfl ?_; intro K hK; go_simp)
          refine (HJ.out _ _ _).mono ?_
          rintro e w3 ⟨rfl, hb⟩
          obtain ⟨hcl, hfz⟩ := bcell hb
          have hz := hb.size
          (try simp only [drew_size] at hz)
          go_simp
          (refine hK _ _ ?_ (fun hSn => ?_); (focus (((try go_split_ands); (repeat' apply And.intro) <;> first | (with_reducible assumption) | omega | (with_reducible refine (hcl _ _ ?_).trans ?_; (first | omega | (simp <;> omega)); (first | (with_reducible assumption) | (go_simp; done))) | (with_reducible refine (hfz _ _ ?_).trans ?_; (first | omega | (simp <;> omega)); (first | (with_reducible assumption) | (go_simp; done))) | (with_reducible refine cval_ok ?_; (first | (with_reducible refine (congrArg Option.isSome (hcl _ _ ?_)).trans ?_; (first | omega | (simp <;> omega)); (go_simp; done)) | (go_simp; done))) | ((repeat (first | (with_reducible exact Below.refl _ _) | (with_reducible assumption) | (with_reducible refine Below.drew ?_) | (with_reducible refine Below.setCell ?_ ?_ _; rotate_left; (first | omega | (simp <;> omega))) | (with_reducible refine Below.alloc ?_ ?_ _; rotate_left; (first | omega | (simp <;> omega))) | (with_reducible refine Below.trans ?_ (hb.mono ?_); rotate_left; (first | omega | (simp <;> omega))))); done) | ((repeat (first | (with_reducible exact Below.refl _ _) | (with_reducible assumption) | (with_reducible refine Below.drew ?_) | (with_reducible refine Below.setCell ?_ ?_ _; rotate_left; (first | omega | (simp <;> omega))) | (with_reducible refine Below.alloc ?_ ?_ _; rotate_left; (first | omega | (simp <;> omega))))); done) | (simp <;> omega) | (go_simp; done) | (go_simp <;> omega)))); clear hK K; (try dsimp only at hSn); go_split_ands; (try simp only [Act.put]); (try simp only [List.setIfInBounds_toArray]); (try simp only [List.set_cons_succ]); (try simp only [List.set_cons_zero]))
          clear hcl hfz hz hb
          (refine wpG_last rfl rfl ?_; intro K hK; go_simp; refine hK _ _ ?_; clear hK K; (try simp only [Act.put]); (try simp only [List.setIfInBounds_toArray]); (try simp only [List.set_cons_succ]); (try simp only [List.set_cons_zero]))
          have hwr : Below (w.heap.size + 2) wr w3 := by assumption
          have hww : Below w.heap.size w w3 := by assumption
          have hN0 := blk4 (hB0.below hwr (by omega)) (J (Tb.fix F (k : Int) false) (Tb.fix F (k : Int) true))
          have hN1 := blk4_far (g := w.heap.size) (hB1.below hwr (by omega)) (by omega) (J (Tb.fix F (k : Int) false) (Tb.fix F (k : Int) true))
          rw [← HF.out] at hN0 hN1
          rw [← HF.out]
          have hNb : Below w.heap.size w ((((w3.setCell ⟨w.heap.size, 0, none⟩ (.int .u64 (Tb.wd (Tb.halvesTo J f mask (k + 1)) 0))).setCell ⟨w.heap.size, 1, none⟩ (.int .u64 (Tb.wd (Tb.halvesTo J f mask (k + 1)) 1))).setCell ⟨w.heap.size, 2, none⟩ (.int .u64 (Tb.wd (Tb.halvesTo J f mask (k + 1)) 2))).setCell ⟨w.heap.size, 3, none⟩ (.int .u64 (Tb.wd (Tb.halvesTo J f mask (k + 1)) 3))) :=
            (((hww.setCell (p := ⟨w.heap.size, 0, none⟩) (Nat.le_refl _) _).setCell (p := ⟨w.heap.size, 1, none⟩) (Nat.le_refl _) _).setCell (p := ⟨w.heap.size, 2, none⟩) (Nat.le_refl _) _).setCell (p := ⟨w.heap.size, 3, none⟩) (Nat.le_refl _) _
          go_wp2_with fail
          exact ⟨⟨k + 1, by omega, by go_num, hNb, hN0, hN1⟩, by simp [intOf]; omega⟩
    · obtain rfl : k = 8 := by omega
      rw [← Tb.halves_def] at hB0
      obtain ⟨⟨a0, a1, a2, a3⟩, b0, b1, b2, b3⟩ := tfacts hB0
      obtain ⟨⟨c0, c1, c2, c3⟩, d0, d1, d2, d3⟩ := tfacts hB1
      go_wp2_with fail
      refine bodyPost_ret (v := Tb.tv (Tb.halves J f mask)) (by simp [results, Try.results72, go_sem, c0, c1, c2, c3]) rfl ⟨rfl, ?_⟩
      repeat (first | exact hbw | refine Below.setCell ?_ (by simp) _)


set_option maxHeartbeats 400000 in
theorem exists_any (f : Tb.T) (mask : Nat) (w : World) (hm : mask < 256) :
    Calls Try.prog 50 #[Tb.tv f, .int .u8 (mask : Int)] w fun e w' => e = .returned (Tb.tv (Tb.halves (fun F G => F ||| G) f mask)) ∧ Below w.heap.size w w' := by
  have hH := halves_any f mask 70 (fun F G => F ||| G) hm (fun _ _ => rfl) ⟨fun F G w => or_any F G w⟩
  have HH := Bx.mk hH
  clear hH hm
  go_enter Try.func50, Try.ntmps50
  go_wp2_with fail
  refine (HH.out _).mono ?_
  rintro e w1 ⟨rfl, hb⟩
  obtain ⟨hcell, hfr⟩ := bcell hb
  have hz := hb.size
  go_wp2_with fail
  refine bodyPost_ret (v := Tb.tv (Tb.halves (fun F G => F ||| G) f mask)) (by simp [results, Try.results50, go_sem, hcell]) rfl ⟨rfl, ?_⟩
  (repeat (first | (with_reducible exact Below.refl _ _) | (with_reducible assumption) | (with_reducible refine Below.drew ?_) | (with_reducible refine Below.setCell ?_ ?_ _; rotate_left; (first | omega | (simp <;> omega))) | (with_reducible refine Below.alloc ?_ ?_ _; rotate_left; (first | omega | (simp <;> omega))) | (with_reducible refine Below.trans ?_ (hb.mono ?_); rotate_left; (first | omega | (simp <;> omega)))))

set_option maxHeartbeats 400000 in
theorem forall_any (f : Tb.T) (mask : Nat) (w : World) (hm : mask < 256) :
    Calls Try.prog 49 #[Tb.tv f, .int .u8 (mask : Int)] w fun e w' => e = .returned (Tb.tv (Tb.halves (fun F G => F &&& G) f mask)) ∧ Below w.heap.size w w' := by
  have hH := halves_any f mask 71 (fun F G => F &&& G) hm (fun _ _ => rfl) ⟨fun F G w => and_any F G w⟩
  have HH := Bx.mk hH
  clear hH hm
  go_enter Try.func49, Try.ntmps49
  go_wp2_with fail
  refine (HH.out _).mono ?_
  rintro e w1 ⟨rfl, hb⟩
  obtain ⟨hcell, hfr⟩ := bcell hb
  have hz := hb.size
  go_wp2_with fail
  refine bodyPost_ret (v := Tb.tv (Tb.halves (fun F G => F &&& G) f mask)) (by simp [results, Try.results49, go_sem, hcell]) rfl ⟨rfl, ?_⟩
  (repeat (first | (with_reducible exact Below.refl _ _) | (with_reducible assumption) | (with_reducible refine Below.drew ?_) | (with_reducible refine Below.setCell ?_ ?_ _; rotate_left; (first | omega | (simp <;> omega))) | (with_reducible refine Below.alloc ?_ ?_ _; rotate_left; (first | omega | (simp <;> omega))) | (with_reducible refine Below.trans ?_ (hb.mono ?_); rotate_left; (first | omega | (simp <;> omega)))))

set_option maxRecDepth 100000 in
set_option maxHeartbeats 4000000 in
theorem ite_any (f g h : Tb.T) (w : World) :
    Calls Try.prog 48 #[Tb.tv f, Tb.tv g, Tb.tv h] w fun e w' => e = .returned (Tb.tv ((f &&& g) ||| (~~~f &&& h))) ∧ Below w.heap.size w w' := by
  go_enter Try.func48, Try.ntmps48
  go_wp2_with fail
  refine region_order [(0, true), (1, true), (3, true), (5, true), (2, false), (4, false), (6, false), (7, false), (8, false)] 8 (fun w' => Below w.heap.size w w' ∧ w.heap.size + 1 + 1 + 1 < w'.heap.size ∧
      (w'.cell? ⟨w.heap.size, 0, none⟩ = some (.int .u64 (Tb.wd f 0)) ∧ w'.cell? ⟨w.heap.size, 1, none⟩ = some (.int .u64 (Tb.wd f 1)) ∧ w'.cell? ⟨w.heap.size, 2, none⟩ = some (.int .u64 (Tb.wd f 2)) ∧ w'.cell? ⟨w.heap.size, 3, none⟩ = some (.int .u64 (Tb.wd f 3))) ∧ (w'.cell? ⟨w.heap.size + 1, 0, none⟩ = some (.int .u64 (Tb.wd g 0)) ∧ w'.cell? ⟨w.heap.size + 1, 1, none⟩ = some (.int .u64 (Tb.wd g 1)) ∧ w'.cell? ⟨w.heap.size + 1, 2, none⟩ = some (.int .u64 (Tb.wd g 2)) ∧ w'.cell? ⟨w.heap.size + 1, 3, none⟩ = some (.int .u64 (Tb.wd g 3))) ∧ (w'.cell? ⟨w.heap.size + 1 + 1, 0, none⟩ = some (.int .u64 (Tb.wd h 0)) ∧ w'.cell? ⟨w.heap.size + 1 + 1, 1, none⟩ = some (.int .u64 (Tb.wd h 1)) ∧ w'.cell? ⟨w.heap.size + 1 + 1, 2, none⟩ = some (.int .u64 (Tb.wd h 2)) ∧ w'.cell? ⟨w.heap.size + 1 + 1, 3, none⟩ = some (.int .u64 (Tb.wd h 3))) ∧ (w'.cell? ⟨w.heap.size + 1 + 1 + 1, 0, none⟩ = some (cval w' ⟨w.heap.size + 1 + 1 + 1, 0, none⟩) ∧ w'.cell? ⟨w.heap.size + 1 + 1 + 1, 1, none⟩ = some (cval w' ⟨w.heap.size + 1 + 1 + 1, 1, none⟩) ∧ w'.cell? ⟨w.heap.size + 1 + 1 + 1, 2, none⟩ = some (cval w' ⟨w.heap.size + 1 + 1 + 1, 2, none⟩) ∧ w'.cell? ⟨w.heap.size + 1 + 1 + 1, 3, none⟩ = some (cval w' ⟨w.heap.size + 1 + 1 + 1, 3, none⟩) ∧ w'.frozen? ⟨w.heap.size + 1 + 1 + 1, 0, none⟩ = false ∧ w'.frozen? ⟨w.heap.size + 1 + 1 + 1, 1, none⟩ = false ∧ w'.frozen? ⟨w.heap.size + 1 + 1 + 1, 2, none⟩ = false ∧ w'.frozen? ⟨w.heap.size + 1 + 1 + 1, 3, none⟩ = false)) (by kernel_rfl) (by kernel_rfl) (fun _ _ d _ _ h => by cases d <;> exact h) ?_ ?_
  · (((try go_split_ands); (repeat' apply And.intro) <;> first | (with_reducible assumption) | omega | (with_reducible refine (hcl _ _ ?_).trans ?_; (first | omega | (simp <;> omega)); (first | (with_reducible assumption) | (go_simp; done))) | (with_reducible refine (hfz _ _ ?_).trans ?_; (first | omega | (simp <;> omega)); (first | (with_reducible assumption) | (go_simp; done))) | (with_reducible refine cval_ok ?_; (first | (with_reducible refine (congrArg Option.isSome (hcl _ _ ?_)).trans ?_; (first | omega | (simp <;> omega)); (go_simp; done)) | (go_simp; done))) | ((repeat (first | (with_reducible exact Below.refl _ _) | (with_reducible assumption) | (with_reducible refine Below.drew ?_) | (with_reducible refine Below.setCell ?_ ?_ _; rotate_left; (first | omega | (simp <;> omega))) | (with_reducible refine Below.alloc ?_ ?_ _; rotate_left; (first | omega | (simp <;> omega))) | (with_reducible refine Below.trans ?_ (hb.mono ?_); rotate_left; (first | omega | (simp <;> omega))))); done) | ((repeat (first | (with_reducible exact Below.refl _ _) | (with_reducible assumption) | (with_reducible refine Below.drew ?_) | (with_reducible refine Below.setCell ?_ ?_ _; rotate_left; (first | omega | (simp <;> omega))) | (with_reducible refine Below.alloc ?_ ?_ _; rotate_left; (first | omega | (simp <;> omega))))); done) | (simp <;> omega) | (go_simp; done) | (go_simp <;> omega)))
  · repeat (refine wpG_take (v := ?_) rfl rfl ?_ ?_; rotate_left; (focus (intro w hS; (try dsimp only at hS); go_split_ands; go_simp; try (with_reducible rfl))); (try simp only [Act.put]); (try simp only [List.setIfInBounds_toArray]); (try simp only [List.set_cons_succ]); (try simp only [List.set_cons_zero]))
    (refine wpG_op rfl rfl ?_; intro K hK; go_simp)
    refine (and_any f g _).mono ?_
    rintro e w1 ⟨rfl, hb⟩
    (obtain ⟨hcl, hfz⟩ := bcell hb; have hz := hb.size; (try simp only [drew_size] at hz); (try simp only [alloc_size] at hz); (try simp only [drew_size] at hz); (try simp only [alloc_size] at hz))
    go_simp
    (refine hK _ _ ?_ (fun hSn => ?_); (focus (((try go_split_ands); (repeat' apply And.intro) <;> first | (with_reducible assumption) | omega | (with_reducible refine (hcl _ _ ?_).trans ?_; (first | omega | (simp <;> omega)); (first | (with_reducible assumption) | (go_simp; done))) | (with_reducible refine (hfz _ _ ?_).trans ?_; (first | omega | (simp <;> omega)); (first | (with_reducible assumption) | (go_simp; done))) | (with_reducible refine cval_ok ?_; (first | (with_reducible refine (congrArg Option.isSome (hcl _ _ ?_)).trans ?_; (first | omega | (simp <;> omega)); (go_simp; done)) | (go_simp; done))) | ((repeat (first | (with_reducible exact Below.refl _ _) | (with_reducible assumption) | (with_reducible refine Below.drew ?_) | (with_reducible refine Below.setCell ?_ ?_ _; rotate_left; (first | omega | (simp <;> omega))) | (with_reducible refine Below.alloc ?_ ?_ _; rotate_left; (first | omega | (simp <;> omega))) | (with_reducible refine Below.trans ?_ (hb.mono ?_); rotate_left; (first | omega | (simp <;> omega))))); done) | ((repeat (first | (with_reducible exact Below.refl _ _) | (with_reducible assumption) | (with_reducible refine Below.drew ?_) | (with_reducible refine Below.setCell ?_ ?_ _; rotate_left; (first | omega | (simp <;> omega))) | (with_reducible refine Below.alloc ?_ ?_ _; rotate_left; (first | omega | (simp <;> omega))))); done) | (simp <;> omega) | (go_simp; done) | (go_simp <;> omega)))); clear hK K; (try dsimp only at hSn); go_split_ands; (try simp only [Act.put]); (try simp only [List.setIfInBounds_toArray]); (try simp only [List.set_cons_succ]); (try simp only [List.set_cons_zero]))
    clear hcl hfz hz hb
    (refine wpG_op rfl rfl ?_; intro K hK; go_simp)
    refine (not_any f _).mono ?_
    rintro e w2 ⟨rfl, hb⟩
    (obtain ⟨hcl, hfz⟩ := bcell hb; have hz := hb.size; (try simp only [drew_size] at hz); (try simp only [alloc_size] at hz); (try simp only [drew_size] at hz); (try simp only [alloc_size] at hz))
    go_simp
    (refine hK _ _ ?_ (fun hSn => ?_); (focus (((try go_split_ands); (repeat' apply And.intro) <;> first | (with_reducible assumption) | omega | (with_reducible refine (hcl _ _ ?_).trans ?_; (first | omega | (simp <;> omega)); (first | (with_reducible assumption) | (go_simp; done))) | (with_reducible refine (hfz _ _ ?_).trans ?_; (first | omega | (simp <;> omega)); (first | (with_reducible assumption) | (go_simp; done))) | (with_reducible refine cval_ok ?_; (first | (with_reducible refine (congrArg Option.isSome (hcl _ _ ?_)).trans ?_; (first | omega | (simp <;> omega)); (go_simp; done)) | (go_simp; done))) | ((repeat (first | (with_reducible exact Below.refl _ _) | (with_reducible assumption) | (with_reducible refine Below.drew ?_) | (with_reducible refine Below.setCell ?_ ?_ _; rotate_left; (first | omega | (simp <;> omega))) | (with_reducible refine Below.alloc ?_ ?_ _; rotate_left; (first | omega | (simp <;> omega))) | (with_reducible refine Below.trans ?_ (hb.mono ?_); rotate_left; (first | omega | (simp <;> omega))))); done) | ((repeat (first | (with_reducible exact Below.refl _ _) | (with_reducible assumption) | (with_reducible refine Below.drew ?_) | (with_reducible refine Below.setCell ?_ ?_ _; rotate_left; (first | omega | (simp <;> omega))) | (with_reducible refine Below.alloc ?_ ?_ _; rotate_left; (first | omega | (simp <;> omega))))); done) | (simp <;> omega) | (go_simp; done) | (go_simp <;> omega)))); clear hK K; (try dsimp only at hSn); go_split_ands; (try simp only [Act.put]); (try simp only [List.setIfInBounds_toArray]); (try simp only [List.set_cons_succ]); (try simp only [List.set_cons_zero]))
    clear hcl hfz hz hb
    (refine wpG_op rfl rfl ?_; intro K hK; go_simp)
    refine (and_any (~~~f) h _).mono ?_
    rintro e w3 ⟨rfl, hb⟩
    (obtain ⟨hcl, hfz⟩ := bcell hb; have hz := hb.size; (try simp only [drew_size] at hz); (try simp only [alloc_size] at hz); (try simp only [drew_size] at hz); (try simp only [alloc_size] at hz))
    go_simp
    (refine hK _ _ ?_ (fun hSn => ?_); (focus (((try go_split_ands); (repeat' apply And.intro) <;> first | (with_reducible assumption) | omega | (with_reducible refine (hcl _ _ ?_).trans ?_; (first | omega | (simp <;> omega)); (first | (with_reducible assumption) | (go_simp; done))) | (with_reducible refine (hfz _ _ ?_).trans ?_; (first | omega | (simp <;> omega)); (first | (with_reducible assumption) | (go_simp; done))) | (with_reducible refine cval_ok ?_; (first | (with_reducible refine (congrArg Option.isSome (hcl _ _ ?_)).trans ?_; (first | omega | (simp <;> omega)); (go_simp; done)) | (go_simp; done))) | ((repeat (first | (with_reducible exact Below.refl _ _) | (with_reducible assumption) | (with_reducible refine Below.drew ?_) | (with_reducible refine Below.setCell ?_ ?_ _; rotate_left; (first | omega | (simp <;> omega))) | (with_reducible refine Below.alloc ?_ ?_ _; rotate_left; (first | omega | (simp <;> omega))) | (with_reducible refine Below.trans ?_ (hb.mono ?_); rotate_left; (first | omega | (simp <;> omega))))); done) | ((repeat (first | (with_reducible exact Below.refl _ _) | (with_reducible assumption) | (with_reducible refine Below.drew ?_) | (with_reducible refine Below.setCell ?_ ?_ _; rotate_left; (first | omega | (simp <;> omega))) | (with_reducible refine Below.alloc ?_ ?_ _; rotate_left; (first | omega | (simp <;> omega))))); done) | (simp <;> omega) | (go_simp; done) | (go_simp <;> omega)))); clear hK K; (try dsimp only at hSn); go_split_ands; (try simp only [Act.put]); (try simp only [List.setIfInBounds_toArray]); (try simp only [List.set_cons_succ]); (try simp only [List.set_cons_zero]))
    clear hcl hfz hz hb
    (refine wpG_op rfl rfl ?_; intro K hK; go_simp)
    refine (or_any (f &&& g) (~~~f &&& h) _).mono ?_
    rintro e w4 ⟨rfl, hb⟩
    (obtain ⟨hcl, hfz⟩ := bcell hb; have hz := hb.size; (try simp only [drew_size] at hz); (try simp only [alloc_size] at hz); (try simp only [drew_size] at hz); (try simp only [alloc_size] at hz))
    go_simp
    (refine hK _ _ ?_ (fun hSn => ?_); (focus (((try go_split_ands); (repeat' apply And.intro) <;> first | (with_reducible assumption) | omega | (with_reducible refine (hcl _ _ ?_).trans ?_; (first | omega | (simp <;> omega)); (first | (with_reducible assumption) | (go_simp; done))) | (with_reducible refine (hfz _ _ ?_).trans ?_; (first | omega | (simp <;> omega)); (first | (with_reducible assumption) | (go_simp; done))) | (with_reducible refine cval_ok ?_; (first | (with_reducible refine (congrArg Option.isSome (hcl _ _ ?_)).trans ?_; (first | omega | (simp <;> omega)); (go_simp; done)) | (go_simp; done))) | ((repeat (first | (with_reducible exact Below.refl _ _) | (with_reducible assumption) | (with_reducible refine Below.drew ?_) | (with_reducible refine Below.setCell ?_ ?_ _; rotate_left; (first | omega | (simp <;> omega))) | (with_reducible refine Below.alloc ?_ ?_ _; rotate_left; (first | omega | (simp <;> omega))) | (with_reducible refine Below.trans ?_ (hb.mono ?_); rotate_left; (first | omega | (simp <;> omega))))); done) | ((repeat (first | (with_reducible exact Below.refl _ _) | (with_reducible assumption) | (with_reducible refine Below.drew ?_) | (with_reducible refine Below.setCell ?_ ?_ _; rotate_left; (first | omega | (simp <;> omega))) | (with_reducible refine Below.alloc ?_ ?_ _; rotate_left; (first | omega | (simp <;> omega))))); done) | (simp <;> omega) | (go_simp; done) | (go_simp <;> omega)))); clear hK K; (try dsimp only at hSn); go_split_ands; (try simp only [Act.put]); (try simp only [List.setIfInBounds_toArray]); (try simp only [List.set_cons_succ]); (try simp only [List.set_cons_zero]))
    clear hcl hfz hz hb
    (refine wpG_last rfl rfl ?_; intro K hK; go_simp; refine hK _ _ ?_; clear hK K; (try simp only [Act.put]); (try simp only [List.setIfInBounds_toArray]); (try simp only [List.set_cons_succ]); (try simp only [List.set_cons_zero]))
    go_wp2_with fail
    refine bodyPost_ret (v := Tb.tv ((f &&& g) ||| (~~~f &&& h))) (by simp [results, Try.results48, go_sem, *]) rfl ⟨rfl, ?_⟩
    (repeat (first | (with_reducible exact Below.refl _ _) | (with_reducible assumption) | (with_reducible refine Below.drew ?_) | (with_reducible refine Below.setCell ?_ ?_ _; rotate_left; (first | omega | (simp <;> omega))) | (with_reducible refine Below.alloc ?_ ?_ _; rotate_left; (first | omega | (simp <;> omega)))))

end Go.Proofs.Ytfgokhafiffbaaa
