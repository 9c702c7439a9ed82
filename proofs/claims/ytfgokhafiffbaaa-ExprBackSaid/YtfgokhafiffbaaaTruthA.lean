/-
  The walks of package truth, first part: joining tables word by word.
-/
import Derived.Test.YtfgokhafiffbaaaRows
import Derived.Test.YtfgokhafiffbaaaTabPlain
namespace Go.Proofs.Ytfgokhafiffbaaa
set_option linter.unusedVariables false
open Go.RowKit

/-- what was there before a contract's new blocks reads as it did -/
theorem bcell {W w1 : World} (hb : Below W.heap.size W w1) : (∀ b o, b < W.heap.size → w1.cell? ⟨b, o, none⟩ = W.cell? ⟨b, o, none⟩) ∧ (∀ b o, b < W.heap.size → w1.frozen? ⟨b, o, none⟩ = W.frozen? ⟨b, o, none⟩) :=
  ⟨fun b o h => hb.cell (p := ⟨b, o, none⟩) h, fun b o h => hb.frozen (p := ⟨b, o, none⟩) h⟩

/-- a table's block, cell by cell -/
theorem tfacts {w : World} {g t : Nat} {f : Tb.T} (h : Blk w g t (Tb.tcells f)) :
    (w.cell? ⟨g, 0, none⟩ = some (.int .u64 (Tb.wd f 0)) ∧ w.cell? ⟨g, 1, none⟩ = some (.int .u64 (Tb.wd f 1)) ∧ w.cell? ⟨g, 2, none⟩ = some (.int .u64 (Tb.wd f 2)) ∧ w.cell? ⟨g, 3, none⟩ = some (.int .u64 (Tb.wd f 3))) ∧
    (w.frozen? ⟨g, 0, none⟩ = false ∧ w.frozen? ⟨g, 1, none⟩ = false ∧ w.frozen? ⟨g, 2, none⟩ = false ∧ w.frozen? ⟨g, 3, none⟩ = false) :=
  ⟨⟨h.cell 0, h.cell 1, h.cell 2, h.cell 3⟩, h.frozen 0, h.frozen 1, h.frozen 2, h.frozen 3⟩

/-- a table's block behind four stores -/
theorem blk4 {w : World} {g t : Nat} {f : Tb.T} (h : Blk w g t (Tb.tcells f)) (r : Tb.T) :
    Blk ((((w.setCell ⟨g, 0, none⟩ (.int .u64 (Tb.wd r 0))).setCell ⟨g, 1, none⟩ (.int .u64 (Tb.wd r 1))).setCell ⟨g, 2, none⟩ (.int .u64 (Tb.wd r 2))).setCell ⟨g, 3, none⟩ (.int .u64 (Tb.wd r 3))) g t (Tb.tcells r) :=
  (((h.set_ 0 _).set_ 1 _).set_ 2 _).set_ 3 _
theorem blk4_far {w : World} {g g' t : Nat} {cs : Array Value} (h : Blk w g' t cs) (hne : g' ≠ g) (r : Tb.T) :
    Blk ((((w.setCell ⟨g, 0, none⟩ (.int .u64 (Tb.wd r 0))).setCell ⟨g, 1, none⟩ (.int .u64 (Tb.wd r 1))).setCell ⟨g, 2, none⟩ (.int .u64 (Tb.wd r 2))).setCell ⟨g, 3, none⟩ (.int .u64 (Tb.wd r 3))) g' t cs :=
  (((h.far (p := ⟨g, 0, none⟩) hne _).far (p := ⟨g, 1, none⟩) hne _).far (p := ⟨g, 2, none⟩) hne _).far (p := ⟨g, 3, none⟩) hne _

/-- a function with a body is entered -/
def Enters (P : Program) (K : Nat) : Prop := ∀ args w, (callFunc K args).run P w = .ok (.enter K args) w

set_option maxHeartbeats 1000000 in
theorem each_raw (f g : Tb.T) (K : Nat) (J : Int → Int → Int) (hc : ∀ args w, (callFunc K args).run Try.prog w = .ok (.enter K args) w)
    (HJ : Bx (∀ i w, i < 4 → Calls Try.prog K #[.int .u64 (Tb.wd f i), .int .u64 (Tb.wd g i)] w fun e w' => e = .returned (.int .u64 (J (Tb.wd f i) (Tb.wd g i))) ∧ w' = w)) (w : World) :
    Calls Try.prog 68 #[Tb.tv f, Tb.tv g, .func (.func K) #[] #[]] w fun e w' =>
      e = .returned (.agg #[.int .u64 (J (Tb.wd f 0) (Tb.wd g 0)), .int .u64 (J (Tb.wd f 1) (Tb.wd g 1)), .int .u64 (J (Tb.wd f 2) (Tb.wd g 2)), .int .u64 (J (Tb.wd f 3) (Tb.wd g 3))]) ∧ Below w.heap.size w w' := by
  go_enter Try.func68, Try.ntmps68
  go_wp2_with fail
  refine wp_loop_rounds 5 ?_
  rw [rounds_succ]
  go_wp2_with fail
  refine region_tail 10 (by kernel_rfl) (by kernel_rfl) ?_
  simp only [List.take_succ_cons, List.take_zero, List.drop_succ_cons, List.drop_zero]
  repeat still_step
  still_call (HJ.out 0 _ (by omega))
  repeat still_step
  refine wpStill_nil ?_
  go_wp2_with fail
  rw [rounds_succ]
  go_wp2_with fail
  refine region_tail 10 (by kernel_rfl) (by kernel_rfl) ?_
  simp only [List.take_succ_cons, List.take_zero, List.drop_succ_cons, List.drop_zero]
  repeat still_step
  still_call (HJ.out 1 _ (by omega))
  repeat still_step
  refine wpStill_nil ?_
  go_wp2_with fail
  rw [rounds_succ]
  go_wp2_with fail
  refine region_tail 10 (by kernel_rfl) (by kernel_rfl) ?_
  simp only [List.take_succ_cons, List.take_zero, List.drop_succ_cons, List.drop_zero]
  repeat still_step
  still_call (HJ.out 2 _ (by omega))
  repeat still_step
  refine wpStill_nil ?_
  go_wp2_with fail
  rw [rounds_succ]
  go_wp2_with fail
  refine region_tail 10 (by kernel_rfl) (by kernel_rfl) ?_
  simp only [List.take_succ_cons, List.take_zero, List.drop_succ_cons, List.drop_zero]
  repeat still_step
  still_call (HJ.out 3 _ (by omega))
  repeat still_step
  refine wpStill_nil ?_
  go_wp2_with fail
  rw [rounds_succ]
  go_wp2_with fail
  refine bodyPost_ret (v := .agg #[.int .u64 (J (Tb.wd f 0) (Tb.wd g 0)), .int .u64 (J (Tb.wd f 1) (Tb.wd g 1)), .int .u64 (J (Tb.wd f 2) (Tb.wd g 2)), .int .u64 (J (Tb.wd f 3) (Tb.wd g 3))]) (by simp [results, Try.results68, go_sem]) rfl ⟨rfl, ?_⟩
  repeat (first | exact Below.refl _ _ | apply Below.drew | refine Below.setCell ?_ (by simp <;> omega) _ | refine Below.alloc ?_ (by simp <;> omega) _)


/-- each, where the joined words are a table's -/
theorem each_any (f g R : Tb.T) (K : Nat) (J : Int → Int → Int) (hc : ∀ args w, (callFunc K args).run Try.prog w = .ok (.enter K args) w)
    (HJ : ∀ i w, i < 4 → Calls Try.prog K #[.int .u64 (Tb.wd f i), .int .u64 (Tb.wd g i)] w fun e w' => e = .returned (.int .u64 (J (Tb.wd f i) (Tb.wd g i))) ∧ w' = w)
    (hR : ∀ i, i < 4 → J (Tb.wd f i) (Tb.wd g i) = Tb.wd R i) (w : World) :
    Calls Try.prog 68 #[Tb.tv f, Tb.tv g, .func (.func K) #[] #[]] w fun e w' => e = .returned (Tb.tv R) ∧ Below w.heap.size w w' := by
  have h := each_raw f g K J hc ⟨HJ⟩ w
  rw [hR 0 (by omega), hR 1 (by omega), hR 2 (by omega), hR 3 (by omega)] at h
  exact h

set_option maxHeartbeats 400000 in
theorem and1_any (x y : Int) (w : World) :
    Calls Try.prog 80 #[.int .u64 x, .int .u64 y] w fun e w' => e = .returned (.int .u64 (bits .and .u64 x y)) ∧ w' = w := by
  go_enter Try.func80, Try.ntmps80
  go_wp2_with fail
  go_ret
  exact ⟨rfl, rfl⟩

set_option maxHeartbeats 400000 in
theorem and_any (f g : Tb.T) (w : World) :
    Calls Try.prog 71 #[Tb.tv f, Tb.tv g] w fun e w' => e = .returned (Tb.tv (f &&& g)) ∧ Below w.heap.size w w' := by
  have hE := each_any f g (f &&& g) 80 (fun x y => bits .and .u64 x y) (fun _ _ => rfl) (fun i w _ => and1_any _ _ w) (fun i hi => (Tb.wd_and f g i).symm)
  have HE := Bx.mk hE
  clear hE
  go_enter Try.func71, Try.ntmps71
  go_wp2_with fail
  refine (HE.out _).mono ?_
  rintro e w1 ⟨rfl, hb⟩
  obtain ⟨hcell, hfr⟩ := bcell hb
  have hz := hb.size
  go_wp2_with fail
  refine bodyPost_ret (v := Tb.tv (f &&& g)) (by simp [results, Try.results71, go_sem, hcell]) rfl ⟨rfl, ?_⟩
  repeat (first | exact Below.refl _ _ | apply Below.drew | refine Below.setCell ?_ (by simp <;> omega) _ | refine Below.alloc ?_ (by simp <;> omega) _ | refine Below.trans ?_ (hb.mono (by simp <;> omega)))

set_option maxHeartbeats 400000 in
theorem or1_any (x y : Int) (w : World) :
    Calls Try.prog 79 #[.int .u64 x, .int .u64 y] w fun e w' => e = .returned (.int .u64 (bits .or .u64 x y)) ∧ w' = w := by
  go_enter Try.func79, Try.ntmps79
  go_wp2_with fail
  go_ret
  exact ⟨rfl, rfl⟩

set_option maxHeartbeats 400000 in
theorem or_any (f g : Tb.T) (w : World) :
    Calls Try.prog 70 #[Tb.tv f, Tb.tv g] w fun e w' => e = .returned (Tb.tv (f ||| g)) ∧ Below w.heap.size w w' := by
  have hE := each_any f g (f ||| g) 79 (fun x y => bits .or .u64 x y) (fun _ _ => rfl) (fun i w _ => or1_any _ _ w) (fun i hi => (Tb.wd_or f g i).symm)
  have HE := Bx.mk hE
  clear hE
  go_enter Try.func70, Try.ntmps70
  go_wp2_with fail
  refine (HE.out _).mono ?_
  rintro e w1 ⟨rfl, hb⟩
  obtain ⟨hcell, hfr⟩ := bcell hb
  have hz := hb.size
  go_wp2_with fail
  refine bodyPost_ret (v := Tb.tv (f ||| g)) (by simp [results, Try.results70, go_sem, hcell]) rfl ⟨rfl, ?_⟩
  repeat (first | exact Below.refl _ _ | apply Below.drew | refine Below.setCell ?_ (by simp <;> omega) _ | refine Below.alloc ?_ (by simp <;> omega) _ | refine Below.trans ?_ (hb.mono (by simp <;> omega)))

set_option maxHeartbeats 400000 in
theorem xor1_any (x y : Int) (w : World) :
    Calls Try.prog 82 #[.int .u64 x, .int .u64 y] w fun e w' => e = .returned (.int .u64 (bits .xor .u64 x y)) ∧ w' = w := by
  go_enter Try.func82, Try.ntmps82
  go_wp2_with fail
  go_ret
  exact ⟨rfl, rfl⟩

set_option maxHeartbeats 400000 in
theorem xor_any (f g : Tb.T) (w : World) :
    Calls Try.prog 73 #[Tb.tv f, Tb.tv g] w fun e w' => e = .returned (Tb.tv (f ^^^ g)) ∧ Below w.heap.size w w' := by
  have hE := each_any f g (f ^^^ g) 82 (fun x y => bits .xor .u64 x y) (fun _ _ => rfl) (fun i w _ => xor1_any _ _ w) (fun i hi => (Tb.wd_xor f g i).symm)
  have HE := Bx.mk hE
  clear hE
  go_enter Try.func73, Try.ntmps73
  go_wp2_with fail
  refine (HE.out _).mono ?_
  rintro e w1 ⟨rfl, hb⟩
  obtain ⟨hcell, hfr⟩ := bcell hb
  have hz := hb.size
  go_wp2_with fail
  refine bodyPost_ret (v := Tb.tv (f ^^^ g)) (by simp [results, Try.results73, go_sem, hcell]) rfl ⟨rfl, ?_⟩
  repeat (first | exact Below.refl _ _ | apply Below.drew | refine Below.setCell ?_ (by simp <;> omega) _ | refine Below.alloc ?_ (by simp <;> omega) _ | refine Below.trans ?_ (hb.mono (by simp <;> omega)))

set_option maxHeartbeats 400000 in
theorem not1_any (x y : Int) (w : World) :
    Calls Try.prog 69 #[.int .u64 x, .int .u64 y] w fun e w' => e = .returned (.int .u64 (Tb.nt x)) ∧ w' = w := by
  have hu : Op.unary .xor (.int .u64 x) = pure (.int .u64 (Tb.nt x)) := Tb.nt_op x
  go_enter Try.func69, Try.ntmps69
  go_wp2_with fail
  go_ret
  exact ⟨rfl, rfl⟩

set_option maxHeartbeats 400000 in
theorem not_any (f : Tb.T) (w : World) :
    Calls Try.prog 47 #[Tb.tv f] w fun e w' => e = .returned (Tb.tv (~~~f)) ∧ Below w.heap.size w w' := by
  have hE := each_any f f (~~~f) 69 (fun x y => Tb.nt x) (fun _ _ => rfl) (fun i w _ => not1_any _ _ w) (fun i hi => Tb.nt_wd f i hi)
  have HE := Bx.mk hE
  clear hE
  go_enter Try.func47, Try.ntmps47
  go_wp2_with fail
  refine (HE.out _).mono ?_
  rintro e w1 ⟨rfl, hb⟩
  obtain ⟨hcell, hfr⟩ := bcell hb
  have hz := hb.size
  go_wp2_with fail
  refine bodyPost_ret (v := Tb.tv (~~~f)) (by simp [results, Try.results47, go_sem, hcell]) rfl ⟨rfl, ?_⟩
  repeat (first | exact Below.refl _ _ | apply Below.drew | refine Below.setCell ?_ (by simp <;> omega) _ | refine Below.alloc ?_ (by simp <;> omega) _ | refine Below.trans ?_ (hb.mono (by simp <;> omega)))

end Go.Proofs.Ytfgokhafiffbaaa
