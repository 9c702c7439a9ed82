/-
  Formulas: un.
-/
import Derived.Test.YtfgokhafiffbaaaEx15
namespace Go.Proofs.Ytfgokhafiffbaaa
set_option linter.unusedVariables false
open Go.RowKit

set_option maxHeartbeats 8000000 in
theorem pun_err (N d : Nat) (s : ByteArray) (st : St) (w : World) (he : ¬ st.e = 0) (h : PS w N d s st) :
    Calls Try.prog 87 #[.pointer (some ⟨N, 0, none⟩)] w (Gives N d s w (Tr.zero, st)) := by
  have hlt := h.lt
  have HP0 := Bx.mk (h.alloc (Obj.cells #[.int .i64 0, .int .i64 0, .int .i64 0, .slice none 0 0] 36))
  have HR0 := Bx.mk (Blk.new w 36 #[.int .i64 0, .int .i64 0, .int .i64 0, .slice none 0 0])
  have HG0 := Bx.mk ((Gb.refl N w).alloc (Obj.cells #[.int .i64 0, .int .i64 0, .int .i64 0, .slice none 0 0] 36))
  obtain ⟨c0, c1, c2, c3, c4, c5, f1, f2, f3, f4, f5⟩ := pb_cells h.blk
  clear c0 c1 c3 c5 f1 f2 f3 f4 f5 h
  have q : ¬ (st.e : Int) = 0 := by omega
  clear he
  go_enter Try.func87, Try.ntmps87
  go_wp2_with fail

  obtain ⟨r0, r1, r2, r3, _, _, _, _⟩ := cells4 HR0.out
  refine bodyPost_ret (v := Ev Tr.zero (.slice none 0 0)) (by simp [results, Try.results87, go_sem, r0, r1, r2, r3]; rfl) rfl ?_
  exact ⟨.slice none 0 0, rfl, SlF.nil _ _, HP0.out, HG0.out⟩

set_option maxHeartbeats 8000000 in
theorem pun_not (N d : Nat) (s : ByteArray) (st : St) (w : World) (he : st.e = 0) (m0 : st.may .not = true) (r : Option (St → Tr × St)) (hr : Rz 87 d r) (h : PS w N d s st) :
    Calls Try.prog 87 #[.pointer (some ⟨N, 0, none⟩)] w (Gives N d s w (Ex.one 3 st.at_ 0 (Ex.within r st.goes).1, (Ex.within r st.goes).2)) := by
  have hlt := h.lt
  have HP0 := Bx.mk (h.alloc (Obj.cells #[.int .i64 0, .int .i64 0, .int .i64 0, .slice none 0 0] 36))
  have HR0 := Bx.mk (Blk.new w 36 #[.int .i64 0, .int .i64 0, .int .i64 0, .slice none 0 0])
  have HG0 := Bx.mk ((Gb.refl N w).alloc (Obj.cells #[.int .i64 0, .int .i64 0, .int .i64 0, .slice none 0 0] 36))
  obtain ⟨c0, c1, c2, c3, c4, c5, f1, f2, f3, f4, f5⟩ := pb_cells h.blk
  clear c0 c1 c3 c5 f1 f2 f3 f4 f5 h
  have q : (st.e : Int) = 0 := by omega
  have hM0 := fun u (hu : PS u N d s st) => may_st N d .not ({ data := #[33] }) s st u hu enot (by decide) (by decide)
  rw [m0, if_pos rfl] at hM0
  have HM0 := Bx.mk hM0
  clear hM0
  have hW := fun u (hu : PS u N d s st.goes) => within_any N d s st.goes u 87 r (fun _ _ => rfl) hr hu
  have HW := Bx.mk hW
  clear he hW hr m0
  generalize Ex.within r st.goes = Y at HW ⊢
  go_enter Try.func87, Try.ntmps87
  go_wp2_with fail
  refine (HM0.out _ HP0.out).mono ?_
  rintro e wm0 ⟨rfl, hP0, hG0⟩
  have HP1 := Bx.mk hP0
  have HG1 := Bx.mk (HG0.out.trans hG0)
  have HR1 := Bx.mk (hG0.blk HR0.out (by omega))
  have hz0 := hG0.size
  rw [alloc_size] at hz0
  clear hP0 hG0
  go_wp2_with fail
  refine (HW.out _ HP1.out).mono ?_
  rintro e w3 ⟨sy, rfl, hS5, hP5, hG5⟩
  obtain ⟨py, cy, rfl⟩ := hS5.is
  have hz5 := hG5.size
  have hR5 := (hG5.blk HR1.out (by omega)).alloc (Obj.cells #[.int .i64 Y.1.k, .int .i64 Y.1.a, .int .i64 Y.1.v, .slice py Y.1.kids.len cy] 36)
  have hP6 := hP5.alloc (Obj.cells #[.int .i64 Y.1.k, .int .i64 Y.1.a, .int .i64 Y.1.v, .slice py Y.1.kids.len cy] 36)
  have hG6 := (HG1.out.trans hG5).alloc (Obj.cells #[.int .i64 Y.1.k, .int .i64 Y.1.a, .int .i64 Y.1.v, .slice py Y.1.kids.len cy] 36)
  have hS6 := SlF.single 36 (hS5.mono (B' := Ge (w.heap.size + 1)) fun g hg => by unfold Ge at hg ⊢; omega) (by unfold Ge; omega)
  obtain ⟨r0, r1, r2, r3, g0, g1, g2, g3⟩ := cells4 hR5
  have HP6 := Bx.mk hP6
  have HG6 := Bx.mk hG6
  have HR6 := Bx.mk hR5
  have HS6 := Bx.mk hS6
  clear hP5 hG5 hR5 hS5 hP6 hG6 hS6
  unfold Ev
  go_wp2_with fail
  clear r0 r1 r2 r3 g0 g1 g2 g3
  have hE := (Blk.own4 HR6.out (.int .i64 3) (.int .i64 (st.at_ : Int)) (.int .i64 0) (.slice (some ⟨w3.heap.size, 0, none⟩) 1 1))
  obtain ⟨r0, r1, r2, r3, _, _, _, _⟩ := cells4 hE
  refine bodyPost_ret (v := Ev (Ex.one 3 st.at_ 0 Y.1) (.slice (some ⟨w3.heap.size, 0, none⟩) 1 1)) (by simp [results, Try.results87, go_sem, r0, r1, r2, r3]; rfl) rfl ?_
  exact ⟨.slice (some ⟨w3.heap.size, 0, none⟩) 1 1, rfl, (HS6.out.st4 (R := w.heap.size) (fun h => by unfold Ge at h; omega) _ _ _ _).mono (fun g hg => by unfold Ge at hg ⊢; omega), (HP6.out.st4 (R := w.heap.size) (by omega) _ _ _ _), (HG6.out.st4 (Nat.le_refl _) _ _ _ _)⟩

set_option maxHeartbeats 8000000 in
theorem pun_all (N d : Nat) (s : ByteArray) (st : St) (w : World) (he : st.e = 0) (m0 : st.may .not = false) (m1 : st.may .all = true) (r : Option (St → Tr × St)) (hr : Rz 87 d r) (h : PS w N d s st) :
    Calls Try.prog 87 #[.pointer (some ⟨N, 0, none⟩)] w (Gives N d s w (Ex.bound r 10 st.at_ st.goes)) := by
  have hlt := h.lt
  have HP0 := Bx.mk (h.alloc (Obj.cells #[.int .i64 0, .int .i64 0, .int .i64 0, .slice none 0 0] 36))
  have HR0 := Bx.mk (Blk.new w 36 #[.int .i64 0, .int .i64 0, .int .i64 0, .slice none 0 0])
  have HG0 := Bx.mk ((Gb.refl N w).alloc (Obj.cells #[.int .i64 0, .int .i64 0, .int .i64 0, .slice none 0 0] 36))
  obtain ⟨c0, c1, c2, c3, c4, c5, f1, f2, f3, f4, f5⟩ := pb_cells h.blk
  clear c0 c1 c3 c5 f1 f2 f3 f4 f5 h
  have q : (st.e : Int) = 0 := by omega
  have hM0 := fun u (hu : PS u N d s st) => may_st N d .not ({ data := #[33] }) s st u hu enot (by decide) (by decide)
  rw [m0, if_neg (by simp)] at hM0
  have HM0 := Bx.mk hM0
  clear hM0
  have hM1 := fun u (hu : PS u N d s st) => may_st N d .all ({ data := #[97, 108, 108] }) s st u hu eall (by decide) (by decide)
  rw [m1, if_pos rfl] at hM1
  have HM1 := Bx.mk hM1
  clear hM1
  have hW := fun u (hu : PS u N d s st.goes) => bound_any N d s st.goes u 10 st.at_ r hr hu
  have HW := Bx.mk hW
  clear he hW hr m0 m1
  generalize Ex.bound r 10 st.at_ st.goes = Y at HW ⊢
  go_enter Try.func87, Try.ntmps87
  go_wp2_with fail
  refine (HM0.out _ HP0.out).mono ?_
  rintro e wm0 ⟨rfl, hP0, hG0⟩
  have HP1 := Bx.mk hP0
  have HG1 := Bx.mk (HG0.out.trans hG0)
  have HR1 := Bx.mk (hG0.blk HR0.out (by omega))
  have hz0 := hG0.size
  rw [alloc_size] at hz0
  clear hP0 hG0
  go_wp2_with fail
  refine (HM1.out _ HP1.out).mono ?_
  rintro e wm1 ⟨rfl, hP1, hG1⟩
  have HP2 := Bx.mk hP1
  have HG2 := Bx.mk (HG1.out.trans hG1)
  have HR2 := Bx.mk (hG1.blk HR1.out (by omega))
  have hz1 := hG1.size
  skip
  clear hP1 hG1
  go_wp2_with fail
  refine (HW.out _ HP2.out).mono ?_
  rintro e w3 ⟨sy, rfl, hS5, hP5, hG5⟩
  obtain ⟨py, cy, rfl⟩ := hS5.is
  have hR5 := (hG5.blk HR2.out (by omega))
  have hG6 := (HG2.out.trans hG5)
  have hS6 := (hS5.mono (B' := Ge (w.heap.size + 1)) fun g hg => by unfold Ge at hg ⊢; omega)
  obtain ⟨r0, r1, r2, r3, g0, g1, g2, g3⟩ := cells4 hR5
  have HP6 := Bx.mk hP5
  have HG6 := Bx.mk hG6
  have HR6 := Bx.mk hR5
  have HS6 := Bx.mk hS6
  clear hP5 hG5 hR5 hS5 hG6 hS6
  unfold Ev
  go_wp2_with fail
  clear r0 r1 r2 r3 g0 g1 g2 g3
  have hE := (Blk.own4 HR6.out (.int .i64 Y.1.k) (.int .i64 Y.1.a) (.int .i64 Y.1.v) (.slice py Y.1.kids.len cy))
  obtain ⟨r0, r1, r2, r3, _, _, _, _⟩ := cells4 hE
  refine bodyPost_ret (v := Ev Y.1 (.slice py Y.1.kids.len cy)) (by simp [results, Try.results87, go_sem, r0, r1, r2, r3]; rfl) rfl ?_
  exact ⟨.slice py Y.1.kids.len cy, rfl, (HS6.out.st4 (R := w.heap.size) (fun h => by unfold Ge at h; omega) _ _ _ _).mono (fun g hg => by unfold Ge at hg ⊢; omega), (HP6.out.st4 (R := w.heap.size) (by omega) _ _ _ _), (HG6.out.st4 (Nat.le_refl _) _ _ _ _)⟩

set_option maxHeartbeats 8000000 in
theorem pun_any (N d : Nat) (s : ByteArray) (st : St) (w : World) (he : st.e = 0) (m0 : st.may .not = false) (m1 : st.may .all = false) (m2 : st.may .any = true) (r : Option (St → Tr × St)) (hr : Rz 87 d r) (h : PS w N d s st) :
    Calls Try.prog 87 #[.pointer (some ⟨N, 0, none⟩)] w (Gives N d s w (Ex.bound r 11 st.at_ st.goes)) := by
  have hlt := h.lt
  have HP0 := Bx.mk (h.alloc (Obj.cells #[.int .i64 0, .int .i64 0, .int .i64 0, .slice none 0 0] 36))
  have HR0 := Bx.mk (Blk.new w 36 #[.int .i64 0, .int .i64 0, .int .i64 0, .slice none 0 0])
  have HG0 := Bx.mk ((Gb.refl N w).alloc (Obj.cells #[.int .i64 0, .int .i64 0, .int .i64 0, .slice none 0 0] 36))
  obtain ⟨c0, c1, c2, c3, c4, c5, f1, f2, f3, f4, f5⟩ := pb_cells h.blk
  clear c0 c1 c3 c5 f1 f2 f3 f4 f5 h
  have q : (st.e : Int) = 0 := by omega
  have hM0 := fun u (hu : PS u N d s st) => may_st N d .not ({ data := #[33] }) s st u hu enot (by decide) (by decide)
  rw [m0, if_neg (by simp)] at hM0
  have HM0 := Bx.mk hM0
  clear hM0
  have hM1 := fun u (hu : PS u N d s st) => may_st N d .all ({ data := #[97, 108, 108] }) s st u hu eall (by decide) (by decide)
  rw [m1, if_neg (by simp)] at hM1
  have HM1 := Bx.mk hM1
  clear hM1
  have hM2 := fun u (hu : PS u N d s st) => may_st N d .any ({ data := #[97, 110, 121] }) s st u hu eany (by decide) (by decide)
  rw [m2, if_pos rfl] at hM2
  have HM2 := Bx.mk hM2
  clear hM2
  have hW := fun u (hu : PS u N d s st.goes) => bound_any N d s st.goes u 11 st.at_ r hr hu
  have HW := Bx.mk hW
  clear he hW hr m0 m1 m2
  generalize Ex.bound r 11 st.at_ st.goes = Y at HW ⊢
  go_enter Try.func87, Try.ntmps87
  go_wp2_with fail
  refine (HM0.out _ HP0.out).mono ?_
  rintro e wm0 ⟨rfl, hP0, hG0⟩
  have HP1 := Bx.mk hP0
  have HG1 := Bx.mk (HG0.out.trans hG0)
  have HR1 := Bx.mk (hG0.blk HR0.out (by omega))
  have hz0 := hG0.size
  rw [alloc_size] at hz0
  clear hP0 hG0
  go_wp2_with fail
  refine (HM1.out _ HP1.out).mono ?_
  rintro e wm1 ⟨rfl, hP1, hG1⟩
  have HP2 := Bx.mk hP1
  have HG2 := Bx.mk (HG1.out.trans hG1)
  have HR2 := Bx.mk (hG1.blk HR1.out (by omega))
  have hz1 := hG1.size
  skip
  clear hP1 hG1
  go_wp2_with fail
  refine (HM2.out _ HP2.out).mono ?_
  rintro e wm2 ⟨rfl, hP2, hG2⟩
  have HP3 := Bx.mk hP2
  have HG3 := Bx.mk (HG2.out.trans hG2)
  have HR3 := Bx.mk (hG2.blk HR2.out (by omega))
  have hz2 := hG2.size
  skip
  clear hP2 hG2
  go_wp2_with fail
  refine (HW.out _ HP3.out).mono ?_
  rintro e w3 ⟨sy, rfl, hS5, hP5, hG5⟩
  obtain ⟨py, cy, rfl⟩ := hS5.is
  have hR5 := (hG5.blk HR3.out (by omega))
  have hG6 := (HG3.out.trans hG5)
  have hS6 := (hS5.mono (B' := Ge (w.heap.size + 1)) fun g hg => by unfold Ge at hg ⊢; omega)
  obtain ⟨r0, r1, r2, r3, g0, g1, g2, g3⟩ := cells4 hR5
  have HP6 := Bx.mk hP5
  have HG6 := Bx.mk hG6
  have HR6 := Bx.mk hR5
  have HS6 := Bx.mk hS6
  clear hP5 hG5 hR5 hS5 hG6 hS6
  unfold Ev
  go_wp2_with fail
  clear r0 r1 r2 r3 g0 g1 g2 g3
  have hE := (Blk.own4 HR6.out (.int .i64 Y.1.k) (.int .i64 Y.1.a) (.int .i64 Y.1.v) (.slice py Y.1.kids.len cy))
  obtain ⟨r0, r1, r2, r3, _, _, _, _⟩ := cells4 hE
  refine bodyPost_ret (v := Ev Y.1 (.slice py Y.1.kids.len cy)) (by simp [results, Try.results87, go_sem, r0, r1, r2, r3]; rfl) rfl ?_
  exact ⟨.slice py Y.1.kids.len cy, rfl, (HS6.out.st4 (R := w.heap.size) (fun h => by unfold Ge at h; omega) _ _ _ _).mono (fun g hg => by unfold Ge at hg ⊢; omega), (HP6.out.st4 (R := w.heap.size) (by omega) _ _ _ _), (HG6.out.st4 (Nat.le_refl _) _ _ _ _)⟩

set_option maxHeartbeats 8000000 in
theorem pun_prim (N d : Nat) (s : ByteArray) (st : St) (w : World) (he : st.e = 0) (m0 : st.may .not = false) (m1 : st.may .all = false) (m2 : st.may .any = false) (r : Option (St → Tr × St)) (hr : Rz 31 d r) (h : PS w N d s st) :
    Calls Try.prog 87 #[.pointer (some ⟨N, 0, none⟩)] w (Gives N d s w (Ex.prim r st)) := by
  have hlt := h.lt
  have HP0 := Bx.mk (h.alloc (Obj.cells #[.int .i64 0, .int .i64 0, .int .i64 0, .slice none 0 0] 36))
  have HR0 := Bx.mk (Blk.new w 36 #[.int .i64 0, .int .i64 0, .int .i64 0, .slice none 0 0])
  have HG0 := Bx.mk ((Gb.refl N w).alloc (Obj.cells #[.int .i64 0, .int .i64 0, .int .i64 0, .slice none 0 0] 36))
  obtain ⟨c0, c1, c2, c3, c4, c5, f1, f2, f3, f4, f5⟩ := pb_cells h.blk
  clear c0 c1 c3 c5 f1 f2 f3 f4 f5 h
  have q : (st.e : Int) = 0 := by omega
  have hM0 := fun u (hu : PS u N d s st) => may_st N d .not ({ data := #[33] }) s st u hu enot (by decide) (by decide)
  rw [m0, if_neg (by simp)] at hM0
  have HM0 := Bx.mk hM0
  clear hM0
  have hM1 := fun u (hu : PS u N d s st) => may_st N d .all ({ data := #[97, 108, 108] }) s st u hu eall (by decide) (by decide)
  rw [m1, if_neg (by simp)] at hM1
  have HM1 := Bx.mk hM1
  clear hM1
  have hM2 := fun u (hu : PS u N d s st) => may_st N d .any ({ data := #[97, 110, 121] }) s st u hu eany (by decide) (by decide)
  rw [m2, if_neg (by simp)] at hM2
  have HM2 := Bx.mk hM2
  clear hM2
  have hW := fun u (hu : PS u N d s st) => prim_any N d s st u r hr hu
  have HW := Bx.mk hW
  clear he hW hr m0 m1 m2
  generalize Ex.prim r st = Y at HW ⊢
  go_enter Try.func87, Try.ntmps87
  go_wp2_with fail
  refine (HM0.out _ HP0.out).mono ?_
  rintro e wm0 ⟨rfl, hP0, hG0⟩
  have HP1 := Bx.mk hP0
  have HG1 := Bx.mk (HG0.out.trans hG0)
  have HR1 := Bx.mk (hG0.blk HR0.out (by omega))
  have hz0 := hG0.size
  rw [alloc_size] at hz0
  clear hP0 hG0
  go_wp2_with fail
  refine (HM1.out _ HP1.out).mono ?_
  rintro e wm1 ⟨rfl, hP1, hG1⟩
  have HP2 := Bx.mk hP1
  have HG2 := Bx.mk (HG1.out.trans hG1)
  have HR2 := Bx.mk (hG1.blk HR1.out (by omega))
  have hz1 := hG1.size
  skip
  clear hP1 hG1
  go_wp2_with fail
  refine (HM2.out _ HP2.out).mono ?_
  rintro e wm2 ⟨rfl, hP2, hG2⟩
  have HP3 := Bx.mk hP2
  have HG3 := Bx.mk (HG2.out.trans hG2)
  have HR3 := Bx.mk (hG2.blk HR2.out (by omega))
  have hz2 := hG2.size
  skip
  clear hP2 hG2
  go_wp2_with fail
  refine (HW.out _ HP3.out).mono ?_
  rintro e w3 ⟨sy, rfl, hS5, hP5, hG5⟩
  obtain ⟨py, cy, rfl⟩ := hS5.is
  have hR5 := (hG5.blk HR3.out (by omega))
  have hG6 := (HG3.out.trans hG5)
  have hS6 := (hS5.mono (B' := Ge (w.heap.size + 1)) fun g hg => by unfold Ge at hg ⊢; omega)
  obtain ⟨r0, r1, r2, r3, g0, g1, g2, g3⟩ := cells4 hR5
  have HP6 := Bx.mk hP5
  have HG6 := Bx.mk hG6
  have HR6 := Bx.mk hR5
  have HS6 := Bx.mk hS6
  clear hP5 hG5 hR5 hS5 hG6 hS6
  unfold Ev
  go_wp2_with fail
  clear r0 r1 r2 r3 g0 g1 g2 g3
  have hE := (Blk.own4 HR6.out (.int .i64 Y.1.k) (.int .i64 Y.1.a) (.int .i64 Y.1.v) (.slice py Y.1.kids.len cy))
  obtain ⟨r0, r1, r2, r3, _, _, _, _⟩ := cells4 hE
  refine bodyPost_ret (v := Ev Y.1 (.slice py Y.1.kids.len cy)) (by simp [results, Try.results87, go_sem, r0, r1, r2, r3]; rfl) rfl ?_
  exact ⟨.slice py Y.1.kids.len cy, rfl, (HS6.out.st4 (R := w.heap.size) (fun h => by unfold Ge at h; omega) _ _ _ _).mono (fun g hg => by unfold Ge at hg ⊢; omega), (HP6.out.st4 (R := w.heap.size) (by omega) _ _ _ _), (HG6.out.st4 (Nat.le_refl _) _ _ _ _)⟩

theorem un_any (d : Nat) (ru rf : Option (St → Tr × St)) (hu : Rz 87 d ru) (hf : Rz 31 d rf) : Pz 87 d (Ex.un ru rf) := by
  intro N s st w h
  unfold Ex.un
  by_cases he : st.e = 0
  · rw [if_neg (by rw [he]; simp)]
    cases m0 : st.may .not with
    | true => rw [if_pos rfl]; exact pun_not N d s st w he m0 ru hu h
    | false =>
      rw [if_neg (by simp)]
      cases m1 : st.may .all with
      | true => rw [if_pos rfl]; exact pun_all N d s st w he m0 m1 ru hu h
      | false =>
        rw [if_neg (by simp)]
        cases m2 : st.may .any with
        | true => rw [if_pos rfl]; exact pun_any N d s st w he m0 m1 m2 ru hu h
        | false => rw [if_neg (by simp)]; exact pun_prim N d s st w he m0 m1 m2 rf hf h
  · rw [if_pos he]; exact pun_err N d s st w he h
end Go.Proofs.Ytfgokhafiffbaaa
