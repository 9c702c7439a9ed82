/-
  Formulas: ite.
-/
import Derived.Test.YtfgokhafiffbaaaEx13
namespace Go.Proofs.Ytfgokhafiffbaaa
set_option linter.unusedVariables false
open Go.RowKit

theorem ite_ix0 (w : World) : (Instr.index 49 (.agg #[.string { data := #[40] }, .string { data := #[44] }, .string { data := #[44] }]) (.int .i64 0)).run Try.prog w = .ok (.string { data := #[40] }) w := by kernel_rfl
theorem ite_ix1 (w : World) : (Instr.index 49 (.agg #[.string { data := #[40] }, .string { data := #[44] }, .string { data := #[44] }]) (.int .i64 1)).run Try.prog w = .ok (.string { data := #[44] }) w := by kernel_rfl
theorem ite_ix2 (w : World) : (Instr.index 49 (.agg #[.string { data := #[40] }, .string { data := #[44] }, .string { data := #[44] }]) (.int .i64 2)).run Try.prog w = .ok (.string { data := #[44] }) w := by kernel_rfl
set_option maxHeartbeats 8000000 in
theorem pite_any (N d : Nat) (s : ByteArray) (st : St) (w : World) (at_ : Nat) (r : Option (St → Tr × St)) (hr : Rz 31 d r) (h : PS w N d s st) :
    Calls Try.prog 91 #[.pointer (some ⟨N, 0, none⟩), .int .i64 (at_ : Int)] w (Gives N d s w (Ex.ite r at_ st)) := by
  have hlt := h.lt
  have HI0 : Bx (IT w (w.alloc (Obj.cells #[.int .i64 0, .int .i64 0, .int .i64 0, .slice none 0 0] 36)) N d s st (.slice none 0 0) 0 .nil) := ⟨⟨h.alloc _, (Gb.refl N w).alloc _, Blk.new w 36 #[.int .i64 0, .int .i64 0, .int .i64 0, .slice none 0 0], hlt, rfl, ⟨[], World.ownsRow_nil _ _ _ 4, rfl⟩⟩⟩
  have hW := fun st' u (hu : PS u N d s st') => within_any N d s st' u 31 r (fun _ _ => rfl) hr hu
  have HW := Bx.mk hW
  have e40 : ({ data := #[40] } : ByteArray) = Tok.str .lp := by unfold Tok.str Tok.txt strOf; decide +kernel
  have e41 : ({ data := #[41] } : ByteArray) = Tok.str .rp := by unfold Tok.str Tok.txt strOf; decide +kernel
  have e44 : ({ data := #[44] } : ByteArray) = Tok.str .comma := by unfold Tok.str Tok.txt strOf; decide +kernel
  have E40 := Bx.mk e40
  have E41 := Bx.mk e41
  have E44 := Bx.mk e44
  clear e40 e41 e44 hW hr h
  have i0 := ite_ix0
  have i1 := ite_ix1
  have i2 := ite_ix2
  have HE : Bx (Ex.ite r at_ st = (⟨9, at_, 0, (Ex.within r (st.must .lp)).1.on ((Ex.within r ((Ex.within r (st.must .lp)).2.must .comma)).1.on ((Ex.within r ((Ex.within r ((Ex.within r (st.must .lp)).2.must .comma)).2.must .comma)).1.on .nil))⟩, (Ex.within r ((Ex.within r ((Ex.within r (st.must .lp)).2.must .comma)).2.must .comma)).2.must .rp)) := ⟨rfl⟩
  generalize Ex.ite r at_ st = R at HE ⊢
  go_enter Try.func91, Try.ntmps91
  go_wp2_with fail
  refine wp_loop_rounds 4 ?_
  rw [rounds_succ]
  go_wp2_with fail
  refine (must_st N d .lp _ s _ _ HI0.out.ps E40.out (by decide) (by decide)).mono ?_
  rintro e wm0 ⟨rfl, hPm, hGm⟩
  have HM0 := Bx.mk (HI0.out.step hPm hGm)
  have hWi := HW.out _ _ HM0.out.ps
  clear hPm hGm HI0
  generalize hy0 : Ex.within r (st.must .lp) = Y0 at hWi
  have HY0 := Bx.mk hy0
  clear hy0
  go_wp2_with fail
  refine hWi.mono ?_
  clear hWi
  rintro e wi0 ⟨sy0, rfl, hSy, hPy, hGy⟩
  have hI := HM0.out.step hPy hGy
  have hsz := HM0.out.size
  have hol := fun k (hk : Value.ownBlock (.slice none 0 0) = some k) => HM0.out.own_lt hk
  have hSy' : SlF wi0 (fun g => w.heap.size < g ∧ some g ≠ Value.ownBlock (.slice none 0 0)) sy0 Y0.1.kids := hSy.mono fun g hg => by unfold Ge at hg; exact ⟨by omega, fun e => by have := hol g e.symm; omega⟩
  obtain ⟨py0, cy0, hq0⟩ := hSy.is
  obtain ⟨v1, wa0, hr0, hI'⟩ := hI.app (by omega) Y0.1 sy0 hSy' 1 34
  have HI1 := Bx.mk hI'
  clear hI hSy' hSy hPy hGy hI' hol HM0
  subst hq0
  unfold Ev
  go_wp2_with (refine wpList_app _ _ _ _ hr0 rfl rfl rfl rfl ?_)
  rw [rounds_succ]
  go_wp2_with fail
  refine (must_st N d .comma _ s _ _ HI1.out.ps E44.out (by decide) (by decide)).mono ?_
  rintro e wm1 ⟨rfl, hPm, hGm⟩
  have HM1 := Bx.mk (HI1.out.step hPm hGm)
  have hWi := HW.out _ _ HM1.out.ps
  clear hPm hGm HI1
  generalize hy1 : Ex.within r (Y0.2.must .comma) = Y1 at hWi
  have HY1 := Bx.mk hy1
  clear hy1
  go_wp2_with fail
  refine hWi.mono ?_
  clear hWi
  rintro e wi1 ⟨sy1, rfl, hSy, hPy, hGy⟩
  have hI := HM1.out.step hPy hGy
  have hsz := HM1.out.size
  have hol := fun k (hk : Value.ownBlock v1 = some k) => HM1.out.own_lt hk
  have hSy' : SlF wi1 (fun g => w.heap.size < g ∧ some g ≠ Value.ownBlock v1) sy1 Y1.1.kids := hSy.mono fun g hg => by unfold Ge at hg; exact ⟨by omega, fun e => by have := hol g e.symm; omega⟩
  obtain ⟨py1, cy1, hq1⟩ := hSy.is
  obtain ⟨v2, wa1, hr1, hI'⟩ := hI.app (by omega) Y1.1 sy1 hSy' 1 34
  have HI2 := Bx.mk hI'
  clear hI hSy' hSy hPy hGy hI' hol HM1
  subst hq1
  unfold Ev
  go_wp2_with (refine wpList_app _ _ _ _ hr1 rfl rfl rfl rfl ?_)
  rw [rounds_succ]
  go_wp2_with fail
  refine (must_st N d .comma _ s _ _ HI2.out.ps E44.out (by decide) (by decide)).mono ?_
  rintro e wm2 ⟨rfl, hPm, hGm⟩
  have HM2 := Bx.mk (HI2.out.step hPm hGm)
  have hWi := HW.out _ _ HM2.out.ps
  clear hPm hGm HI2
  generalize hy2 : Ex.within r (Y1.2.must .comma) = Y2 at hWi
  have HY2 := Bx.mk hy2
  clear hy2
  go_wp2_with fail
  refine hWi.mono ?_
  clear hWi
  rintro e wi2 ⟨sy2, rfl, hSy, hPy, hGy⟩
  have hI := HM2.out.step hPy hGy
  have hsz := HM2.out.size
  have hol := fun k (hk : Value.ownBlock v2 = some k) => HM2.out.own_lt hk
  have hSy' : SlF wi2 (fun g => w.heap.size < g ∧ some g ≠ Value.ownBlock v2) sy2 Y2.1.kids := hSy.mono fun g hg => by unfold Ge at hg; exact ⟨by omega, fun e => by have := hol g e.symm; omega⟩
  obtain ⟨py2, cy2, hq2⟩ := hSy.is
  obtain ⟨v3, wa2, hr2, hI'⟩ := hI.app (by omega) Y2.1 sy2 hSy' 1 34
  have HI3 := Bx.mk hI'
  clear hI hSy' hSy hPy hGy hI' hol HM2
  subst hq2
  unfold Ev
  go_wp2_with (refine wpList_app _ _ _ _ hr2 rfl rfl rfl rfl ?_)
  rw [rounds_succ]
  go_wp2_with fail
  refine (must_st N d .rp _ s _ _ HI3.out.ps E41.out (by decide) (by decide)).mono ?_
  rintro e w4 ⟨rfl, hP4, hG4⟩
  have hI4 := HI3.out.step hP4 hG4
  obtain ⟨L, ho, hF⟩ := hI4.own
  have hS4 := own_slf (B := fun g => w.heap.size < g) ho (hF.mono' fun g _ hB => hB.1) (fun k hk => (hI4.own_lt hk).1)
  obtain ⟨pv, cv, hv⟩ := hS4.is
  obtain ⟨r0, r1, r2, r3, g0, g1, g2, g3⟩ := cells4 hI4.res
  have HI4 := Bx.mk hI4
  have HS4 := Bx.mk hS4
  clear hI4 hS4 hP4 hG4 ho hF
  subst hv
  go_wp2_with fail
  have hE := Blk.own4 HI4.out.res (.int .i64 9) (.int .i64 (at_ : Int)) (.int .i64 0) (.slice pv (((Fo.nil.app (Y0.1.on .nil)).app (Y1.1.on .nil)).app (Y2.1.on .nil)).len cv)
  clear r0 r1 r2 r3 g0 g1 g2 g3
  obtain ⟨r0, r1, r2, r3, _, _, _, _⟩ := cells4 hE
  refine bodyPost_ret (v := Ev (⟨9, at_, 0, ((Fo.nil.app (Y0.1.on .nil)).app (Y1.1.on .nil)).app (Y2.1.on .nil)⟩ : Tr) (.slice pv (((Fo.nil.app (Y0.1.on .nil)).app (Y1.1.on .nil)).app (Y2.1.on .nil)).len cv)) (by simp [results, Try.results91, go_sem, r0, r1, r2, r3]; rfl) rfl ?_
  rw [HE.out, HY0.out, HY1.out, HY2.out]
  exact ⟨.slice pv (((Fo.nil.app (Y0.1.on .nil)).app (Y1.1.on .nil)).app (Y2.1.on .nil)).len cv, rfl, (HS4.out.st4 (R := w.heap.size) (fun h => by omega) _ _ _ _).mono (B' := Ge w.heap.size) (fun g hg => by unfold Ge; omega), HI4.out.ps.st4 (R := w.heap.size) (by omega) _ _ _ _, HI4.out.gb.st4 (Nat.le_refl _) _ _ _ _⟩
end Go.Proofs.Ytfgokhafiffbaaa
