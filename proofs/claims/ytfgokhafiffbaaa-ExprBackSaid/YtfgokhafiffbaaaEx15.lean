/-
  Formulas: prim.
-/
import Derived.Test.YtfgokhafiffbaaaEx14
namespace Go.Proofs.Ytfgokhafiffbaaa
set_option linter.unusedVariables false
open Go.RowKit
theorem tok_cells {w : World} {g : Nat} {s : ByteArray} {a : Int} (h : Blk w g 60 #[.string s, .int .i64 a]) : w.cell? ⟨g, 0, none⟩ = some (.string s) ∧ w.cell? ⟨g, 1, none⟩ = some (.int .i64 a) := ⟨h.cell 0, h.cell 1⟩
theorem Tok.zero_at : (bl (Tok.zero).str)[0]? = some 48 := by rw [Tok.bl_str]; unfold Tok.txt; rfl
theorem Tok.one_at : (bl (Tok.one).str)[0]? = some 49 := by rw [Tok.bl_str]; unfold Tok.txt; rfl
theorem ba_of {b : ByteArray} {t : Tok} (h : bl b = t.txt) : b = t.str := bl_inj (by rw [Tok.bl_str, h])
theorem e48 : ({ data := #[48] } : ByteArray) = Tok.str .zero := by unfold Tok.str Tok.txt strOf; decide +kernel
theorem e49 : ({ data := #[49] } : ByteArray) = Tok.str .one := by unfold Tok.str Tok.txt strOf; decide +kernel
theorem e40 : ({ data := #[40] } : ByteArray) = Tok.str .lp := by unfold Tok.str Tok.txt strOf; decide +kernel
theorem e41 : ({ data := #[41] } : ByteArray) = Tok.str .rp := by unfold Tok.str Tok.txt strOf; decide +kernel
theorem eite : ({ data := #[105, 116, 101] } : ByteArray) = Tok.str .ite := by unfold Tok.str Tok.txt strOf; decide +kernel
theorem eall : ({ data := #[97, 108, 108] } : ByteArray) = Tok.str .all := by unfold Tok.str Tok.txt strOf; decide +kernel
theorem eany : ({ data := #[97, 110, 121] } : ByteArray) = Tok.str .any := by unfold Tok.str Tok.txt strOf; decide +kernel
theorem enot : ({ data := #[33] } : ByteArray) = Tok.str .not := by unfold Tok.str Tok.txt strOf; decide +kernel
/-- a sign against a constant text, in the walk's own forms -/
theorem tok_isnt (t u : Tok) (l : List UInt8) (hu : ({ data := l.toArray } : ByteArray) = Tok.str u) (h : t ≠ u) : ¬ t.str.toList = l ∧ (t.str.toList == l) = false := by
  have hx : ¬ t.str.toList = l := fun e => by
    have e2 : bl t.str = bl u.str := by
      rw [← hu, show bl ({ data := l.toArray } : ByteArray) = l.map UInt8.toNat from bl_mk l]
      unfold bl
      rw [← ByteArray.toList_eq, e]
    rw [Tok.bl_str, Tok.bl_str] at e2
    exact h (Tok.txt_inj e2)
  exact ⟨hx, beq_eq_false_iff_ne.2 hx⟩

set_option maxHeartbeats 8000000 in
theorem prim_var (N d : Nat) (s : ByteArray) (st : St) (w : World) (n : Fin 8) (hn : st.now = .var n) (h : PS w N d s st) :
    Calls Try.prog 89 #[.pointer (some ⟨N, 0, none⟩)] w (Gives N d s w (⟨1, st.at_, n.val, .nil⟩, st.goes)) := by
  have hlt := h.lt
  have HP0 := Bx.mk ((h.alloc (Obj.cells #[.int .i64 0, .int .i64 0, .int .i64 0, .slice none 0 0] 36)).alloc (Obj.cells #[.string st.now.str, .int .i64 (st.at_ : Int)] 60))
  have HR0 := Bx.mk ((Blk.new w 36 #[.int .i64 0, .int .i64 0, .int .i64 0, .slice none 0 0]).alloc (Obj.cells #[.string st.now.str, .int .i64 (st.at_ : Int)] 60))
  have HG0 := Bx.mk (((Gb.refl N w).alloc (Obj.cells #[.int .i64 0, .int .i64 0, .int .i64 0, .slice none 0 0] 36)).alloc (Obj.cells #[.string st.now.str, .int .i64 (st.at_ : Int)] 60))
  have ht0 := Blk.new (w.alloc (Obj.cells #[.int .i64 0, .int .i64 0, .int .i64 0, .slice none 0 0] 36)) 60 #[.string st.now.str, .int .i64 (st.at_ : Int)]
  rw [alloc_size] at ht0
  have HT0 := Bx.mk ht0
  obtain ⟨c0, c1, c2, c3, c4, c5, f1, f2, f3, f4, f5⟩ := pb_cells h.blk
  have hV := variable_any st.now.str
  rw [Tok.bl_str] at hV
  clear c0 c3 c4 c5 f1 f2 f3 f4 f5 h ht0

  rw [hn, Lx.vr_var] at hV
  have hT := run_idx1 (Tok.var_at n)
  have hn8 := n.isLt
  have hw1 : IntKind.u8.wrap (48 + (n.val : Int) - 48) = (n.val : Int) := by rw [IntKind.wrap_u8]; omega
  have hw2 : IntKind.i64.wrap (n.val : Int) = (n.val : Int) := by rw [IntKind.wrap_i64]; omega

  have HGo := Bx.mk (goes_st N d s st _ HP0.out (by rw [hn]; simp) (by rw [hn]; simp))
  have HV := Bx.mk hV
  have HN := Bx.mk hn
  rw [hn] at c1
  clear hV
  go_enter Try.func89, Try.ntmps89
  go_wp2_with fail
  refine (HV.out _).mono ?_
  rintro e w1 ⟨rfl, rfl⟩
  go_wp2_with fail
  rw [← HN.out]
  refine HGo.out.mono ?_
  rintro e w2 ⟨rfl, hP4, hG4⟩
  have hR4 := hG4.blk HR0.out (by omega)
  have hT4 := hG4.blk HT0.out (by omega)
  obtain ⟨t0, t1⟩ := tok_cells hT4
  obtain ⟨r0, r1, r2, r3, g0, g1, g2, g3⟩ := cells4 hR4
  rw [HN.out] at t0
  have HP4 := Bx.mk hP4
  have HG4 := Bx.mk hG4
  have HR4 := Bx.mk hR4
  clear hP4 hG4 hR4 hT4 c1 c2
  go_wp2_with fail
  go_still_tail 8, (by kernel_rfl)
  go_wp2_with fail
  clear r0 r1 r2 r3 g0 g1 g2 g3
  have hE := (Blk.own4 HR4.out (.int .i64 1) (.int .i64 (st.at_ : Int)) (.int .i64 n.val) (.slice none 0 0)).drew
  obtain ⟨r0, r1, r2, r3, _, _, _, _⟩ := cells4 hE
  refine bodyPost_ret (v := Ev (⟨1, st.at_, n.val, .nil⟩ : Tr) (.slice none 0 0)) (by simp [results, Try.results89, go_sem, r0, r1, r2, r3]; rfl) rfl ?_
  exact ⟨.slice none 0 0, rfl, SlF.nil _ _, (HP4.out.st4 (R := w.heap.size) (by omega) _ _ _ _).drew, ((HG0.out.trans HG4.out).st4 (Nat.le_refl _) _ _ _ _).drew⟩

set_option maxHeartbeats 8000000 in
theorem prim_zero (N d : Nat) (s : ByteArray) (st : St) (w : World) (hn : st.now = .zero) (h : PS w N d s st) :
    Calls Try.prog 89 #[.pointer (some ⟨N, 0, none⟩)] w (Gives N d s w (⟨2, st.at_, 0, .nil⟩, st.goes)) := by
  have hlt := h.lt
  have HP0 := Bx.mk ((h.alloc (Obj.cells #[.int .i64 0, .int .i64 0, .int .i64 0, .slice none 0 0] 36)).alloc (Obj.cells #[.string st.now.str, .int .i64 (st.at_ : Int)] 60))
  have HR0 := Bx.mk ((Blk.new w 36 #[.int .i64 0, .int .i64 0, .int .i64 0, .slice none 0 0]).alloc (Obj.cells #[.string st.now.str, .int .i64 (st.at_ : Int)] 60))
  have HG0 := Bx.mk (((Gb.refl N w).alloc (Obj.cells #[.int .i64 0, .int .i64 0, .int .i64 0, .slice none 0 0] 36)).alloc (Obj.cells #[.string st.now.str, .int .i64 (st.at_ : Int)] 60))
  have ht0 := Blk.new (w.alloc (Obj.cells #[.int .i64 0, .int .i64 0, .int .i64 0, .slice none 0 0] 36)) 60 #[.string st.now.str, .int .i64 (st.at_ : Int)]
  rw [alloc_size] at ht0
  have HT0 := Bx.mk ht0
  obtain ⟨c0, c1, c2, c3, c4, c5, f1, f2, f3, f4, f5⟩ := pb_cells h.blk
  have hV := variable_any st.now.str
  rw [Tok.bl_str] at hV
  clear c0 c3 c4 c5 f1 f2 f3 f4 f5 h ht0

  rw [hn, Lx.vr_not .zero (by intro n; simp)] at hV
  have hT := run_idx0 (Tok.zero_at)
  have z48 : (Tok.str .zero).toList = 48 :: [] := by rw [Tok.str, show (Tok.zero).txt = [48] from by unfold Tok.txt; rfl]; unfold strOf; decide +kernel

  have HGo := Bx.mk (goes_st N d s st _ HP0.out (by rw [hn]; simp) (by rw [hn]; simp))
  have HV := Bx.mk hV
  have HN := Bx.mk hn
  rw [hn] at c1
  clear hV
  go_enter Try.func89, Try.ntmps89
  go_wp2_with fail
  refine (HV.out _).mono ?_
  rintro e w1 ⟨rfl, rfl⟩
  go_wp2_with fail
  rw [← HN.out]
  refine HGo.out.mono ?_
  rintro e w2 ⟨rfl, hP4, hG4⟩
  have hR4 := hG4.blk HR0.out (by omega)
  have hT4 := hG4.blk HT0.out (by omega)
  obtain ⟨t0, t1⟩ := tok_cells hT4
  obtain ⟨r0, r1, r2, r3, g0, g1, g2, g3⟩ := cells4 hR4
  rw [HN.out] at t0
  have HP4 := Bx.mk hP4
  have HG4 := Bx.mk hG4
  have HR4 := Bx.mk hR4
  clear hP4 hG4 hR4 hT4 c1 c2
  go_wp2_with fail
  go_still_tail 8, (by kernel_rfl)
  go_wp2_with fail
  clear r0 r1 r2 r3 g0 g1 g2 g3
  have hE := (Blk.own4 HR4.out (.int .i64 2) (.int .i64 (st.at_ : Int)) (.int .i64 0) (.slice none 0 0)).drew
  obtain ⟨r0, r1, r2, r3, _, _, _, _⟩ := cells4 hE
  refine bodyPost_ret (v := Ev (⟨2, st.at_, 0, .nil⟩ : Tr) (.slice none 0 0)) (by simp [results, Try.results89, go_sem, r0, r1, r2, r3]; rfl) rfl ?_
  exact ⟨.slice none 0 0, rfl, SlF.nil _ _, (HP4.out.st4 (R := w.heap.size) (by omega) _ _ _ _).drew, ((HG0.out.trans HG4.out).st4 (Nat.le_refl _) _ _ _ _).drew⟩

set_option maxHeartbeats 8000000 in
theorem prim_one (N d : Nat) (s : ByteArray) (st : St) (w : World) (hn : st.now = .one) (h : PS w N d s st) :
    Calls Try.prog 89 #[.pointer (some ⟨N, 0, none⟩)] w (Gives N d s w (⟨2, st.at_, 1, .nil⟩, st.goes)) := by
  have hlt := h.lt
  have HP0 := Bx.mk ((h.alloc (Obj.cells #[.int .i64 0, .int .i64 0, .int .i64 0, .slice none 0 0] 36)).alloc (Obj.cells #[.string st.now.str, .int .i64 (st.at_ : Int)] 60))
  have HR0 := Bx.mk ((Blk.new w 36 #[.int .i64 0, .int .i64 0, .int .i64 0, .slice none 0 0]).alloc (Obj.cells #[.string st.now.str, .int .i64 (st.at_ : Int)] 60))
  have HG0 := Bx.mk (((Gb.refl N w).alloc (Obj.cells #[.int .i64 0, .int .i64 0, .int .i64 0, .slice none 0 0] 36)).alloc (Obj.cells #[.string st.now.str, .int .i64 (st.at_ : Int)] 60))
  have ht0 := Blk.new (w.alloc (Obj.cells #[.int .i64 0, .int .i64 0, .int .i64 0, .slice none 0 0] 36)) 60 #[.string st.now.str, .int .i64 (st.at_ : Int)]
  rw [alloc_size] at ht0
  have HT0 := Bx.mk ht0
  obtain ⟨c0, c1, c2, c3, c4, c5, f1, f2, f3, f4, f5⟩ := pb_cells h.blk
  have hV := variable_any st.now.str
  rw [Tok.bl_str] at hV
  clear c0 c3 c4 c5 f1 f2 f3 f4 f5 h ht0

  rw [hn, Lx.vr_not .one (by intro n; simp)] at hV
  have hT := run_idx0 (Tok.one_at)
  have z48 : (Tok.str .one).toList = 49 :: [] := by rw [Tok.str, show (Tok.one).txt = [49] from by unfold Tok.txt; rfl]; unfold strOf; decide +kernel

  have HGo := Bx.mk (goes_st N d s st _ HP0.out (by rw [hn]; simp) (by rw [hn]; simp))
  have HV := Bx.mk hV
  have HN := Bx.mk hn
  rw [hn] at c1
  clear hV
  go_enter Try.func89, Try.ntmps89
  go_wp2_with fail
  refine (HV.out _).mono ?_
  rintro e w1 ⟨rfl, rfl⟩
  go_wp2_with fail
  rw [← HN.out]
  refine HGo.out.mono ?_
  rintro e w2 ⟨rfl, hP4, hG4⟩
  have hR4 := hG4.blk HR0.out (by omega)
  have hT4 := hG4.blk HT0.out (by omega)
  obtain ⟨t0, t1⟩ := tok_cells hT4
  obtain ⟨r0, r1, r2, r3, g0, g1, g2, g3⟩ := cells4 hR4
  rw [HN.out] at t0
  have HP4 := Bx.mk hP4
  have HG4 := Bx.mk hG4
  have HR4 := Bx.mk hR4
  clear hP4 hG4 hR4 hT4 c1 c2
  go_wp2_with fail
  go_still_tail 8, (by kernel_rfl)
  go_wp2_with fail
  clear r0 r1 r2 r3 g0 g1 g2 g3
  have hE := (Blk.own4 HR4.out (.int .i64 2) (.int .i64 (st.at_ : Int)) (.int .i64 1) (.slice none 0 0)).drew
  obtain ⟨r0, r1, r2, r3, _, _, _, _⟩ := cells4 hE
  refine bodyPost_ret (v := Ev (⟨2, st.at_, 1, .nil⟩ : Tr) (.slice none 0 0)) (by simp [results, Try.results89, go_sem, r0, r1, r2, r3]; rfl) rfl ?_
  exact ⟨.slice none 0 0, rfl, SlF.nil _ _, (HP4.out.st4 (R := w.heap.size) (by omega) _ _ _ _).drew, ((HG0.out.trans HG4.out).st4 (Nat.le_refl _) _ _ _ _).drew⟩

set_option maxHeartbeats 8000000 in
theorem prim_lp (N d : Nat) (s : ByteArray) (st : St) (w : World) (hv : ∀ n, st.now ≠ .var n) (hz : st.now ≠ .zero) (ho : st.now ≠ .one) (r : Option (St → Tr × St)) (hr : Rz 31 d r) (hm : st.may .lp = true) (h : PS w N d s st) :
    Calls Try.prog 89 #[.pointer (some ⟨N, 0, none⟩)] w (Gives N d s w ((Ex.within r st.goes).1, (Ex.within r st.goes).2.must .rp)) := by
  have hlt := h.lt
  have HP0 := Bx.mk ((h.alloc (Obj.cells #[.int .i64 0, .int .i64 0, .int .i64 0, .slice none 0 0] 36)).alloc (Obj.cells #[.string st.now.str, .int .i64 (st.at_ : Int)] 60))
  have HR0 := Bx.mk ((Blk.new w 36 #[.int .i64 0, .int .i64 0, .int .i64 0, .slice none 0 0]).alloc (Obj.cells #[.string st.now.str, .int .i64 (st.at_ : Int)] 60))
  have HG0 := Bx.mk (((Gb.refl N w).alloc (Obj.cells #[.int .i64 0, .int .i64 0, .int .i64 0, .slice none 0 0] 36)).alloc (Obj.cells #[.string st.now.str, .int .i64 (st.at_ : Int)] 60))
  have ht0 := Blk.new (w.alloc (Obj.cells #[.int .i64 0, .int .i64 0, .int .i64 0, .slice none 0 0] 36)) 60 #[.string st.now.str, .int .i64 (st.at_ : Int)]
  rw [alloc_size] at ht0
  have HT0 := Bx.mk ht0
  obtain ⟨c0, c1, c2, c3, c4, c5, f1, f2, f3, f4, f5⟩ := pb_cells h.blk
  have hV := variable_any st.now.str
  rw [Tok.bl_str] at hV
  clear c0 c3 c4 c5 f1 f2 f3 f4 f5 h ht0

  rw [Lx.vr_not _ hv] at hV
  have HV := Bx.mk hV
  have k0 := tok_isnt st.now .zero [48] e48 hz
  have k1 := tok_isnt st.now .one [49] e49 ho
  obtain ⟨k00, k01⟩ := k0
  obtain ⟨k10, k11⟩ := k1
  have hM := may_st N d .lp ({ data := #[40] }) s _ _ HP0.out e40 (by decide) (by decide)
  rw [hm, if_pos rfl] at hM
  have HM := Bx.mk hM
  have hW := fun u (hu : PS u N d s st.goes) => within_any N d s st.goes u 31 r (fun _ _ => rfl) hr hu
  have HW := Bx.mk hW
  clear hV hM hW hr
  generalize Ex.within r st.goes = Y at HW ⊢
  go_enter Try.func89, Try.ntmps89
  go_wp2_with fail
  refine (HV.out _).mono ?_
  rintro e w1 ⟨rfl, rfl⟩
  go_wp2_with fail
  refine HM.out.mono ?_
  rintro e w2 ⟨rfl, hP4, hG4⟩
  have hR4 := hG4.blk HR0.out (by omega)
  have hz4 := hG4.size
  rw [alloc_size, alloc_size] at hz4
  have hW4 := HW.out _ hP4
  have HG4 := Bx.mk hG4
  clear hP4 hG4
  go_wp2_with fail
  refine hW4.mono ?_
  clear hW4
  rintro e w3 ⟨sy, rfl, hS5, hP5, hG5⟩
  obtain ⟨py, cy, rfl⟩ := hS5.is
  have hz5 := hG5.size
  have hR5 := (hG5.blk hR4 (by omega)).alloc (Obj.cells #[.int .i64 Y.1.k, .int .i64 Y.1.a, .int .i64 Y.1.v, .slice py Y.1.kids.len cy] 36)
  have hX5 := Blk.new w3 36 #[.int .i64 Y.1.k, .int .i64 Y.1.a, .int .i64 Y.1.v, .slice py Y.1.kids.len cy]
  have hP6 := hP5.alloc (Obj.cells #[.int .i64 Y.1.k, .int .i64 Y.1.a, .int .i64 Y.1.v, .slice py Y.1.kids.len cy] 36)
  have hG6 := (hG5.alloc (Obj.cells #[.int .i64 Y.1.k, .int .i64 Y.1.a, .int .i64 Y.1.v, .slice py Y.1.kids.len cy] 36))
  have hS6 := (hS5.mono (B' := Ge (w.heap.size + 1)) fun g hg => by unfold Ge at hg ⊢; omega).alloc (Obj.cells #[.int .i64 Y.1.k, .int .i64 Y.1.a, .int .i64 Y.1.v, .slice py Y.1.kids.len cy] 36)
  have hM2 := must_st N d .rp ({ data := #[41] }) s _ _ hP6 e41 (by decide) (by decide)
  have HM2 := Bx.mk hM2
  have HR5 := Bx.mk hR5
  have HX5 := Bx.mk hX5
  have HG6 := Bx.mk hG6
  have HS6 := Bx.mk hS6
  clear hM2 hR5 hX5 hG6 hS6 hP6 hP5 hS5 hG5 hR4
  unfold Ev
  go_wp2_with fail
  refine HM2.out.mono ?_
  rintro e w5 ⟨rfl, hP7, hG7⟩
  have hR7 := hG7.blk HR5.out (by omega)
  have hX7 := hG7.blk HX5.out (by omega)
  obtain ⟨o0, o1, o2, o3, _, _, _, _⟩ := cells4 hX7
  obtain ⟨r0, r1, r2, r3, g0, g1, g2, g3⟩ := cells4 hR7
  have HP7 := Bx.mk hP7
  have HG7 := Bx.mk hG7
  have HR7 := Bx.mk hR7
  clear hP7 hG7 hR7 hX7
  go_wp2_with fail
  clear r0 r1 r2 r3 g0 g1 g2 g3
  have hE := (Blk.own4 HR7.out (.int .i64 Y.1.k) (.int .i64 Y.1.a) (.int .i64 Y.1.v) (.slice py Y.1.kids.len cy))
  obtain ⟨r0, r1, r2, r3, _, _, _, _⟩ := cells4 hE
  refine bodyPost_ret (v := Ev Y.1 (.slice py Y.1.kids.len cy)) (by simp [results, Try.results89, go_sem, r0, r1, r2, r3]; rfl) rfl ?_
  exact ⟨.slice py Y.1.kids.len cy, rfl, ((HS6.out.gbs (fun h => by unfold Ge at h; omega) HG7.out).st4 (R := w.heap.size) (fun h => by unfold Ge at h; omega) _ _ _ _).mono (fun g hg => by unfold Ge at hg ⊢; omega), (HP7.out.st4 (R := w.heap.size) (by omega) _ _ _ _), ((HG0.out.trans (HG4.out.trans (HG6.out.trans HG7.out))).st4 (Nat.le_refl _) _ _ _ _)⟩

set_option maxHeartbeats 8000000 in
theorem prim_ite (N d : Nat) (s : ByteArray) (st : St) (w : World) (hv : ∀ n, st.now ≠ .var n) (hz : st.now ≠ .zero) (ho : st.now ≠ .one) (r : Option (St → Tr × St)) (hr : Rz 31 d r) (hm : st.may .lp = false) (hi : st.may .ite = true) (h : PS w N d s st) :
    Calls Try.prog 89 #[.pointer (some ⟨N, 0, none⟩)] w (Gives N d s w (Ex.ite r st.at_ st.goes)) := by
  have hlt := h.lt
  have HP0 := Bx.mk ((h.alloc (Obj.cells #[.int .i64 0, .int .i64 0, .int .i64 0, .slice none 0 0] 36)).alloc (Obj.cells #[.string st.now.str, .int .i64 (st.at_ : Int)] 60))
  have HR0 := Bx.mk ((Blk.new w 36 #[.int .i64 0, .int .i64 0, .int .i64 0, .slice none 0 0]).alloc (Obj.cells #[.string st.now.str, .int .i64 (st.at_ : Int)] 60))
  have HG0 := Bx.mk (((Gb.refl N w).alloc (Obj.cells #[.int .i64 0, .int .i64 0, .int .i64 0, .slice none 0 0] 36)).alloc (Obj.cells #[.string st.now.str, .int .i64 (st.at_ : Int)] 60))
  have ht0 := Blk.new (w.alloc (Obj.cells #[.int .i64 0, .int .i64 0, .int .i64 0, .slice none 0 0] 36)) 60 #[.string st.now.str, .int .i64 (st.at_ : Int)]
  rw [alloc_size] at ht0
  have HT0 := Bx.mk ht0
  obtain ⟨c0, c1, c2, c3, c4, c5, f1, f2, f3, f4, f5⟩ := pb_cells h.blk
  have hV := variable_any st.now.str
  rw [Tok.bl_str] at hV
  clear c0 c3 c4 c5 f1 f2 f3 f4 f5 h ht0

  rw [Lx.vr_not _ hv] at hV
  have HV := Bx.mk hV
  have k0 := tok_isnt st.now .zero [48] e48 hz
  have k1 := tok_isnt st.now .one [49] e49 ho
  obtain ⟨k00, k01⟩ := k0
  obtain ⟨k10, k11⟩ := k1
  have hM := may_st N d .lp ({ data := #[40] }) s _ _ HP0.out e40 (by decide) (by decide)
  rw [hm, if_neg (by simp)] at hM
  have HM := Bx.mk hM
  have hM2 := fun u (hu : PS u N d s st) => may_st N d .ite ({ data := #[105, 116, 101] }) s st u hu eite (by decide) (by decide)
  rw [hi, if_pos rfl] at hM2
  have HM2 := Bx.mk hM2
  have hW := fun u (hu : PS u N d s st.goes) => pite_any N d s st.goes u st.at_ r hr hu
  have HW := Bx.mk hW
  clear hV hM hW hr hM2
  generalize Ex.ite r st.at_ st.goes = Y at HW ⊢
  go_enter Try.func89, Try.ntmps89
  go_wp2_with fail
  refine (HV.out _).mono ?_
  rintro e w1 ⟨rfl, rfl⟩
  go_wp2_with fail
  refine HM.out.mono ?_
  rintro e w2 ⟨rfl, hP4, hG4⟩
  have hR4 := hG4.blk HR0.out (by omega)
  have hz4 := hG4.size
  rw [alloc_size, alloc_size] at hz4
  have hM4 := HM2.out _ hP4
  have HG4 := Bx.mk hG4
  have hT4 := hG4.blk HT0.out (by omega)
  clear hP4 hG4
  go_wp2_with fail
  refine hM4.mono ?_
  clear hM4
  rintro e w3 ⟨rfl, hP5, hG5⟩
  have hz5 := hG5.size
  have hR5 := (hG5.blk hR4 (by omega))
  have hT5 := (hG5.blk hT4 (by omega))
  obtain ⟨t0, t1⟩ := tok_cells hT5
  have hW5 := HW.out _ hP5
  have HG5 := Bx.mk hG5
  have HR5 := Bx.mk hR5
  clear hR4 hT4 hP5 hG5 hR5 hT5
  go_wp2_with fail
  refine hW5.mono ?_
  clear hW5
  rintro e w4 ⟨sy, rfl, hS6, hP6, hG6⟩
  obtain ⟨py, cy, rfl⟩ := hS6.is
  have hR6 := hG6.blk HR5.out (by omega)
  have hS7 := hS6.mono (B' := Ge (w.heap.size + 1)) fun g hg => by unfold Ge at hg ⊢; omega
  obtain ⟨r0, r1, r2, r3, g0, g1, g2, g3⟩ := cells4 hR6
  have HP6 := Bx.mk hP6
  have HG6 := Bx.mk hG6
  have HR6 := Bx.mk hR6
  have HS7 := Bx.mk hS7
  clear hP6 hG6 hR6 hS6 hS7
  unfold Ev
  go_wp2_with fail
  clear r0 r1 r2 r3 g0 g1 g2 g3
  have hE := (Blk.own4 HR6.out (.int .i64 Y.1.k) (.int .i64 Y.1.a) (.int .i64 Y.1.v) (.slice py Y.1.kids.len cy))
  obtain ⟨r0, r1, r2, r3, _, _, _, _⟩ := cells4 hE
  refine bodyPost_ret (v := Ev Y.1 (.slice py Y.1.kids.len cy)) (by simp [results, Try.results89, go_sem, r0, r1, r2, r3]; rfl) rfl ?_
  exact ⟨.slice py Y.1.kids.len cy, rfl, (HS7.out.st4 (R := w.heap.size) (fun h => by unfold Ge at h; omega) _ _ _ _).mono (fun g hg => by unfold Ge at hg ⊢; omega), (HP6.out.st4 (R := w.heap.size) (by omega) _ _ _ _), ((HG0.out.trans (HG4.out.trans (HG5.out.trans HG6.out))).st4 (Nat.le_refl _) _ _ _ _)⟩

set_option maxHeartbeats 8000000 in
theorem prim_no (N d : Nat) (s : ByteArray) (st : St) (w : World) (hv : ∀ n, st.now ≠ .var n) (hz : st.now ≠ .zero) (ho : st.now ≠ .one) (hm : st.may .lp = false) (hi : st.may .ite = false) (h : PS w N d s st) :
    Calls Try.prog 89 #[.pointer (some ⟨N, 0, none⟩)] w (Gives N d s w (Tr.zero, st.bad 230)) := by
  have hlt := h.lt
  have HP0 := Bx.mk ((h.alloc (Obj.cells #[.int .i64 0, .int .i64 0, .int .i64 0, .slice none 0 0] 36)).alloc (Obj.cells #[.string st.now.str, .int .i64 (st.at_ : Int)] 60))
  have HR0 := Bx.mk ((Blk.new w 36 #[.int .i64 0, .int .i64 0, .int .i64 0, .slice none 0 0]).alloc (Obj.cells #[.string st.now.str, .int .i64 (st.at_ : Int)] 60))
  have HG0 := Bx.mk (((Gb.refl N w).alloc (Obj.cells #[.int .i64 0, .int .i64 0, .int .i64 0, .slice none 0 0] 36)).alloc (Obj.cells #[.string st.now.str, .int .i64 (st.at_ : Int)] 60))
  have ht0 := Blk.new (w.alloc (Obj.cells #[.int .i64 0, .int .i64 0, .int .i64 0, .slice none 0 0] 36)) 60 #[.string st.now.str, .int .i64 (st.at_ : Int)]
  rw [alloc_size] at ht0
  have HT0 := Bx.mk ht0
  obtain ⟨c0, c1, c2, c3, c4, c5, f1, f2, f3, f4, f5⟩ := pb_cells h.blk
  have hV := variable_any st.now.str
  rw [Tok.bl_str] at hV
  clear c0 c3 c4 c5 f1 f2 f3 f4 f5 h ht0

  rw [Lx.vr_not _ hv] at hV
  have HV := Bx.mk hV
  have k0 := tok_isnt st.now .zero [48] e48 hz
  have k1 := tok_isnt st.now .one [49] e49 ho
  obtain ⟨k00, k01⟩ := k0
  obtain ⟨k10, k11⟩ := k1
  have hM := may_st N d .lp ({ data := #[40] }) s _ _ HP0.out e40 (by decide) (by decide)
  rw [hm, if_neg (by simp)] at hM
  have HM := Bx.mk hM
  have hM2 := fun u (hu : PS u N d s st) => may_st N d .ite ({ data := #[105, 116, 101] }) s st u hu eite (by decide) (by decide)
  rw [hi, if_neg (by simp)] at hM2
  have HM2 := Bx.mk hM2
  clear hV hM hM2
  go_enter Try.func89, Try.ntmps89
  go_wp2_with fail
  refine (HV.out _).mono ?_
  rintro e w1 ⟨rfl, rfl⟩
  go_wp2_with fail
  refine HM.out.mono ?_
  rintro e w2 ⟨rfl, hP4, hG4⟩
  have hR4 := hG4.blk HR0.out (by omega)
  have hz4 := hG4.size
  rw [alloc_size, alloc_size] at hz4
  have hM4 := HM2.out _ hP4
  have HG4 := Bx.mk hG4
  clear hP4 hG4
  go_wp2_with fail
  refine hM4.mono ?_
  clear hM4
  rintro e w3 ⟨rfl, hP5, hG5⟩
  have hz5 := hG5.size
  have hR5 := (hG5.blk hR4 (by omega))
  have hW5 := bad_st N d 230 s st _ hP5
  have HG5 := Bx.mk hG5
  have HR5 := Bx.mk hR5
  clear hR4 hP5 hG5 hR5
  go_wp2_with fail
  refine hW5.mono ?_
  clear hW5
  rintro e w4 ⟨rfl, hP6, hG6⟩
  have hR6 := hG6.blk HR5.out (by omega)
  obtain ⟨r0, r1, r2, r3, g0, g1, g2, g3⟩ := cells4 hR6
  have HP6 := Bx.mk hP6
  have HG6 := Bx.mk hG6
  have HR6 := Bx.mk hR6
  clear hP6 hG6 hR6
  go_wp2_with fail
  clear r0 r1 r2 r3 g0 g1 g2 g3
  have hE := (Blk.own4 HR6.out (.int .i64 0) (.int .i64 0) (.int .i64 0) (.slice none 0 0))
  obtain ⟨r0, r1, r2, r3, _, _, _, _⟩ := cells4 hE
  refine bodyPost_ret (v := Ev Tr.zero (.slice none 0 0)) (by simp [results, Try.results89, go_sem, r0, r1, r2, r3]; rfl) rfl ?_
  exact ⟨.slice none 0 0, rfl, SlF.nil _ _, (HP6.out.st4 (R := w.heap.size) (by omega) _ _ _ _), ((HG0.out.trans (HG4.out.trans (HG5.out.trans HG6.out))).st4 (Nat.le_refl _) _ _ _ _)⟩

theorem prim_any (N d : Nat) (s : ByteArray) (st : St) (w : World) (r : Option (St → Tr × St)) (hr : Rz 31 d r) (h : PS w N d s st) :
    Calls Try.prog 89 #[.pointer (some ⟨N, 0, none⟩)] w (Gives N d s w (Ex.prim r st)) := by
  by_cases hv : ∃ n, st.now = .var n
  · obtain ⟨n, hn⟩ := hv
    rw [show Ex.prim r st = (⟨1, st.at_, n.val, .nil⟩, st.goes) from by unfold Ex.prim; rw [hn]]
    exact prim_var N d s st w n hn h
  by_cases hz : st.now = .zero
  · rw [show Ex.prim r st = (⟨2, st.at_, 0, .nil⟩, st.goes) from by unfold Ex.prim; rw [hz]]
    exact prim_zero N d s st w hz h
  by_cases ho : st.now = .one
  · rw [show Ex.prim r st = (⟨2, st.at_, 1, .nil⟩, st.goes) from by unfold Ex.prim; rw [ho]]
    exact prim_one N d s st w ho h
  have hv' : ∀ n, st.now ≠ .var n := fun n e => hv ⟨n, e⟩
  have hE : Ex.prim r st = if st.may .lp then ((Ex.within r st.goes).1, (Ex.within r st.goes).2.must .rp) else if st.may .ite then Ex.ite r st.at_ st.goes else (Tr.zero, st.bad 230) := by
    unfold Ex.prim
    split
    · rename_i n e; exact absurd e (hv' n)
    · rename_i e; exact absurd e hz
    · rename_i e; exact absurd e ho
    · rfl
  rw [hE]
  cases hm : st.may .lp with
  | true => rw [if_pos rfl]; exact prim_lp N d s st w hv' hz ho r hr hm h
  | false =>
    rw [if_neg (by simp)]
    cases hi : st.may .ite with
    | true => rw [if_pos rfl]; exact prim_ite N d s st w hv' hz ho r hr hm hi h
    | false => rw [if_neg (by simp)]; exact prim_no N d s st w hv' hz ho hm hi h

end Go.Proofs.Ytfgokhafiffbaaa
