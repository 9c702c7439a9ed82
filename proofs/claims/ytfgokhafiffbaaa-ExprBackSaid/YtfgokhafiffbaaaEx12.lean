/-
  Formulas: prim's small parts; bound.
-/
import Derived.Test.YtfgokhafiffbaaaEx11
namespace Go.Proofs.Ytfgokhafiffbaaa
set_option linter.unusedVariables false
open Go.RowKit
theorem Lx.vr_var (n : Fin 8) : Lx.vr (Tok.var n).txt = true := by
  have := n.isLt
  have e : (Tok.var n).txt = [118, 48 + n.val] := by unfold Tok.txt; rfl
  rw [e]
  exact Lx.vr_mk (by omega) (by omega)
theorem Lx.vr_not (t : Tok) (h : ∀ n, t ≠ .var n) : Lx.vr t.txt = false := by
  cases hv : Lx.vr t.txt with
  | false => rfl
  | true =>
    exfalso
    obtain ⟨b, hb, h1, h2⟩ := Lx.vr_spec hv
    have e : t.txt = (Tok.var ⟨b - 48, by omega⟩).txt := by
      rw [hb, show (Tok.var ⟨b - 48, by omega⟩).txt = [118, 48 + (b - 48)] from by unfold Tok.txt; rfl]
      congr 2
      omega
    exact h _ (Tok.txt_inj e)
theorem Tok.var_at (n : Fin 8) : (bl (Tok.var n).str)[1]? = some (48 + n.val) := by
  rw [Tok.bl_str]
  unfold Tok.txt
  rfl
section
variable {a : Act} {u : World} {o : Oper} {x y : Operand}
theorem exec_index1 {s : ByteArray} {c : Nat} (hop : o.op = .index 9 x y) (hx : a.eval x = .string s) (hy : a.eval y = .int .i64 1) (h : (bl s)[1]? = some c) :
    (execOp a.eval o).run Try.prog u = .ok (.value (.int .u8 (c : Int))) u := by
  have := run_idx1 h
  unfold execOp
  simp only [hop, hx, hy]
  go_simp
theorem exec_sub48 {n : Nat} (hop : o.op = .binOp .sub 5 x y 5) (hx : a.eval x = .int .u8 ((48 + n : Nat) : Int)) (hy : a.eval y = .int .u8 48) (h : n < 8) :
    (execOp a.eval o).run Try.prog u = .ok (.value (.int .u8 (n : Int))) u := by
  unfold execOp
  simp only [hop, hx, hy]
  go_simp
  rw [IntKind.wrap_u8]
  omega
theorem exec_conv8 {n : Nat} (hop : o.op = .convert 5 3 x) (hx : a.eval x = .int .u8 (n : Int)) (h : n < 8) :
    (execOp a.eval o).run Try.prog u = .ok (.value (.int .i64 (n : Int))) u := by
  have hw : IntKind.i64.wrap (n : Int) = (n : Int) := by rw [IntKind.wrap_i64]; omega
  unfold execOp
  simp only [hop, hx]
  go_simp
end

set_option maxHeartbeats 8000000 in
theorem bound_any (N d : Nat) (s : ByteArray) (st : St) (w : World) (k : Int) (at_ : Nat) (r : Option (St → Tr × St)) (hr : Rz 87 d r) (h : PS w N d s st) :
    Calls Try.prog 88 #[.pointer (some ⟨N, 0, none⟩), .int .i64 k, .int .i64 (at_ : Int)] w (Gives N d s w (Ex.bound r k at_ st)) := by
  have hlt := h.lt
  have HP0 := Bx.mk (h.alloc (Obj.cells #[.int .i64 0, .int .i64 0, .int .i64 0, .slice none 0 0] 36))
  have HR0 := Bx.mk (Blk.new w 36 #[.int .i64 0, .int .i64 0, .int .i64 0, .slice none 0 0])
  have HG0 := Bx.mk ((Gb.refl N w).alloc (Obj.cells #[.int .i64 0, .int .i64 0, .int .i64 0, .slice none 0 0] 36))
  have HRr := Bx.mk hr
  obtain ⟨c0, c1, c2, c3, c4, c5, f1, f2, f3, f4, f5⟩ := pb_cells h.blk
  have hV := variable_any st.now.str
  rw [Tok.bl_str] at hV
  clear c0 c2 c3 c4 c5 f1 f2 f3 f4 f5 h hr
  by_cases hn : ∃ n, st.now = .var n
  · obtain ⟨n, hn⟩ := hn
    rw [hn, Lx.vr_var] at hV
    have hT := Tok.var_at n
    have hGo := goes_st N d s st _ HP0.out (by rw [hn]; simp) (by rw [hn]; simp)
    have hW := fun u (hu : PS u N d s st.goes) => within_any N d s st.goes u 87 r (fun _ _ => rfl) HRr.out hu
    have hE : Ex.bound r k at_ st = (Ex.one k at_ n.val (Ex.within r st.goes).1, (Ex.within r st.goes).2) := by unfold Ex.bound; rw [hn]
    have HE := Bx.mk hE
    have HW := Bx.mk hW
    have HGo := Bx.mk hGo
    have HV := Bx.mk hV
    have HT := Bx.mk hT
    rw [hn] at c1
    have hn8 := n.isLt
    generalize n.val = m at HE HT hn8
    clear hE hW hGo hV hT hn
    go_enter Try.func88, Try.ntmps88
    go_wp2_with fail
    refine (HV.out _).mono ?_
    rintro e w1 ⟨rfl, rfl⟩
    go_wp2_with fail
    refine HGo.out.mono ?_
    rintro e w2 ⟨rfl, hP4, hG4⟩
    have hR4 := hG4.blk HR0.out (by omega)
    have hz4 := hG4.size
    rw [alloc_size] at hz4
    clear c1
    generalize Ex.within r st.goes = Y at HW HE
    go_wp2_with fail
    refine region_any 10 (fun u => True) (by kernel_rfl) ?_
    have hS0 : True := True.intro
    have hP5 := hP4.drew
    have hG5 := hG4.drew
    have hR5 := hR4.drew
    have hz5 : w.heap.size + 1 ≤ w2.drew.heap.size := hz4
    generalize w2.drew = u0 at hP5 hG5 hR5 hz5 ⊢
    clear hP4 hG4 hR4 hz4
    refine any_take (i := 0) (.int .i64 k) rfl rfl (by kernel_rfl) (by kernel_rfl) (by kernel_rfl) (by kernel_rfl) (fun _ _ d _ _ h => by cases d <;> exact h) (fun u hS => rfl) hS0 ?_
    (try simp only [Act.put]); (try simp only [List.getElem_toArray]); (try simp only [List.getElem_cons_succ]); (try simp only [List.getElem_cons_zero]); (try simp only [List.setIfInBounds_toArray]); (try simp only [List.set_cons_succ]); (try simp only [List.set_cons_zero])
    refine any_take (i := 1) (.int .i64 (at_ : Int)) rfl rfl (by kernel_rfl) (by kernel_rfl) (by kernel_rfl) (by kernel_rfl) (fun _ _ d _ _ h => by cases d <;> exact h) (fun u hS => rfl) hS0 ?_
    (try simp only [Act.put]); (try simp only [List.getElem_toArray]); (try simp only [List.getElem_cons_succ]); (try simp only [List.getElem_cons_zero]); (try simp only [List.setIfInBounds_toArray]); (try simp only [List.set_cons_succ]); (try simp only [List.set_cons_zero])
    refine any_take (i := 2) (.string (Tok.var n).str) rfl rfl (by kernel_rfl) (by kernel_rfl) (by kernel_rfl) (by kernel_rfl) (fun _ _ d _ _ h => by cases d <;> exact h) (fun u hS => rfl) hS0 ?_
    (try simp only [Act.put]); (try simp only [List.getElem_toArray]); (try simp only [List.getElem_cons_succ]); (try simp only [List.getElem_cons_zero]); (try simp only [List.setIfInBounds_toArray]); (try simp only [List.set_cons_succ]); (try simp only [List.set_cons_zero])
    refine any_take (i := 3) (.int .u8 ((48 + m : Nat) : Int)) rfl rfl (by kernel_rfl) (by kernel_rfl) (by kernel_rfl) (by kernel_rfl) (fun _ _ d _ _ h => by cases d <;> exact h) (fun u hS => exec_index1 rfl rfl rfl HT.out) hS0 ?_
    (try simp only [Act.put]); (try simp only [List.getElem_toArray]); (try simp only [List.getElem_cons_succ]); (try simp only [List.getElem_cons_zero]); (try simp only [List.setIfInBounds_toArray]); (try simp only [List.set_cons_succ]); (try simp only [List.set_cons_zero])
    refine any_take (i := 4) (.int .u8 (m : Int)) rfl rfl (by kernel_rfl) (by kernel_rfl) (by kernel_rfl) (by kernel_rfl) (fun _ _ d _ _ h => by cases d <;> exact h) (fun u hS => exec_sub48 rfl rfl rfl hn8) hS0 ?_
    (try simp only [Act.put]); (try simp only [List.getElem_toArray]); (try simp only [List.getElem_cons_succ]); (try simp only [List.getElem_cons_zero]); (try simp only [List.setIfInBounds_toArray]); (try simp only [List.set_cons_succ]); (try simp only [List.set_cons_zero])
    refine any_take (i := 5) (.int .i64 (m : Int)) rfl rfl (by kernel_rfl) (by kernel_rfl) (by kernel_rfl) (by kernel_rfl) (fun _ _ d _ _ h => by cases d <;> exact h) (fun u hS => exec_conv8 rfl rfl hn8) hS0 ?_
    (try simp only [Act.put]); (try simp only [List.getElem_toArray]); (try simp only [List.getElem_cons_succ]); (try simp only [List.getElem_cons_zero]); (try simp only [List.setIfInBounds_toArray]); (try simp only [List.set_cons_succ]); (try simp only [List.set_cons_zero])
    refine any_take (i := 6) (.pointer (some ⟨N, 0, none⟩)) rfl rfl (by kernel_rfl) (by kernel_rfl) (by kernel_rfl) (by kernel_rfl) (fun _ _ d _ _ h => by cases d <;> exact h) (fun u hS => rfl) hS0 ?_
    (try simp only [Act.put]); (try simp only [List.getElem_toArray]); (try simp only [List.getElem_cons_succ]); (try simp only [List.getElem_cons_zero]); (try simp only [List.setIfInBounds_toArray]); (try simp only [List.set_cons_succ]); (try simp only [List.set_cons_zero])
    refine any_branch [7] (by kernel_rfl) rfl fun ix hix => ?_
    simp only [List.mem_cons, List.not_mem_nil, or_false] at hix
    subst hix
    refine any_op rfl rfl fun K hK => ?_
    go_simp
    refine (HW.out _ hP5).mono ?_
    rintro e u1 ⟨sy, rfl, hSy, hPy, hGy⟩
    obtain ⟨py, cy, rfl⟩ := hSy.is
    have hR1 := hGy.blk hR5 (by omega)
    refine hK _ _ (fun _ => True.intro) ?_
    (try simp only [Act.put]); (try simp only [List.getElem_toArray]); (try simp only [List.getElem_cons_succ]); (try simp only [List.getElem_cons_zero]); (try simp only [List.setIfInBounds_toArray]); (try simp only [List.set_cons_succ]); (try simp only [List.set_cons_zero])
    clear hK
    refine any_branch [8] (by kernel_rfl) rfl fun ix hix => ?_
    simp only [List.mem_cons, List.not_mem_nil, or_false] at hix
    subst hix
    refine any_op rfl rfl fun K hK => ?_
    unfold Ev
    go_simp
    have hz1 := hGy.size
    have hTy := hSy.mono (B' := Ge (w.heap.size + 1)) (fun g hg => by unfold Ge at hg ⊢; omega)
    have hTn := SlF.single 36 hTy (by unfold Ge; omega)
    have hPn := hPy.alloc (Obj.cells #[.int .i64 Y.1.k, .int .i64 Y.1.a, .int .i64 Y.1.v, .slice py Y.1.kids.len cy] 36)
    have hGn := (HG0.out.trans (hG5.trans hGy)).alloc (Obj.cells #[.int .i64 Y.1.k, .int .i64 Y.1.a, .int .i64 Y.1.v, .slice py Y.1.kids.len cy] 36)
    have hRn := hR1.alloc (Obj.cells #[.int .i64 Y.1.k, .int .i64 Y.1.a, .int .i64 Y.1.v, .slice py Y.1.kids.len cy] 36)
    generalize hpn : u1.heap.size = bn at hTn hz1 ⊢
    generalize u1.alloc (Obj.cells #[.int .i64 Y.1.k, .int .i64 Y.1.a, .int .i64 Y.1.v, .slice py Y.1.kids.len cy] 36) = u2 at hTn hPn hGn hRn ⊢
    clear hTy hP5 hG5 hSy hPy hGy hR5 hR1
    refine hK _ _ (fun _ => True.intro) ?_
    (try simp only [Act.put]); (try simp only [List.getElem_toArray]); (try simp only [List.getElem_cons_succ]); (try simp only [List.getElem_cons_zero]); (try simp only [List.setIfInBounds_toArray]); (try simp only [List.set_cons_succ]); (try simp only [List.set_cons_zero])
    clear hK
    refine any_branch [9] (by kernel_rfl) rfl fun ix hix => ?_
    simp only [List.mem_cons, List.not_mem_nil, or_false] at hix
    subst hix
    refine any_op rfl rfl fun K hK => ?_
    go_simp
    refine hK _ _ (fun _ => True.intro) ?_
    (try simp only [Act.put]); (try simp only [List.getElem_toArray]); (try simp only [List.getElem_cons_succ]); (try simp only [List.getElem_cons_zero]); (try simp only [List.setIfInBounds_toArray]); (try simp only [List.set_cons_succ]); (try simp only [List.set_cons_zero])
    clear hK
    obtain ⟨r0, r1, r2, r3, g0, g1, g2, g3⟩ := cells4 hRn
    refine any_branch [10] (by kernel_rfl) rfl fun ix hix => ?_
    simp only [List.mem_cons, List.not_mem_nil, or_false] at hix
    subst hix
    refine any_op rfl rfl fun K hK => ?_
    go_simp
    refine hK _ _ (fun h => absurd rfl h) ?_
    (try simp only [Act.put]); (try simp only [List.getElem_toArray]); (try simp only [List.getElem_cons_succ]); (try simp only [List.getElem_cons_zero]); (try simp only [List.setIfInBounds_toArray]); (try simp only [List.set_cons_succ]); (try simp only [List.set_cons_zero])
    clear hK
    refine any_end (by kernel_rfl) ?_
    clear r0 r1 r2 r3 g0 g1 g2 g3
    have HPn := Bx.mk hPn
    have HGn := Bx.mk hGn
    have HRn := Bx.mk hRn
    have HTn := Bx.mk hTn
    clear hPn hGn hRn hTn
    go_wp2_with fail
    have hE := Blk.own4 HRn.out (.int .i64 k) (.int .i64 (at_ : Int)) (.int .i64 (m : Int)) (.slice (some ⟨bn, 0, none⟩) 1 1)
    obtain ⟨r0, r1, r2, r3, _, _, _, _⟩ := cells4 hE
    refine bodyPost_ret (v := Ev (Ex.one k at_ m Y.1) (.slice (some ⟨bn, 0, none⟩) 1 1)) (by simp [results, Try.results88, go_sem, r0, r1, r2, r3]; rfl) rfl ?_
    rw [HE.out]
    exact ⟨.slice (some ⟨bn, 0, none⟩) 1 1, rfl, (HTn.out.st4 (R := w.heap.size) (fun h => by unfold Ge at h; omega) _ _ _ _).mono (B' := Ge w.heap.size) (fun g hg => by unfold Ge at hg ⊢; omega), HPn.out.st4 (R := w.heap.size) (by omega) _ _ _ _, HGn.out.st4 (Nat.le_refl _) _ _ _ _⟩
  · have hn' : ∀ n, st.now ≠ .var n := fun n e => hn ⟨n, e⟩
    rw [Lx.vr_not _ hn'] at hV
    have HD := Bx.mk (bad_st N d 230 s st _ HP0.out)
    have hE : Ex.bound r k at_ st = (Tr.zero, st.bad 230) := by
      unfold Ex.bound
      split
      · rename_i n e; exact absurd e (hn' n)
      · rfl
    have HE := Bx.mk hE
    have HV := Bx.mk hV
    clear hE hV hn hn'
    go_enter Try.func88, Try.ntmps88
    go_wp2_with fail
    refine (HV.out _).mono ?_
    rintro e w1 ⟨rfl, rfl⟩
    go_wp2_with fail
    refine HD.out.mono ?_
    rintro e w2 ⟨rfl, hP4, hG4⟩
    have hR4 := hG4.blk HR0.out (by omega)
    obtain ⟨r0, r1, r2, r3, g0, g1, g2, g3⟩ := cells4 hR4
    have HP4 := Bx.mk hP4
    have HG4 := Bx.mk hG4
    have HR4 := Bx.mk hR4
    clear hP4 hG4 hR4
    go_wp2_with fail
    have hE := Blk.own4 HR4.out (.int .i64 0) (.int .i64 0) (.int .i64 0) (.slice none 0 0)
    clear r0 r1 r2 r3 g0 g1 g2 g3
    obtain ⟨r0, r1, r2, r3, _, _, _, _⟩ := cells4 hE
    refine bodyPost_ret (v := Ev Tr.zero (.slice none 0 0)) (by simp [results, Try.results88, go_sem, r0, r1, r2, r3]; rfl) rfl ?_
    rw [HE.out]
    exact ⟨.slice none 0 0, rfl, SlF.nil _ _, HP4.out.st4 (R := w.heap.size) (by omega) _ _ _ _, (HG0.out.trans HG4.out).st4 (Nat.le_refl _) _ _ _ _⟩
end Go.Proofs.Ytfgokhafiffbaaa
