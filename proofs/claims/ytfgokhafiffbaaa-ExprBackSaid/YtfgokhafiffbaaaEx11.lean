/-
  Formulas: imp.
-/
import Derived.Test.YtfgokhafiffbaaaEx10
namespace Go.Proofs.Ytfgokhafiffbaaa
set_option linter.unusedVariables false
open Go.RowKit

set_option maxHeartbeats 8000000 in
theorem pimp_any (d : Nat) (p : St → Tr × St) (r : Option (St → Tr × St)) (hp : Pz 62 d p) (hr : Rz 44 d r) : Pz 44 d (Ex.imp r p) := by
  intro N s st w h
  have hlt := h.lt
  have HO := Bx.mk (hp N s st (w.alloc (Obj.cells #[.int .i64 0, .int .i64 0, .int .i64 0, .slice none 0 0] 36)) (h.alloc _))
  go_enter Try.func44, Try.ntmps44
  go_wp2_with fail
  refine HO.out.mono ?_
  rintro e w1 ⟨sx, rfl, hS1, hP1, hG1⟩
  obtain ⟨px, cx, hsx⟩ := hS1.is
  have hr1 := hG1.blk (Blk.new w 36 #[.int .i64 0, .int .i64 0, .int .i64 0, .slice none 0 0]) (by omega)
  have hz := hG1.size
  rw [alloc_size] at hz hS1
  have hG2 := ((Gb.refl N w).alloc _).trans hG1
  generalize hb1 : w1.heap.size = b3
  have hS2 := (hS1.mono' (B' := fun g => w.heap.size < g ∧ g < b3) fun g hg h1 => by unfold Ge at h1; exact ⟨by omega, by omega⟩)
  have hP2 := hP1.alloc (Obj.cells #[.int .i64 (p st).1.k, .int .i64 (p st).1.a, .int .i64 (p st).1.v, sx] 36)
  have hG3 := hG2.alloc (Obj.cells #[.int .i64 (p st).1.k, .int .i64 (p st).1.a, .int .i64 (p st).1.v, sx] 36)
  have hR3 := hr1.alloc (Obj.cells #[.int .i64 (p st).1.k, .int .i64 (p st).1.a, .int .i64 (p st).1.v, sx] 36)
  have hX3 := Blk.new w1 36 #[.int .i64 (p st).1.k, .int .i64 (p st).1.a, .int .i64 (p st).1.v, sx]
  have hS3 := hS2.alloc (Obj.cells #[.int .i64 (p st).1.k, .int .i64 (p st).1.a, .int .i64 (p st).1.v, sx] 36)
  rw [hb1] at hX3 hz
  subst hsx
  obtain ⟨c0, c1, c2, c3, c4, c5, f1, f2, f3, f4, f5⟩ := pb_cells hP2.blk
  have hM := may_st N d .imp ({ data := #[45, 62] }) s _ _ hP2 (by unfold Tok.str Tok.txt strOf; decide +kernel) (by decide) (by decide)
  clear c0 c1 c3 c4 c5 f1 f2 f3 f4 f5 hP1 hG1 hS1 hr1 hS2 hG2
  have HP2 := Bx.mk hP2
  have HG3 := Bx.mk hG3
  have HR3 := Bx.mk hR3
  have HX3 := Bx.mk hX3
  have HS3 := Bx.mk hS3
  have HB3 := Bx.mk hb1
  have HRr := Bx.mk hr
  clear hP2 hG3 hR3 hX3 hS3 HO h hr
  unfold Ev
  cases hmay : (p st).2.may .imp with
  | false =>
    have hE : Ex.imp r p st = p st := by unfold Ex.imp; rw [if_neg (by rw [hmay]; simp)]
    rw [hmay, if_neg (by simp)] at hM
    have HM := Bx.mk hM
    have HE := Bx.mk hE
    clear hM hmay hE
    go_wp2_with fail
    try simp only [hb1]
    refine HM.out.mono ?_
    rintro e w2 ⟨rfl, hP4, hG4⟩
    have hX4 := hG4.blk HX3.out (by omega)
    have hR4 := hG4.blk HR3.out (by omega)
    obtain ⟨o0, o1, o2, o3, _, _, _, _⟩ := cells4 hX4
    obtain ⟨r0, r1, r2, r3, g0, g1, g2, g3⟩ := cells4 hR4
    have HP4 := Bx.mk hP4
    have HG4 := Bx.mk hG4
    have HR4 := Bx.mk hR4
    clear hP4 hG4 hX4 hR4
    go_wp2_with fail
    have hE := Blk.own4 HR4.out (.int .i64 (p st).1.k) (.int .i64 (p st).1.a) (.int .i64 (p st).1.v) (.slice px (p st).1.kids.len cx)
    clear r0 r1 r2 r3 g0 g1 g2 g3
    obtain ⟨r0, r1, r2, r3, _, _, _, _⟩ := cells4 hE
    refine bodyPost_ret (v := Ev (p st).1 (.slice px (p st).1.kids.len cx)) (by simp [results, Try.results44, go_sem, r0, r1, r2, r3]; rfl) rfl ?_
    rw [HE.out]
    exact ⟨.slice px (p st).1.kids.len cx, rfl, ((HS3.out.gbs (fun h => by omega) HG4.out).st4 (R := w.heap.size) (fun h => by omega) _ _ _ _).mono (B' := Ge w.heap.size) (fun g hg => by unfold Ge; omega), HP4.out.st4 (R := w.heap.size) (by omega) _ _ _ _, (HG3.out.trans HG4.out).st4 (Nat.le_refl _) _ _ _ _⟩
  | true =>
    have hE : Ex.imp r p st = (Ex.two 7 (p st).2.at_ (p st).1 (Ex.within r (p st).2.goes).1, (Ex.within r (p st).2.goes).2) := by unfold Ex.imp; rw [if_pos hmay]
    rw [hmay, if_pos rfl] at hM
    have HM := Bx.mk hM
    have HE := Bx.mk hE
    clear hM hmay hE
    go_wp2_with fail
    try simp only [hb1]
    refine HM.out.mono ?_
    rintro e w2 ⟨rfl, hP4, hG4⟩
    have hX4 := hG4.blk HX3.out (by omega)
    have hR4 := hG4.blk HR3.out (by omega)
    have hT4 := HS3.out.gbs (fun h => by omega) hG4
    have hW := fun u (hu : PS u N d s (p st).2.goes) => within_any N d s (p st).2.goes u 44 r (fun _ _ => rfl) HRr.out hu
    generalize Ex.within r (p st).2.goes = Y at hW HE
    go_wp2_with fail
    refine region_any 6 (fun u => Blk u b3 36 #[.int .i64 (p st).1.k, .int .i64 (p st).1.a, .int .i64 (p st).1.v, .slice px (p st).1.kids.len cx]) (by kernel_rfl) ?_
    have hS0 := hX4.drew
    have hP5 := hP4.drew
    have hG5 := hG4.drew
    have hR5 := hR4.drew
    have hT5 := hT4.drew
    generalize w2.drew = u0 at hS0 hP5 hG5 hR5 hT5 ⊢
    clear hX4 hP4 hG4 hR4 hT4
    refine any_take (i := 0) (.int .i64 ((p st).2.at_ : Int)) rfl rfl (by kernel_rfl) (by kernel_rfl) (by kernel_rfl) (by kernel_rfl) (fun _ _ d _ _ h => by cases d <;> exact h) (fun u hS => rfl) hS0 ?_
    (try simp only [Act.put]); (try simp only [List.getElem_toArray]); (try simp only [List.getElem_cons_succ]); (try simp only [List.getElem_cons_zero]); (try simp only [List.setIfInBounds_toArray]); (try simp only [List.set_cons_succ]); (try simp only [List.set_cons_zero])
    refine any_take (i := 1) (.agg #[.int .i64 (p st).1.k, .int .i64 (p st).1.a, .int .i64 (p st).1.v, .slice px (p st).1.kids.len cx]) rfl rfl (by kernel_rfl) (by kernel_rfl) (by kernel_rfl) (by kernel_rfl) (fun _ _ d _ _ h => by cases d <;> exact h) (fun u hS => exec_loadE rfl rfl hS) hS0 ?_
    (try simp only [Act.put]); (try simp only [List.getElem_toArray]); (try simp only [List.getElem_cons_succ]); (try simp only [List.getElem_cons_zero]); (try simp only [List.setIfInBounds_toArray]); (try simp only [List.set_cons_succ]); (try simp only [List.set_cons_zero])
    refine any_take (i := 2) (.pointer (some ⟨N, 0, none⟩)) rfl rfl (by kernel_rfl) (by kernel_rfl) (by kernel_rfl) (by kernel_rfl) (fun _ _ d _ _ h => by cases d <;> exact h) (fun u hS => rfl) hS0 ?_
    (try simp only [Act.put]); (try simp only [List.getElem_toArray]); (try simp only [List.getElem_cons_succ]); (try simp only [List.getElem_cons_zero]); (try simp only [List.setIfInBounds_toArray]); (try simp only [List.set_cons_succ]); (try simp only [List.set_cons_zero])
    refine any_branch [3] (by kernel_rfl) rfl fun ix hix => ?_
    simp only [List.mem_cons, List.not_mem_nil, or_false] at hix
    subst hix
    refine any_op rfl rfl fun K hK => ?_
    go_simp
    refine (hW _ hP5).mono ?_
    rintro e u1 ⟨sy, rfl, hSy, hPy, hGy⟩
    obtain ⟨py, cy, rfl⟩ := hSy.is
    have hS1 := hGy.blk hS0 (by omega)
    have hR1 := hGy.blk hR5 (by omega)
    refine hK _ _ (fun _ => hS1) ?_
    (try simp only [Act.put]); (try simp only [List.getElem_toArray]); (try simp only [List.getElem_cons_succ]); (try simp only [List.getElem_cons_zero]); (try simp only [List.setIfInBounds_toArray]); (try simp only [List.set_cons_succ]); (try simp only [List.set_cons_zero])
    clear hK
    refine any_branch [4] (by kernel_rfl) rfl fun ix hix => ?_
    simp only [List.mem_cons, List.not_mem_nil, or_false] at hix
    subst hix
    refine any_op rfl rfl fun K hK => ?_
    unfold Ev
    go_simp
    have hl5 := hS0.lt
    have hTx := (hT5.gbs (fun h => by omega) hGy).mono (B' := Ge (w.heap.size + 1)) (fun g hg => by unfold Ge; omega)
    have hTy := hSy.mono (B' := Ge (w.heap.size + 1)) (fun g hg => by unfold Ge at hg ⊢; omega)
    have hz1 : b3 < u1.heap.size := hS1.lt
    have hTn := SlF.pair 36 hTx hTy (by unfold Ge; omega)
    have hPn := hPy.alloc (Obj.cells #[.int .i64 (p st).1.k, .int .i64 (p st).1.a, .int .i64 (p st).1.v, .slice px (p st).1.kids.len cx, .int .i64 Y.1.k, .int .i64 Y.1.a, .int .i64 Y.1.v, .slice py Y.1.kids.len cy] 36)
    have hGn := (HG3.out.trans (hG5.trans hGy)).alloc (Obj.cells #[.int .i64 (p st).1.k, .int .i64 (p st).1.a, .int .i64 (p st).1.v, .slice px (p st).1.kids.len cx, .int .i64 Y.1.k, .int .i64 Y.1.a, .int .i64 Y.1.v, .slice py Y.1.kids.len cy] 36)
    have hSn := hS1.alloc (Obj.cells #[.int .i64 (p st).1.k, .int .i64 (p st).1.a, .int .i64 (p st).1.v, .slice px (p st).1.kids.len cx, .int .i64 Y.1.k, .int .i64 Y.1.a, .int .i64 Y.1.v, .slice py Y.1.kids.len cy] 36)
    have hRn := hR1.alloc (Obj.cells #[.int .i64 (p st).1.k, .int .i64 (p st).1.a, .int .i64 (p st).1.v, .slice px (p st).1.kids.len cx, .int .i64 Y.1.k, .int .i64 Y.1.a, .int .i64 Y.1.v, .slice py Y.1.kids.len cy] 36)
    generalize hpn : u1.heap.size = bn at hTn hz1 ⊢
    generalize u1.alloc (Obj.cells #[.int .i64 (p st).1.k, .int .i64 (p st).1.a, .int .i64 (p st).1.v, .slice px (p st).1.kids.len cx, .int .i64 Y.1.k, .int .i64 Y.1.a, .int .i64 Y.1.v, .slice py Y.1.kids.len cy] 36) = u2 at hTn hPn hGn hSn hRn ⊢
    clear hTx hTy hS0 hS1 hP5 hG5 hSy hPy hGy hR5 hR1 hT5
    refine hK _ _ (fun _ => hSn) ?_
    (try simp only [Act.put]); (try simp only [List.getElem_toArray]); (try simp only [List.getElem_cons_succ]); (try simp only [List.getElem_cons_zero]); (try simp only [List.setIfInBounds_toArray]); (try simp only [List.set_cons_succ]); (try simp only [List.set_cons_zero])
    clear hK
    refine any_branch [5] (by kernel_rfl) rfl fun ix hix => ?_
    simp only [List.mem_cons, List.not_mem_nil, or_false] at hix
    subst hix
    refine any_op rfl rfl fun K hK => ?_
    go_simp
    refine hK _ _ (fun _ => hSn) ?_
    (try simp only [Act.put]); (try simp only [List.getElem_toArray]); (try simp only [List.getElem_cons_succ]); (try simp only [List.getElem_cons_zero]); (try simp only [List.setIfInBounds_toArray]); (try simp only [List.set_cons_succ]); (try simp only [List.set_cons_zero])
    clear hK
    obtain ⟨r0, r1, r2, r3, g0, g1, g2, g3⟩ := cells4 hRn
    refine any_branch [6] (by kernel_rfl) rfl fun ix hix => ?_
    simp only [List.mem_cons, List.not_mem_nil, or_false] at hix
    subst hix
    refine any_op rfl rfl fun K hK => ?_
    go_simp
    refine hK _ _ (fun h => absurd rfl h) ?_
    (try simp only [Act.put]); (try simp only [List.getElem_toArray]); (try simp only [List.getElem_cons_succ]); (try simp only [List.getElem_cons_zero]); (try simp only [List.setIfInBounds_toArray]); (try simp only [List.set_cons_succ]); (try simp only [List.set_cons_zero])
    clear hK
    refine any_end (by kernel_rfl) ?_
    clear r0 r1 r2 r3 g0 g1 g2 g3
    have HPn := Bx.mk hPn
    have HGn := Bx.mk hGn
    have HRn := Bx.mk hRn
    have HTn := Bx.mk hTn
    clear hPn hGn hSn hRn hTn
    go_wp2_with fail
    have hE := Blk.own4 HRn.out (.int .i64 7) (.int .i64 ((p st).2.at_ : Int)) (.int .i64 0) (.slice (some ⟨bn, 0, none⟩) 2 2)
    obtain ⟨r0, r1, r2, r3, _, _, _, _⟩ := cells4 hE
    refine bodyPost_ret (v := Ev (Ex.two 7 (p st).2.at_ (p st).1 Y.1) (.slice (some ⟨bn, 0, none⟩) 2 2)) (by simp [results, Try.results44, go_sem, r0, r1, r2, r3]; rfl) rfl ?_
    rw [HE.out]
    exact ⟨.slice (some ⟨bn, 0, none⟩) 2 2, rfl, (HTn.out.st4 (R := w.heap.size) (fun h => by unfold Ge at h; omega) _ _ _ _).mono (B' := Ge w.heap.size) (fun g hg => by unfold Ge at hg ⊢; omega), HPn.out.st4 (R := w.heap.size) (by omega) _ _ _ _, HGn.out.st4 (Nat.le_refl _) _ _ _ _⟩
end Go.Proofs.Ytfgokhafiffbaaa
