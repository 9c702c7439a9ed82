/-
  Texts on which the law ExprBinds rests, part 2 of 9.
-/
import Derived.Test.YtfgokhafiffbaaaExprBindsM1
import Derived.Laws.OwnMore
import Derived.Maps.AppendAt
import Derived.Deep.RegionHeld3
/-
  Formulas: and, xor, or, iff, imp.
-/
namespace Go.Proofs.Ytfgokhafiffbaaa
set_option linter.unusedVariables false
open Go.RowKit

/-- the signs left never grow more -/
def Mono (p : St → Tr × St) : Prop := ∀ st, (p st).2.ts.length ≤ st.ts.length
theorem Mono.chainF {t : Tok} {k : Int} {p : St → Tr × St} (h : Mono p) : ∀ (n : Nat) (x : Tr) (st : St), (Ex.chainF n t k p x st).2.ts.length ≤ st.ts.length := by
  intro n
  induction n with
  | zero => intro x st; exact Nat.le_refl _
  | succ n ih =>
    intro x st
    rw [Ex.chainF]
    split
    · have h1 := ih (Ex.two k st.at_ x (p st.goes).1) (p st.goes).2
      have h2 := h st.goes
      have h3 : st.goes.ts.length ≤ st.ts.length := by unfold St.goes; simp
      omega
    · exact Nat.le_refl _
theorem Mono.chain {t : Tok} {k : Int} {p : St → Tr × St} (h : Mono p) : Mono (Ex.chain t k p) := fun st => by
  unfold Ex.chain
  have h1 := Mono.chainF (t := t) (k := k) h (p st).2.ts.length (p st).1 (p st).2
  have h2 := h st
  omega
theorem goes_le (st : St) : st.goes.ts.length ≤ st.ts.length := by unfold St.goes; simp
theorem bad_le (x : Nat) (st : St) : (st.bad x).ts.length ≤ st.ts.length := by unfold St.bad; split <;> exact Nat.le_refl _
theorem must_le (t : Tok) (st : St) : (st.must t).ts.length ≤ st.ts.length := by unfold St.must; split; exact goes_le st; exact bad_le _ st
/-- one deeper likewise -/
def MonoO (r : Option (St → Tr × St)) : Prop := match r with | none => True | some p => Mono p
theorem MonoO.within {r : Option (St → Tr × St)} (h : MonoO r) : Mono (Ex.within r) := fun st => by
  cases r with
  | none => exact bad_le _ st
  | some p =>
    show (if st.e = 0 then p st else (Tr.zero, st)).2.ts.length ≤ _
    split
    · exact h st
    · exact Nat.le_refl _
theorem Mono.imp {r : Option (St → Tr × St)} {p : St → Tr × St} (hr : MonoO r) (h : Mono p) : Mono (Ex.imp r p) := fun st => by
  unfold Ex.imp
  split
  · have h1 := hr.within (p st).2.goes
    have h2 := goes_le (p st).2
    have h3 := h st
    exact Nat.le_trans h1 (Nat.le_trans h2 h3)
  · exact h st

set_option maxHeartbeats 4000000 in
theorem pand_any (d : Nat) (p : St → Tr × St) (hp : Pz 87 d p) (hmono : Mono p) : Pz 83 d (Ex.chain .and 4 p) := by
  intro N s st w h
  have hlt := h.lt
  have HC := Bx.mk (chain_any N d s st (w.alloc (Obj.cells #[.int .i64 0, .int .i64 0, .int .i64 0, .slice none 0 0] 36)) 87 .and 4 { data := #[38] } p (fun _ _ => rfl) hp hmono (by unfold Tok.str Tok.txt strOf; decide +kernel) (by decide) (by decide) (h.alloc _))
  generalize Ex.chain .and 4 p st = R at HC ⊢
  clear h hp hmono
  go_enter Try.func83, Try.ntmps83
  go_wp2_with fail
  refine HC.out.mono ?_
  rintro e w1 ⟨sl, rfl, hS1, hP1, hG1⟩
  obtain ⟨pp, cap, rfl⟩ := hS1.is
  have hr := hG1.blk (Blk.new w 36 #[.int .i64 0, .int .i64 0, .int .i64 0, .slice none 0 0]) (by omega)
  rw [alloc_size] at hS1
  obtain ⟨r0, r1, r2, r3, g0, g1, g2, g3⟩ := cells4 hr
  have HP1 := Bx.mk hP1
  have HG1 := Bx.mk (((Gb.refl N w).alloc _).trans hG1)
  have HR1 := Bx.mk hr
  have HS1 := Bx.mk hS1
  clear hP1 hG1 hr hS1 HC
  unfold Ev
  go_wp2_with fail
  have hE := Blk.own4 HR1.out (.int .i64 R.1.k) (.int .i64 R.1.a) (.int .i64 R.1.v) (.slice pp R.1.kids.len cap)
  clear r0 r1 r2 r3 g0 g1 g2 g3
  obtain ⟨r0, r1, r2, r3, _, _, _, _⟩ := cells4 hE
  refine bodyPost_ret (v := Ev R.1 (.slice pp R.1.kids.len cap)) (by simp [results, Try.results83, go_sem, r0, r1, r2, r3]; rfl) rfl ?_
  exact ⟨_, rfl, (HS1.out.st4 (R := w.heap.size) (fun h => by unfold Ge at h; omega) _ _ _ _).mono (fun g hg => by unfold Ge at hg ⊢; omega), HP1.out.st4 (by omega) _ _ _ _, HG1.out.st4 (Nat.le_refl _) _ _ _ _⟩

set_option maxHeartbeats 4000000 in
theorem pxor_any (d : Nat) (p : St → Tr × St) (hp : Pz 83 d p) (hmono : Mono p) : Pz 77 d (Ex.chain .xor 6 p) := by
  intro N s st w h
  have hlt := h.lt
  have HC := Bx.mk (chain_any N d s st (w.alloc (Obj.cells #[.int .i64 0, .int .i64 0, .int .i64 0, .slice none 0 0] 36)) 83 .xor 6 { data := #[94] } p (fun _ _ => rfl) hp hmono (by unfold Tok.str Tok.txt strOf; decide +kernel) (by decide) (by decide) (h.alloc _))
  generalize Ex.chain .xor 6 p st = R at HC ⊢
  clear h hp hmono
  go_enter Try.func77, Try.ntmps77
  go_wp2_with fail
  refine HC.out.mono ?_
  rintro e w1 ⟨sl, rfl, hS1, hP1, hG1⟩
  obtain ⟨pp, cap, rfl⟩ := hS1.is
  have hr := hG1.blk (Blk.new w 36 #[.int .i64 0, .int .i64 0, .int .i64 0, .slice none 0 0]) (by omega)
  rw [alloc_size] at hS1
  obtain ⟨r0, r1, r2, r3, g0, g1, g2, g3⟩ := cells4 hr
  have HP1 := Bx.mk hP1
  have HG1 := Bx.mk (((Gb.refl N w).alloc _).trans hG1)
  have HR1 := Bx.mk hr
  have HS1 := Bx.mk hS1
  clear hP1 hG1 hr hS1 HC
  unfold Ev
  go_wp2_with fail
  have hE := Blk.own4 HR1.out (.int .i64 R.1.k) (.int .i64 R.1.a) (.int .i64 R.1.v) (.slice pp R.1.kids.len cap)
  clear r0 r1 r2 r3 g0 g1 g2 g3
  obtain ⟨r0, r1, r2, r3, _, _, _, _⟩ := cells4 hE
  refine bodyPost_ret (v := Ev R.1 (.slice pp R.1.kids.len cap)) (by simp [results, Try.results77, go_sem, r0, r1, r2, r3]; rfl) rfl ?_
  exact ⟨_, rfl, (HS1.out.st4 (R := w.heap.size) (fun h => by unfold Ge at h; omega) _ _ _ _).mono (fun g hg => by unfold Ge at hg ⊢; omega), HP1.out.st4 (by omega) _ _ _ _, HG1.out.st4 (Nat.le_refl _) _ _ _ _⟩

set_option maxHeartbeats 4000000 in
theorem por_any (d : Nat) (p : St → Tr × St) (hp : Pz 77 d p) (hmono : Mono p) : Pz 62 d (Ex.chain .or 5 p) := by
  intro N s st w h
  have hlt := h.lt
  have HC := Bx.mk (chain_any N d s st (w.alloc (Obj.cells #[.int .i64 0, .int .i64 0, .int .i64 0, .slice none 0 0] 36)) 77 .or 5 { data := #[124] } p (fun _ _ => rfl) hp hmono (by unfold Tok.str Tok.txt strOf; decide +kernel) (by decide) (by decide) (h.alloc _))
  generalize Ex.chain .or 5 p st = R at HC ⊢
  clear h hp hmono
  go_enter Try.func62, Try.ntmps62
  go_wp2_with fail
  refine HC.out.mono ?_
  rintro e w1 ⟨sl, rfl, hS1, hP1, hG1⟩
  obtain ⟨pp, cap, rfl⟩ := hS1.is
  have hr := hG1.blk (Blk.new w 36 #[.int .i64 0, .int .i64 0, .int .i64 0, .slice none 0 0]) (by omega)
  rw [alloc_size] at hS1
  obtain ⟨r0, r1, r2, r3, g0, g1, g2, g3⟩ := cells4 hr
  have HP1 := Bx.mk hP1
  have HG1 := Bx.mk (((Gb.refl N w).alloc _).trans hG1)
  have HR1 := Bx.mk hr
  have HS1 := Bx.mk hS1
  clear hP1 hG1 hr hS1 HC
  unfold Ev
  go_wp2_with fail
  have hE := Blk.own4 HR1.out (.int .i64 R.1.k) (.int .i64 R.1.a) (.int .i64 R.1.v) (.slice pp R.1.kids.len cap)
  clear r0 r1 r2 r3 g0 g1 g2 g3
  obtain ⟨r0, r1, r2, r3, _, _, _, _⟩ := cells4 hE
  refine bodyPost_ret (v := Ev R.1 (.slice pp R.1.kids.len cap)) (by simp [results, Try.results62, go_sem, r0, r1, r2, r3]; rfl) rfl ?_
  exact ⟨_, rfl, (HS1.out.st4 (R := w.heap.size) (fun h => by unfold Ge at h; omega) _ _ _ _).mono (fun g hg => by unfold Ge at hg ⊢; omega), HP1.out.st4 (by omega) _ _ _ _, HG1.out.st4 (Nat.le_refl _) _ _ _ _⟩

set_option maxHeartbeats 4000000 in
theorem piff_any (d : Nat) (p : St → Tr × St) (hp : Pz 44 d p) (hmono : Mono p) : Pz 31 d (Ex.chain .iff 8 p) := by
  intro N s st w h
  have hlt := h.lt
  have HC := Bx.mk (chain_any N d s st (w.alloc (Obj.cells #[.int .i64 0, .int .i64 0, .int .i64 0, .slice none 0 0] 36)) 44 .iff 8 { data := #[60, 45, 62] } p (fun _ _ => rfl) hp hmono (by unfold Tok.str Tok.txt strOf; decide +kernel) (by decide) (by decide) (h.alloc _))
  generalize Ex.chain .iff 8 p st = R at HC ⊢
  clear h hp hmono
  go_enter Try.func31, Try.ntmps31
  go_wp2_with fail
  refine HC.out.mono ?_
  rintro e w1 ⟨sl, rfl, hS1, hP1, hG1⟩
  obtain ⟨pp, cap, rfl⟩ := hS1.is
  have hr := hG1.blk (Blk.new w 36 #[.int .i64 0, .int .i64 0, .int .i64 0, .slice none 0 0]) (by omega)
  rw [alloc_size] at hS1
  obtain ⟨r0, r1, r2, r3, g0, g1, g2, g3⟩ := cells4 hr
  have HP1 := Bx.mk hP1
  have HG1 := Bx.mk (((Gb.refl N w).alloc _).trans hG1)
  have HR1 := Bx.mk hr
  have HS1 := Bx.mk hS1
  clear hP1 hG1 hr hS1 HC
  unfold Ev
  go_wp2_with fail
  have hE := Blk.own4 HR1.out (.int .i64 R.1.k) (.int .i64 R.1.a) (.int .i64 R.1.v) (.slice pp R.1.kids.len cap)
  clear r0 r1 r2 r3 g0 g1 g2 g3
  obtain ⟨r0, r1, r2, r3, _, _, _, _⟩ := cells4 hE
  refine bodyPost_ret (v := Ev R.1 (.slice pp R.1.kids.len cap)) (by simp [results, Try.results31, go_sem, r0, r1, r2, r3]; rfl) rfl ?_
  exact ⟨_, rfl, (HS1.out.st4 (R := w.heap.size) (fun h => by unfold Ge at h; omega) _ _ _ _).mono (fun g hg => by unfold Ge at hg ⊢; omega), HP1.out.st4 (by omega) _ _ _ _, HG1.out.st4 (Nat.le_refl _) _ _ _ _⟩

end Go.Proofs.Ytfgokhafiffbaaa

/-
  Formulas: imp.
-/
namespace Go.Proofs.Ytfgokhafiffbaaa
set_option linter.unusedVariables false
open Go.RowKit

set_option maxHeartbeats 8000000 in
theorem pimp_any (d : Nat) (p : St → Tr × St) (r : Option (St → Tr × St)) (hp : Pz 62 d p) (hr : Rz 44 d r) : Pz 44 d (Ex.imp r p) := by
  intro N s st w h
  have hlt := h.lt
  have HO := Bx.mk (hp N s st (w.alloc (Obj.cells #[.int .i64 0, .int .i64 0, .int .i64 0, .slice none 0 0] 36)) (h.alloc _))
  go_enter Try.func44, Try.ntmps44
  go_wp2_with fail
  refine HO.out.mono ?_
  rintro e w1 ⟨sx, rfl, hS1, hP1, hG1⟩
  obtain ⟨px, cx, hsx⟩ := hS1.is
  have hr1 := hG1.blk (Blk.new w 36 #[.int .i64 0, .int .i64 0, .int .i64 0, .slice none 0 0]) (by omega)
  have hz := hG1.size
  rw [alloc_size] at hz hS1
  have hG2 := ((Gb.refl N w).alloc _).trans hG1
  generalize hb1 : w1.heap.size = b3
  have hS2 := (hS1.mono' (B' := fun g => w.heap.size < g ∧ g < b3) fun g hg h1 => by unfold Ge at h1; exact ⟨by omega, by omega⟩)
  have hP2 := hP1.alloc (Obj.cells #[.int .i64 (p st).1.k, .int .i64 (p st).1.a, .int .i64 (p st).1.v, sx] 36)
  have hG3 := hG2.alloc (Obj.cells #[.int .i64 (p st).1.k, .int .i64 (p st).1.a, .int .i64 (p st).1.v, sx] 36)
  have hR3 := hr1.alloc (Obj.cells #[.int .i64 (p st).1.k, .int .i64 (p st).1.a, .int .i64 (p st).1.v, sx] 36)
  have hX3 := Blk.new w1 36 #[.int .i64 (p st).1.k, .int .i64 (p st).1.a, .int .i64 (p st).1.v, sx]
  have hS3 := hS2.alloc (Obj.cells #[.int .i64 (p st).1.k, .int .i64 (p st).1.a, .int .i64 (p st).1.v, sx] 36)
  rw [hb1] at hX3 hz
  subst hsx
  obtain ⟨c0, c1, c2, c3, c4, c5, f1, f2, f3, f4, f5⟩ := pb_cells hP2.blk
  have hM := may_st N d .imp ({ data := #[45, 62] }) s _ _ hP2 (by unfold Tok.str Tok.txt strOf; decide +kernel) (by decide) (by decide)
  clear c0 c1 c3 c4 c5 f1 f2 f3 f4 f5 hP1 hG1 hS1 hr1 hS2 hG2
  have HP2 := Bx.mk hP2
  have HG3 := Bx.mk hG3
  have HR3 := Bx.mk hR3
  have HX3 := Bx.mk hX3
  have HS3 := Bx.mk hS3
  have HB3 := Bx.mk hb1
  have HRr := Bx.mk hr
  clear hP2 hG3 hR3 hX3 hS3 HO h hr
  unfold Ev
  cases hmay : (p st).2.may .imp with
  | false =>
    have hE : Ex.imp r p st = p st := by unfold Ex.imp; rw [if_neg (by rw [hmay]; simp)]
    rw [hmay, if_neg (by simp)] at hM
    have HM := Bx.mk hM
    have HE := Bx.mk hE
    clear hM hmay hE
    go_wp2_with fail
    try simp only [hb1]
    refine HM.out.mono ?_
    rintro e w2 ⟨rfl, hP4, hG4⟩
    have hX4 := hG4.blk HX3.out (by omega)
    have hR4 := hG4.blk HR3.out (by omega)
    obtain ⟨o0, o1, o2, o3, _, _, _, _⟩ := cells4 hX4
    obtain ⟨r0, r1, r2, r3, g0, g1, g2, g3⟩ := cells4 hR4
    have HP4 := Bx.mk hP4
    have HG4 := Bx.mk hG4
    have HR4 := Bx.mk hR4
    clear hP4 hG4 hX4 hR4
    go_wp2_with fail
    have hE := Blk.own4 HR4.out (.int .i64 (p st).1.k) (.int .i64 (p st).1.a) (.int .i64 (p st).1.v) (.slice px (p st).1.kids.len cx)
    clear r0 r1 r2 r3 g0 g1 g2 g3
    obtain ⟨r0, r1, r2, r3, _, _, _, _⟩ := cells4 hE
    refine bodyPost_ret (v := Ev (p st).1 (.slice px (p st).1.kids.len cx)) (by simp [results, Try.results44, go_sem, r0, r1, r2, r3]; rfl) rfl ?_
    rw [HE.out]
    exact ⟨.slice px (p st).1.kids.len cx, rfl, ((HS3.out.gbs (fun h => by omega) HG4.out).st4 (R := w.heap.size) (fun h => by omega) _ _ _ _).mono (B' := Ge w.heap.size) (fun g hg => by unfold Ge; omega), HP4.out.st4 (R := w.heap.size) (by omega) _ _ _ _, (HG3.out.trans HG4.out).st4 (Nat.le_refl _) _ _ _ _⟩
  | true =>
    have hE : Ex.imp r p st = (Ex.two 7 (p st).2.at_ (p st).1 (Ex.within r (p st).2.goes).1, (Ex.within r (p st).2.goes).2) := by unfold Ex.imp; rw [if_pos hmay]
    rw [hmay, if_pos rfl] at hM
    have HM := Bx.mk hM
    have HE := Bx.mk hE
    clear hM hmay hE
    go_wp2_with fail
    try simp only [hb1]
    refine HM.out.mono ?_
    rintro e w2 ⟨rfl, hP4, hG4⟩
    have hX4 := hG4.blk HX3.out (by omega)
    have hR4 := hG4.blk HR3.out (by omega)
    have hT4 := HS3.out.gbs (fun h => by omega) hG4
    have hW := fun u (hu : PS u N d s (p st).2.goes) => within_any N d s (p st).2.goes u 44 r (fun _ _ => rfl) HRr.out hu
    generalize Ex.within r (p st).2.goes = Y at hW HE
    go_wp2_with fail
    refine region_any 6 (fun u => Blk u b3 36 #[.int .i64 (p st).1.k, .int .i64 (p st).1.a, .int .i64 (p st).1.v, .slice px (p st).1.kids.len cx]) (by kernel_rfl) ?_
    have hS0 := hX4.drew
    have hP5 := hP4.drew
    have hG5 := hG4.drew
    have hR5 := hR4.drew
    have hT5 := hT4.drew
    generalize w2.drew = u0 at hS0 hP5 hG5 hR5 hT5 ⊢
    clear hX4 hP4 hG4 hR4 hT4
    refine any_take (i := 0) (.int .i64 ((p st).2.at_ : Int)) rfl rfl (by kernel_rfl) (by kernel_rfl) (by kernel_rfl) (by kernel_rfl) (fun _ _ d _ _ h => by cases d <;> exact h) (fun u hS => rfl) hS0 ?_
    (try simp only [Act.put]); (try simp only [List.getElem_toArray]); (try simp only [List.getElem_cons_succ]); (try simp only [List.getElem_cons_zero]); (try simp only [List.setIfInBounds_toArray]); (try simp only [List.set_cons_succ]); (try simp only [List.set_cons_zero])
    refine any_take (i := 1) (.agg #[.int .i64 (p st).1.k, .int .i64 (p st).1.a, .int .i64 (p st).1.v, .slice px (p st).1.kids.len cx]) rfl rfl (by kernel_rfl) (by kernel_rfl) (by kernel_rfl) (by kernel_rfl) (fun _ _ d _ _ h => by cases d <;> exact h) (fun u hS => exec_loadE rfl rfl hS) hS0 ?_
    (try simp only [Act.put]); (try simp only [List.getElem_toArray]); (try simp only [List.getElem_cons_succ]); (try simp only [List.getElem_cons_zero]); (try simp only [List.setIfInBounds_toArray]); (try simp only [List.set_cons_succ]); (try simp only [List.set_cons_zero])
    refine any_take (i := 2) (.pointer (some ⟨N, 0, none⟩)) rfl rfl (by kernel_rfl) (by kernel_rfl) (by kernel_rfl) (by kernel_rfl) (fun _ _ d _ _ h => by cases d <;> exact h) (fun u hS => rfl) hS0 ?_
    (try simp only [Act.put]); (try simp only [List.getElem_toArray]); (try simp only [List.getElem_cons_succ]); (try simp only [List.getElem_cons_zero]); (try simp only [List.setIfInBounds_toArray]); (try simp only [List.set_cons_succ]); (try simp only [List.set_cons_zero])
    refine any_branch [3] (by kernel_rfl) rfl fun ix hix => ?_
    simp only [List.mem_cons, List.not_mem_nil, or_false] at hix
    subst hix
    refine any_op rfl rfl fun K hK => ?_
    go_simp
    refine (hW _ hP5).mono ?_
    rintro e u1 ⟨sy, rfl, hSy, hPy, hGy⟩
    obtain ⟨py, cy, rfl⟩ := hSy.is
    have hS1 := hGy.blk hS0 (by omega)
    have hR1 := hGy.blk hR5 (by omega)
    refine hK _ _ (fun _ => hS1) ?_
    (try simp only [Act.put]); (try simp only [List.getElem_toArray]); (try simp only [List.getElem_cons_succ]); (try simp only [List.getElem_cons_zero]); (try simp only [List.setIfInBounds_toArray]); (try simp only [List.set_cons_succ]); (try simp only [List.set_cons_zero])
    clear hK
    refine any_branch [4] (by kernel_rfl) rfl fun ix hix => ?_
    simp only [List.mem_cons, List.not_mem_nil, or_false] at hix
    subst hix
    refine any_op rfl rfl fun K hK => ?_
    unfold Ev
    go_simp
    have hl5 := hS0.lt
    have hTx := (hT5.gbs (fun h => by omega) hGy).mono (B' := Ge (w.heap.size + 1)) (fun g hg => by unfold Ge; omega)
    have hTy := hSy.mono (B' := Ge (w.heap.size + 1)) (fun g hg => by unfold Ge at hg ⊢; omega)
    have hz1 : b3 < u1.heap.size := hS1.lt
    have hTn := SlF.pair 36 hTx hTy (by unfold Ge; omega)
    have hPn := hPy.alloc (Obj.cells #[.int .i64 (p st).1.k, .int .i64 (p st).1.a, .int .i64 (p st).1.v, .slice px (p st).1.kids.len cx, .int .i64 Y.1.k, .int .i64 Y.1.a, .int .i64 Y.1.v, .slice py Y.1.kids.len cy] 36)
    have hGn := (HG3.out.trans (hG5.trans hGy)).alloc (Obj.cells #[.int .i64 (p st).1.k, .int .i64 (p st).1.a, .int .i64 (p st).1.v, .slice px (p st).1.kids.len cx, .int .i64 Y.1.k, .int .i64 Y.1.a, .int .i64 Y.1.v, .slice py Y.1.kids.len cy] 36)
    have hSn := hS1.alloc (Obj.cells #[.int .i64 (p st).1.k, .int .i64 (p st).1.a, .int .i64 (p st).1.v, .slice px (p st).1.kids.len cx, .int .i64 Y.1.k, .int .i64 Y.1.a, .int .i64 Y.1.v, .slice py Y.1.kids.len cy] 36)
    have hRn := hR1.alloc (Obj.cells #[.int .i64 (p st).1.k, .int .i64 (p st).1.a, .int .i64 (p st).1.v, .slice px (p st).1.kids.len cx, .int .i64 Y.1.k, .int .i64 Y.1.a, .int .i64 Y.1.v, .slice py Y.1.kids.len cy] 36)
    generalize hpn : u1.heap.size = bn at hTn hz1 ⊢
    generalize u1.alloc (Obj.cells #[.int .i64 (p st).1.k, .int .i64 (p st).1.a, .int .i64 (p st).1.v, .slice px (p st).1.kids.len cx, .int .i64 Y.1.k, .int .i64 Y.1.a, .int .i64 Y.1.v, .slice py Y.1.kids.len cy] 36) = u2 at hTn hPn hGn hSn hRn ⊢
    clear hTx hTy hS0 hS1 hP5 hG5 hSy hPy hGy hR5 hR1 hT5
    refine hK _ _ (fun _ => hSn) ?_
    (try simp only [Act.put]); (try simp only [List.getElem_toArray]); (try simp only [List.getElem_cons_succ]); (try simp only [List.getElem_cons_zero]); (try simp only [List.setIfInBounds_toArray]); (try simp only [List.set_cons_succ]); (try simp only [List.set_cons_zero])
    clear hK
    refine any_branch [5] (by kernel_rfl) rfl fun ix hix => ?_
    simp only [List.mem_cons, List.not_mem_nil, or_false] at hix
    subst hix
    refine any_op rfl rfl fun K hK => ?_
    go_simp
    refine hK _ _ (fun _ => hSn) ?_
    (try simp only [Act.put]); (try simp only [List.getElem_toArray]); (try simp only [List.getElem_cons_succ]); (try simp only [List.getElem_cons_zero]); (try simp only [List.setIfInBounds_toArray]); (try simp only [List.set_cons_succ]); (try simp only [List.set_cons_zero])
    clear hK
    obtain ⟨r0, r1, r2, r3, g0, g1, g2, g3⟩ := cells4 hRn
    refine any_branch [6] (by kernel_rfl) rfl fun ix hix => ?_
    simp only [List.mem_cons, List.not_mem_nil, or_false] at hix
    subst hix
    refine any_op rfl rfl fun K hK => ?_
    go_simp
    refine hK _ _ (fun h => absurd rfl h) ?_
    (try simp only [Act.put]); (try simp only [List.getElem_toArray]); (try simp only [List.getElem_cons_succ]); (try simp only [List.getElem_cons_zero]); (try simp only [List.setIfInBounds_toArray]); (try simp only [List.set_cons_succ]); (try simp only [List.set_cons_zero])
    clear hK
    refine any_end (by kernel_rfl) ?_
    clear r0 r1 r2 r3 g0 g1 g2 g3
    have HPn := Bx.mk hPn
    have HGn := Bx.mk hGn
    have HRn := Bx.mk hRn
    have HTn := Bx.mk hTn
    clear hPn hGn hSn hRn hTn
    go_wp2_with fail
    have hE := Blk.own4 HRn.out (.int .i64 7) (.int .i64 ((p st).2.at_ : Int)) (.int .i64 0) (.slice (some ⟨bn, 0, none⟩) 2 2)
    obtain ⟨r0, r1, r2, r3, _, _, _, _⟩ := cells4 hE
    refine bodyPost_ret (v := Ev (Ex.two 7 (p st).2.at_ (p st).1 Y.1) (.slice (some ⟨bn, 0, none⟩) 2 2)) (by simp [results, Try.results44, go_sem, r0, r1, r2, r3]; rfl) rfl ?_
    rw [HE.out]
    exact ⟨.slice (some ⟨bn, 0, none⟩) 2 2, rfl, (HTn.out.st4 (R := w.heap.size) (fun h => by unfold Ge at h; omega) _ _ _ _).mono (B' := Ge w.heap.size) (fun g hg => by unfold Ge at hg ⊢; omega), HPn.out.st4 (R := w.heap.size) (by omega) _ _ _ _, HGn.out.st4 (Nat.le_refl _) _ _ _ _⟩
end Go.Proofs.Ytfgokhafiffbaaa

/-
  Formulas: prim's small parts; bound.
-/
namespace Go.Proofs.Ytfgokhafiffbaaa
set_option linter.unusedVariables false
open Go.RowKit
theorem Lx.vr_var (n : Fin 8) : Lx.vr (Tok.var n).txt = true := by
  have := n.isLt
  have e : (Tok.var n).txt = [118, 48 + n.val] := by unfold Tok.txt; rfl
  rw [e]
  exact Lx.vr_mk (by omega) (by omega)
theorem Lx.vr_not (t : Tok) (h : ∀ n, t ≠ .var n) : Lx.vr t.txt = false := by
  cases hv : Lx.vr t.txt with
  | false => rfl
  | true =>
    exfalso
    obtain ⟨b, hb, h1, h2⟩ := Lx.vr_spec hv
    have e : t.txt = (Tok.var ⟨b - 48, by omega⟩).txt := by
      rw [hb, show (Tok.var ⟨b - 48, by omega⟩).txt = [118, 48 + (b - 48)] from by unfold Tok.txt; rfl]
      congr 2
      omega
    exact h _ (Tok.txt_inj e)
theorem Tok.var_at (n : Fin 8) : (bl (Tok.var n).str)[1]? = some (48 + n.val) := by
  rw [Tok.bl_str]
  unfold Tok.txt
  rfl
section
variable {a : Act} {u : World} {o : Oper} {x y : Operand}
theorem exec_index1 {s : ByteArray} {c : Nat} (hop : o.op = .index 9 x y) (hx : a.eval x = .string s) (hy : a.eval y = .int .i64 1) (h : (bl s)[1]? = some c) :
    (execOp a.eval o).run Try.prog u = .ok (.value (.int .u8 (c : Int))) u := by
  have := run_idx1 h
  unfold execOp
  simp only [hop, hx, hy]
  go_simp
theorem exec_sub48 {n : Nat} (hop : o.op = .binOp .sub 5 x y 5) (hx : a.eval x = .int .u8 ((48 + n : Nat) : Int)) (hy : a.eval y = .int .u8 48) (h : n < 8) :
    (execOp a.eval o).run Try.prog u = .ok (.value (.int .u8 (n : Int))) u := by
  unfold execOp
  simp only [hop, hx, hy]
  go_simp
  rw [IntKind.wrap_u8]
  omega
theorem exec_conv8 {n : Nat} (hop : o.op = .convert 5 3 x) (hx : a.eval x = .int .u8 (n : Int)) (h : n < 8) :
    (execOp a.eval o).run Try.prog u = .ok (.value (.int .i64 (n : Int))) u := by
  have hw : IntKind.i64.wrap (n : Int) = (n : Int) := by rw [IntKind.wrap_i64]; omega
  unfold execOp
  simp only [hop, hx]
  go_simp
end

set_option maxHeartbeats 8000000 in
theorem bound_any (N d : Nat) (s : ByteArray) (st : St) (w : World) (k : Int) (at_ : Nat) (r : Option (St → Tr × St)) (hr : Rz 87 d r) (h : PS w N d s st) :
    Calls Try.prog 88 #[.pointer (some ⟨N, 0, none⟩), .int .i64 k, .int .i64 (at_ : Int)] w (Gives N d s w (Ex.bound r k at_ st)) := by
  have hlt := h.lt
  have HP0 := Bx.mk (h.alloc (Obj.cells #[.int .i64 0, .int .i64 0, .int .i64 0, .slice none 0 0] 36))
  have HR0 := Bx.mk (Blk.new w 36 #[.int .i64 0, .int .i64 0, .int .i64 0, .slice none 0 0])
  have HG0 := Bx.mk ((Gb.refl N w).alloc (Obj.cells #[.int .i64 0, .int .i64 0, .int .i64 0, .slice none 0 0] 36))
  have HRr := Bx.mk hr
  obtain ⟨c0, c1, c2, c3, c4, c5, f1, f2, f3, f4, f5⟩ := pb_cells h.blk
  have hV := variable_any st.now.str
  rw [Tok.bl_str] at hV
  clear c0 c2 c3 c4 c5 f1 f2 f3 f4 f5 h hr
  by_cases hn : ∃ n, st.now = .var n
  · obtain ⟨n, hn⟩ := hn
    rw [hn, Lx.vr_var] at hV
    have hT := Tok.var_at n
    have hGo := goes_st N d s st _ HP0.out (by rw [hn]; simp) (by rw [hn]; simp)
    have hW := fun u (hu : PS u N d s st.goes) => within_any N d s st.goes u 87 r (fun _ _ => rfl) HRr.out hu
    have hE : Ex.bound r k at_ st = (Ex.one k at_ n.val (Ex.within r st.goes).1, (Ex.within r st.goes).2) := by unfold Ex.bound; rw [hn]
    have HE := Bx.mk hE
    have HW := Bx.mk hW
    have HGo := Bx.mk hGo
    have HV := Bx.mk hV
    have HT := Bx.mk hT
    rw [hn] at c1
    have hn8 := n.isLt
    generalize n.val = m at HE HT hn8
    clear hE hW hGo hV hT hn
    go_enter Try.func88, Try.ntmps88
    go_wp2_with fail
    refine (HV.out _).mono ?_
    rintro e w1 ⟨rfl, rfl⟩
    go_wp2_with fail
    refine HGo.out.mono ?_
    rintro e w2 ⟨rfl, hP4, hG4⟩
    have hR4 := hG4.blk HR0.out (by omega)
    have hz4 := hG4.size
    rw [alloc_size] at hz4
    clear c1
    generalize Ex.within r st.goes = Y at HW HE
    go_wp2_with fail
    refine region_any 10 (fun u => True) (by kernel_rfl) ?_
    have hS0 : True := True.intro
    have hP5 := hP4.drew
    have hG5 := hG4.drew
    have hR5 := hR4.drew
    have hz5 : w.heap.size + 1 ≤ w2.drew.heap.size := hz4
    generalize w2.drew = u0 at hP5 hG5 hR5 hz5 ⊢
    clear hP4 hG4 hR4 hz4
    refine any_take (i := 0) (.int .i64 k) rfl rfl (by kernel_rfl) (by kernel_rfl) (by kernel_rfl) (by kernel_rfl) (fun _ _ d _ _ h => by cases d <;> exact h) (fun u hS => rfl) hS0 ?_
    (try simp only [Act.put]); (try simp only [List.getElem_toArray]); (try simp only [List.getElem_cons_succ]); (try simp only [List.getElem_cons_zero]); (try simp only [List.setIfInBounds_toArray]); (try simp only [List.set_cons_succ]); (try simp only [List.set_cons_zero])
    refine any_take (i := 1) (.int .i64 (at_ : Int)) rfl rfl (by kernel_rfl) (by kernel_rfl) (by kernel_rfl) (by kernel_rfl) (fun _ _ d _ _ h => by cases d <;> exact h) (fun u hS => rfl) hS0 ?_
    (try simp only [Act.put]); (try simp only [List.getElem_toArray]); (try simp only [List.getElem_cons_succ]); (try simp only [List.getElem_cons_zero]); (try simp only [List.setIfInBounds_toArray]); (try simp only [List.set_cons_succ]); (try simp only [List.set_cons_zero])
    refine any_take (i := 2) (.string (Tok.var n).str) rfl rfl (by kernel_rfl) (by kernel_rfl) (by kernel_rfl) (by kernel_rfl) (fun _ _ d _ _ h => by cases d <;> exact h) (fun u hS => rfl) hS0 ?_
    (try simp only [Act.put]); (try simp only [List.getElem_toArray]); (try simp only [List.getElem_cons_succ]); (try simp only [List.getElem_cons_zero]); (try simp only [List.setIfInBounds_toArray]); (try simp only [List.set_cons_succ]); (try simp only [List.set_cons_zero])
    refine any_take (i := 3) (.int .u8 ((48 + m : Nat) : Int)) rfl rfl (by kernel_rfl) (by kernel_rfl) (by kernel_rfl) (by kernel_rfl) (fun _ _ d _ _ h => by cases d <;> exact h) (fun u hS => exec_index1 rfl rfl rfl HT.out) hS0 ?_
    (try simp only [Act.put]); (try simp only [List.getElem_toArray]); (try simp only [List.getElem_cons_succ]); (try simp only [List.getElem_cons_zero]); (try simp only [List.setIfInBounds_toArray]); (try simp only [List.set_cons_succ]); (try simp only [List.set_cons_zero])
    refine any_take (i := 4) (.int .u8 (m : Int)) rfl rfl (by kernel_rfl) (by kernel_rfl) (by kernel_rfl) (by kernel_rfl) (fun _ _ d _ _ h => by cases d <;> exact h) (fun u hS => exec_sub48 rfl rfl rfl hn8) hS0 ?_
    (try simp only [Act.put]); (try simp only [List.getElem_toArray]); (try simp only [List.getElem_cons_succ]); (try simp only [List.getElem_cons_zero]); (try simp only [List.setIfInBounds_toArray]); (try simp only [List.set_cons_succ]); (try simp only [List.set_cons_zero])
    refine any_take (i := 5) (.int .i64 (m : Int)) rfl rfl (by kernel_rfl) (by kernel_rfl) (by kernel_rfl) (by kernel_rfl) (fun _ _ d _ _ h => by cases d <;> exact h) (fun u hS => exec_conv8 rfl rfl hn8) hS0 ?_
    (try simp only [Act.put]); (try simp only [List.getElem_toArray]); (try simp only [List.getElem_cons_succ]); (try simp only [List.getElem_cons_zero]); (try simp only [List.setIfInBounds_toArray]); (try simp only [List.set_cons_succ]); (try simp only [List.set_cons_zero])
    refine any_take (i := 6) (.pointer (some ⟨N, 0, none⟩)) rfl rfl (by kernel_rfl) (by kernel_rfl) (by kernel_rfl) (by kernel_rfl) (fun _ _ d _ _ h => by cases d <;> exact h) (fun u hS => rfl) hS0 ?_
    (try simp only [Act.put]); (try simp only [List.getElem_toArray]); (try simp only [List.getElem_cons_succ]); (try simp only [List.getElem_cons_zero]); (try simp only [List.setIfInBounds_toArray]); (try simp only [List.set_cons_succ]); (try simp only [List.set_cons_zero])
    refine any_branch [7] (by kernel_rfl) rfl fun ix hix => ?_
    simp only [List.mem_cons, List.not_mem_nil, or_false] at hix
    subst hix
    refine any_op rfl rfl fun K hK => ?_
    go_simp
    refine (HW.out _ hP5).mono ?_
    rintro e u1 ⟨sy, rfl, hSy, hPy, hGy⟩
    obtain ⟨py, cy, rfl⟩ := hSy.is
    have hR1 := hGy.blk hR5 (by omega)
    refine hK _ _ (fun _ => True.intro) ?_
    (try simp only [Act.put]); (try simp only [List.getElem_toArray]); (try simp only [List.getElem_cons_succ]); (try simp only [List.getElem_cons_zero]); (try simp only [List.setIfInBounds_toArray]); (try simp only [List.set_cons_succ]); (try simp only [List.set_cons_zero])
    clear hK
    refine any_branch [8] (by kernel_rfl) rfl fun ix hix => ?_
    simp only [List.mem_cons, List.not_mem_nil, or_false] at hix
    subst hix
    refine any_op rfl rfl fun K hK => ?_
    unfold Ev
    go_simp
    have hz1 := hGy.size
    have hTy := hSy.mono (B' := Ge (w.heap.size + 1)) (fun g hg => by unfold Ge at hg ⊢; omega)
    have hTn := SlF.single 36 hTy (by unfold Ge; omega)
    have hPn := hPy.alloc (Obj.cells #[.int .i64 Y.1.k, .int .i64 Y.1.a, .int .i64 Y.1.v, .slice py Y.1.kids.len cy] 36)
    have hGn := (HG0.out.trans (hG5.trans hGy)).alloc (Obj.cells #[.int .i64 Y.1.k, .int .i64 Y.1.a, .int .i64 Y.1.v, .slice py Y.1.kids.len cy] 36)
    have hRn := hR1.alloc (Obj.cells #[.int .i64 Y.1.k, .int .i64 Y.1.a, .int .i64 Y.1.v, .slice py Y.1.kids.len cy] 36)
    generalize hpn : u1.heap.size = bn at hTn hz1 ⊢
    generalize u1.alloc (Obj.cells #[.int .i64 Y.1.k, .int .i64 Y.1.a, .int .i64 Y.1.v, .slice py Y.1.kids.len cy] 36) = u2 at hTn hPn hGn hRn ⊢
    clear hTy hP5 hG5 hSy hPy hGy hR5 hR1
    refine hK _ _ (fun _ => True.intro) ?_
    (try simp only [Act.put]); (try simp only [List.getElem_toArray]); (try simp only [List.getElem_cons_succ]); (try simp only [List.getElem_cons_zero]); (try simp only [List.setIfInBounds_toArray]); (try simp only [List.set_cons_succ]); (try simp only [List.set_cons_zero])
    clear hK
    refine any_branch [9] (by kernel_rfl) rfl fun ix hix => ?_
    simp only [List.mem_cons, List.not_mem_nil, or_false] at hix
    subst hix
    refine any_op rfl rfl fun K hK => ?_
    go_simp
    refine hK _ _ (fun _ => True.intro) ?_
    (try simp only [Act.put]); (try simp only [List.getElem_toArray]); (try simp only [List.getElem_cons_succ]); (try simp only [List.getElem_cons_zero]); (try simp only [List.setIfInBounds_toArray]); (try simp only [List.set_cons_succ]); (try simp only [List.set_cons_zero])
    clear hK
    obtain ⟨r0, r1, r2, r3, g0, g1, g2, g3⟩ := cells4 hRn
    refine any_branch [10] (by kernel_rfl) rfl fun ix hix => ?_
    simp only [List.mem_cons, List.not_mem_nil, or_false] at hix
    subst hix
    refine any_op rfl rfl fun K hK => ?_
    go_simp
    refine hK _ _ (fun h => absurd rfl h) ?_
    (try simp only [Act.put]); (try simp only [List.getElem_toArray]); (try simp only [List.getElem_cons_succ]); (try simp only [List.getElem_cons_zero]); (try simp only [List.setIfInBounds_toArray]); (try simp only [List.set_cons_succ]); (try simp only [List.set_cons_zero])
    clear hK
    refine any_end (by kernel_rfl) ?_
    clear r0 r1 r2 r3 g0 g1 g2 g3
    have HPn := Bx.mk hPn
    have HGn := Bx.mk hGn
    have HRn := Bx.mk hRn
    have HTn := Bx.mk hTn
    clear hPn hGn hRn hTn
    go_wp2_with fail
    have hE := Blk.own4 HRn.out (.int .i64 k) (.int .i64 (at_ : Int)) (.int .i64 (m : Int)) (.slice (some ⟨bn, 0, none⟩) 1 1)
    obtain ⟨r0, r1, r2, r3, _, _, _, _⟩ := cells4 hE
    refine bodyPost_ret (v := Ev (Ex.one k at_ m Y.1) (.slice (some ⟨bn, 0, none⟩) 1 1)) (by simp [results, Try.results88, go_sem, r0, r1, r2, r3]; rfl) rfl ?_
    rw [HE.out]
    exact ⟨.slice (some ⟨bn, 0, none⟩) 1 1, rfl, (HTn.out.st4 (R := w.heap.size) (fun h => by unfold Ge at h; omega) _ _ _ _).mono (B' := Ge w.heap.size) (fun g hg => by unfold Ge at hg ⊢; omega), HPn.out.st4 (R := w.heap.size) (by omega) _ _ _ _, HGn.out.st4 (Nat.le_refl _) _ _ _ _⟩
  · have hn' : ∀ n, st.now ≠ .var n := fun n e => hn ⟨n, e⟩
    rw [Lx.vr_not _ hn'] at hV
    have HD := Bx.mk (bad_st N d 230 s st _ HP0.out)
    have hE : Ex.bound r k at_ st = (Tr.zero, st.bad 230) := by
      unfold Ex.bound
      split
      · rename_i n e; exact absurd e (hn' n)
      · rfl
    have HE := Bx.mk hE
    have HV := Bx.mk hV
    clear hE hV hn hn'
    go_enter Try.func88, Try.ntmps88
    go_wp2_with fail
    refine (HV.out _).mono ?_
    rintro e w1 ⟨rfl, rfl⟩
    go_wp2_with fail
    refine HD.out.mono ?_
    rintro e w2 ⟨rfl, hP4, hG4⟩
    have hR4 := hG4.blk HR0.out (by omega)
    obtain ⟨r0, r1, r2, r3, g0, g1, g2, g3⟩ := cells4 hR4
    have HP4 := Bx.mk hP4
    have HG4 := Bx.mk hG4
    have HR4 := Bx.mk hR4
    clear hP4 hG4 hR4
    go_wp2_with fail
    have hE := Blk.own4 HR4.out (.int .i64 0) (.int .i64 0) (.int .i64 0) (.slice none 0 0)
    clear r0 r1 r2 r3 g0 g1 g2 g3
    obtain ⟨r0, r1, r2, r3, _, _, _, _⟩ := cells4 hE
    refine bodyPost_ret (v := Ev Tr.zero (.slice none 0 0)) (by simp [results, Try.results88, go_sem, r0, r1, r2, r3]; rfl) rfl ?_
    rw [HE.out]
    exact ⟨.slice none 0 0, rfl, SlF.nil _ _, HP4.out.st4 (R := w.heap.size) (by omega) _ _ _ _, (HG0.out.trans HG4.out).st4 (Nat.le_refl _) _ _ _ _⟩
end Go.Proofs.Ytfgokhafiffbaaa

/-
  Formulas: slices of formulas that the call makes by append.
-/
namespace Go.Proofs.Ytfgokhafiffbaaa
set_option linter.unusedVariables false
open Go.RowKit

def Fo.app : Fo → Fo → Fo
  | .nil, G => G
  | .cons k a v kids rest, G => .cons k a v kids (rest.app G)
theorem Fo.len_app : ∀ (F G : Fo), (F.app G).len = F.len + G.len
  | .nil, G => by simp [Fo.app, Fo.len]
  | .cons k a v kids rest, G => by simp [Fo.app, Fo.len, Fo.len_app rest G]; omega
/-- the cells of a list -/
def RowF (w : World) (B : Nat → Prop) : Fo → List Value → Prop
  | .nil, L => L = []
  | .cons k a v kids rest, L => ∃ sl L', L = .int .i64 k :: .int .i64 a :: .int .i64 v :: sl :: L' ∧ SlF w B sl kids ∧ RowF w B rest L'
theorem RowF.length {w : World} {B : Nat → Prop} : ∀ {F : Fo} {L : List Value}, RowF w B F L → L.length = F.len * 4
  | .nil, L, h => by rw [show L = [] from h]; rfl
  | .cons k a v kids rest, L, h => by
    obtain ⟨sl, L', rfl, _, hr⟩ := h
    have := RowF.length hr
    simp [Fo.len, this]
    omega
theorem RowF.app {w : World} {B : Nat → Prop} {G : Fo} {M : List Value} (hG : RowF w B G M) : ∀ {F : Fo} {L : List Value}, RowF w B F L → RowF w B (F.app G) (L ++ M)
  | .nil, L, h => by rw [show L = [] from h]; exact hG
  | .cons k a v kids rest, L, h => by
    obtain ⟨sl, L', rfl, hs, hr⟩ := h
    exact ⟨sl, L' ++ M, rfl, hs, RowF.app hG hr⟩
theorem RowF.kept {w w' : World} {B : Nat → Prop} (hk : ∀ g, B g → g < w.heap.size → w'.heap[g]? = w.heap[g]?) : ∀ {F : Fo} {L : List Value}, RowF w B F L → RowF w' B F L
  | .nil, L, h => h
  | .cons k a v kids rest, L, h => by
    obtain ⟨sl, L', rfl, hs, hr⟩ := h
    exact ⟨sl, L', rfl, hs.kept hk, RowF.kept hk hr⟩
theorem RowF.mono' {w : World} {B B' : Nat → Prop} (hk : ∀ g, g < w.heap.size → B g → B' g) : ∀ {F : Fo} {L : List Value}, RowF w B F L → RowF w B' F L
  | .nil, L, h => h
  | .cons k a v kids rest, L, h => by
    obtain ⟨sl, L', rfl, hs, hr⟩ := h
    exact ⟨sl, L', rfl, hs.mono' hk, RowF.mono' hk hr⟩
theorem SlF.shape {w : World} {B : Nat → Prop} {v : Value} {F : Fo} (h : SlF w B v F) : v.oneCell' = true := by
  obtain ⟨p, cap, rfl⟩ := h.is
  rfl
theorem RowF.one {w : World} {B : Nat → Prop} : ∀ {F : Fo} {L : List Value}, RowF w B F L → ∀ u ∈ L, u.oneCell' = true
  | .nil, L, h => by rw [show L = [] from h]; intro u hu; cases hu
  | .cons k a v kids rest, L, h => by
    obtain ⟨sl, L', rfl, hs, hr⟩ := h
    intro u hu
    simp only [List.mem_cons] at hu
    rcases hu with rfl | rfl | rfl | rfl | hu
    · rfl
    · rfl
    · rfl
    · exact hs.shape
    · exact RowF.one hr u hu
theorem RowF.rd {w : World} {B : Nat → Prop} {b : Nat} (hB : B b) : ∀ {F : Fo} {L : List Value} {o : Nat}, RowF w B F L → (∀ j u, L[j]? = some u → w.cell? ⟨b, o + j, none⟩ = some u) → RdF w B F b o
  | .nil, L, o, h, _ => True.intro
  | .cons k a v kids rest, L, o, h, hc => by
    obtain ⟨sl, L', rfl, ⟨p, cap, b', o', rfl, h1, h2, h3⟩, hr⟩ := h
    refine ⟨hB, hc 0 _ rfl, hc 1 _ rfl, hc 2 _ rfl, ⟨p, cap, b', o', hc 3 _ rfl, h1, h2, h3⟩, ?_⟩
    refine RowF.rd hB hr fun j u hj => ?_
    have := hc (j + 4) u (by simpa using hj)
    rwa [show o + (j + 4) = o + 4 + j from by omega] at this
theorem RdF.row {w : World} {B : Nat → Prop} : ∀ {F : Fo} {b o : Nat}, RdF w B F b o → ∃ L, RowF w B F L ∧ ∀ j u, L[j]? = some u → w.cell? ⟨b, o + j, none⟩ = some u
  | .nil, b, o, _ => ⟨[], rfl, fun j u h => by simp at h⟩
  | .cons k a v kids rest, b, o, h => by
    obtain ⟨hb, h0, h1, h2, ⟨p, cap, b', o', h3, hp, hc, hk⟩, hr⟩ := h
    obtain ⟨L, hL, hcell⟩ := RdF.row hr
    refine ⟨.int .i64 k :: .int .i64 a :: .int .i64 v :: .slice p kids.len cap :: L, ⟨_, L, rfl, ⟨p, cap, b', o', rfl, hp, hc, hk⟩, hL⟩, ?_⟩
    intro j u hj
    match j, hj with
    | 0, hj => cases hj; exact h0
    | 1, hj => cases hj; exact h1
    | 2, hj => cases hj; exact h2
    | 3, hj => cases hj; exact h3
    | j + 4, hj =>
      have := hcell j u (by simpa using hj)
      rwa [show o + 4 + j = o + (j + 4) from by omega] at this

/-- an append whose run is known, for the walk -/
theorem wpList_app {P : Program} {w w' : World} {ops : Array Oper} {rest : List Oper} {o : Oper} {a : Act} {Q : Exit → Act → World → Prop} {v y v' : Value} (s x : Operand) (t u : TypeId)
    (hr : (Builtin.append_ #[t, u] o.type #[v, y]).run P w = .ok v' w') (hgd : o.guard = none)
    (ho : o.op = .call { callee := .builtin .append, args := #[s, x], argTypes := #[t, u] }) (hs : a.eval s = v) (hx : a.eval x = y)
    (h : wpList P ops Q rest (a.put o.dst v') w') : wpList P ops Q (o :: rest) a w := by
  refine wpList_plain hgd fun K hK => ?_
  unfold Oper.wp execOp
  simp only [ho, resolve, invoke, builtin, Sem.run_bind, Sem.run_pure, Result.andThen_ok, List.map_toArray, List.map_cons, List.map_nil, hs, hx, hr]
  exact hK _ _ h

set_option maxRecDepth 100000 in
/-- formulas appended: the slice lies where it lay, or in a new block -/
theorem own_app {w : World} {base : Nat} {v : Value} {n : Nat} {L : List Value} (h : w.ownsRow base 36 4 v n L) (b o m c : Nat) (news : List Value) (hl : news.length = m * 4) (hm : v = .slice none 0 0 → 0 < m)
    (hnews : ∀ j u, news[j]? = some u → w.cell? ⟨b, o + j, none⟩ = some u) (hone : ∀ u ∈ news, u.oneCell' = true) (hn : n + m < 1000000) (hb : base ≤ w.heap.size) (ty : TypeId) :
    ∃ v' w', (Builtin.append_ #[34, 34] ty #[v, .slice (some ⟨b, o, none⟩) m c]).run Try.prog w = .ok v' w' ∧ w'.ownsRow base 36 4 v' (n + m) (L ++ news) ∧ w.grownBy w' v.ownBlock ∧
      (v'.ownBlock = v.ownBlock ∨ v'.ownBlock = some w.heap.size) := by
  obtain ⟨i0, hi, hz⟩ : ∃ i, Try.prog.info? 36 = some i ∧ i.zero = some (.agg #[.int .i64 0, .int .i64 0, .int .i64 0, .slice none 0 0]) ∧ i.size = 4 ∧ i.bytes = 48 := by
    refine ⟨_, rfl, ?_⟩
    exact ⟨by kernel_rfl, by kernel_rfl, by kernel_rfl⟩
  have hnews' : ∀ j u, news[j]? = some u → w.cell? ((⟨b, o, none⟩ : Addr).add j) = some u := fun j u hj => by
    have := hnews j u hj
    simp only [Addr.add]
    split
    · rename_i e0; subst e0; exact this
    · exact this
  obtain ⟨v', w', hr, h1, h2, h3⟩ := run_append_own (P := Try.prog) w base 34 ty 36 i0 _ 4 48 Try.underlying34 hi hz.1 hz.2.1 hz.2.2 rfl (by omega) _ _ _ h ⟨b, o, none⟩ m c news hl hnews' hone (by unfold maxLen; omega) (by omega) hb
  refine ⟨v', w', hr, h1, h2, ?_⟩
  rcases h.2 with ⟨rfl, h0⟩ | ⟨g, cap, cur, rfl, hbg, hg, hnc, hcm, hcs, htake⟩
  · right
    have hr2 := run_append_nil (P := Try.prog) w 34 ty 36 i0 _ Try.underlying34 hi hz.1 ⟨b, o, none⟩ m c news (by rw [hz.2.1]; exact hl) hnews' (hm rfl) (by omega) (by rw [hz.2.2]; omega)
    rw [hr] at hr2
    cases hr2
    rfl
  · by_cases hroom : n + m ≤ cap
    · left
      have hr2 := run_append_room (P := Try.prog) w 34 ty 36 i0 Try.underlying34 hi g n cap cur hg ⟨b, o, none⟩ m c news (by rw [hz.2.1]; exact hl) hnews' hone hroom (by rw [hl, hcs, hz.2.1]; omega)
      rw [hr] at hr2
      cases hr2
      rfl
    · right
      have holds : ∀ j u, L[j]? = some u → w.cell? ((⟨g, 0, none⟩ : Addr).add j) = some u := h.cells (g := g) rfl
      have hr2 := run_append_grow (P := Try.prog) w 34 ty 36 i0 _ Try.underlying34 hi hz.1 ⟨g, 0, none⟩ n cap L (by rw [hz.2.1]; exact h.1) holds ⟨b, o, none⟩ m c news (by rw [hz.2.1]; exact hl) hnews' (by omega) (by omega) (growslice_fits (by omega) (by rw [hz.2.2]; omega))
      rw [hr] at hr2
      cases hr2
      rfl
theorem own_slf {w : World} {base : Nat} {v : Value} {n : Nat} {L : List Value} {F : Fo} {B : Nat → Prop} (h : w.ownsRow base 36 4 v n L) (hF : RowF w B F L) (hB : ∀ k, v.ownBlock = some k → B k) : SlF w B v F := by
  have hl := hF.length
  rw [h.1] at hl
  have hn : n = F.len := by omega
  subst hn
  rcases h.2 with ⟨rfl, h0⟩ | ⟨g, cap, cur, rfl, hbg, hg, hnc, hcm, hcs, htake⟩
  · cases F with
    | nil => exact SlF.nil w B
    | cons k a v kids rest => simp [Fo.len] at h0
  · refine SlF.mk hnc (RowF.rd (hB g rfl) hF fun j u hj => ?_)
    have := h.cells (g := g) rfl j u hj
    rw [Nat.zero_add]
    simp only [Addr.add] at this
    split at this
    · rename_i e0; subst e0; exact this
    · simpa using this

/-- where a call stands that collects formulas in a slice of its own -/
structure IT (w wr : World) (N d : Nat) (s : ByteArray) (st : St) (v : Value) (n : Nat) (F : Fo) : Prop where
  ps : PS wr N d s st
  gb : Gb N w wr
  res : Blk wr w.heap.size 36 #[.int .i64 0, .int .i64 0, .int .i64 0, .slice none 0 0]
  lt : N < w.heap.size
  len : F.len = n
  own : ∃ L, wr.ownsRow (w.heap.size + 1) 36 4 v n L ∧ RowF wr (fun g => w.heap.size < g ∧ some g ≠ v.ownBlock) F L
theorem IT.size {w wr : World} {N d : Nat} {s : ByteArray} {st : St} {v : Value} {n : Nat} {F : Fo} (h : IT w wr N d s st v n F) : w.heap.size + 1 ≤ wr.heap.size := h.res.lt
theorem IT.own_lt {w wr : World} {N d : Nat} {s : ByteArray} {st : St} {v : Value} {n : Nat} {F : Fo} (h : IT w wr N d s st v n F) {k : Nat} (hk : v.ownBlock = some k) : w.heap.size + 1 ≤ k ∧ k < wr.heap.size := by
  obtain ⟨L, h1, _⟩ := h.own
  exact h1.lt k hk
theorem IT.step {w wr w2 : World} {N d : Nat} {s : ByteArray} {st st' : St} {v : Value} {n : Nat} {F : Fo} (h : IT w wr N d s st v n F) (hp : PS w2 N d s st') (hg : Gb N wr w2) : IT w w2 N d s st' v n F := by
  have hlt := h.lt
  refine ⟨hp, h.gb.trans hg, hg.blk h.res (by omega), h.lt, h.len, ?_⟩
  have hw := fun k (hk : v.ownBlock = some k) => h.own_lt hk
  obtain ⟨L, h1, h2⟩ := h.own
  refine ⟨L, h1.kept hg ?_, h2.kept fun g hgB hl => hg.block g hl (fun e => ?_)⟩
  · cases e : v.ownBlock with
    | none => simp
    | some k => right; intro e2; have := Option.some.inj e2; have := hw k e; omega
  · have := Option.some.inj e
    have := hgB.1
    omega
theorem IT.app {w wr : World} {N d : Nat} {s : ByteArray} {st : St} {v : Value} {n : Nat} {F : Fo} (h : IT w wr N d s st v n F) (hn : n < 10) (y : Tr) (sy : Value) (hy : SlF wr (fun g => w.heap.size < g ∧ some g ≠ v.ownBlock) sy y.kids) (c : Nat) (ty : TypeId) :
    ∃ v' w', (Builtin.append_ #[34, 34] ty #[v, .slice (some ⟨wr.heap.size, 0, none⟩) 1 c]).run Try.prog (wr.alloc (.cells #[.int .i64 y.k, .int .i64 y.a, .int .i64 y.v, sy] 36)) = .ok v' w' ∧ IT w w' N d s st v' (n + 1) (F.app (y.on .nil)) := by
  have hlt := h.lt
  have hsz := h.size
  obtain ⟨py, cy, hsy⟩ := hy.is
  have hw := fun k (hk : v.ownBlock = some k) => h.own_lt hk
  obtain ⟨L, h1, h2⟩ := h.own
  have hb := Blk.new wr 36 #[.int .i64 y.k, .int .i64 y.a, .int .i64 y.v, sy]
  have hG0 := World.grownBy_alloc wr (.cells #[.int .i64 y.k, .int .i64 y.a, .int .i64 y.v, sy] 36) none
  have h1' := h1.kept hG0 (by cases e : v.ownBlock <;> simp)
  have hP' := h.ps.alloc (.cells #[.int .i64 y.k, .int .i64 y.a, .int .i64 y.v, sy] 36)
  have hR' := h.res.alloc (.cells #[.int .i64 y.k, .int .i64 y.a, .int .i64 y.v, sy] 36)
  have hgb' := h.gb.alloc (.cells #[.int .i64 y.k, .int .i64 y.a, .int .i64 y.v, sy] 36)
  have h2' : RowF (wr.alloc (.cells #[.int .i64 y.k, .int .i64 y.a, .int .i64 y.v, sy] 36)) (fun g => w.heap.size < g ∧ some g ≠ v.ownBlock ∧ g < wr.heap.size) (F.app (y.on .nil)) (L ++ [.int .i64 y.k, .int .i64 y.a, .int .i64 y.v, sy]) := by
    refine RowF.kept (w := wr) (fun g _ hl => Below.heap_alloc _ _ _ hl) (RowF.app ?_ (h2.mono' fun g hg hB => ⟨hB.1, hB.2, hg⟩))
    exact ⟨sy, [], rfl, hy.mono' fun g hg hB => ⟨hB.1, hB.2, hg⟩, rfl⟩
  have hz0 := alloc_size wr (.cells #[.int .i64 y.k, .int .i64 y.a, .int .i64 y.v, sy] 36)
  generalize wr.alloc (.cells #[.int .i64 y.k, .int .i64 y.a, .int .i64 y.v, sy] 36) = wa at hb h1' hP' hR' hgb' h2' hz0 ⊢
  obtain ⟨v', w', hr, ho, hg, hbk⟩ := own_app h1' wr.heap.size 0 1 c [.int .i64 y.k, .int .i64 y.a, .int .i64 y.v, sy] rfl (fun _ => by omega) (fun j u hj => by
      rw [Nat.zero_add, hb.cell]
      rw [← hj]
      match j with
      | 0 => rfl
      | 1 => rfl
      | 2 => rfl
      | 3 => rfl
      | j + 4 => rfl) (by
      intro u hu
      simp only [List.mem_cons, List.not_mem_nil, or_false] at hu
      rcases hu with rfl | rfl | rfl | rfl
      · rfl
      · rfl
      · rfl
      · exact hy.shape) (by omega) (by omega) ty
  have hne : ∀ g, g ≤ w.heap.size → some g ≠ v.ownBlock := fun g hg e => by have := hw g e.symm; omega
  refine ⟨v', w', hr, ⟨⟨⟨(hg.block N (by omega) (hne N (by omega))).trans hP'.blk.eq⟩, hP'.len, hP'.size, hP'.toks⟩, ?_, ⟨(hg.block w.heap.size (by omega) (hne _ (Nat.le_refl _))).trans hR'.eq⟩, hlt, by rw [Fo.len_app, h.len]; rfl, ?_⟩⟩
  · exact ⟨hg.os.trans hgb'.os, hg.tape.trans hgb'.tape, hg.output.trans hgb'.output, Nat.le_trans hgb'.size hg.size, fun i hi hi2 => (hg.block i (by omega) (hne i (by omega))).trans (hgb'.block i hi hi2)⟩
  · refine ⟨_, ho, (h2'.kept fun g hB hl => hg.block g hl hB.2.1).mono' fun g hl hB => ⟨hB.1, ?_⟩⟩
    rcases hbk with e | e
    · rw [e]; exact hB.2.1
    · rw [e]; intro e2; have := Option.some.inj e2; have := hB.2.2; omega
end Go.Proofs.Ytfgokhafiffbaaa

/-
  Formulas: ite.
-/
namespace Go.Proofs.Ytfgokhafiffbaaa
set_option linter.unusedVariables false
open Go.RowKit

theorem ite_ix0 (w : World) : (Instr.index 49 (.agg #[.string { data := #[40] }, .string { data := #[44] }, .string { data := #[44] }]) (.int .i64 0)).run Try.prog w = .ok (.string { data := #[40] }) w := by kernel_rfl
theorem ite_ix1 (w : World) : (Instr.index 49 (.agg #[.string { data := #[40] }, .string { data := #[44] }, .string { data := #[44] }]) (.int .i64 1)).run Try.prog w = .ok (.string { data := #[44] }) w := by kernel_rfl
theorem ite_ix2 (w : World) : (Instr.index 49 (.agg #[.string { data := #[40] }, .string { data := #[44] }, .string { data := #[44] }]) (.int .i64 2)).run Try.prog w = .ok (.string { data := #[44] }) w := by kernel_rfl
set_option maxHeartbeats 8000000 in
theorem pite_any (N d : Nat) (s : ByteArray) (st : St) (w : World) (at_ : Nat) (r : Option (St → Tr × St)) (hr : Rz 31 d r) (h : PS w N d s st) :
    Calls Try.prog 91 #[.pointer (some ⟨N, 0, none⟩), .int .i64 (at_ : Int)] w (Gives N d s w (Ex.ite r at_ st)) := by
  have hlt := h.lt
  have HI0 : Bx (IT w (w.alloc (Obj.cells #[.int .i64 0, .int .i64 0, .int .i64 0, .slice none 0 0] 36)) N d s st (.slice none 0 0) 0 .nil) := ⟨⟨h.alloc _, (Gb.refl N w).alloc _, Blk.new w 36 #[.int .i64 0, .int .i64 0, .int .i64 0, .slice none 0 0], hlt, rfl, ⟨[], World.ownsRow_nil _ _ _ 4, rfl⟩⟩⟩
  have hW := fun st' u (hu : PS u N d s st') => within_any N d s st' u 31 r (fun _ _ => rfl) hr hu
  have HW := Bx.mk hW
  have e40 : ({ data := #[40] } : ByteArray) = Tok.str .lp := by unfold Tok.str Tok.txt strOf; decide +kernel
  have e41 : ({ data := #[41] } : ByteArray) = Tok.str .rp := by unfold Tok.str Tok.txt strOf; decide +kernel
  have e44 : ({ data := #[44] } : ByteArray) = Tok.str .comma := by unfold Tok.str Tok.txt strOf; decide +kernel
  have E40 := Bx.mk e40
  have E41 := Bx.mk e41
  have E44 := Bx.mk e44
  clear e40 e41 e44 hW hr h
  have i0 := ite_ix0
  have i1 := ite_ix1
  have i2 := ite_ix2
  have HE : Bx (Ex.ite r at_ st = (⟨9, at_, 0, (Ex.within r (st.must .lp)).1.on ((Ex.within r ((Ex.within r (st.must .lp)).2.must .comma)).1.on ((Ex.within r ((Ex.within r ((Ex.within r (st.must .lp)).2.must .comma)).2.must .comma)).1.on .nil))⟩, (Ex.within r ((Ex.within r ((Ex.within r (st.must .lp)).2.must .comma)).2.must .comma)).2.must .rp)) := ⟨rfl⟩
  generalize Ex.ite r at_ st = R at HE ⊢
  go_enter Try.func91, Try.ntmps91
  go_wp2_with fail
  refine wp_loop_rounds 4 ?_
  rw [rounds_succ]
  go_wp2_with fail
  refine (must_st N d .lp _ s _ _ HI0.out.ps E40.out (by decide) (by decide)).mono ?_
  rintro e wm0 ⟨rfl, hPm, hGm⟩
  have HM0 := Bx.mk (HI0.out.step hPm hGm)
  have hWi := HW.out _ _ HM0.out.ps
  clear hPm hGm HI0
  generalize hy0 : Ex.within r (st.must .lp) = Y0 at hWi
  have HY0 := Bx.mk hy0
  clear hy0
  go_wp2_with fail
  refine hWi.mono ?_
  clear hWi
  rintro e wi0 ⟨sy0, rfl, hSy, hPy, hGy⟩
  have hI := HM0.out.step hPy hGy
  have hsz := HM0.out.size
  have hol := fun k (hk : Value.ownBlock (.slice none 0 0) = some k) => HM0.out.own_lt hk
  have hSy' : SlF wi0 (fun g => w.heap.size < g ∧ some g ≠ Value.ownBlock (.slice none 0 0)) sy0 Y0.1.kids := hSy.mono fun g hg => by unfold Ge at hg; exact ⟨by omega, fun e => by have := hol g e.symm; omega⟩
  obtain ⟨py0, cy0, hq0⟩ := hSy.is
  obtain ⟨v1, wa0, hr0, hI'⟩ := hI.app (by omega) Y0.1 sy0 hSy' 1 34
  have HI1 := Bx.mk hI'
  clear hI hSy' hSy hPy hGy hI' hol HM0
  subst hq0
  unfold Ev
  go_wp2_with (refine wpList_app _ _ _ _ hr0 rfl rfl rfl rfl ?_)
  rw [rounds_succ]
  go_wp2_with fail
  refine (must_st N d .comma _ s _ _ HI1.out.ps E44.out (by decide) (by decide)).mono ?_
  rintro e wm1 ⟨rfl, hPm, hGm⟩
  have HM1 := Bx.mk (HI1.out.step hPm hGm)
  have hWi := HW.out _ _ HM1.out.ps
  clear hPm hGm HI1
  generalize hy1 : Ex.within r (Y0.2.must .comma) = Y1 at hWi
  have HY1 := Bx.mk hy1
  clear hy1
  go_wp2_with fail
  refine hWi.mono ?_
  clear hWi
  rintro e wi1 ⟨sy1, rfl, hSy, hPy, hGy⟩
  have hI := HM1.out.step hPy hGy
  have hsz := HM1.out.size
  have hol := fun k (hk : Value.ownBlock v1 = some k) => HM1.out.own_lt hk
  have hSy' : SlF wi1 (fun g => w.heap.size < g ∧ some g ≠ Value.ownBlock v1) sy1 Y1.1.kids := hSy.mono fun g hg => by unfold Ge at hg; exact ⟨by omega, fun e => by have := hol g e.symm; omega⟩
  obtain ⟨py1, cy1, hq1⟩ := hSy.is
  obtain ⟨v2, wa1, hr1, hI'⟩ := hI.app (by omega) Y1.1 sy1 hSy' 1 34
  have HI2 := Bx.mk hI'
  clear hI hSy' hSy hPy hGy hI' hol HM1
  subst hq1
  unfold Ev
  go_wp2_with (refine wpList_app _ _ _ _ hr1 rfl rfl rfl rfl ?_)
  rw [rounds_succ]
  go_wp2_with fail
  refine (must_st N d .comma _ s _ _ HI2.out.ps E44.out (by decide) (by decide)).mono ?_
  rintro e wm2 ⟨rfl, hPm, hGm⟩
  have HM2 := Bx.mk (HI2.out.step hPm hGm)
  have hWi := HW.out _ _ HM2.out.ps
  clear hPm hGm HI2
  generalize hy2 : Ex.within r (Y1.2.must .comma) = Y2 at hWi
  have HY2 := Bx.mk hy2
  clear hy2
  go_wp2_with fail
  refine hWi.mono ?_
  clear hWi
  rintro e wi2 ⟨sy2, rfl, hSy, hPy, hGy⟩
  have hI := HM2.out.step hPy hGy
  have hsz := HM2.out.size
  have hol := fun k (hk : Value.ownBlock v2 = some k) => HM2.out.own_lt hk
  have hSy' : SlF wi2 (fun g => w.heap.size < g ∧ some g ≠ Value.ownBlock v2) sy2 Y2.1.kids := hSy.mono fun g hg => by unfold Ge at hg; exact ⟨by omega, fun e => by have := hol g e.symm; omega⟩
  obtain ⟨py2, cy2, hq2⟩ := hSy.is
  obtain ⟨v3, wa2, hr2, hI'⟩ := hI.app (by omega) Y2.1 sy2 hSy' 1 34
  have HI3 := Bx.mk hI'
  clear hI hSy' hSy hPy hGy hI' hol HM2
  subst hq2
  unfold Ev
  go_wp2_with (refine wpList_app _ _ _ _ hr2 rfl rfl rfl rfl ?_)
  rw [rounds_succ]
  go_wp2_with fail
  refine (must_st N d .rp _ s _ _ HI3.out.ps E41.out (by decide) (by decide)).mono ?_
  rintro e w4 ⟨rfl, hP4, hG4⟩
  have hI4 := HI3.out.step hP4 hG4
  obtain ⟨L, ho, hF⟩ := hI4.own
  have hS4 := own_slf (B := fun g => w.heap.size < g) ho (hF.mono' fun g _ hB => hB.1) (fun k hk => (hI4.own_lt hk).1)
  obtain ⟨pv, cv, hv⟩ := hS4.is
  obtain ⟨r0, r1, r2, r3, g0, g1, g2, g3⟩ := cells4 hI4.res
  have HI4 := Bx.mk hI4
  have HS4 := Bx.mk hS4
  clear hI4 hS4 hP4 hG4 ho hF
  subst hv
  go_wp2_with fail
  have hE := Blk.own4 HI4.out.res (.int .i64 9) (.int .i64 (at_ : Int)) (.int .i64 0) (.slice pv (((Fo.nil.app (Y0.1.on .nil)).app (Y1.1.on .nil)).app (Y2.1.on .nil)).len cv)
  clear r0 r1 r2 r3 g0 g1 g2 g3
  obtain ⟨r0, r1, r2, r3, _, _, _, _⟩ := cells4 hE
  refine bodyPost_ret (v := Ev (⟨9, at_, 0, ((Fo.nil.app (Y0.1.on .nil)).app (Y1.1.on .nil)).app (Y2.1.on .nil)⟩ : Tr) (.slice pv (((Fo.nil.app (Y0.1.on .nil)).app (Y1.1.on .nil)).app (Y2.1.on .nil)).len cv)) (by simp [results, Try.results91, go_sem, r0, r1, r2, r3]; rfl) rfl ?_
  rw [HE.out, HY0.out, HY1.out, HY2.out]
  exact ⟨.slice pv (((Fo.nil.app (Y0.1.on .nil)).app (Y1.1.on .nil)).app (Y2.1.on .nil)).len cv, rfl, (HS4.out.st4 (R := w.heap.size) (fun h => by omega) _ _ _ _).mono (B' := Ge w.heap.size) (fun g hg => by unfold Ge; omega), HI4.out.ps.st4 (R := w.heap.size) (by omega) _ _ _ _, HI4.out.gb.st4 (Nat.le_refl _) _ _ _ _⟩
end Go.Proofs.Ytfgokhafiffbaaa

/-
  Formulas: prim.
-/
namespace Go.Proofs.Ytfgokhafiffbaaa
set_option linter.unusedVariables false
open Go.RowKit
theorem tok_cells {w : World} {g : Nat} {s : ByteArray} {a : Int} (h : Blk w g 60 #[.string s, .int .i64 a]) : w.cell? ⟨g, 0, none⟩ = some (.string s) ∧ w.cell? ⟨g, 1, none⟩ = some (.int .i64 a) := ⟨h.cell 0, h.cell 1⟩
theorem Tok.zero_at : (bl (Tok.zero).str)[0]? = some 48 := by rw [Tok.bl_str]; unfold Tok.txt; rfl
theorem Tok.one_at : (bl (Tok.one).str)[0]? = some 49 := by rw [Tok.bl_str]; unfold Tok.txt; rfl
theorem ba_of {b : ByteArray} {t : Tok} (h : bl b = t.txt) : b = t.str := bl_inj (by rw [Tok.bl_str, h])
theorem e48 : ({ data := #[48] } : ByteArray) = Tok.str .zero := by unfold Tok.str Tok.txt strOf; decide +kernel
theorem e49 : ({ data := #[49] } : ByteArray) = Tok.str .one := by unfold Tok.str Tok.txt strOf; decide +kernel
theorem e40 : ({ data := #[40] } : ByteArray) = Tok.str .lp := by unfold Tok.str Tok.txt strOf; decide +kernel
theorem e41 : ({ data := #[41] } : ByteArray) = Tok.str .rp := by unfold Tok.str Tok.txt strOf; decide +kernel
theorem eite : ({ data := #[105, 116, 101] } : ByteArray) = Tok.str .ite := by unfold Tok.str Tok.txt strOf; decide +kernel
theorem eall : ({ data := #[97, 108, 108] } : ByteArray) = Tok.str .all := by unfold Tok.str Tok.txt strOf; decide +kernel
theorem eany : ({ data := #[97, 110, 121] } : ByteArray) = Tok.str .any := by unfold Tok.str Tok.txt strOf; decide +kernel
theorem enot : ({ data := #[33] } : ByteArray) = Tok.str .not := by unfold Tok.str Tok.txt strOf; decide +kernel
/-- a sign against a constant text, in the walk's own forms -/
theorem tok_isnt (t u : Tok) (l : List UInt8) (hu : ({ data := l.toArray } : ByteArray) = Tok.str u) (h : t ≠ u) : ¬ t.str.toList = l ∧ (t.str.toList == l) = false := by
  have hx : ¬ t.str.toList = l := fun e => by
    have e2 : bl t.str = bl u.str := by
      rw [← hu, show bl ({ data := l.toArray } : ByteArray) = l.map UInt8.toNat from bl_mk l]
      unfold bl
      rw [← ByteArray.toList_eq, e]
    rw [Tok.bl_str, Tok.bl_str] at e2
    exact h (Tok.txt_inj e2)
  exact ⟨hx, beq_eq_false_iff_ne.2 hx⟩

set_option maxHeartbeats 8000000 in
theorem prim_var (N d : Nat) (s : ByteArray) (st : St) (w : World) (n : Fin 8) (hn : st.now = .var n) (h : PS w N d s st) :
    Calls Try.prog 89 #[.pointer (some ⟨N, 0, none⟩)] w (Gives N d s w (⟨1, st.at_, n.val, .nil⟩, st.goes)) := by
  have hlt := h.lt
  have HP0 := Bx.mk ((h.alloc (Obj.cells #[.int .i64 0, .int .i64 0, .int .i64 0, .slice none 0 0] 36)).alloc (Obj.cells #[.string st.now.str, .int .i64 (st.at_ : Int)] 60))
  have HR0 := Bx.mk ((Blk.new w 36 #[.int .i64 0, .int .i64 0, .int .i64 0, .slice none 0 0]).alloc (Obj.cells #[.string st.now.str, .int .i64 (st.at_ : Int)] 60))
  have HG0 := Bx.mk (((Gb.refl N w).alloc (Obj.cells #[.int .i64 0, .int .i64 0, .int .i64 0, .slice none 0 0] 36)).alloc (Obj.cells #[.string st.now.str, .int .i64 (st.at_ : Int)] 60))
  have ht0 := Blk.new (w.alloc (Obj.cells #[.int .i64 0, .int .i64 0, .int .i64 0, .slice none 0 0] 36)) 60 #[.string st.now.str, .int .i64 (st.at_ : Int)]
  rw [alloc_size] at ht0
  have HT0 := Bx.mk ht0
  obtain ⟨c0, c1, c2, c3, c4, c5, f1, f2, f3, f4, f5⟩ := pb_cells h.blk
  have hV := variable_any st.now.str
  rw [Tok.bl_str] at hV
  clear c0 c3 c4 c5 f1 f2 f3 f4 f5 h ht0

  rw [hn, Lx.vr_var] at hV
  have hT := run_idx1 (Tok.var_at n)
  have hn8 := n.isLt
  have hw1 : IntKind.u8.wrap (48 + (n.val : Int) - 48) = (n.val : Int) := by rw [IntKind.wrap_u8]; omega
  have hw2 : IntKind.i64.wrap (n.val : Int) = (n.val : Int) := by rw [IntKind.wrap_i64]; omega

  have HGo := Bx.mk (goes_st N d s st _ HP0.out (by rw [hn]; simp) (by rw [hn]; simp))
  have HV := Bx.mk hV
  have HN := Bx.mk hn
  rw [hn] at c1
  clear hV
  go_enter Try.func89, Try.ntmps89
  go_wp2_with fail
  refine (HV.out _).mono ?_
  rintro e w1 ⟨rfl, rfl⟩
  go_wp2_with fail
  rw [← HN.out]
  refine HGo.out.mono ?_
  rintro e w2 ⟨rfl, hP4, hG4⟩
  have hR4 := hG4.blk HR0.out (by omega)
  have hT4 := hG4.blk HT0.out (by omega)
  obtain ⟨t0, t1⟩ := tok_cells hT4
  obtain ⟨r0, r1, r2, r3, g0, g1, g2, g3⟩ := cells4 hR4
  rw [HN.out] at t0
  have HP4 := Bx.mk hP4
  have HG4 := Bx.mk hG4
  have HR4 := Bx.mk hR4
  clear hP4 hG4 hR4 hT4 c1 c2
  go_wp2_with fail
  go_still_tail 8, (by kernel_rfl)
  go_wp2_with fail
  clear r0 r1 r2 r3 g0 g1 g2 g3
  have hE := (Blk.own4 HR4.out (.int .i64 1) (.int .i64 (st.at_ : Int)) (.int .i64 n.val) (.slice none 0 0)).drew
  obtain ⟨r0, r1, r2, r3, _, _, _, _⟩ := cells4 hE
  refine bodyPost_ret (v := Ev (⟨1, st.at_, n.val, .nil⟩ : Tr) (.slice none 0 0)) (by simp [results, Try.results89, go_sem, r0, r1, r2, r3]; rfl) rfl ?_
  exact ⟨.slice none 0 0, rfl, SlF.nil _ _, (HP4.out.st4 (R := w.heap.size) (by omega) _ _ _ _).drew, ((HG0.out.trans HG4.out).st4 (Nat.le_refl _) _ _ _ _).drew⟩

set_option maxHeartbeats 8000000 in
theorem prim_zero (N d : Nat) (s : ByteArray) (st : St) (w : World) (hn : st.now = .zero) (h : PS w N d s st) :
    Calls Try.prog 89 #[.pointer (some ⟨N, 0, none⟩)] w (Gives N d s w (⟨2, st.at_, 0, .nil⟩, st.goes)) := by
  have hlt := h.lt
  have HP0 := Bx.mk ((h.alloc (Obj.cells #[.int .i64 0, .int .i64 0, .int .i64 0, .slice none 0 0] 36)).alloc (Obj.cells #[.string st.now.str, .int .i64 (st.at_ : Int)] 60))
  have HR0 := Bx.mk ((Blk.new w 36 #[.int .i64 0, .int .i64 0, .int .i64 0, .slice none 0 0]).alloc (Obj.cells #[.string st.now.str, .int .i64 (st.at_ : Int)] 60))
  have HG0 := Bx.mk (((Gb.refl N w).alloc (Obj.cells #[.int .i64 0, .int .i64 0, .int .i64 0, .slice none 0 0] 36)).alloc (Obj.cells #[.string st.now.str, .int .i64 (st.at_ : Int)] 60))
  have ht0 := Blk.new (w.alloc (Obj.cells #[.int .i64 0, .int .i64 0, .int .i64 0, .slice none 0 0] 36)) 60 #[.string st.now.str, .int .i64 (st.at_ : Int)]
  rw [alloc_size] at ht0
  have HT0 := Bx.mk ht0
  obtain ⟨c0, c1, c2, c3, c4, c5, f1, f2, f3, f4, f5⟩ := pb_cells h.blk
  have hV := variable_any st.now.str
  rw [Tok.bl_str] at hV
  clear c0 c3 c4 c5 f1 f2 f3 f4 f5 h ht0

  rw [hn, Lx.vr_not .zero (by intro n; simp)] at hV
  have hT := run_idx0 (Tok.zero_at)
  have z48 : (Tok.str .zero).toList = 48 :: [] := by rw [Tok.str, show (Tok.zero).txt = [48] from by unfold Tok.txt; rfl]; unfold strOf; decide +kernel

  have HGo := Bx.mk (goes_st N d s st _ HP0.out (by rw [hn]; simp) (by rw [hn]; simp))
  have HV := Bx.mk hV
  have HN := Bx.mk hn
  rw [hn] at c1
  clear hV
  go_enter Try.func89, Try.ntmps89
  go_wp2_with fail
  refine (HV.out _).mono ?_
  rintro e w1 ⟨rfl, rfl⟩
  go_wp2_with fail
  rw [← HN.out]
  refine HGo.out.mono ?_
  rintro e w2 ⟨rfl, hP4, hG4⟩
  have hR4 := hG4.blk HR0.out (by omega)
  have hT4 := hG4.blk HT0.out (by omega)
  obtain ⟨t0, t1⟩ := tok_cells hT4
  obtain ⟨r0, r1, r2, r3, g0, g1, g2, g3⟩ := cells4 hR4
  rw [HN.out] at t0
  have HP4 := Bx.mk hP4
  have HG4 := Bx.mk hG4
  have HR4 := Bx.mk hR4
  clear hP4 hG4 hR4 hT4 c1 c2
  go_wp2_with fail
  go_still_tail 8, (by kernel_rfl)
  go_wp2_with fail
  clear r0 r1 r2 r3 g0 g1 g2 g3
  have hE := (Blk.own4 HR4.out (.int .i64 2) (.int .i64 (st.at_ : Int)) (.int .i64 0) (.slice none 0 0)).drew
  obtain ⟨r0, r1, r2, r3, _, _, _, _⟩ := cells4 hE
  refine bodyPost_ret (v := Ev (⟨2, st.at_, 0, .nil⟩ : Tr) (.slice none 0 0)) (by simp [results, Try.results89, go_sem, r0, r1, r2, r3]; rfl) rfl ?_
  exact ⟨.slice none 0 0, rfl, SlF.nil _ _, (HP4.out.st4 (R := w.heap.size) (by omega) _ _ _ _).drew, ((HG0.out.trans HG4.out).st4 (Nat.le_refl _) _ _ _ _).drew⟩

set_option maxHeartbeats 8000000 in
theorem prim_one (N d : Nat) (s : ByteArray) (st : St) (w : World) (hn : st.now = .one) (h : PS w N d s st) :
    Calls Try.prog 89 #[.pointer (some ⟨N, 0, none⟩)] w (Gives N d s w (⟨2, st.at_, 1, .nil⟩, st.goes)) := by
  have hlt := h.lt
  have HP0 := Bx.mk ((h.alloc (Obj.cells #[.int .i64 0, .int .i64 0, .int .i64 0, .slice none 0 0] 36)).alloc (Obj.cells #[.string st.now.str, .int .i64 (st.at_ : Int)] 60))
  have HR0 := Bx.mk ((Blk.new w 36 #[.int .i64 0, .int .i64 0, .int .i64 0, .slice none 0 0]).alloc (Obj.cells #[.string st.now.str, .int .i64 (st.at_ : Int)] 60))
  have HG0 := Bx.mk (((Gb.refl N w).alloc (Obj.cells #[.int .i64 0, .int .i64 0, .int .i64 0, .slice none 0 0] 36)).alloc (Obj.cells #[.string st.now.str, .int .i64 (st.at_ : Int)] 60))
  have ht0 := Blk.new (w.alloc (Obj.cells #[.int .i64 0, .int .i64 0, .int .i64 0, .slice none 0 0] 36)) 60 #[.string st.now.str, .int .i64 (st.at_ : Int)]
  rw [alloc_size] at ht0
  have HT0 := Bx.mk ht0
  obtain ⟨c0, c1, c2, c3, c4, c5, f1, f2, f3, f4, f5⟩ := pb_cells h.blk
  have hV := variable_any st.now.str
  rw [Tok.bl_str] at hV
  clear c0 c3 c4 c5 f1 f2 f3 f4 f5 h ht0

  rw [hn, Lx.vr_not .one (by intro n; simp)] at hV
  have hT := run_idx0 (Tok.one_at)
  have z48 : (Tok.str .one).toList = 49 :: [] := by rw [Tok.str, show (Tok.one).txt = [49] from by unfold Tok.txt; rfl]; unfold strOf; decide +kernel

  have HGo := Bx.mk (goes_st N d s st _ HP0.out (by rw [hn]; simp) (by rw [hn]; simp))
  have HV := Bx.mk hV
  have HN := Bx.mk hn
  rw [hn] at c1
  clear hV
  go_enter Try.func89, Try.ntmps89
  go_wp2_with fail
  refine (HV.out _).mono ?_
  rintro e w1 ⟨rfl, rfl⟩
  go_wp2_with fail
  rw [← HN.out]
  refine HGo.out.mono ?_
  rintro e w2 ⟨rfl, hP4, hG4⟩
  have hR4 := hG4.blk HR0.out (by omega)
  have hT4 := hG4.blk HT0.out (by omega)
  obtain ⟨t0, t1⟩ := tok_cells hT4
  obtain ⟨r0, r1, r2, r3, g0, g1, g2, g3⟩ := cells4 hR4
  rw [HN.out] at t0
  have HP4 := Bx.mk hP4
  have HG4 := Bx.mk hG4
  have HR4 := Bx.mk hR4
  clear hP4 hG4 hR4 hT4 c1 c2
  go_wp2_with fail
  go_still_tail 8, (by kernel_rfl)
  go_wp2_with fail
  clear r0 r1 r2 r3 g0 g1 g2 g3
  have hE := (Blk.own4 HR4.out (.int .i64 2) (.int .i64 (st.at_ : Int)) (.int .i64 1) (.slice none 0 0)).drew
  obtain ⟨r0, r1, r2, r3, _, _, _, _⟩ := cells4 hE
  refine bodyPost_ret (v := Ev (⟨2, st.at_, 1, .nil⟩ : Tr) (.slice none 0 0)) (by simp [results, Try.results89, go_sem, r0, r1, r2, r3]; rfl) rfl ?_
  exact ⟨.slice none 0 0, rfl, SlF.nil _ _, (HP4.out.st4 (R := w.heap.size) (by omega) _ _ _ _).drew, ((HG0.out.trans HG4.out).st4 (Nat.le_refl _) _ _ _ _).drew⟩

set_option maxHeartbeats 8000000 in
theorem prim_lp (N d : Nat) (s : ByteArray) (st : St) (w : World) (hv : ∀ n, st.now ≠ .var n) (hz : st.now ≠ .zero) (ho : st.now ≠ .one) (r : Option (St → Tr × St)) (hr : Rz 31 d r) (hm : st.may .lp = true) (h : PS w N d s st) :
    Calls Try.prog 89 #[.pointer (some ⟨N, 0, none⟩)] w (Gives N d s w ((Ex.within r st.goes).1, (Ex.within r st.goes).2.must .rp)) := by
  have hlt := h.lt
  have HP0 := Bx.mk ((h.alloc (Obj.cells #[.int .i64 0, .int .i64 0, .int .i64 0, .slice none 0 0] 36)).alloc (Obj.cells #[.string st.now.str, .int .i64 (st.at_ : Int)] 60))
  have HR0 := Bx.mk ((Blk.new w 36 #[.int .i64 0, .int .i64 0, .int .i64 0, .slice none 0 0]).alloc (Obj.cells #[.string st.now.str, .int .i64 (st.at_ : Int)] 60))
  have HG0 := Bx.mk (((Gb.refl N w).alloc (Obj.cells #[.int .i64 0, .int .i64 0, .int .i64 0, .slice none 0 0] 36)).alloc (Obj.cells #[.string st.now.str, .int .i64 (st.at_ : Int)] 60))
  have ht0 := Blk.new (w.alloc (Obj.cells #[.int .i64 0, .int .i64 0, .int .i64 0, .slice none 0 0] 36)) 60 #[.string st.now.str, .int .i64 (st.at_ : Int)]
  rw [alloc_size] at ht0
  have HT0 := Bx.mk ht0
  obtain ⟨c0, c1, c2, c3, c4, c5, f1, f2, f3, f4, f5⟩ := pb_cells h.blk
  have hV := variable_any st.now.str
  rw [Tok.bl_str] at hV
  clear c0 c3 c4 c5 f1 f2 f3 f4 f5 h ht0

  rw [Lx.vr_not _ hv] at hV
  have HV := Bx.mk hV
  have k0 := tok_isnt st.now .zero [48] e48 hz
  have k1 := tok_isnt st.now .one [49] e49 ho
  obtain ⟨k00, k01⟩ := k0
  obtain ⟨k10, k11⟩ := k1
  have hM := may_st N d .lp ({ data := #[40] }) s _ _ HP0.out e40 (by decide) (by decide)
  rw [hm, if_pos rfl] at hM
  have HM := Bx.mk hM
  have hW := fun u (hu : PS u N d s st.goes) => within_any N d s st.goes u 31 r (fun _ _ => rfl) hr hu
  have HW := Bx.mk hW
  clear hV hM hW hr
  generalize Ex.within r st.goes = Y at HW ⊢
  go_enter Try.func89, Try.ntmps89
  go_wp2_with fail
  refine (HV.out _).mono ?_
  rintro e w1 ⟨rfl, rfl⟩
  go_wp2_with fail
  refine HM.out.mono ?_
  rintro e w2 ⟨rfl, hP4, hG4⟩
  have hR4 := hG4.blk HR0.out (by omega)
  have hz4 := hG4.size
  rw [alloc_size, alloc_size] at hz4
  have hW4 := HW.out _ hP4
  have HG4 := Bx.mk hG4
  clear hP4 hG4
  go_wp2_with fail
  refine hW4.mono ?_
  clear hW4
  rintro e w3 ⟨sy, rfl, hS5, hP5, hG5⟩
  obtain ⟨py, cy, rfl⟩ := hS5.is
  have hz5 := hG5.size
  have hR5 := (hG5.blk hR4 (by omega)).alloc (Obj.cells #[.int .i64 Y.1.k, .int .i64 Y.1.a, .int .i64 Y.1.v, .slice py Y.1.kids.len cy] 36)
  have hX5 := Blk.new w3 36 #[.int .i64 Y.1.k, .int .i64 Y.1.a, .int .i64 Y.1.v, .slice py Y.1.kids.len cy]
  have hP6 := hP5.alloc (Obj.cells #[.int .i64 Y.1.k, .int .i64 Y.1.a, .int .i64 Y.1.v, .slice py Y.1.kids.len cy] 36)
  have hG6 := (hG5.alloc (Obj.cells #[.int .i64 Y.1.k, .int .i64 Y.1.a, .int .i64 Y.1.v, .slice py Y.1.kids.len cy] 36))
  have hS6 := (hS5.mono (B' := Ge (w.heap.size + 1)) fun g hg => by unfold Ge at hg ⊢; omega).alloc (Obj.cells #[.int .i64 Y.1.k, .int .i64 Y.1.a, .int .i64 Y.1.v, .slice py Y.1.kids.len cy] 36)
  have hM2 := must_st N d .rp ({ data := #[41] }) s _ _ hP6 e41 (by decide) (by decide)
  have HM2 := Bx.mk hM2
  have HR5 := Bx.mk hR5
  have HX5 := Bx.mk hX5
  have HG6 := Bx.mk hG6
  have HS6 := Bx.mk hS6
  clear hM2 hR5 hX5 hG6 hS6 hP6 hP5 hS5 hG5 hR4
  unfold Ev
  go_wp2_with fail
  refine HM2.out.mono ?_
  rintro e w5 ⟨rfl, hP7, hG7⟩
  have hR7 := hG7.blk HR5.out (by omega)
  have hX7 := hG7.blk HX5.out (by omega)
  obtain ⟨o0, o1, o2, o3, _, _, _, _⟩ := cells4 hX7
  obtain ⟨r0, r1, r2, r3, g0, g1, g2, g3⟩ := cells4 hR7
  have HP7 := Bx.mk hP7
  have HG7 := Bx.mk hG7
  have HR7 := Bx.mk hR7
  clear hP7 hG7 hR7 hX7
  go_wp2_with fail
  clear r0 r1 r2 r3 g0 g1 g2 g3
  have hE := (Blk.own4 HR7.out (.int .i64 Y.1.k) (.int .i64 Y.1.a) (.int .i64 Y.1.v) (.slice py Y.1.kids.len cy))
  obtain ⟨r0, r1, r2, r3, _, _, _, _⟩ := cells4 hE
  refine bodyPost_ret (v := Ev Y.1 (.slice py Y.1.kids.len cy)) (by simp [results, Try.results89, go_sem, r0, r1, r2, r3]; rfl) rfl ?_
  exact ⟨.slice py Y.1.kids.len cy, rfl, ((HS6.out.gbs (fun h => by unfold Ge at h; omega) HG7.out).st4 (R := w.heap.size) (fun h => by unfold Ge at h; omega) _ _ _ _).mono (fun g hg => by unfold Ge at hg ⊢; omega), (HP7.out.st4 (R := w.heap.size) (by omega) _ _ _ _), ((HG0.out.trans (HG4.out.trans (HG6.out.trans HG7.out))).st4 (Nat.le_refl _) _ _ _ _)⟩

set_option maxHeartbeats 8000000 in
theorem prim_ite (N d : Nat) (s : ByteArray) (st : St) (w : World) (hv : ∀ n, st.now ≠ .var n) (hz : st.now ≠ .zero) (ho : st.now ≠ .one) (r : Option (St → Tr × St)) (hr : Rz 31 d r) (hm : st.may .lp = false) (hi : st.may .ite = true) (h : PS w N d s st) :
    Calls Try.prog 89 #[.pointer (some ⟨N, 0, none⟩)] w (Gives N d s w (Ex.ite r st.at_ st.goes)) := by
  have hlt := h.lt
  have HP0 := Bx.mk ((h.alloc (Obj.cells #[.int .i64 0, .int .i64 0, .int .i64 0, .slice none 0 0] 36)).alloc (Obj.cells #[.string st.now.str, .int .i64 (st.at_ : Int)] 60))
  have HR0 := Bx.mk ((Blk.new w 36 #[.int .i64 0, .int .i64 0, .int .i64 0, .slice none 0 0]).alloc (Obj.cells #[.string st.now.str, .int .i64 (st.at_ : Int)] 60))
  have HG0 := Bx.mk (((Gb.refl N w).alloc (Obj.cells #[.int .i64 0, .int .i64 0, .int .i64 0, .slice none 0 0] 36)).alloc (Obj.cells #[.string st.now.str, .int .i64 (st.at_ : Int)] 60))
  have ht0 := Blk.new (w.alloc (Obj.cells #[.int .i64 0, .int .i64 0, .int .i64 0, .slice none 0 0] 36)) 60 #[.string st.now.str, .int .i64 (st.at_ : Int)]
  rw [alloc_size] at ht0
  have HT0 := Bx.mk ht0
  obtain ⟨c0, c1, c2, c3, c4, c5, f1, f2, f3, f4, f5⟩ := pb_cells h.blk
  have hV := variable_any st.now.str
  rw [Tok.bl_str] at hV
  clear c0 c3 c4 c5 f1 f2 f3 f4 f5 h ht0

  rw [Lx.vr_not _ hv] at hV
  have HV := Bx.mk hV
  have k0 := tok_isnt st.now .zero [48] e48 hz
  have k1 := tok_isnt st.now .one [49] e49 ho
  obtain ⟨k00, k01⟩ := k0
  obtain ⟨k10, k11⟩ := k1
  have hM := may_st N d .lp ({ data := #[40] }) s _ _ HP0.out e40 (by decide) (by decide)
  rw [hm, if_neg (by simp)] at hM
  have HM := Bx.mk hM
  have hM2 := fun u (hu : PS u N d s st) => may_st N d .ite ({ data := #[105, 116, 101] }) s st u hu eite (by decide) (by decide)
  rw [hi, if_pos rfl] at hM2
  have HM2 := Bx.mk hM2
  have hW := fun u (hu : PS u N d s st.goes) => pite_any N d s st.goes u st.at_ r hr hu
  have HW := Bx.mk hW
  clear hV hM hW hr hM2
  generalize Ex.ite r st.at_ st.goes = Y at HW ⊢
  go_enter Try.func89, Try.ntmps89
  go_wp2_with fail
  refine (HV.out _).mono ?_
  rintro e w1 ⟨rfl, rfl⟩
  go_wp2_with fail
  refine HM.out.mono ?_
  rintro e w2 ⟨rfl, hP4, hG4⟩
  have hR4 := hG4.blk HR0.out (by omega)
  have hz4 := hG4.size
  rw [alloc_size, alloc_size] at hz4
  have hM4 := HM2.out _ hP4
  have HG4 := Bx.mk hG4
  have hT4 := hG4.blk HT0.out (by omega)
  clear hP4 hG4
  go_wp2_with fail
  refine hM4.mono ?_
  clear hM4
  rintro e w3 ⟨rfl, hP5, hG5⟩
  have hz5 := hG5.size
  have hR5 := (hG5.blk hR4 (by omega))
  have hT5 := (hG5.blk hT4 (by omega))
  obtain ⟨t0, t1⟩ := tok_cells hT5
  have hW5 := HW.out _ hP5
  have HG5 := Bx.mk hG5
  have HR5 := Bx.mk hR5
  clear hR4 hT4 hP5 hG5 hR5 hT5
  go_wp2_with fail
  refine hW5.mono ?_
  clear hW5
  rintro e w4 ⟨sy, rfl, hS6, hP6, hG6⟩
  obtain ⟨py, cy, rfl⟩ := hS6.is
  have hR6 := hG6.blk HR5.out (by omega)
  have hS7 := hS6.mono (B' := Ge (w.heap.size + 1)) fun g hg => by unfold Ge at hg ⊢; omega
  obtain ⟨r0, r1, r2, r3, g0, g1, g2, g3⟩ := cells4 hR6
  have HP6 := Bx.mk hP6
  have HG6 := Bx.mk hG6
  have HR6 := Bx.mk hR6
  have HS7 := Bx.mk hS7
  clear hP6 hG6 hR6 hS6 hS7
  unfold Ev
  go_wp2_with fail
  clear r0 r1 r2 r3 g0 g1 g2 g3
  have hE := (Blk.own4 HR6.out (.int .i64 Y.1.k) (.int .i64 Y.1.a) (.int .i64 Y.1.v) (.slice py Y.1.kids.len cy))
  obtain ⟨r0, r1, r2, r3, _, _, _, _⟩ := cells4 hE
  refine bodyPost_ret (v := Ev Y.1 (.slice py Y.1.kids.len cy)) (by simp [results, Try.results89, go_sem, r0, r1, r2, r3]; rfl) rfl ?_
  exact ⟨.slice py Y.1.kids.len cy, rfl, (HS7.out.st4 (R := w.heap.size) (fun h => by unfold Ge at h; omega) _ _ _ _).mono (fun g hg => by unfold Ge at hg ⊢; omega), (HP6.out.st4 (R := w.heap.size) (by omega) _ _ _ _), ((HG0.out.trans (HG4.out.trans (HG5.out.trans HG6.out))).st4 (Nat.le_refl _) _ _ _ _)⟩

set_option maxHeartbeats 8000000 in
theorem prim_no (N d : Nat) (s : ByteArray) (st : St) (w : World) (hv : ∀ n, st.now ≠ .var n) (hz : st.now ≠ .zero) (ho : st.now ≠ .one) (hm : st.may .lp = false) (hi : st.may .ite = false) (h : PS w N d s st) :
    Calls Try.prog 89 #[.pointer (some ⟨N, 0, none⟩)] w (Gives N d s w (Tr.zero, st.bad 230)) := by
  have hlt := h.lt
  have HP0 := Bx.mk ((h.alloc (Obj.cells #[.int .i64 0, .int .i64 0, .int .i64 0, .slice none 0 0] 36)).alloc (Obj.cells #[.string st.now.str, .int .i64 (st.at_ : Int)] 60))
  have HR0 := Bx.mk ((Blk.new w 36 #[.int .i64 0, .int .i64 0, .int .i64 0, .slice none 0 0]).alloc (Obj.cells #[.string st.now.str, .int .i64 (st.at_ : Int)] 60))
  have HG0 := Bx.mk (((Gb.refl N w).alloc (Obj.cells #[.int .i64 0, .int .i64 0, .int .i64 0, .slice none 0 0] 36)).alloc (Obj.cells #[.string st.now.str, .int .i64 (st.at_ : Int)] 60))
  have ht0 := Blk.new (w.alloc (Obj.cells #[.int .i64 0, .int .i64 0, .int .i64 0, .slice none 0 0] 36)) 60 #[.string st.now.str, .int .i64 (st.at_ : Int)]
  rw [alloc_size] at ht0
  have HT0 := Bx.mk ht0
  obtain ⟨c0, c1, c2, c3, c4, c5, f1, f2, f3, f4, f5⟩ := pb_cells h.blk
  have hV := variable_any st.now.str
  rw [Tok.bl_str] at hV
  clear c0 c3 c4 c5 f1 f2 f3 f4 f5 h ht0

  rw [Lx.vr_not _ hv] at hV
  have HV := Bx.mk hV
  have k0 := tok_isnt st.now .zero [48] e48 hz
  have k1 := tok_isnt st.now .one [49] e49 ho
  obtain ⟨k00, k01⟩ := k0
  obtain ⟨k10, k11⟩ := k1
  have hM := may_st N d .lp ({ data := #[40] }) s _ _ HP0.out e40 (by decide) (by decide)
  rw [hm, if_neg (by simp)] at hM
  have HM := Bx.mk hM
  have hM2 := fun u (hu : PS u N d s st) => may_st N d .ite ({ data := #[105, 116, 101] }) s st u hu eite (by decide) (by decide)
  rw [hi, if_neg (by simp)] at hM2
  have HM2 := Bx.mk hM2
  clear hV hM hM2
  go_enter Try.func89, Try.ntmps89
  go_wp2_with fail
  refine (HV.out _).mono ?_
  rintro e w1 ⟨rfl, rfl⟩
  go_wp2_with fail
  refine HM.out.mono ?_
  rintro e w2 ⟨rfl, hP4, hG4⟩
  have hR4 := hG4.blk HR0.out (by omega)
  have hz4 := hG4.size
  rw [alloc_size, alloc_size] at hz4
  have hM4 := HM2.out _ hP4
  have HG4 := Bx.mk hG4
  clear hP4 hG4
  go_wp2_with fail
  refine hM4.mono ?_
  clear hM4
  rintro e w3 ⟨rfl, hP5, hG5⟩
  have hz5 := hG5.size
  have hR5 := (hG5.blk hR4 (by omega))
  have hW5 := bad_st N d 230 s st _ hP5
  have HG5 := Bx.mk hG5
  have HR5 := Bx.mk hR5
  clear hR4 hP5 hG5 hR5
  go_wp2_with fail
  refine hW5.mono ?_
  clear hW5
  rintro e w4 ⟨rfl, hP6, hG6⟩
  have hR6 := hG6.blk HR5.out (by omega)
  obtain ⟨r0, r1, r2, r3, g0, g1, g2, g3⟩ := cells4 hR6
  have HP6 := Bx.mk hP6
  have HG6 := Bx.mk hG6
  have HR6 := Bx.mk hR6
  clear hP6 hG6 hR6
  go_wp2_with fail
  clear r0 r1 r2 r3 g0 g1 g2 g3
  have hE := (Blk.own4 HR6.out (.int .i64 0) (.int .i64 0) (.int .i64 0) (.slice none 0 0))
  obtain ⟨r0, r1, r2, r3, _, _, _, _⟩ := cells4 hE
  refine bodyPost_ret (v := Ev Tr.zero (.slice none 0 0)) (by simp [results, Try.results89, go_sem, r0, r1, r2, r3]; rfl) rfl ?_
  exact ⟨.slice none 0 0, rfl, SlF.nil _ _, (HP6.out.st4 (R := w.heap.size) (by omega) _ _ _ _), ((HG0.out.trans (HG4.out.trans (HG5.out.trans HG6.out))).st4 (Nat.le_refl _) _ _ _ _)⟩

theorem prim_any (N d : Nat) (s : ByteArray) (st : St) (w : World) (r : Option (St → Tr × St)) (hr : Rz 31 d r) (h : PS w N d s st) :
    Calls Try.prog 89 #[.pointer (some ⟨N, 0, none⟩)] w (Gives N d s w (Ex.prim r st)) := by
  by_cases hv : ∃ n, st.now = .var n
  · obtain ⟨n, hn⟩ := hv
    rw [show Ex.prim r st = (⟨1, st.at_, n.val, .nil⟩, st.goes) from by unfold Ex.prim; rw [hn]]
    exact prim_var N d s st w n hn h
  by_cases hz : st.now = .zero
  · rw [show Ex.prim r st = (⟨2, st.at_, 0, .nil⟩, st.goes) from by unfold Ex.prim; rw [hz]]
    exact prim_zero N d s st w hz h
  by_cases ho : st.now = .one
  · rw [show Ex.prim r st = (⟨2, st.at_, 1, .nil⟩, st.goes) from by unfold Ex.prim; rw [ho]]
    exact prim_one N d s st w ho h
  have hv' : ∀ n, st.now ≠ .var n := fun n e => hv ⟨n, e⟩
  have hE : Ex.prim r st = if st.may .lp then ((Ex.within r st.goes).1, (Ex.within r st.goes).2.must .rp) else if st.may .ite then Ex.ite r st.at_ st.goes else (Tr.zero, st.bad 230) := by
    unfold Ex.prim
    split
    · rename_i n e; exact absurd e (hv' n)
    · rename_i e; exact absurd e hz
    · rename_i e; exact absurd e ho
    · rfl
  rw [hE]
  cases hm : st.may .lp with
  | true => rw [if_pos rfl]; exact prim_lp N d s st w hv' hz ho r hr hm h
  | false =>
    rw [if_neg (by simp)]
    cases hi : st.may .ite with
    | true => rw [if_pos rfl]; exact prim_ite N d s st w hv' hz ho r hr hm hi h
    | false => rw [if_neg (by simp)]; exact prim_no N d s st w hv' hz ho hm hi h

end Go.Proofs.Ytfgokhafiffbaaa

/-
  Formulas: un.
-/
namespace Go.Proofs.Ytfgokhafiffbaaa
set_option linter.unusedVariables false
open Go.RowKit

set_option maxHeartbeats 8000000 in
theorem pun_err (N d : Nat) (s : ByteArray) (st : St) (w : World) (he : ¬ st.e = 0) (h : PS w N d s st) :
    Calls Try.prog 87 #[.pointer (some ⟨N, 0, none⟩)] w (Gives N d s w (Tr.zero, st)) := by
  have hlt := h.lt
  have HP0 := Bx.mk (h.alloc (Obj.cells #[.int .i64 0, .int .i64 0, .int .i64 0, .slice none 0 0] 36))
  have HR0 := Bx.mk (Blk.new w 36 #[.int .i64 0, .int .i64 0, .int .i64 0, .slice none 0 0])
  have HG0 := Bx.mk ((Gb.refl N w).alloc (Obj.cells #[.int .i64 0, .int .i64 0, .int .i64 0, .slice none 0 0] 36))
  obtain ⟨c0, c1, c2, c3, c4, c5, f1, f2, f3, f4, f5⟩ := pb_cells h.blk
  clear c0 c1 c3 c5 f1 f2 f3 f4 f5 h
  have q : ¬ (st.e : Int) = 0 := by omega
  clear he
  go_enter Try.func87, Try.ntmps87
  go_wp2_with fail

  obtain ⟨r0, r1, r2, r3, _, _, _, _⟩ := cells4 HR0.out
  refine bodyPost_ret (v := Ev Tr.zero (.slice none 0 0)) (by simp [results, Try.results87, go_sem, r0, r1, r2, r3]; rfl) rfl ?_
  exact ⟨.slice none 0 0, rfl, SlF.nil _ _, HP0.out, HG0.out⟩

set_option maxHeartbeats 8000000 in
theorem pun_not (N d : Nat) (s : ByteArray) (st : St) (w : World) (he : st.e = 0) (m0 : st.may .not = true) (r : Option (St → Tr × St)) (hr : Rz 87 d r) (h : PS w N d s st) :
    Calls Try.prog 87 #[.pointer (some ⟨N, 0, none⟩)] w (Gives N d s w (Ex.one 3 st.at_ 0 (Ex.within r st.goes).1, (Ex.within r st.goes).2)) := by
  have hlt := h.lt
  have HP0 := Bx.mk (h.alloc (Obj.cells #[.int .i64 0, .int .i64 0, .int .i64 0, .slice none 0 0] 36))
  have HR0 := Bx.mk (Blk.new w 36 #[.int .i64 0, .int .i64 0, .int .i64 0, .slice none 0 0])
  have HG0 := Bx.mk ((Gb.refl N w).alloc (Obj.cells #[.int .i64 0, .int .i64 0, .int .i64 0, .slice none 0 0] 36))
  obtain ⟨c0, c1, c2, c3, c4, c5, f1, f2, f3, f4, f5⟩ := pb_cells h.blk
  clear c0 c1 c3 c5 f1 f2 f3 f4 f5 h
  have q : (st.e : Int) = 0 := by omega
  have hM0 := fun u (hu : PS u N d s st) => may_st N d .not ({ data := #[33] }) s st u hu enot (by decide) (by decide)
  rw [m0, if_pos rfl] at hM0
  have HM0 := Bx.mk hM0
  clear hM0
  have hW := fun u (hu : PS u N d s st.goes) => within_any N d s st.goes u 87 r (fun _ _ => rfl) hr hu
  have HW := Bx.mk hW
  clear he hW hr m0
  generalize Ex.within r st.goes = Y at HW ⊢
  go_enter Try.func87, Try.ntmps87
  go_wp2_with fail
  refine (HM0.out _ HP0.out).mono ?_
  rintro e wm0 ⟨rfl, hP0, hG0⟩
  have HP1 := Bx.mk hP0
  have HG1 := Bx.mk (HG0.out.trans hG0)
  have HR1 := Bx.mk (hG0.blk HR0.out (by omega))
  have hz0 := hG0.size
  rw [alloc_size] at hz0
  clear hP0 hG0
  go_wp2_with fail
  refine (HW.out _ HP1.out).mono ?_
  rintro e w3 ⟨sy, rfl, hS5, hP5, hG5⟩
  obtain ⟨py, cy, rfl⟩ := hS5.is
  have hz5 := hG5.size
  have hR5 := (hG5.blk HR1.out (by omega)).alloc (Obj.cells #[.int .i64 Y.1.k, .int .i64 Y.1.a, .int .i64 Y.1.v, .slice py Y.1.kids.len cy] 36)
  have hP6 := hP5.alloc (Obj.cells #[.int .i64 Y.1.k, .int .i64 Y.1.a, .int .i64 Y.1.v, .slice py Y.1.kids.len cy] 36)
  have hG6 := (HG1.out.trans hG5).alloc (Obj.cells #[.int .i64 Y.1.k, .int .i64 Y.1.a, .int .i64 Y.1.v, .slice py Y.1.kids.len cy] 36)
  have hS6 := SlF.single 36 (hS5.mono (B' := Ge (w.heap.size + 1)) fun g hg => by unfold Ge at hg ⊢; omega) (by unfold Ge; omega)
  obtain ⟨r0, r1, r2, r3, g0, g1, g2, g3⟩ := cells4 hR5
  have HP6 := Bx.mk hP6
  have HG6 := Bx.mk hG6
  have HR6 := Bx.mk hR5
  have HS6 := Bx.mk hS6
  clear hP5 hG5 hR5 hS5 hP6 hG6 hS6
  unfold Ev
  go_wp2_with fail
  clear r0 r1 r2 r3 g0 g1 g2 g3
  have hE := (Blk.own4 HR6.out (.int .i64 3) (.int .i64 (st.at_ : Int)) (.int .i64 0) (.slice (some ⟨w3.heap.size, 0, none⟩) 1 1))
  obtain ⟨r0, r1, r2, r3, _, _, _, _⟩ := cells4 hE
  refine bodyPost_ret (v := Ev (Ex.one 3 st.at_ 0 Y.1) (.slice (some ⟨w3.heap.size, 0, none⟩) 1 1)) (by simp [results, Try.results87, go_sem, r0, r1, r2, r3]; rfl) rfl ?_
  exact ⟨.slice (some ⟨w3.heap.size, 0, none⟩) 1 1, rfl, (HS6.out.st4 (R := w.heap.size) (fun h => by unfold Ge at h; omega) _ _ _ _).mono (fun g hg => by unfold Ge at hg ⊢; omega), (HP6.out.st4 (R := w.heap.size) (by omega) _ _ _ _), (HG6.out.st4 (Nat.le_refl _) _ _ _ _)⟩

set_option maxHeartbeats 8000000 in
theorem pun_all (N d : Nat) (s : ByteArray) (st : St) (w : World) (he : st.e = 0) (m0 : st.may .not = false) (m1 : st.may .all = true) (r : Option (St → Tr × St)) (hr : Rz 87 d r) (h : PS w N d s st) :
    Calls Try.prog 87 #[.pointer (some ⟨N, 0, none⟩)] w (Gives N d s w (Ex.bound r 10 st.at_ st.goes)) := by
  have hlt := h.lt
  have HP0 := Bx.mk (h.alloc (Obj.cells #[.int .i64 0, .int .i64 0, .int .i64 0, .slice none 0 0] 36))
  have HR0 := Bx.mk (Blk.new w 36 #[.int .i64 0, .int .i64 0, .int .i64 0, .slice none 0 0])
  have HG0 := Bx.mk ((Gb.refl N w).alloc (Obj.cells #[.int .i64 0, .int .i64 0, .int .i64 0, .slice none 0 0] 36))
  obtain ⟨c0, c1, c2, c3, c4, c5, f1, f2, f3, f4, f5⟩ := pb_cells h.blk
  clear c0 c1 c3 c5 f1 f2 f3 f4 f5 h
  have q : (st.e : Int) = 0 := by omega
  have hM0 := fun u (hu : PS u N d s st) => may_st N d .not ({ data := #[33] }) s st u hu enot (by decide) (by decide)
  rw [m0, if_neg (by simp)] at hM0
  have HM0 := Bx.mk hM0
  clear hM0
  have hM1 := fun u (hu : PS u N d s st) => may_st N d .all ({ data := #[97, 108, 108] }) s st u hu eall (by decide) (by decide)
  rw [m1, if_pos rfl] at hM1
  have HM1 := Bx.mk hM1
  clear hM1
  have hW := fun u (hu : PS u N d s st.goes) => bound_any N d s st.goes u 10 st.at_ r hr hu
  have HW := Bx.mk hW
  clear he hW hr m0 m1
  generalize Ex.bound r 10 st.at_ st.goes = Y at HW ⊢
  go_enter Try.func87, Try.ntmps87
  go_wp2_with fail
  refine (HM0.out _ HP0.out).mono ?_
  rintro e wm0 ⟨rfl, hP0, hG0⟩
  have HP1 := Bx.mk hP0
  have HG1 := Bx.mk (HG0.out.trans hG0)
  have HR1 := Bx.mk (hG0.blk HR0.out (by omega))
  have hz0 := hG0.size
  rw [alloc_size] at hz0
  clear hP0 hG0
  go_wp2_with fail
  refine (HM1.out _ HP1.out).mono ?_
  rintro e wm1 ⟨rfl, hP1, hG1⟩
  have HP2 := Bx.mk hP1
  have HG2 := Bx.mk (HG1.out.trans hG1)
  have HR2 := Bx.mk (hG1.blk HR1.out (by omega))
  have hz1 := hG1.size
  skip
  clear hP1 hG1
  go_wp2_with fail
  refine (HW.out _ HP2.out).mono ?_
  rintro e w3 ⟨sy, rfl, hS5, hP5, hG5⟩
  obtain ⟨py, cy, rfl⟩ := hS5.is
  have hR5 := (hG5.blk HR2.out (by omega))
  have hG6 := (HG2.out.trans hG5)
  have hS6 := (hS5.mono (B' := Ge (w.heap.size + 1)) fun g hg => by unfold Ge at hg ⊢; omega)
  obtain ⟨r0, r1, r2, r3, g0, g1, g2, g3⟩ := cells4 hR5
  have HP6 := Bx.mk hP5
  have HG6 := Bx.mk hG6
  have HR6 := Bx.mk hR5
  have HS6 := Bx.mk hS6
  clear hP5 hG5 hR5 hS5 hG6 hS6
  unfold Ev
  go_wp2_with fail
  clear r0 r1 r2 r3 g0 g1 g2 g3
  have hE := (Blk.own4 HR6.out (.int .i64 Y.1.k) (.int .i64 Y.1.a) (.int .i64 Y.1.v) (.slice py Y.1.kids.len cy))
  obtain ⟨r0, r1, r2, r3, _, _, _, _⟩ := cells4 hE
  refine bodyPost_ret (v := Ev Y.1 (.slice py Y.1.kids.len cy)) (by simp [results, Try.results87, go_sem, r0, r1, r2, r3]; rfl) rfl ?_
  exact ⟨.slice py Y.1.kids.len cy, rfl, (HS6.out.st4 (R := w.heap.size) (fun h => by unfold Ge at h; omega) _ _ _ _).mono (fun g hg => by unfold Ge at hg ⊢; omega), (HP6.out.st4 (R := w.heap.size) (by omega) _ _ _ _), (HG6.out.st4 (Nat.le_refl _) _ _ _ _)⟩

set_option maxHeartbeats 8000000 in
theorem pun_any (N d : Nat) (s : ByteArray) (st : St) (w : World) (he : st.e = 0) (m0 : st.may .not = false) (m1 : st.may .all = false) (m2 : st.may .any = true) (r : Option (St → Tr × St)) (hr : Rz 87 d r) (h : PS w N d s st) :
    Calls Try.prog 87 #[.pointer (some ⟨N, 0, none⟩)] w (Gives N d s w (Ex.bound r 11 st.at_ st.goes)) := by
  have hlt := h.lt
  have HP0 := Bx.mk (h.alloc (Obj.cells #[.int .i64 0, .int .i64 0, .int .i64 0, .slice none 0 0] 36))
  have HR0 := Bx.mk (Blk.new w 36 #[.int .i64 0, .int .i64 0, .int .i64 0, .slice none 0 0])
  have HG0 := Bx.mk ((Gb.refl N w).alloc (Obj.cells #[.int .i64 0, .int .i64 0, .int .i64 0, .slice none 0 0] 36))
  obtain ⟨c0, c1, c2, c3, c4, c5, f1, f2, f3, f4, f5⟩ := pb_cells h.blk
  clear c0 c1 c3 c5 f1 f2 f3 f4 f5 h
  have q : (st.e : Int) = 0 := by omega
  have hM0 := fun u (hu : PS u N d s st) => may_st N d .not ({ data := #[33] }) s st u hu enot (by decide) (by decide)
  rw [m0, if_neg (by simp)] at hM0
  have HM0 := Bx.mk hM0
  clear hM0
  have hM1 := fun u (hu : PS u N d s st) => may_st N d .all ({ data := #[97, 108, 108] }) s st u hu eall (by decide) (by decide)
  rw [m1, if_neg (by simp)] at hM1
  have HM1 := Bx.mk hM1
  clear hM1
  have hM2 := fun u (hu : PS u N d s st) => may_st N d .any ({ data := #[97, 110, 121] }) s st u hu eany (by decide) (by decide)
  rw [m2, if_pos rfl] at hM2
  have HM2 := Bx.mk hM2
  clear hM2
  have hW := fun u (hu : PS u N d s st.goes) => bound_any N d s st.goes u 11 st.at_ r hr hu
  have HW := Bx.mk hW
  clear he hW hr m0 m1 m2
  generalize Ex.bound r 11 st.at_ st.goes = Y at HW ⊢
  go_enter Try.func87, Try.ntmps87
  go_wp2_with fail
  refine (HM0.out _ HP0.out).mono ?_
  rintro e wm0 ⟨rfl, hP0, hG0⟩
  have HP1 := Bx.mk hP0
  have HG1 := Bx.mk (HG0.out.trans hG0)
  have HR1 := Bx.mk (hG0.blk HR0.out (by omega))
  have hz0 := hG0.size
  rw [alloc_size] at hz0
  clear hP0 hG0
  go_wp2_with fail
  refine (HM1.out _ HP1.out).mono ?_
  rintro e wm1 ⟨rfl, hP1, hG1⟩
  have HP2 := Bx.mk hP1
  have HG2 := Bx.mk (HG1.out.trans hG1)
  have HR2 := Bx.mk (hG1.blk HR1.out (by omega))
  have hz1 := hG1.size
  skip
  clear hP1 hG1
  go_wp2_with fail
  refine (HM2.out _ HP2.out).mono ?_
  rintro e wm2 ⟨rfl, hP2, hG2⟩
  have HP3 := Bx.mk hP2
  have HG3 := Bx.mk (HG2.out.trans hG2)
  have HR3 := Bx.mk (hG2.blk HR2.out (by omega))
  have hz2 := hG2.size
  skip
  clear hP2 hG2
  go_wp2_with fail
  refine (HW.out _ HP3.out).mono ?_
  rintro e w3 ⟨sy, rfl, hS5, hP5, hG5⟩
  obtain ⟨py, cy, rfl⟩ := hS5.is
  have hR5 := (hG5.blk HR3.out (by omega))
  have hG6 := (HG3.out.trans hG5)
  have hS6 := (hS5.mono (B' := Ge (w.heap.size + 1)) fun g hg => by unfold Ge at hg ⊢; omega)
  obtain ⟨r0, r1, r2, r3, g0, g1, g2, g3⟩ := cells4 hR5
  have HP6 := Bx.mk hP5
  have HG6 := Bx.mk hG6
  have HR6 := Bx.mk hR5
  have HS6 := Bx.mk hS6
  clear hP5 hG5 hR5 hS5 hG6 hS6
  unfold Ev
  go_wp2_with fail
  clear r0 r1 r2 r3 g0 g1 g2 g3
  have hE := (Blk.own4 HR6.out (.int .i64 Y.1.k) (.int .i64 Y.1.a) (.int .i64 Y.1.v) (.slice py Y.1.kids.len cy))
  obtain ⟨r0, r1, r2, r3, _, _, _, _⟩ := cells4 hE
  refine bodyPost_ret (v := Ev Y.1 (.slice py Y.1.kids.len cy)) (by simp [results, Try.results87, go_sem, r0, r1, r2, r3]; rfl) rfl ?_
  exact ⟨.slice py Y.1.kids.len cy, rfl, (HS6.out.st4 (R := w.heap.size) (fun h => by unfold Ge at h; omega) _ _ _ _).mono (fun g hg => by unfold Ge at hg ⊢; omega), (HP6.out.st4 (R := w.heap.size) (by omega) _ _ _ _), (HG6.out.st4 (Nat.le_refl _) _ _ _ _)⟩

set_option maxHeartbeats 8000000 in
theorem pun_prim (N d : Nat) (s : ByteArray) (st : St) (w : World) (he : st.e = 0) (m0 : st.may .not = false) (m1 : st.may .all = false) (m2 : st.may .any = false) (r : Option (St → Tr × St)) (hr : Rz 31 d r) (h : PS w N d s st) :
    Calls Try.prog 87 #[.pointer (some ⟨N, 0, none⟩)] w (Gives N d s w (Ex.prim r st)) := by
  have hlt := h.lt
  have HP0 := Bx.mk (h.alloc (Obj.cells #[.int .i64 0, .int .i64 0, .int .i64 0, .slice none 0 0] 36))
  have HR0 := Bx.mk (Blk.new w 36 #[.int .i64 0, .int .i64 0, .int .i64 0, .slice none 0 0])
  have HG0 := Bx.mk ((Gb.refl N w).alloc (Obj.cells #[.int .i64 0, .int .i64 0, .int .i64 0, .slice none 0 0] 36))
  obtain ⟨c0, c1, c2, c3, c4, c5, f1, f2, f3, f4, f5⟩ := pb_cells h.blk
  clear c0 c1 c3 c5 f1 f2 f3 f4 f5 h
  have q : (st.e : Int) = 0 := by omega
  have hM0 := fun u (hu : PS u N d s st) => may_st N d .not ({ data := #[33] }) s st u hu enot (by decide) (by decide)
  rw [m0, if_neg (by simp)] at hM0
  have HM0 := Bx.mk hM0
  clear hM0
  have hM1 := fun u (hu : PS u N d s st) => may_st N d .all ({ data := #[97, 108, 108] }) s st u hu eall (by decide) (by decide)
  rw [m1, if_neg (by simp)] at hM1
  have HM1 := Bx.mk hM1
  clear hM1
  have hM2 := fun u (hu : PS u N d s st) => may_st N d .any ({ data := #[97, 110, 121] }) s st u hu eany (by decide) (by decide)
  rw [m2, if_neg (by simp)] at hM2
  have HM2 := Bx.mk hM2
  clear hM2
  have hW := fun u (hu : PS u N d s st) => prim_any N d s st u r hr hu
  have HW := Bx.mk hW
  clear he hW hr m0 m1 m2
  generalize Ex.prim r st = Y at HW ⊢
  go_enter Try.func87, Try.ntmps87
  go_wp2_with fail
  refine (HM0.out _ HP0.out).mono ?_
  rintro e wm0 ⟨rfl, hP0, hG0⟩
  have HP1 := Bx.mk hP0
  have HG1 := Bx.mk (HG0.out.trans hG0)
  have HR1 := Bx.mk (hG0.blk HR0.out (by omega))
  have hz0 := hG0.size
  rw [alloc_size] at hz0
  clear hP0 hG0
  go_wp2_with fail
  refine (HM1.out _ HP1.out).mono ?_
  rintro e wm1 ⟨rfl, hP1, hG1⟩
  have HP2 := Bx.mk hP1
  have HG2 := Bx.mk (HG1.out.trans hG1)
  have HR2 := Bx.mk (hG1.blk HR1.out (by omega))
  have hz1 := hG1.size
  skip
  clear hP1 hG1
  go_wp2_with fail
  refine (HM2.out _ HP2.out).mono ?_
  rintro e wm2 ⟨rfl, hP2, hG2⟩
  have HP3 := Bx.mk hP2
  have HG3 := Bx.mk (HG2.out.trans hG2)
  have HR3 := Bx.mk (hG2.blk HR2.out (by omega))
  have hz2 := hG2.size
  skip
  clear hP2 hG2
  go_wp2_with fail
  refine (HW.out _ HP3.out).mono ?_
  rintro e w3 ⟨sy, rfl, hS5, hP5, hG5⟩
  obtain ⟨py, cy, rfl⟩ := hS5.is
  have hR5 := (hG5.blk HR3.out (by omega))
  have hG6 := (HG3.out.trans hG5)
  have hS6 := (hS5.mono (B' := Ge (w.heap.size + 1)) fun g hg => by unfold Ge at hg ⊢; omega)
  obtain ⟨r0, r1, r2, r3, g0, g1, g2, g3⟩ := cells4 hR5
  have HP6 := Bx.mk hP5
  have HG6 := Bx.mk hG6
  have HR6 := Bx.mk hR5
  have HS6 := Bx.mk hS6
  clear hP5 hG5 hR5 hS5 hG6 hS6
  unfold Ev
  go_wp2_with fail
  clear r0 r1 r2 r3 g0 g1 g2 g3
  have hE := (Blk.own4 HR6.out (.int .i64 Y.1.k) (.int .i64 Y.1.a) (.int .i64 Y.1.v) (.slice py Y.1.kids.len cy))
  obtain ⟨r0, r1, r2, r3, _, _, _, _⟩ := cells4 hE
  refine bodyPost_ret (v := Ev Y.1 (.slice py Y.1.kids.len cy)) (by simp [results, Try.results87, go_sem, r0, r1, r2, r3]; rfl) rfl ?_
  exact ⟨.slice py Y.1.kids.len cy, rfl, (HS6.out.st4 (R := w.heap.size) (fun h => by unfold Ge at h; omega) _ _ _ _).mono (fun g hg => by unfold Ge at hg ⊢; omega), (HP6.out.st4 (R := w.heap.size) (by omega) _ _ _ _), (HG6.out.st4 (Nat.le_refl _) _ _ _ _)⟩

theorem un_any (d : Nat) (ru rf : Option (St → Tr × St)) (hu : Rz 87 d ru) (hf : Rz 31 d rf) : Pz 87 d (Ex.un ru rf) := by
  intro N s st w h
  unfold Ex.un
  by_cases he : st.e = 0
  · rw [if_neg (by rw [he]; simp)]
    cases m0 : st.may .not with
    | true => rw [if_pos rfl]; exact pun_not N d s st w he m0 ru hu h
    | false =>
      rw [if_neg (by simp)]
      cases m1 : st.may .all with
      | true => rw [if_pos rfl]; exact pun_all N d s st w he m0 m1 ru hu h
      | false =>
        rw [if_neg (by simp)]
        cases m2 : st.may .any with
        | true => rw [if_pos rfl]; exact pun_any N d s st w he m0 m1 m2 ru hu h
        | false => rw [if_neg (by simp)]; exact pun_prim N d s st w he m0 m1 m2 rf hf h
  · rw [if_pos he]; exact pun_err N d s st w he h
end Go.Proofs.Ytfgokhafiffbaaa

/-
  Formulas: all readers, by the levels that are left; Parse.
-/
namespace Go.Proofs.Ytfgokhafiffbaaa
set_option linter.unusedVariables false
open Go.RowKit

theorem mono_bound {r : Option (St → Tr × St)} (hr : MonoO r) (k : Int) (a : Nat) : Mono (Ex.bound r k a) := fun st => by
  unfold Ex.bound
  split
  · exact Nat.le_trans (hr.within _) (goes_le st)
  · exact bad_le _ st
theorem mono_ite {r : Option (St → Tr × St)} (hr : MonoO r) (a : Nat) : Mono (Ex.ite r a) := fun st =>
  Nat.le_trans (must_le _ _) (Nat.le_trans (hr.within _) (Nat.le_trans (must_le _ _) (Nat.le_trans (hr.within _) (Nat.le_trans (must_le _ _) (Nat.le_trans (hr.within _) (must_le _ _))))))
theorem mono_prim {r : Option (St → Tr × St)} (hr : MonoO r) : Mono (Ex.prim r) := fun st => by
  unfold Ex.prim
  split
  · exact goes_le st
  · exact goes_le st
  · exact goes_le st
  · split
    · exact Nat.le_trans (must_le _ _) (Nat.le_trans (hr.within _) (goes_le st))
    · split
      · exact Nat.le_trans (mono_ite hr _ _) (goes_le st)
      · exact bad_le _ st
theorem mono_un {ru rf : Option (St → Tr × St)} (hu : MonoO ru) (hf : MonoO rf) : Mono (Ex.un ru rf) := fun st => by
  unfold Ex.un
  split
  · exact Nat.le_refl _
  · split
    · exact Nat.le_trans (hu.within _) (goes_le st)
    · split
      · exact Nat.le_trans (mono_bound hu _ _ _) (goes_le st)
      · split
        · exact Nat.le_trans (mono_bound hu _ _ _) (goes_le st)
        · exact mono_prim hf st
/-- what holds of the readers at a level -/
structure Lv (d : Nat) (r : Rd) : Prop where
  iff : Pz 31 d r.iff
  imp : Pz 44 d r.imp
  un : Pz 87 d r.un
  miff : Mono r.iff
  mimp : Mono r.imp
  mun : Mono r.un
theorem Lv.mk' (d : Nat) (ru ri rf : Option (St → Tr × St)) (hu : Rz 87 d ru) (hi : Rz 44 d ri) (hf : Rz 31 d rf) (mu : MonoO ru) (mi : MonoO ri) (mf : MonoO rf) : Lv d (Ex.mk ru ri rf) := by
  have u := un_any d ru rf hu hf
  have m := mono_un mu mf
  have a := pand_any d _ u m
  have x := pxor_any d _ a m.chain
  have o := por_any d _ x m.chain.chain
  have i := pimp_any d _ ri o hi
  have mi : Mono (Ex.imp ri (Ex.chain .or 5 (Ex.chain .xor 6 (Ex.chain .and 4 (Ex.un ru rf))))) := Mono.imp mi m.chain.chain.chain
  have f := piff_any d _ i mi
  exact ⟨f, i, u, mi.chain, mi, m⟩
theorem Lv.all : ∀ n, n ≤ 30 → Lv (30 - n) (Ex.lev n)
  | 0, _ => Lv.mk' 30 none none none rfl rfl rfl True.intro True.intro True.intro
  | n + 1, h => by
    have ih := Lv.all n (by omega)
    have e : 30 - (n + 1) + 1 = 30 - n := by omega
    refine Lv.mk' (30 - (n + 1)) _ _ _ ⟨by omega, ?_⟩ ⟨by omega, ?_⟩ ⟨by omega, ?_⟩ ih.mun ih.mimp ih.miff
    · rw [e]; exact ih.un
    · rw [e]; exact ih.imp
    · rw [e]; exact ih.iff
theorem top_any : Pz 31 0 (Ex.lev 30).iff := (Lv.all 30 (Nat.le_refl _)).iff

/-- what Parse hands back -/
def Pv (t : Tr) (sl : Value) (a e : Nat) : Value := .tuple #[Ev t sl, .int .i64 (a : Int), .int .i64 (e : Int)]
def Parsed (w : World) (r : Tr × Nat × Nat) (e : Ending) (w' : World) : Prop :=
  ∃ sl, e = .returned (Pv r.1 sl r.2.1 r.2.2) ∧ SlF w' (Ge w.heap.size) sl r.1.kids ∧ Below w.heap.size w w'
set_option maxHeartbeats 8000000 in
theorem parse_long (s : ByteArray) (w : World) (h : 4000 < s.size) : Calls Try.prog 13 #[.string s] w (Parsed w (Ex.parse (bl s))) := by
  have hE : Ex.parse (bl s) = (Tr.zero, 0, 232) := by unfold Ex.parse; rw [if_pos (by rw [bl_length]; exact h)]
  rw [hE]
  have q : (s.size : Int) > 4000 := by omega
  clear h hE
  go_enter Try.func13, Try.ntmps13
  go_wp2_with fail
  obtain ⟨r0, r1, r2, r3, _, _, _, _⟩ := cells4 (Blk.new w 36 #[.int .i64 0, .int .i64 0, .int .i64 0, .slice none 0 0])
  refine bodyPost_ret (v := Pv Tr.zero (.slice none 0 0) 0 232) (by simp [results, Try.results13, go_sem, r0, r1, r2, r3]; rfl) rfl ?_
  exact ⟨_, rfl, SlF.nil _ _, (Below.refl _ _).alloc (Nat.le_refl _) _⟩
theorem isEmpty_tok (t : Tok) : t.str.toList.isEmpty = decide (t = .eof) := by
  by_cases h : t = .eof
  · subst h
    rw [decide_eq_true rfl, ByteArray.toList_eq]
    unfold Tok.str Tok.txt strOf
    rfl
  · rw [decide_eq_false h]
    have hl := Tok.txt_len t h
    rw [← Tok.bl_str, bl_length] at hl
    rw [ByteArray.toList_eq]
    cases e : t.str.data.toList with
    | nil => have : t.str.size = t.str.data.toList.length := by simp
             rw [e] at this; have h0 : t.str.size = 0 := this; omega
    | cons a r => rfl
theorem Ex.parse_eq (l : List Nat) (h : l.length ≤ 4000) : ((((Ex.lev 30).iff ⟨Lx.lex l 0, 0, 0⟩).2.e = 0 → ((Ex.lev 30).iff ⟨Lx.lex l 0, 0, 0⟩).2.now = .eof → Ex.parse l = (((Ex.lev 30).iff ⟨Lx.lex l 0, 0, 0⟩).1, 0, 0)) ∧
    (((Ex.lev 30).iff ⟨Lx.lex l 0, 0, 0⟩).2.e = 0 → ((Ex.lev 30).iff ⟨Lx.lex l 0, 0, 0⟩).2.now ≠ .eof → Ex.parse l = (Tr.zero, (((Ex.lev 30).iff ⟨Lx.lex l 0, 0, 0⟩).2.bad 230).eat, (((Ex.lev 30).iff ⟨Lx.lex l 0, 0, 0⟩).2.bad 230).e)) ∧
    (((Ex.lev 30).iff ⟨Lx.lex l 0, 0, 0⟩).2.e ≠ 0 → Ex.parse l = (Tr.zero, ((Ex.lev 30).iff ⟨Lx.lex l 0, 0, 0⟩).2.eat, ((Ex.lev 30).iff ⟨Lx.lex l 0, 0, 0⟩).2.e))) := by
  unfold Ex.parse
  rw [if_neg (by omega)]
  simp only []
  generalize (Ex.lev 30).iff ⟨Lx.lex l 0, 0, 0⟩ = R
  have hb := bad_ne 230 (by omega) R.2
  refine ⟨fun h1 h2 => ?_, fun h1 h2 => ?_, fun h1 => ?_⟩
  · have e : (if R.2.e = 0 ∧ R.2.now ≠ .eof then R.2.bad 230 else R.2) = R.2 := if_neg (fun h => h.2 h2)
    rw [e, if_pos h1]
  · have e : (if R.2.e = 0 ∧ R.2.now ≠ .eof then R.2.bad 230 else R.2) = R.2.bad 230 := if_pos ⟨h1, h2⟩
    rw [e, if_neg hb]
  · have e : (if R.2.e = 0 ∧ R.2.now ≠ .eof then R.2.bad 230 else R.2) = R.2 := if_neg (fun h => h1 h.1)
    rw [e, if_neg h1]
/-- where Parse stands behind its reader -/
structure Ph (w wr : World) (s : ByteArray) (R : Tr × St) (b : Nat) (pp : Option Addr) (cap : Nat) : Prop where
  ps : PS wr (w.heap.size + 1) 0 s R.2
  be : Below w.heap.size w wr
  res : Blk wr w.heap.size 36 #[.int .i64 0, .int .i64 0, .int .i64 0, .slice none 0 0]
  own : Blk wr b 36 #[.int .i64 R.1.k, .int .i64 R.1.a, .int .i64 R.1.v, .slice pp R.1.kids.len cap]
  sl : SlF wr (Ge (w.heap.size + 2)) (.slice pp R.1.kids.len cap) R.1.kids
  lt : w.heap.size + 1 < b
set_option maxHeartbeats 8000000 in
theorem parse_short (s : ByteArray) (w : World) (h : s.size ≤ 4000) : Calls Try.prog 13 #[.string s] w (Parsed w (Ex.parse (bl s))) := by
  have q : ¬ (s.size : Int) > 4000 := by omega
  have hB0 : Blk ((w.alloc (Obj.cells #[.int .i64 0, .int .i64 0, .int .i64 0, .slice none 0 0] 36)).alloc (Obj.cells (PB s { data := #[] } 0 0 0 0) 62)) (w.heap.size + 1) 62 (PB s { data := #[] } 0 0 0 0) := by
    have := Blk.new (w.alloc (Obj.cells #[.int .i64 0, .int .i64 0, .int .i64 0, .slice none 0 0] 36)) 62 (PB s { data := #[] } 0 0 0 0)
    rwa [alloc_size] at this
  have hR0 := (Blk.new w 36 #[.int .i64 0, .int .i64 0, .int .i64 0, .slice none 0 0]).alloc (Obj.cells (PB s { data := #[] } 0 0 0 0) 62)
  have hG0 := ((Below.refl w.heap.size w).alloc (Nat.le_refl _) (Obj.cells #[.int .i64 0, .int .i64 0, .int .i64 0, .slice none 0 0] 36)).alloc (by rw [alloc_size]; omega) (Obj.cells (PB s { data := #[] } 0 0 0 0) 62)
  have hz0 : ((w.alloc (Obj.cells #[.int .i64 0, .int .i64 0, .int .i64 0, .slice none 0 0] 36)).alloc (Obj.cells (PB s { data := #[] } 0 0 0 0) 62)).heap.size = w.heap.size + 2 := by rw [alloc_size, alloc_size]
  have hgo := goes_any (w.heap.size + 1) s { data := #[] } 0 0 0 0 _ _ _ hB0 h (Nat.zero_le _) rfl rfl
  generalize hW : (w.alloc (Obj.cells #[.int .i64 0, .int .i64 0, .int .i64 0, .slice none 0 0] 36)).alloc (Obj.cells (PB s { data := #[] } 0 0 0 0) 62) = W0 at hB0 hR0 hG0 hz0 hgo
  have HW0 := Bx.mk hW
  have HR0 := Bx.mk hR0
  have HG0 := Bx.mk hG0
  have HGO := Bx.mk hgo
  have HE := Bx.mk (Ex.parse_eq (bl s) (by rw [bl_length]; exact h))
  have HT := Bx.mk fun u (hu : PS u (w.heap.size + 1) 0 s ⟨Lx.lex (bl s) 0, 0, 0⟩) => top_any (w.heap.size + 1) s ⟨Lx.lex (bl s) 0, 0, 0⟩ u hu
  generalize (Ex.lev 30).iff ⟨Lx.lex (bl s) 0, 0, 0⟩ = R at HE HT
  generalize Ex.parse (bl s) = RR at HE ⊢
  clear hW hB0 hR0 hG0 hgo
  go_enter Try.func13, Try.ntmps13
  go_wp2_with fail
  rw [show (w.alloc (Obj.cells #[.int .i64 0, .int .i64 0, .int .i64 0, .slice none 0 0] 36)).alloc (Obj.cells #[.string s, .string { data := #[] }, .int .i64 0, .int .i64 0, .int .i64 0, .int .i64 0] 62) = W0 from HW0.out]
  refine HGO.out.mono ?_
  rintro e w1 ⟨rfl, hB1, hG1⟩
  have hP1 := PS.fresh (a := 0) rfl rfl hB1 (Nat.zero_le _) h
  rw [List.drop_zero] at hP1
  have hT1 := HT.out w1 hP1
  have HG1 := Bx.mk hG1
  clear hB1 hP1 hG1
  go_wp2_with fail
  refine hT1.mono ?_
  clear hT1
  rintro e w2 ⟨sl, rfl, hS2, hP2, hG2⟩
  obtain ⟨pp, cap, rfl⟩ := hS2.is
  have hz1 := HG1.out.size
  have hz2 := hG2.size
  have hR2 := hG2.blk (HG1.out.blk HR0.out (by omega)) (by omega)
  have hH : Ph w (w2.alloc (Obj.cells #[.int .i64 R.1.k, .int .i64 R.1.a, .int .i64 R.1.v, .slice pp R.1.kids.len cap] 36)) s R w2.heap.size pp cap :=
    ⟨hP2.alloc _, (Gb.to_below (Gb.to_below HG0.out HG1.out (by omega)) hG2 (by omega)).alloc (by omega) _, hR2.alloc _, Blk.new _ _ _, (hS2.mono fun g hg => by unfold Ge at hg ⊢; omega).alloc _, by omega⟩
  have HH := Bx.mk hH
  clear hS2 hP2 hG2 hR2 hH hz1
  unfold Ev
  obtain ⟨c0, c1, c2, c3, c4, c5, f1, f2, f3, f4, f5⟩ := pb_cells HH.out.ps.blk
  have hie := isEmpty_tok R.2.now
  have hr := HH.out.res
  have ho := HH.out.own
  obtain ⟨r0, r1, r2, r3, g0, g1, g2, g3⟩ := cells4 hr
  obtain ⟨o0, o1, o2, o3, _, _, _, _⟩ := cells4 ho
  by_cases he : R.2.e = 0
  · have qe : (R.2.e : Int) = 0 := by omega
    by_cases hn : R.2.now = .eof
    · have hE : RR = (R.1, 0, 0) := HE.out.1 he hn
      have HE2 := Bx.mk hE
      rw [decide_eq_true hn] at hie
      clear hE he c0 c2 c3 c5 f1 f2 f3 f4 f5 hr ho
      rw [hn] at c1 hie
      clear hn
      go_wp2_with fail
      have hf := HH.out.res.own4 (.int .i64 R.1.k) (.int .i64 R.1.a) (.int .i64 R.1.v) (.slice pp R.1.kids.len cap)
      clear r0 r1 r2 r3 g0 g1 g2 g3
      obtain ⟨r0, r1, r2, r3, _, _, _, _⟩ := cells4 hf
      refine bodyPost_ret (v := Pv R.1 (.slice pp R.1.kids.len cap) 0 0) (by simp [results, Try.results13, go_sem, r0, r1, r2, r3]; rfl) rfl ?_
      rw [HE2.out]
      exact ⟨_, rfl, (HH.out.sl.st4 (R := w.heap.size) (fun h => by unfold Ge at h; omega) _ _ _ _).mono (fun g hg => by unfold Ge at hg ⊢; omega), (((HH.out.be.setCell (p := ⟨w.heap.size, 0, none⟩) (Nat.le_refl _) _).setCell (p := ⟨w.heap.size, 1, none⟩) (Nat.le_refl _) _).setCell (p := ⟨w.heap.size, 2, none⟩) (Nat.le_refl _) _).setCell (p := ⟨w.heap.size, 3, none⟩) (Nat.le_refl _) _⟩
    · have hE : RR = (Tr.zero, (R.2.bad 230).eat, (R.2.bad 230).e) := HE.out.2.1 he hn
      have HE2 := Bx.mk hE
      rw [decide_eq_false hn] at hie
      have hbad := bad_st (w.heap.size + 1) 0 230 s R.2 _ HH.out.ps
      have hq := bad_ne 230 (by omega) R.2
      have HB := Bx.mk hbad
      clear hE he hn c0 c2 c3 c5 f1 f2 f3 f4 f5 hr ho hbad
      go_wp2_with fail
      refine HB.out.mono ?_
      rintro e w3 ⟨rfl, hP3, hG3⟩
      have hR3 := hG3.blk HH.out.res (by omega)
      have hb3 := Gb.to_below HH.out.be hG3 (by omega)
      obtain ⟨c0, c1, c2, c3, c4, c5, f1, f2, f3, f4, f5⟩ := pb_cells hP3.blk
      obtain ⟨r0, r1, r2, r3, g0, g1, g2, g3⟩ := cells4 hR3
      have HR3 := Bx.mk hR3
      have HB3 := Bx.mk hb3
      have qe2 : ¬ ((R.2.bad 230).e : Int) = 0 := by omega
      clear hP3 hG3 hR3 hb3 c0 c1 c2 c3 f1 f2 f3 f4 f5
      go_wp2_with fail
      have hR4 := HR3.out.drew
      have hS0 : (fun u => u.cell? ⟨w.heap.size + 1, 4, none⟩ = some (.int .i64 ((R.2.bad 230).e : Int)) ∧ u.cell? ⟨w.heap.size + 1, 5, none⟩ = some (.int .i64 ((R.2.bad 230).eat : Int)) ∧ ∃ v0 v1 v2 v3, Blk u w.heap.size 36 #[v0, v1, v2, v3]) w3.drew := ⟨c4, c5, _, _, _, _, hR4⟩
      clear r0 r1 r2 r3 g0 g1 g2 g3
      refine region_any 100 (fun u => u.cell? ⟨w.heap.size + 1, 4, none⟩ = some (.int .i64 ((R.2.bad 230).e : Int)) ∧ u.cell? ⟨w.heap.size + 1, 5, none⟩ = some (.int .i64 ((R.2.bad 230).eat : Int)) ∧ ∃ v0 v1 v2 v3, Blk u w.heap.size 36 #[v0, v1, v2, v3]) (by kernel_rfl) ?_
      have hB4 := HB3.out.drew
      generalize w3.drew = u0 at hS0 hR4 hB4 ⊢
      refine any_take (i := 0) (.agg #[.int .i64 0, .int .i64 0, .int .i64 0, .slice none 0 0]) rfl rfl (by kernel_rfl) (by kernel_rfl) (by kernel_rfl) (by kernel_rfl) (fun _ _ d _ _ h => by cases d <;> exact h) (fun u hS => by obtain ⟨k4, k5, _⟩ := hS; first | rfl | (unfold execOp; go_simp)) hS0 ?_
      (try simp only [Act.put]); (try simp only [List.getElem_toArray]); (try simp only [List.getElem_cons_succ]); (try simp only [List.getElem_cons_zero]); (try simp only [List.setIfInBounds_toArray]); (try simp only [List.set_cons_succ]); (try simp only [List.set_cons_zero])
      refine any_take (i := 1) (.pointer (some ⟨w.heap.size + 1, 0, none⟩)) rfl rfl (by kernel_rfl) (by kernel_rfl) (by kernel_rfl) (by kernel_rfl) (fun _ _ d _ _ h => by cases d <;> exact h) (fun u hS => by obtain ⟨k4, k5, _⟩ := hS; first | rfl | (unfold execOp; go_simp)) hS0 ?_
      (try simp only [Act.put]); (try simp only [List.getElem_toArray]); (try simp only [List.getElem_cons_succ]); (try simp only [List.getElem_cons_zero]); (try simp only [List.setIfInBounds_toArray]); (try simp only [List.set_cons_succ]); (try simp only [List.set_cons_zero])
      refine any_take (i := 2) (.pointer (some ⟨w.heap.size + 1, 0, none⟩)) rfl rfl (by kernel_rfl) (by kernel_rfl) (by kernel_rfl) (by kernel_rfl) (fun _ _ d _ _ h => by cases d <;> exact h) (fun u hS => by obtain ⟨k4, k5, _⟩ := hS; first | rfl | (unfold execOp; go_simp)) hS0 ?_
      (try simp only [Act.put]); (try simp only [List.getElem_toArray]); (try simp only [List.getElem_cons_succ]); (try simp only [List.getElem_cons_zero]); (try simp only [List.setIfInBounds_toArray]); (try simp only [List.set_cons_succ]); (try simp only [List.set_cons_zero])
      refine any_take (i := 3) (.pointer (some ⟨w.heap.size + 1, 5, none⟩)) rfl rfl (by kernel_rfl) (by kernel_rfl) (by kernel_rfl) (by kernel_rfl) (fun _ _ d _ _ h => by cases d <;> exact h) (fun u hS => by obtain ⟨k4, k5, _⟩ := hS; first | rfl | (unfold execOp; go_simp)) hS0 ?_
      (try simp only [Act.put]); (try simp only [List.getElem_toArray]); (try simp only [List.getElem_cons_succ]); (try simp only [List.getElem_cons_zero]); (try simp only [List.setIfInBounds_toArray]); (try simp only [List.set_cons_succ]); (try simp only [List.set_cons_zero])
      refine any_take (i := 4) (.int .i64 ((R.2.bad 230).eat : Int)) rfl rfl (by kernel_rfl) (by kernel_rfl) (by kernel_rfl) (by kernel_rfl) (fun _ _ d _ _ h => by cases d <;> exact h) (fun u hS => by obtain ⟨k4, k5, _⟩ := hS; first | rfl | (unfold execOp; go_simp)) hS0 ?_
      (try simp only [Act.put]); (try simp only [List.getElem_toArray]); (try simp only [List.getElem_cons_succ]); (try simp only [List.getElem_cons_zero]); (try simp only [List.setIfInBounds_toArray]); (try simp only [List.set_cons_succ]); (try simp only [List.set_cons_zero])
      refine any_take (i := 5) (.pointer (some ⟨w.heap.size + 1, 0, none⟩)) rfl rfl (by kernel_rfl) (by kernel_rfl) (by kernel_rfl) (by kernel_rfl) (fun _ _ d _ _ h => by cases d <;> exact h) (fun u hS => by obtain ⟨k4, k5, _⟩ := hS; first | rfl | (unfold execOp; go_simp)) hS0 ?_
      (try simp only [Act.put]); (try simp only [List.getElem_toArray]); (try simp only [List.getElem_cons_succ]); (try simp only [List.getElem_cons_zero]); (try simp only [List.setIfInBounds_toArray]); (try simp only [List.set_cons_succ]); (try simp only [List.set_cons_zero])
      refine any_take (i := 6) (.pointer (some ⟨w.heap.size + 1, 0, none⟩)) rfl rfl (by kernel_rfl) (by kernel_rfl) (by kernel_rfl) (by kernel_rfl) (fun _ _ d _ _ h => by cases d <;> exact h) (fun u hS => by obtain ⟨k4, k5, _⟩ := hS; first | rfl | (unfold execOp; go_simp)) hS0 ?_
      (try simp only [Act.put]); (try simp only [List.getElem_toArray]); (try simp only [List.getElem_cons_succ]); (try simp only [List.getElem_cons_zero]); (try simp only [List.setIfInBounds_toArray]); (try simp only [List.set_cons_succ]); (try simp only [List.set_cons_zero])
      refine any_take (i := 7) (.pointer (some ⟨w.heap.size + 1, 4, none⟩)) rfl rfl (by kernel_rfl) (by kernel_rfl) (by kernel_rfl) (by kernel_rfl) (fun _ _ d _ _ h => by cases d <;> exact h) (fun u hS => by obtain ⟨k4, k5, _⟩ := hS; first | rfl | (unfold execOp; go_simp)) hS0 ?_
      (try simp only [Act.put]); (try simp only [List.getElem_toArray]); (try simp only [List.getElem_cons_succ]); (try simp only [List.getElem_cons_zero]); (try simp only [List.setIfInBounds_toArray]); (try simp only [List.set_cons_succ]); (try simp only [List.set_cons_zero])
      refine any_take (i := 8) (.int .i64 ((R.2.bad 230).e : Int)) rfl rfl (by kernel_rfl) (by kernel_rfl) (by kernel_rfl) (by kernel_rfl) (fun _ _ d _ _ h => by cases d <;> exact h) (fun u hS => by obtain ⟨k4, k5, _⟩ := hS; first | rfl | (unfold execOp; go_simp)) hS0 ?_
      (try simp only [Act.put]); (try simp only [List.getElem_toArray]); (try simp only [List.getElem_cons_succ]); (try simp only [List.getElem_cons_zero]); (try simp only [List.setIfInBounds_toArray]); (try simp only [List.set_cons_succ]); (try simp only [List.set_cons_zero])
      obtain ⟨k4, k5, v0, v1, v2, v3, hRS⟩ := hS0
      obtain ⟨r0, r1, r2, r3, g0, g1, g2, g3⟩ := cells4 hRS
      refine any_branch [9] (by kernel_rfl) rfl fun ix hix => ?_
      simp only [List.mem_cons, List.not_mem_nil, or_false] at hix
      subst hix
      refine any_op rfl rfl fun K hK => ?_
      go_simp
      have hS1 : (fun u => u.cell? ⟨w.heap.size + 1, 4, none⟩ = some (.int .i64 ((R.2.bad 230).e : Int)) ∧ u.cell? ⟨w.heap.size + 1, 5, none⟩ = some (.int .i64 ((R.2.bad 230).eat : Int)) ∧ ∃ v0 v1 v2 v3, Blk u w.heap.size 36 #[v0, v1, v2, v3]) ((((u0.setCell ⟨w.heap.size, 0, none⟩ (.int .i64 0)).setCell ⟨w.heap.size, 1, none⟩ (.int .i64 0)).setCell ⟨w.heap.size, 2, none⟩ (.int .i64 0)).setCell ⟨w.heap.size, 3, none⟩ (.slice none 0 0)) := ⟨by rw [set_far (.inl (by omega)), set_far (.inl (by omega)), set_far (.inl (by omega)), set_far (.inl (by omega))]; exact k4, by rw [set_far (.inl (by omega)), set_far (.inl (by omega)), set_far (.inl (by omega)), set_far (.inl (by omega))]; exact k5, _, _, _, _, hRS.own4 (.int .i64 0) (.int .i64 0) (.int .i64 0) (.slice none 0 0)⟩
      refine hK _ _ (fun _ => hS1) ?_
      (try simp only [Act.put]); (try simp only [List.getElem_toArray]); (try simp only [List.getElem_cons_succ]); (try simp only [List.getElem_cons_zero]); (try simp only [List.setIfInBounds_toArray]); (try simp only [List.set_cons_succ]); (try simp only [List.set_cons_zero])
      clear hK
      refine any_branch [10] (by kernel_rfl) rfl fun ix hix => ?_
      simp only [List.mem_cons, List.not_mem_nil, or_false] at hix
      subst hix
      refine any_op rfl rfl fun K hK => ?_
      go_simp
      refine hK _ _ (fun _ => hS1) ?_
      (try simp only [Act.put]); (try simp only [List.getElem_toArray]); (try simp only [List.getElem_cons_succ]); (try simp only [List.getElem_cons_zero]); (try simp only [List.setIfInBounds_toArray]); (try simp only [List.set_cons_succ]); (try simp only [List.set_cons_zero])
      clear hK
      refine any_branch [11] (by kernel_rfl) rfl fun ix hix => ?_
      simp only [List.mem_cons, List.not_mem_nil, or_false] at hix
      subst hix
      refine any_op rfl rfl fun K hK => ?_
      go_simp
      refine hK _ _ (fun _ => hS1) ?_
      (try simp only [Act.put]); (try simp only [List.getElem_toArray]); (try simp only [List.getElem_cons_succ]); (try simp only [List.getElem_cons_zero]); (try simp only [List.setIfInBounds_toArray]); (try simp only [List.set_cons_succ]); (try simp only [List.set_cons_zero])
      clear hK
      refine any_end (by kernel_rfl) ?_
      go_wp2_with fail
      have hf := (hR4.own4 (.int .i64 0) (.int .i64 0) (.int .i64 0) (.slice none 0 0))
      clear r0 r1 r2 r3 g0 g1 g2 g3
      obtain ⟨r0, r1, r2, r3, _, _, _, _⟩ := cells4 hf
      refine bodyPost_ret (v := Pv Tr.zero (.slice none 0 0) (R.2.bad 230).eat (R.2.bad 230).e) (by simp [results, Try.results13, go_sem, r0, r1, r2, r3]; rfl) rfl ?_
      rw [HE2.out]
      exact ⟨_, rfl, SlF.nil _ _, (((hB4.setCell (p := ⟨w.heap.size, 0, none⟩) (Nat.le_refl _) _).setCell (p := ⟨w.heap.size, 1, none⟩) (Nat.le_refl _) _).setCell (p := ⟨w.heap.size, 2, none⟩) (Nat.le_refl _) _).setCell (p := ⟨w.heap.size, 3, none⟩) (Nat.le_refl _) _⟩
  · have qe : ¬ (R.2.e : Int) = 0 := by omega
    have qe2 : ((R.2.e : Int) == 0) = false := by rw [beq_eq_false_iff_ne]; omega
    have hE : RR = (Tr.zero, R.2.eat, R.2.e) := HE.out.2.2 he
    have HE2 := Bx.mk hE
    clear hE he c0 c1 c2 c3 f1 f2 f3 f4 f5 hr ho hie
    go_wp2_with fail
    have hR4 := HH.out.res.drew
    have hS0 : (fun u => u.cell? ⟨w.heap.size + 1, 4, none⟩ = some (.int .i64 (R.2.e : Int)) ∧ u.cell? ⟨w.heap.size + 1, 5, none⟩ = some (.int .i64 (R.2.eat : Int)) ∧ ∃ v0 v1 v2 v3, Blk u w.heap.size 36 #[v0, v1, v2, v3]) (w2.alloc (Obj.cells #[.int .i64 R.1.k, .int .i64 R.1.a, .int .i64 R.1.v, .slice pp R.1.kids.len cap] 36)).drew := ⟨c4, c5, _, _, _, _, hR4⟩
    clear r0 r1 r2 r3 g0 g1 g2 g3
    refine region_any 100 (fun u => u.cell? ⟨w.heap.size + 1, 4, none⟩ = some (.int .i64 (R.2.e : Int)) ∧ u.cell? ⟨w.heap.size + 1, 5, none⟩ = some (.int .i64 (R.2.eat : Int)) ∧ ∃ v0 v1 v2 v3, Blk u w.heap.size 36 #[v0, v1, v2, v3]) (by kernel_rfl) ?_
    have hB4 := HH.out.be.drew
    generalize (w2.alloc (Obj.cells #[.int .i64 R.1.k, .int .i64 R.1.a, .int .i64 R.1.v, .slice pp R.1.kids.len cap] 36)).drew = u0 at hS0 hR4 hB4 ⊢
    refine any_take (i := 0) (.agg #[.int .i64 0, .int .i64 0, .int .i64 0, .slice none 0 0]) rfl rfl (by kernel_rfl) (by kernel_rfl) (by kernel_rfl) (by kernel_rfl) (fun _ _ d _ _ h => by cases d <;> exact h) (fun u hS => by obtain ⟨k4, k5, _⟩ := hS; first | rfl | (unfold execOp; go_simp)) hS0 ?_
    (try simp only [Act.put]); (try simp only [List.getElem_toArray]); (try simp only [List.getElem_cons_succ]); (try simp only [List.getElem_cons_zero]); (try simp only [List.setIfInBounds_toArray]); (try simp only [List.set_cons_succ]); (try simp only [List.set_cons_zero])
    refine any_take (i := 1) (.pointer (some ⟨w.heap.size + 1, 0, none⟩)) rfl rfl (by kernel_rfl) (by kernel_rfl) (by kernel_rfl) (by kernel_rfl) (fun _ _ d _ _ h => by cases d <;> exact h) (fun u hS => by obtain ⟨k4, k5, _⟩ := hS; first | rfl | (unfold execOp; go_simp)) hS0 ?_
    (try simp only [Act.put]); (try simp only [List.getElem_toArray]); (try simp only [List.getElem_cons_succ]); (try simp only [List.getElem_cons_zero]); (try simp only [List.setIfInBounds_toArray]); (try simp only [List.set_cons_succ]); (try simp only [List.set_cons_zero])
    refine any_take (i := 2) (.pointer (some ⟨w.heap.size + 1, 0, none⟩)) rfl rfl (by kernel_rfl) (by kernel_rfl) (by kernel_rfl) (by kernel_rfl) (fun _ _ d _ _ h => by cases d <;> exact h) (fun u hS => by obtain ⟨k4, k5, _⟩ := hS; first | rfl | (unfold execOp; go_simp)) hS0 ?_
    (try simp only [Act.put]); (try simp only [List.getElem_toArray]); (try simp only [List.getElem_cons_succ]); (try simp only [List.getElem_cons_zero]); (try simp only [List.setIfInBounds_toArray]); (try simp only [List.set_cons_succ]); (try simp only [List.set_cons_zero])
    refine any_take (i := 3) (.pointer (some ⟨w.heap.size + 1, 5, none⟩)) rfl rfl (by kernel_rfl) (by kernel_rfl) (by kernel_rfl) (by kernel_rfl) (fun _ _ d _ _ h => by cases d <;> exact h) (fun u hS => by obtain ⟨k4, k5, _⟩ := hS; first | rfl | (unfold execOp; go_simp)) hS0 ?_
    (try simp only [Act.put]); (try simp only [List.getElem_toArray]); (try simp only [List.getElem_cons_succ]); (try simp only [List.getElem_cons_zero]); (try simp only [List.setIfInBounds_toArray]); (try simp only [List.set_cons_succ]); (try simp only [List.set_cons_zero])
    refine any_take (i := 4) (.int .i64 (R.2.eat : Int)) rfl rfl (by kernel_rfl) (by kernel_rfl) (by kernel_rfl) (by kernel_rfl) (fun _ _ d _ _ h => by cases d <;> exact h) (fun u hS => by obtain ⟨k4, k5, _⟩ := hS; first | rfl | (unfold execOp; go_simp)) hS0 ?_
    (try simp only [Act.put]); (try simp only [List.getElem_toArray]); (try simp only [List.getElem_cons_succ]); (try simp only [List.getElem_cons_zero]); (try simp only [List.setIfInBounds_toArray]); (try simp only [List.set_cons_succ]); (try simp only [List.set_cons_zero])
    refine any_take (i := 5) (.pointer (some ⟨w.heap.size + 1, 0, none⟩)) rfl rfl (by kernel_rfl) (by kernel_rfl) (by kernel_rfl) (by kernel_rfl) (fun _ _ d _ _ h => by cases d <;> exact h) (fun u hS => by obtain ⟨k4, k5, _⟩ := hS; first | rfl | (unfold execOp; go_simp)) hS0 ?_
    (try simp only [Act.put]); (try simp only [List.getElem_toArray]); (try simp only [List.getElem_cons_succ]); (try simp only [List.getElem_cons_zero]); (try simp only [List.setIfInBounds_toArray]); (try simp only [List.set_cons_succ]); (try simp only [List.set_cons_zero])
    refine any_take (i := 6) (.pointer (some ⟨w.heap.size + 1, 0, none⟩)) rfl rfl (by kernel_rfl) (by kernel_rfl) (by kernel_rfl) (by kernel_rfl) (fun _ _ d _ _ h => by cases d <;> exact h) (fun u hS => by obtain ⟨k4, k5, _⟩ := hS; first | rfl | (unfold execOp; go_simp)) hS0 ?_
    (try simp only [Act.put]); (try simp only [List.getElem_toArray]); (try simp only [List.getElem_cons_succ]); (try simp only [List.getElem_cons_zero]); (try simp only [List.setIfInBounds_toArray]); (try simp only [List.set_cons_succ]); (try simp only [List.set_cons_zero])
    refine any_take (i := 7) (.pointer (some ⟨w.heap.size + 1, 4, none⟩)) rfl rfl (by kernel_rfl) (by kernel_rfl) (by kernel_rfl) (by kernel_rfl) (fun _ _ d _ _ h => by cases d <;> exact h) (fun u hS => by obtain ⟨k4, k5, _⟩ := hS; first | rfl | (unfold execOp; go_simp)) hS0 ?_
    (try simp only [Act.put]); (try simp only [List.getElem_toArray]); (try simp only [List.getElem_cons_succ]); (try simp only [List.getElem_cons_zero]); (try simp only [List.setIfInBounds_toArray]); (try simp only [List.set_cons_succ]); (try simp only [List.set_cons_zero])
    refine any_take (i := 8) (.int .i64 (R.2.e : Int)) rfl rfl (by kernel_rfl) (by kernel_rfl) (by kernel_rfl) (by kernel_rfl) (fun _ _ d _ _ h => by cases d <;> exact h) (fun u hS => by obtain ⟨k4, k5, _⟩ := hS; first | rfl | (unfold execOp; go_simp)) hS0 ?_
    (try simp only [Act.put]); (try simp only [List.getElem_toArray]); (try simp only [List.getElem_cons_succ]); (try simp only [List.getElem_cons_zero]); (try simp only [List.setIfInBounds_toArray]); (try simp only [List.set_cons_succ]); (try simp only [List.set_cons_zero])
    obtain ⟨k4, k5, v0, v1, v2, v3, hRS⟩ := hS0
    obtain ⟨r0, r1, r2, r3, g0, g1, g2, g3⟩ := cells4 hRS
    refine any_branch [9] (by kernel_rfl) rfl fun ix hix => ?_
    simp only [List.mem_cons, List.not_mem_nil, or_false] at hix
    subst hix
    refine any_op rfl rfl fun K hK => ?_
    go_simp
    have hS1 : (fun u => u.cell? ⟨w.heap.size + 1, 4, none⟩ = some (.int .i64 (R.2.e : Int)) ∧ u.cell? ⟨w.heap.size + 1, 5, none⟩ = some (.int .i64 (R.2.eat : Int)) ∧ ∃ v0 v1 v2 v3, Blk u w.heap.size 36 #[v0, v1, v2, v3]) ((((u0.setCell ⟨w.heap.size, 0, none⟩ (.int .i64 0)).setCell ⟨w.heap.size, 1, none⟩ (.int .i64 0)).setCell ⟨w.heap.size, 2, none⟩ (.int .i64 0)).setCell ⟨w.heap.size, 3, none⟩ (.slice none 0 0)) := ⟨by rw [set_far (.inl (by omega)), set_far (.inl (by omega)), set_far (.inl (by omega)), set_far (.inl (by omega))]; exact k4, by rw [set_far (.inl (by omega)), set_far (.inl (by omega)), set_far (.inl (by omega)), set_far (.inl (by omega))]; exact k5, _, _, _, _, hRS.own4 (.int .i64 0) (.int .i64 0) (.int .i64 0) (.slice none 0 0)⟩
    refine hK _ _ (fun _ => hS1) ?_
    (try simp only [Act.put]); (try simp only [List.getElem_toArray]); (try simp only [List.getElem_cons_succ]); (try simp only [List.getElem_cons_zero]); (try simp only [List.setIfInBounds_toArray]); (try simp only [List.set_cons_succ]); (try simp only [List.set_cons_zero])
    clear hK
    refine any_branch [10] (by kernel_rfl) rfl fun ix hix => ?_
    simp only [List.mem_cons, List.not_mem_nil, or_false] at hix
    subst hix
    refine any_op rfl rfl fun K hK => ?_
    go_simp
    refine hK _ _ (fun _ => hS1) ?_
    (try simp only [Act.put]); (try simp only [List.getElem_toArray]); (try simp only [List.getElem_cons_succ]); (try simp only [List.getElem_cons_zero]); (try simp only [List.setIfInBounds_toArray]); (try simp only [List.set_cons_succ]); (try simp only [List.set_cons_zero])
    clear hK
    refine any_branch [11] (by kernel_rfl) rfl fun ix hix => ?_
    simp only [List.mem_cons, List.not_mem_nil, or_false] at hix
    subst hix
    refine any_op rfl rfl fun K hK => ?_
    go_simp
    refine hK _ _ (fun _ => hS1) ?_
    (try simp only [Act.put]); (try simp only [List.getElem_toArray]); (try simp only [List.getElem_cons_succ]); (try simp only [List.getElem_cons_zero]); (try simp only [List.setIfInBounds_toArray]); (try simp only [List.set_cons_succ]); (try simp only [List.set_cons_zero])
    clear hK
    refine any_end (by kernel_rfl) ?_
    go_wp2_with fail
    have hf := (hR4.own4 (.int .i64 0) (.int .i64 0) (.int .i64 0) (.slice none 0 0))
    clear r0 r1 r2 r3 g0 g1 g2 g3
    obtain ⟨r0, r1, r2, r3, _, _, _, _⟩ := cells4 hf
    refine bodyPost_ret (v := Pv Tr.zero (.slice none 0 0) R.2.eat R.2.e) (by simp [results, Try.results13, go_sem, r0, r1, r2, r3]; rfl) rfl ?_
    rw [HE2.out]
    exact ⟨_, rfl, SlF.nil _ _, (((hB4.setCell (p := ⟨w.heap.size, 0, none⟩) (Nat.le_refl _) _).setCell (p := ⟨w.heap.size, 1, none⟩) (Nat.le_refl _) _).setCell (p := ⟨w.heap.size, 2, none⟩) (Nat.le_refl _) _).setCell (p := ⟨w.heap.size, 3, none⟩) (Nat.le_refl _) _⟩
theorem parse_any (s : ByteArray) (w : World) : Calls Try.prog 13 #[.string s] w (Parsed w (Ex.parse (bl s))) := by
  by_cases h : s.size ≤ 4000
  · exact parse_short s w h
  · exact parse_long s w (by omega)
end Go.Proofs.Ytfgokhafiffbaaa

/-
  Formulas, plain: strengths of the signs between, over canonical variables: by evaluation.
-/
namespace Go.Proofs.Ytfgokhafiffbaaa
set_option linter.unusedVariables false
open Go.RowKit
def Bi.op (k : Nat) : Tok := match k with | 0 => .and | 1 => .xor | 2 => .or | 3 => .imp | _ => .iff
/-- the signs of variables from i on with signs between -/
def Bi.tks : Nat → List Nat → List (Tok × Nat)
  | i, [] => [(.var (Fin.ofNat 8 i), 0), (.eof, 0)]
  | i, k :: r => (.var (Fin.ofNat 8 i), 0) :: (Bi.op k, 0) :: Bi.tks (i + 1) r
/-- the place of the first sign, of implies the last -/
def Bi.first (k : Nat) : List Nat → Option Nat
  | [] => none
  | x :: r => if x = k then (if k = 3 then (match Bi.first k r with | some j => some (j + 1) | none => some 0) else some 0) else (Bi.first k r).map (· + 1)
/-- the kind of a sign's formula -/
def Bi.kind (k : Nat) : Int := match k with | 0 => 4 | 1 => 6 | 2 => 5 | 3 => 7 | _ => 8
section
variable {α : Type} (join : Nat → α → α → α)
/-- one sign done -/
def Bi.at_ (k : Nat) (i : Nat) (o : List Nat) (f : List α) : List Nat × List α :=
  match f[i]?, f[i + 1]? with
  | some x, some y => (o.take i ++ o.drop (i + 1), f.take i ++ [join k x y] ++ f.drop (i + 2))
  | _, _ => (o, f)
def Bi.all : Nat → Nat → List Nat → List α → List Nat × List α
  | 0, _, o, f => (o, f)
  | n + 1, k, o, f => match Bi.first k o with
    | none => (o, f)
    | some i => Bi.all n k (Bi.at_ join k i o f).1 (Bi.at_ join k i o f).2
def Bi.red (o : List Nat) (f : List α) : List Nat × List α :=
  let r0 := Bi.all join 7 0 o f
  let r1 := Bi.all join 7 1 r0.1 r0.2
  let r2 := Bi.all join 7 2 r1.1 r1.2
  let r3 := Bi.all join 7 3 r2.1 r2.2
  Bi.all join 7 4 r3.1 r3.2
end
def Bi.join (k : Nat) (x y : Tr) : Tr := Ex.two (Bi.kind k) 0 x y
def Bi.leaf (i : Nat) : Tr := ⟨1, 0, (i : Int), .nil⟩
def Bi.good (o : List Nat) : Bool :=
  let R := (Ex.lev 30).iff ⟨Bi.tks 0 o, 0, 0⟩
  decide (R.2.e = 0) && decide (R.2.now = .eof) && decide ((Bi.red Bi.join o ((List.range (o.length + 1)).map Bi.leaf)).2 = [R.1])
def Bi.lists : Nat → List (List Nat)
  | 0 => [[]]
  | n + 1 => (Bi.lists n).flatMap fun l => [0 :: l, 1 :: l, 2 :: l, 3 :: l, 4 :: l]
set_option maxRecDepth 1000000 in
theorem Bi.l0 : (Bi.lists 0).all Bi.good = true := by decide +kernel
set_option maxRecDepth 1000000 in
theorem Bi.l1 : (Bi.lists 1).all Bi.good = true := by decide +kernel
set_option maxRecDepth 1000000 in
theorem Bi.l2 : (Bi.lists 2).all Bi.good = true := by decide +kernel
set_option maxRecDepth 1000000 in
theorem Bi.l3 : (Bi.lists 3).all Bi.good = true := by decide +kernel
set_option maxRecDepth 1000000 in
theorem Bi.l4 : (Bi.lists 4).all Bi.good = true := by decide +kernel
set_option maxRecDepth 1000000 in
theorem Bi.l5_0 : (Bi.lists 4).all (fun l => Bi.good (0 :: l)) = true := by decide +kernel
set_option maxRecDepth 1000000 in
theorem Bi.l5_1 : (Bi.lists 4).all (fun l => Bi.good (1 :: l)) = true := by decide +kernel
set_option maxRecDepth 1000000 in
theorem Bi.l5_2 : (Bi.lists 4).all (fun l => Bi.good (2 :: l)) = true := by decide +kernel
set_option maxRecDepth 1000000 in
theorem Bi.l5_3 : (Bi.lists 4).all (fun l => Bi.good (3 :: l)) = true := by decide +kernel
set_option maxRecDepth 1000000 in
theorem Bi.l5_4 : (Bi.lists 4).all (fun l => Bi.good (4 :: l)) = true := by decide +kernel
end Go.Proofs.Ytfgokhafiffbaaa

/-
  Formulas, plain: strengths of the signs between, lists of six that begin with 0: by evaluation.
-/
namespace Go.Proofs.Ytfgokhafiffbaaa
set_option linter.unusedVariables false
set_option maxRecDepth 1000000 in
theorem Bi.l6_00 : (Bi.lists 4).all (fun l => Bi.good (0 :: 0 :: l)) = true := by decide +kernel
set_option maxRecDepth 1000000 in
theorem Bi.l6_01 : (Bi.lists 4).all (fun l => Bi.good (0 :: 1 :: l)) = true := by decide +kernel
set_option maxRecDepth 1000000 in
theorem Bi.l6_02 : (Bi.lists 4).all (fun l => Bi.good (0 :: 2 :: l)) = true := by decide +kernel
set_option maxRecDepth 1000000 in
theorem Bi.l6_03 : (Bi.lists 4).all (fun l => Bi.good (0 :: 3 :: l)) = true := by decide +kernel
set_option maxRecDepth 1000000 in
theorem Bi.l6_04 : (Bi.lists 4).all (fun l => Bi.good (0 :: 4 :: l)) = true := by decide +kernel
end Go.Proofs.Ytfgokhafiffbaaa

/-
  Formulas, plain: strengths of the signs between, lists of six that begin with 1: by evaluation.
-/
namespace Go.Proofs.Ytfgokhafiffbaaa
set_option linter.unusedVariables false
set_option maxRecDepth 1000000 in
theorem Bi.l6_10 : (Bi.lists 4).all (fun l => Bi.good (1 :: 0 :: l)) = true := by decide +kernel
set_option maxRecDepth 1000000 in
theorem Bi.l6_11 : (Bi.lists 4).all (fun l => Bi.good (1 :: 1 :: l)) = true := by decide +kernel
set_option maxRecDepth 1000000 in
theorem Bi.l6_12 : (Bi.lists 4).all (fun l => Bi.good (1 :: 2 :: l)) = true := by decide +kernel
set_option maxRecDepth 1000000 in
theorem Bi.l6_13 : (Bi.lists 4).all (fun l => Bi.good (1 :: 3 :: l)) = true := by decide +kernel
set_option maxRecDepth 1000000 in
theorem Bi.l6_14 : (Bi.lists 4).all (fun l => Bi.good (1 :: 4 :: l)) = true := by decide +kernel
end Go.Proofs.Ytfgokhafiffbaaa

/-
  Formulas, plain: strengths of the signs between, lists of six that begin with 2: by evaluation.
-/
namespace Go.Proofs.Ytfgokhafiffbaaa
set_option linter.unusedVariables false
set_option maxRecDepth 1000000 in
theorem Bi.l6_20 : (Bi.lists 4).all (fun l => Bi.good (2 :: 0 :: l)) = true := by decide +kernel
set_option maxRecDepth 1000000 in
theorem Bi.l6_21 : (Bi.lists 4).all (fun l => Bi.good (2 :: 1 :: l)) = true := by decide +kernel
set_option maxRecDepth 1000000 in
theorem Bi.l6_22 : (Bi.lists 4).all (fun l => Bi.good (2 :: 2 :: l)) = true := by decide +kernel
set_option maxRecDepth 1000000 in
theorem Bi.l6_23 : (Bi.lists 4).all (fun l => Bi.good (2 :: 3 :: l)) = true := by decide +kernel
set_option maxRecDepth 1000000 in
theorem Bi.l6_24 : (Bi.lists 4).all (fun l => Bi.good (2 :: 4 :: l)) = true := by decide +kernel
end Go.Proofs.Ytfgokhafiffbaaa

/-
  Formulas, plain: strengths of the signs between, lists of six that begin with 3: by evaluation.
-/
namespace Go.Proofs.Ytfgokhafiffbaaa
set_option linter.unusedVariables false
set_option maxRecDepth 1000000 in
theorem Bi.l6_30 : (Bi.lists 4).all (fun l => Bi.good (3 :: 0 :: l)) = true := by decide +kernel
set_option maxRecDepth 1000000 in
theorem Bi.l6_31 : (Bi.lists 4).all (fun l => Bi.good (3 :: 1 :: l)) = true := by decide +kernel
set_option maxRecDepth 1000000 in
theorem Bi.l6_32 : (Bi.lists 4).all (fun l => Bi.good (3 :: 2 :: l)) = true := by decide +kernel
set_option maxRecDepth 1000000 in
theorem Bi.l6_33 : (Bi.lists 4).all (fun l => Bi.good (3 :: 3 :: l)) = true := by decide +kernel
set_option maxRecDepth 1000000 in
theorem Bi.l6_34 : (Bi.lists 4).all (fun l => Bi.good (3 :: 4 :: l)) = true := by decide +kernel
end Go.Proofs.Ytfgokhafiffbaaa

/-
  Formulas, plain: strengths of the signs between, lists of six that begin with 4: by evaluation.
-/
namespace Go.Proofs.Ytfgokhafiffbaaa
set_option linter.unusedVariables false
set_option maxRecDepth 1000000 in
theorem Bi.l6_40 : (Bi.lists 4).all (fun l => Bi.good (4 :: 0 :: l)) = true := by decide +kernel
set_option maxRecDepth 1000000 in
theorem Bi.l6_41 : (Bi.lists 4).all (fun l => Bi.good (4 :: 1 :: l)) = true := by decide +kernel
set_option maxRecDepth 1000000 in
theorem Bi.l6_42 : (Bi.lists 4).all (fun l => Bi.good (4 :: 2 :: l)) = true := by decide +kernel
set_option maxRecDepth 1000000 in
theorem Bi.l6_43 : (Bi.lists 4).all (fun l => Bi.good (4 :: 3 :: l)) = true := by decide +kernel
set_option maxRecDepth 1000000 in
theorem Bi.l6_44 : (Bi.lists 4).all (fun l => Bi.good (4 :: 4 :: l)) = true := by decide +kernel
end Go.Proofs.Ytfgokhafiffbaaa

/-
  Regions whose order is open and that only read, walked in the order of the text: 'wpStill', closed.
-/
namespace Go.Proofs.Ytfgokhafiffbaaa
set_option linter.unusedVariables false
open Go.RowKit
/-- 'wpStill', closed: Lean's own evaluation of it ran away where a guard is not met -/
def stB (P : Program) (ops : Array Oper) (w : World) (Q : Act → Prop) (l : List Oper) (a : Act) : Prop := wpStill P ops w Q l a
theorem stB_nil {P : Program} {ops : Array Oper} {w : World} {Q : Act → Prop} {a : Act} (h : Q a) : stB P ops w Q [] a := h
theorem stB_step {P : Program} {ops : Array Oper} {w : World} {Q : Act → Prop} {a : Act} {o : Oper} {rest : List Oper}
    (h : ∀ K : Act → Prop, (∀ a, stB P ops w Q rest a → K a) → if Region.wanted o (yielded ops a.tmps) then o.still P a w K else K (a.put o.dst undef)) : stB P ops w Q (o :: rest) a :=
  wpStill_step h
theorem region_stB {P : Program} {id : Nat} {Q : Exit → Act → World → Prop} {a : Act} {w : World} {l : List Oper} (hm : P.follows .mixedOrders = true) (hB : Region.lexB .any l.toArray = true)
    (h : stB P l.toArray w.drew (fun a' => Q .normal a' w.drew) l a) : (Code.region id l.toArray true).wp P Q a w := wp_region_still_lit hm hB h
attribute [irreducible] stB
end Go.Proofs.Ytfgokhafiffbaaa

/-
  Formulas: plain.
-/
namespace Go.Proofs.Ytfgokhafiffbaaa
set_option linter.unusedVariables false
open Go.RowKit

def Ex.top (k : Int) : Int := if k = 1 ∨ k = 10 ∨ k = 11 then 7 else if k = 2 then 1 else 0
/-- is one node right? -/
def Ex.plain (t : Tr) : Bool := decide (1 ≤ t.k) && decide (t.k ≤ 11) && decide (t.kids.len = Ex.kids t.k) && (decide (0 ≤ t.v) && decide (t.v ≤ Ex.top t.k))
theorem boxE (w : World) (k a v : Int) (sl : Value) : Blk (w.alloc (.cells #[.int .i64 k, .int .i64 a, .int .i64 v, sl] 36)) w.heap.size 36 #[.int .i64 k, .int .i64 a, .int .i64 v, sl] := Blk.new _ _ _
set_option maxHeartbeats 8000000 in
theorem plain_any (t : Tr) (pp : Option Addr) (cap : Nat) (w : World) : Calls Try.prog 34 #[Ev t (.slice pp t.kids.len cap)] w fun e w' => e = .returned (.bool (Ex.plain t)) ∧ Below w.heap.size w w' := by
  obtain ⟨k, a, v, kids⟩ := t
  obtain ⟨c0, c1, c2, c3, _, _, _, _⟩ := cells4 (boxE w k a v (.slice pp kids.len cap))
  have hb := Bx.mk ((Below.refl w.heap.size w).alloc (Nat.le_refl _) (.cells #[.int .i64 k, .int .i64 a, .int .i64 v, .slice pp kids.len cap] 36))
  unfold Ev
  simp only []

  by_cases h1 : k < 1
  · have HF := Bx.mk (show Ex.plain ⟨k, a, v, kids⟩ = false from by unfold Ex.plain; simp; omega)
    go_enter Try.func34, Try.ntmps34
    go_wp2_with fail
    generalize w.alloc (.cells #[.int .i64 k, .int .i64 a, .int .i64 v, .slice pp kids.len cap] 36) = W at c0 c1 c2 c3 hb ⊢
    refine region_stB (by kernel_rfl) (by kernel_rfl) ?_
    (repeat (refine stB_step (fun K hK => ?_); go_simp; refine hK _ ?_; clear hK K))
    refine stB_nil ?_
    go_wp2_with fail
    go_ret
    exact ⟨by rw [HF.out]; rfl, hb.out.drew⟩
  · by_cases h2 : k > 11
    · have HF := Bx.mk (show Ex.plain ⟨k, a, v, kids⟩ = false from by unfold Ex.plain; simp; omega)
      go_enter Try.func34, Try.ntmps34
      go_wp2_with fail
      generalize w.alloc (.cells #[.int .i64 k, .int .i64 a, .int .i64 v, .slice pp kids.len cap] 36) = W at c0 c1 c2 c3 hb ⊢
      refine region_stB (by kernel_rfl) (by kernel_rfl) ?_
      (repeat (refine stB_step (fun K hK => ?_); go_simp; refine hK _ ?_; clear hK K))
      refine stB_nil ?_
      go_wp2_with fail
      go_ret
      exact ⟨by rw [HF.out]; rfl, hb.out.drew⟩
    · have hK := kids_any k
      by_cases h3 : kids.len = Ex.kids k
      · have q3 : (kids.len : Int) = (Ex.kids k : Int) := by omega
        have hTop : Ex.plain ⟨k, a, v, kids⟩ = (decide (0 ≤ v) && decide (v ≤ Ex.top k)) := by unfold Ex.plain; simp [h3]; omega
        have HTop := Bx.mk hTop
        have HK := Bx.mk hK
        clear hTop h3 hK
        have hc : k = 1 ∨ k = 2 ∨ k = 3 ∨ k = 4 ∨ k = 5 ∨ k = 6 ∨ k = 7 ∨ k = 8 ∨ k = 9 ∨ k = 10 ∨ k = 11 := by omega
        clear h1 h2
        rcases hc with rfl | rfl | rfl | rfl | rfl | rfl | rfl | rfl | rfl | rfl | rfl
        · by_cases h0 : v ≥ 0
          · by_cases ht : v ≤ 7
            · have HR := Bx.mk (show (decide (0 ≤ v) && decide (v ≤ Ex.top 1)) = true from by unfold Ex.top; simp; omega)
              go_enter Try.func34, Try.ntmps34
              go_wp2_with fail
              generalize w.alloc (.cells #[.int .i64 1, .int .i64 a, .int .i64 v, .slice pp kids.len cap] 36) = W at c0 c1 c2 c3 hb ⊢
              refine region_stB (by kernel_rfl) (by kernel_rfl) ?_
              (repeat (refine stB_step (fun K hK => ?_); go_simp; refine hK _ ?_; clear hK K))
              (refine stB_step (fun K hK => ?_); go_simp; refine ⟨_, HK.out _, hK _ ?_⟩; clear hK K)
              (repeat (refine stB_step (fun K hK => ?_); go_simp; refine hK _ ?_; clear hK K))
              refine stB_nil ?_
              go_wp2_with fail
              go_ret
              exact ⟨by rw [HTop.out, HR.out]; rfl, hb.out.drew⟩
            · have HR := Bx.mk (show (decide (0 ≤ v) && decide (v ≤ Ex.top 1)) = false from by unfold Ex.top; simp; omega)
              go_enter Try.func34, Try.ntmps34
              go_wp2_with fail
              generalize w.alloc (.cells #[.int .i64 1, .int .i64 a, .int .i64 v, .slice pp kids.len cap] 36) = W at c0 c1 c2 c3 hb ⊢
              refine region_stB (by kernel_rfl) (by kernel_rfl) ?_
              (repeat (refine stB_step (fun K hK => ?_); go_simp; refine hK _ ?_; clear hK K))
              (refine stB_step (fun K hK => ?_); go_simp; refine ⟨_, HK.out _, hK _ ?_⟩; clear hK K)
              (repeat (refine stB_step (fun K hK => ?_); go_simp; refine hK _ ?_; clear hK K))
              refine stB_nil ?_
              go_wp2_with fail
              go_ret
              exact ⟨by rw [HTop.out, HR.out]; show Ending.returned (Value.bool (decide (v ≤ 7))) = _; rw [decide_eq_false (by omega)], hb.out.drew⟩
          · have HR := Bx.mk (show (decide (0 ≤ v) && decide (v ≤ Ex.top 1)) = false from by simp; omega)
            go_enter Try.func34, Try.ntmps34
            go_wp2_with fail
            generalize w.alloc (.cells #[.int .i64 1, .int .i64 a, .int .i64 v, .slice pp kids.len cap] 36) = W at c0 c1 c2 c3 hb ⊢
            refine region_stB (by kernel_rfl) (by kernel_rfl) ?_
            (repeat (refine stB_step (fun K hK => ?_); go_simp; refine hK _ ?_; clear hK K))
            (refine stB_step (fun K hK => ?_); go_simp; refine ⟨_, HK.out _, hK _ ?_⟩; clear hK K)
            (repeat (refine stB_step (fun K hK => ?_); go_simp; refine hK _ ?_; clear hK K))
            refine stB_nil ?_
            go_wp2_with fail
            go_ret
            exact ⟨by rw [HTop.out, HR.out]; rfl, hb.out.drew⟩
        · by_cases h0 : v ≥ 0
          · by_cases ht : v ≤ 1
            · have HR := Bx.mk (show (decide (0 ≤ v) && decide (v ≤ Ex.top 2)) = true from by unfold Ex.top; simp; omega)
              go_enter Try.func34, Try.ntmps34
              go_wp2_with fail
              generalize w.alloc (.cells #[.int .i64 2, .int .i64 a, .int .i64 v, .slice pp kids.len cap] 36) = W at c0 c1 c2 c3 hb ⊢
              refine region_stB (by kernel_rfl) (by kernel_rfl) ?_
              (repeat (refine stB_step (fun K hK => ?_); go_simp; refine hK _ ?_; clear hK K))
              (refine stB_step (fun K hK => ?_); go_simp; refine ⟨_, HK.out _, hK _ ?_⟩; clear hK K)
              (repeat (refine stB_step (fun K hK => ?_); go_simp; refine hK _ ?_; clear hK K))
              refine stB_nil ?_
              go_wp2_with fail
              go_ret
              exact ⟨by rw [HTop.out, HR.out]; rfl, hb.out.drew⟩
            · have HR := Bx.mk (show (decide (0 ≤ v) && decide (v ≤ Ex.top 2)) = false from by unfold Ex.top; simp; omega)
              go_enter Try.func34, Try.ntmps34
              go_wp2_with fail
              generalize w.alloc (.cells #[.int .i64 2, .int .i64 a, .int .i64 v, .slice pp kids.len cap] 36) = W at c0 c1 c2 c3 hb ⊢
              refine region_stB (by kernel_rfl) (by kernel_rfl) ?_
              (repeat (refine stB_step (fun K hK => ?_); go_simp; refine hK _ ?_; clear hK K))
              (refine stB_step (fun K hK => ?_); go_simp; refine ⟨_, HK.out _, hK _ ?_⟩; clear hK K)
              (repeat (refine stB_step (fun K hK => ?_); go_simp; refine hK _ ?_; clear hK K))
              refine stB_nil ?_
              go_wp2_with fail
              go_ret
              exact ⟨by rw [HTop.out, HR.out]; show Ending.returned (Value.bool (decide (v ≤ 1))) = _; rw [decide_eq_false (by omega)], hb.out.drew⟩
          · have HR := Bx.mk (show (decide (0 ≤ v) && decide (v ≤ Ex.top 2)) = false from by simp; omega)
            go_enter Try.func34, Try.ntmps34
            go_wp2_with fail
            generalize w.alloc (.cells #[.int .i64 2, .int .i64 a, .int .i64 v, .slice pp kids.len cap] 36) = W at c0 c1 c2 c3 hb ⊢
            refine region_stB (by kernel_rfl) (by kernel_rfl) ?_
            (repeat (refine stB_step (fun K hK => ?_); go_simp; refine hK _ ?_; clear hK K))
            (refine stB_step (fun K hK => ?_); go_simp; refine ⟨_, HK.out _, hK _ ?_⟩; clear hK K)
            (repeat (refine stB_step (fun K hK => ?_); go_simp; refine hK _ ?_; clear hK K))
            refine stB_nil ?_
            go_wp2_with fail
            go_ret
            exact ⟨by rw [HTop.out, HR.out]; rfl, hb.out.drew⟩
        · by_cases h0 : v ≥ 0
          · by_cases ht : v ≤ 0
            · have HR := Bx.mk (show (decide (0 ≤ v) && decide (v ≤ Ex.top 3)) = true from by unfold Ex.top; simp; omega)
              go_enter Try.func34, Try.ntmps34
              go_wp2_with fail
              generalize w.alloc (.cells #[.int .i64 3, .int .i64 a, .int .i64 v, .slice pp kids.len cap] 36) = W at c0 c1 c2 c3 hb ⊢
              refine region_stB (by kernel_rfl) (by kernel_rfl) ?_
              (repeat (refine stB_step (fun K hK => ?_); go_simp; refine hK _ ?_; clear hK K))
              (refine stB_step (fun K hK => ?_); go_simp; refine ⟨_, HK.out _, hK _ ?_⟩; clear hK K)
              (repeat (refine stB_step (fun K hK => ?_); go_simp; refine hK _ ?_; clear hK K))
              refine stB_nil ?_
              go_wp2_with fail
              go_ret
              exact ⟨by rw [HTop.out, HR.out]; rfl, hb.out.drew⟩
            · have HR := Bx.mk (show (decide (0 ≤ v) && decide (v ≤ Ex.top 3)) = false from by unfold Ex.top; simp; omega)
              go_enter Try.func34, Try.ntmps34
              go_wp2_with fail
              generalize w.alloc (.cells #[.int .i64 3, .int .i64 a, .int .i64 v, .slice pp kids.len cap] 36) = W at c0 c1 c2 c3 hb ⊢
              refine region_stB (by kernel_rfl) (by kernel_rfl) ?_
              (repeat (refine stB_step (fun K hK => ?_); go_simp; refine hK _ ?_; clear hK K))
              (refine stB_step (fun K hK => ?_); go_simp; refine ⟨_, HK.out _, hK _ ?_⟩; clear hK K)
              (repeat (refine stB_step (fun K hK => ?_); go_simp; refine hK _ ?_; clear hK K))
              refine stB_nil ?_
              go_wp2_with fail
              go_ret
              exact ⟨by rw [HTop.out, HR.out]; show Ending.returned (Value.bool (decide (v ≤ 0))) = _; rw [decide_eq_false (by omega)], hb.out.drew⟩
          · have HR := Bx.mk (show (decide (0 ≤ v) && decide (v ≤ Ex.top 3)) = false from by simp; omega)
            go_enter Try.func34, Try.ntmps34
            go_wp2_with fail
            generalize w.alloc (.cells #[.int .i64 3, .int .i64 a, .int .i64 v, .slice pp kids.len cap] 36) = W at c0 c1 c2 c3 hb ⊢
            refine region_stB (by kernel_rfl) (by kernel_rfl) ?_
            (repeat (refine stB_step (fun K hK => ?_); go_simp; refine hK _ ?_; clear hK K))
            (refine stB_step (fun K hK => ?_); go_simp; refine ⟨_, HK.out _, hK _ ?_⟩; clear hK K)
            (repeat (refine stB_step (fun K hK => ?_); go_simp; refine hK _ ?_; clear hK K))
            refine stB_nil ?_
            go_wp2_with fail
            go_ret
            exact ⟨by rw [HTop.out, HR.out]; rfl, hb.out.drew⟩
        · by_cases h0 : v ≥ 0
          · by_cases ht : v ≤ 0
            · have HR := Bx.mk (show (decide (0 ≤ v) && decide (v ≤ Ex.top 4)) = true from by unfold Ex.top; simp; omega)
              go_enter Try.func34, Try.ntmps34
              go_wp2_with fail
              generalize w.alloc (.cells #[.int .i64 4, .int .i64 a, .int .i64 v, .slice pp kids.len cap] 36) = W at c0 c1 c2 c3 hb ⊢
              refine region_stB (by kernel_rfl) (by kernel_rfl) ?_
              (repeat (refine stB_step (fun K hK => ?_); go_simp; refine hK _ ?_; clear hK K))
              (refine stB_step (fun K hK => ?_); go_simp; refine ⟨_, HK.out _, hK _ ?_⟩; clear hK K)
              (repeat (refine stB_step (fun K hK => ?_); go_simp; refine hK _ ?_; clear hK K))
              refine stB_nil ?_
              go_wp2_with fail
              go_ret
              exact ⟨by rw [HTop.out, HR.out]; rfl, hb.out.drew⟩
            · have HR := Bx.mk (show (decide (0 ≤ v) && decide (v ≤ Ex.top 4)) = false from by unfold Ex.top; simp; omega)
              go_enter Try.func34, Try.ntmps34
              go_wp2_with fail
              generalize w.alloc (.cells #[.int .i64 4, .int .i64 a, .int .i64 v, .slice pp kids.len cap] 36) = W at c0 c1 c2 c3 hb ⊢
              refine region_stB (by kernel_rfl) (by kernel_rfl) ?_
              (repeat (refine stB_step (fun K hK => ?_); go_simp; refine hK _ ?_; clear hK K))
              (refine stB_step (fun K hK => ?_); go_simp; refine ⟨_, HK.out _, hK _ ?_⟩; clear hK K)
              (repeat (refine stB_step (fun K hK => ?_); go_simp; refine hK _ ?_; clear hK K))
              refine stB_nil ?_
              go_wp2_with fail
              go_ret
              exact ⟨by rw [HTop.out, HR.out]; show Ending.returned (Value.bool (decide (v ≤ 0))) = _; rw [decide_eq_false (by omega)], hb.out.drew⟩
          · have HR := Bx.mk (show (decide (0 ≤ v) && decide (v ≤ Ex.top 4)) = false from by simp; omega)
            go_enter Try.func34, Try.ntmps34
            go_wp2_with fail
            generalize w.alloc (.cells #[.int .i64 4, .int .i64 a, .int .i64 v, .slice pp kids.len cap] 36) = W at c0 c1 c2 c3 hb ⊢
            refine region_stB (by kernel_rfl) (by kernel_rfl) ?_
            (repeat (refine stB_step (fun K hK => ?_); go_simp; refine hK _ ?_; clear hK K))
            (refine stB_step (fun K hK => ?_); go_simp; refine ⟨_, HK.out _, hK _ ?_⟩; clear hK K)
            (repeat (refine stB_step (fun K hK => ?_); go_simp; refine hK _ ?_; clear hK K))
            refine stB_nil ?_
            go_wp2_with fail
            go_ret
            exact ⟨by rw [HTop.out, HR.out]; rfl, hb.out.drew⟩
        · by_cases h0 : v ≥ 0
          · by_cases ht : v ≤ 0
            · have HR := Bx.mk (show (decide (0 ≤ v) && decide (v ≤ Ex.top 5)) = true from by unfold Ex.top; simp; omega)
              go_enter Try.func34, Try.ntmps34
              go_wp2_with fail
              generalize w.alloc (.cells #[.int .i64 5, .int .i64 a, .int .i64 v, .slice pp kids.len cap] 36) = W at c0 c1 c2 c3 hb ⊢
              refine region_stB (by kernel_rfl) (by kernel_rfl) ?_
              (repeat (refine stB_step (fun K hK => ?_); go_simp; refine hK _ ?_; clear hK K))
              (refine stB_step (fun K hK => ?_); go_simp; refine ⟨_, HK.out _, hK _ ?_⟩; clear hK K)
              (repeat (refine stB_step (fun K hK => ?_); go_simp; refine hK _ ?_; clear hK K))
              refine stB_nil ?_
              go_wp2_with fail
              go_ret
              exact ⟨by rw [HTop.out, HR.out]; rfl, hb.out.drew⟩
            · have HR := Bx.mk (show (decide (0 ≤ v) && decide (v ≤ Ex.top 5)) = false from by unfold Ex.top; simp; omega)
              go_enter Try.func34, Try.ntmps34
              go_wp2_with fail
              generalize w.alloc (.cells #[.int .i64 5, .int .i64 a, .int .i64 v, .slice pp kids.len cap] 36) = W at c0 c1 c2 c3 hb ⊢
              refine region_stB (by kernel_rfl) (by kernel_rfl) ?_
              (repeat (refine stB_step (fun K hK => ?_); go_simp; refine hK _ ?_; clear hK K))
              (refine stB_step (fun K hK => ?_); go_simp; refine ⟨_, HK.out _, hK _ ?_⟩; clear hK K)
              (repeat (refine stB_step (fun K hK => ?_); go_simp; refine hK _ ?_; clear hK K))
              refine stB_nil ?_
              go_wp2_with fail
              go_ret
              exact ⟨by rw [HTop.out, HR.out]; show Ending.returned (Value.bool (decide (v ≤ 0))) = _; rw [decide_eq_false (by omega)], hb.out.drew⟩
          · have HR := Bx.mk (show (decide (0 ≤ v) && decide (v ≤ Ex.top 5)) = false from by simp; omega)
            go_enter Try.func34, Try.ntmps34
            go_wp2_with fail
            generalize w.alloc (.cells #[.int .i64 5, .int .i64 a, .int .i64 v, .slice pp kids.len cap] 36) = W at c0 c1 c2 c3 hb ⊢
            refine region_stB (by kernel_rfl) (by kernel_rfl) ?_
            (repeat (refine stB_step (fun K hK => ?_); go_simp; refine hK _ ?_; clear hK K))
            (refine stB_step (fun K hK => ?_); go_simp; refine ⟨_, HK.out _, hK _ ?_⟩; clear hK K)
            (repeat (refine stB_step (fun K hK => ?_); go_simp; refine hK _ ?_; clear hK K))
            refine stB_nil ?_
            go_wp2_with fail
            go_ret
            exact ⟨by rw [HTop.out, HR.out]; rfl, hb.out.drew⟩
        · by_cases h0 : v ≥ 0
          · by_cases ht : v ≤ 0
            · have HR := Bx.mk (show (decide (0 ≤ v) && decide (v ≤ Ex.top 6)) = true from by unfold Ex.top; simp; omega)
              go_enter Try.func34, Try.ntmps34
              go_wp2_with fail
              generalize w.alloc (.cells #[.int .i64 6, .int .i64 a, .int .i64 v, .slice pp kids.len cap] 36) = W at c0 c1 c2 c3 hb ⊢
              refine region_stB (by kernel_rfl) (by kernel_rfl) ?_
              (repeat (refine stB_step (fun K hK => ?_); go_simp; refine hK _ ?_; clear hK K))
              (refine stB_step (fun K hK => ?_); go_simp; refine ⟨_, HK.out _, hK _ ?_⟩; clear hK K)
              (repeat (refine stB_step (fun K hK => ?_); go_simp; refine hK _ ?_; clear hK K))
              refine stB_nil ?_
              go_wp2_with fail
              go_ret
              exact ⟨by rw [HTop.out, HR.out]; rfl, hb.out.drew⟩
            · have HR := Bx.mk (show (decide (0 ≤ v) && decide (v ≤ Ex.top 6)) = false from by unfold Ex.top; simp; omega)
              go_enter Try.func34, Try.ntmps34
              go_wp2_with fail
              generalize w.alloc (.cells #[.int .i64 6, .int .i64 a, .int .i64 v, .slice pp kids.len cap] 36) = W at c0 c1 c2 c3 hb ⊢
              refine region_stB (by kernel_rfl) (by kernel_rfl) ?_
              (repeat (refine stB_step (fun K hK => ?_); go_simp; refine hK _ ?_; clear hK K))
              (refine stB_step (fun K hK => ?_); go_simp; refine ⟨_, HK.out _, hK _ ?_⟩; clear hK K)
              (repeat (refine stB_step (fun K hK => ?_); go_simp; refine hK _ ?_; clear hK K))
              refine stB_nil ?_
              go_wp2_with fail
              go_ret
              exact ⟨by rw [HTop.out, HR.out]; show Ending.returned (Value.bool (decide (v ≤ 0))) = _; rw [decide_eq_false (by omega)], hb.out.drew⟩
          · have HR := Bx.mk (show (decide (0 ≤ v) && decide (v ≤ Ex.top 6)) = false from by simp; omega)
            go_enter Try.func34, Try.ntmps34
            go_wp2_with fail
            generalize w.alloc (.cells #[.int .i64 6, .int .i64 a, .int .i64 v, .slice pp kids.len cap] 36) = W at c0 c1 c2 c3 hb ⊢
            refine region_stB (by kernel_rfl) (by kernel_rfl) ?_
            (repeat (refine stB_step (fun K hK => ?_); go_simp; refine hK _ ?_; clear hK K))
            (refine stB_step (fun K hK => ?_); go_simp; refine ⟨_, HK.out _, hK _ ?_⟩; clear hK K)
            (repeat (refine stB_step (fun K hK => ?_); go_simp; refine hK _ ?_; clear hK K))
            refine stB_nil ?_
            go_wp2_with fail
            go_ret
            exact ⟨by rw [HTop.out, HR.out]; rfl, hb.out.drew⟩
        · by_cases h0 : v ≥ 0
          · by_cases ht : v ≤ 0
            · have HR := Bx.mk (show (decide (0 ≤ v) && decide (v ≤ Ex.top 7)) = true from by unfold Ex.top; simp; omega)
              go_enter Try.func34, Try.ntmps34
              go_wp2_with fail
              generalize w.alloc (.cells #[.int .i64 7, .int .i64 a, .int .i64 v, .slice pp kids.len cap] 36) = W at c0 c1 c2 c3 hb ⊢
              refine region_stB (by kernel_rfl) (by kernel_rfl) ?_
              (repeat (refine stB_step (fun K hK => ?_); go_simp; refine hK _ ?_; clear hK K))
              (refine stB_step (fun K hK => ?_); go_simp; refine ⟨_, HK.out _, hK _ ?_⟩; clear hK K)
              (repeat (refine stB_step (fun K hK => ?_); go_simp; refine hK _ ?_; clear hK K))
              refine stB_nil ?_
              go_wp2_with fail
              go_ret
              exact ⟨by rw [HTop.out, HR.out]; rfl, hb.out.drew⟩
            · have HR := Bx.mk (show (decide (0 ≤ v) && decide (v ≤ Ex.top 7)) = false from by unfold Ex.top; simp; omega)
              go_enter Try.func34, Try.ntmps34
              go_wp2_with fail
              generalize w.alloc (.cells #[.int .i64 7, .int .i64 a, .int .i64 v, .slice pp kids.len cap] 36) = W at c0 c1 c2 c3 hb ⊢
              refine region_stB (by kernel_rfl) (by kernel_rfl) ?_
              (repeat (refine stB_step (fun K hK => ?_); go_simp; refine hK _ ?_; clear hK K))
              (refine stB_step (fun K hK => ?_); go_simp; refine ⟨_, HK.out _, hK _ ?_⟩; clear hK K)
              (repeat (refine stB_step (fun K hK => ?_); go_simp; refine hK _ ?_; clear hK K))
              refine stB_nil ?_
              go_wp2_with fail
              go_ret
              exact ⟨by rw [HTop.out, HR.out]; show Ending.returned (Value.bool (decide (v ≤ 0))) = _; rw [decide_eq_false (by omega)], hb.out.drew⟩
          · have HR := Bx.mk (show (decide (0 ≤ v) && decide (v ≤ Ex.top 7)) = false from by simp; omega)
            go_enter Try.func34, Try.ntmps34
            go_wp2_with fail
            generalize w.alloc (.cells #[.int .i64 7, .int .i64 a, .int .i64 v, .slice pp kids.len cap] 36) = W at c0 c1 c2 c3 hb ⊢
            refine region_stB (by kernel_rfl) (by kernel_rfl) ?_
            (repeat (refine stB_step (fun K hK => ?_); go_simp; refine hK _ ?_; clear hK K))
            (refine stB_step (fun K hK => ?_); go_simp; refine ⟨_, HK.out _, hK _ ?_⟩; clear hK K)
            (repeat (refine stB_step (fun K hK => ?_); go_simp; refine hK _ ?_; clear hK K))
            refine stB_nil ?_
            go_wp2_with fail
            go_ret
            exact ⟨by rw [HTop.out, HR.out]; rfl, hb.out.drew⟩
        · by_cases h0 : v ≥ 0
          · by_cases ht : v ≤ 0
            · have HR := Bx.mk (show (decide (0 ≤ v) && decide (v ≤ Ex.top 8)) = true from by unfold Ex.top; simp; omega)
              go_enter Try.func34, Try.ntmps34
              go_wp2_with fail
              generalize w.alloc (.cells #[.int .i64 8, .int .i64 a, .int .i64 v, .slice pp kids.len cap] 36) = W at c0 c1 c2 c3 hb ⊢
              refine region_stB (by kernel_rfl) (by kernel_rfl) ?_
              (repeat (refine stB_step (fun K hK => ?_); go_simp; refine hK _ ?_; clear hK K))
              (refine stB_step (fun K hK => ?_); go_simp; refine ⟨_, HK.out _, hK _ ?_⟩; clear hK K)
              (repeat (refine stB_step (fun K hK => ?_); go_simp; refine hK _ ?_; clear hK K))
              refine stB_nil ?_
              go_wp2_with fail
              go_ret
              exact ⟨by rw [HTop.out, HR.out]; rfl, hb.out.drew⟩
            · have HR := Bx.mk (show (decide (0 ≤ v) && decide (v ≤ Ex.top 8)) = false from by unfold Ex.top; simp; omega)
              go_enter Try.func34, Try.ntmps34
              go_wp2_with fail
              generalize w.alloc (.cells #[.int .i64 8, .int .i64 a, .int .i64 v, .slice pp kids.len cap] 36) = W at c0 c1 c2 c3 hb ⊢
              refine region_stB (by kernel_rfl) (by kernel_rfl) ?_
              (repeat (refine stB_step (fun K hK => ?_); go_simp; refine hK _ ?_; clear hK K))
              (refine stB_step (fun K hK => ?_); go_simp; refine ⟨_, HK.out _, hK _ ?_⟩; clear hK K)
              (repeat (refine stB_step (fun K hK => ?_); go_simp; refine hK _ ?_; clear hK K))
              refine stB_nil ?_
              go_wp2_with fail
              go_ret
              exact ⟨by rw [HTop.out, HR.out]; show Ending.returned (Value.bool (decide (v ≤ 0))) = _; rw [decide_eq_false (by omega)], hb.out.drew⟩
          · have HR := Bx.mk (show (decide (0 ≤ v) && decide (v ≤ Ex.top 8)) = false from by simp; omega)
            go_enter Try.func34, Try.ntmps34
            go_wp2_with fail
            generalize w.alloc (.cells #[.int .i64 8, .int .i64 a, .int .i64 v, .slice pp kids.len cap] 36) = W at c0 c1 c2 c3 hb ⊢
            refine region_stB (by kernel_rfl) (by kernel_rfl) ?_
            (repeat (refine stB_step (fun K hK => ?_); go_simp; refine hK _ ?_; clear hK K))
            (refine stB_step (fun K hK => ?_); go_simp; refine ⟨_, HK.out _, hK _ ?_⟩; clear hK K)
            (repeat (refine stB_step (fun K hK => ?_); go_simp; refine hK _ ?_; clear hK K))
            refine stB_nil ?_
            go_wp2_with fail
            go_ret
            exact ⟨by rw [HTop.out, HR.out]; rfl, hb.out.drew⟩
        · by_cases h0 : v ≥ 0
          · by_cases ht : v ≤ 0
            · have HR := Bx.mk (show (decide (0 ≤ v) && decide (v ≤ Ex.top 9)) = true from by unfold Ex.top; simp; omega)
              go_enter Try.func34, Try.ntmps34
              go_wp2_with fail
              generalize w.alloc (.cells #[.int .i64 9, .int .i64 a, .int .i64 v, .slice pp kids.len cap] 36) = W at c0 c1 c2 c3 hb ⊢
              refine region_stB (by kernel_rfl) (by kernel_rfl) ?_
              (repeat (refine stB_step (fun K hK => ?_); go_simp; refine hK _ ?_; clear hK K))
              (refine stB_step (fun K hK => ?_); go_simp; refine ⟨_, HK.out _, hK _ ?_⟩; clear hK K)
              (repeat (refine stB_step (fun K hK => ?_); go_simp; refine hK _ ?_; clear hK K))
              refine stB_nil ?_
              go_wp2_with fail
              go_ret
              exact ⟨by rw [HTop.out, HR.out]; rfl, hb.out.drew⟩
            · have HR := Bx.mk (show (decide (0 ≤ v) && decide (v ≤ Ex.top 9)) = false from by unfold Ex.top; simp; omega)
              go_enter Try.func34, Try.ntmps34
              go_wp2_with fail
              generalize w.alloc (.cells #[.int .i64 9, .int .i64 a, .int .i64 v, .slice pp kids.len cap] 36) = W at c0 c1 c2 c3 hb ⊢
              refine region_stB (by kernel_rfl) (by kernel_rfl) ?_
              (repeat (refine stB_step (fun K hK => ?_); go_simp; refine hK _ ?_; clear hK K))
              (refine stB_step (fun K hK => ?_); go_simp; refine ⟨_, HK.out _, hK _ ?_⟩; clear hK K)
              (repeat (refine stB_step (fun K hK => ?_); go_simp; refine hK _ ?_; clear hK K))
              refine stB_nil ?_
              go_wp2_with fail
              go_ret
              exact ⟨by rw [HTop.out, HR.out]; show Ending.returned (Value.bool (decide (v ≤ 0))) = _; rw [decide_eq_false (by omega)], hb.out.drew⟩
          · have HR := Bx.mk (show (decide (0 ≤ v) && decide (v ≤ Ex.top 9)) = false from by simp; omega)
            go_enter Try.func34, Try.ntmps34
            go_wp2_with fail
            generalize w.alloc (.cells #[.int .i64 9, .int .i64 a, .int .i64 v, .slice pp kids.len cap] 36) = W at c0 c1 c2 c3 hb ⊢
            refine region_stB (by kernel_rfl) (by kernel_rfl) ?_
            (repeat (refine stB_step (fun K hK => ?_); go_simp; refine hK _ ?_; clear hK K))
            (refine stB_step (fun K hK => ?_); go_simp; refine ⟨_, HK.out _, hK _ ?_⟩; clear hK K)
            (repeat (refine stB_step (fun K hK => ?_); go_simp; refine hK _ ?_; clear hK K))
            refine stB_nil ?_
            go_wp2_with fail
            go_ret
            exact ⟨by rw [HTop.out, HR.out]; rfl, hb.out.drew⟩
        · by_cases h0 : v ≥ 0
          · by_cases ht : v ≤ 7
            · have HR := Bx.mk (show (decide (0 ≤ v) && decide (v ≤ Ex.top 10)) = true from by unfold Ex.top; simp; omega)
              go_enter Try.func34, Try.ntmps34
              go_wp2_with fail
              generalize w.alloc (.cells #[.int .i64 10, .int .i64 a, .int .i64 v, .slice pp kids.len cap] 36) = W at c0 c1 c2 c3 hb ⊢
              refine region_stB (by kernel_rfl) (by kernel_rfl) ?_
              (repeat (refine stB_step (fun K hK => ?_); go_simp; refine hK _ ?_; clear hK K))
              (refine stB_step (fun K hK => ?_); go_simp; refine ⟨_, HK.out _, hK _ ?_⟩; clear hK K)
              (repeat (refine stB_step (fun K hK => ?_); go_simp; refine hK _ ?_; clear hK K))
              refine stB_nil ?_
              go_wp2_with fail
              go_ret
              exact ⟨by rw [HTop.out, HR.out]; rfl, hb.out.drew⟩
            · have HR := Bx.mk (show (decide (0 ≤ v) && decide (v ≤ Ex.top 10)) = false from by unfold Ex.top; simp; omega)
              go_enter Try.func34, Try.ntmps34
              go_wp2_with fail
              generalize w.alloc (.cells #[.int .i64 10, .int .i64 a, .int .i64 v, .slice pp kids.len cap] 36) = W at c0 c1 c2 c3 hb ⊢
              refine region_stB (by kernel_rfl) (by kernel_rfl) ?_
              (repeat (refine stB_step (fun K hK => ?_); go_simp; refine hK _ ?_; clear hK K))
              (refine stB_step (fun K hK => ?_); go_simp; refine ⟨_, HK.out _, hK _ ?_⟩; clear hK K)
              (repeat (refine stB_step (fun K hK => ?_); go_simp; refine hK _ ?_; clear hK K))
              refine stB_nil ?_
              go_wp2_with fail
              go_ret
              exact ⟨by rw [HTop.out, HR.out]; show Ending.returned (Value.bool (decide (v ≤ 7))) = _; rw [decide_eq_false (by omega)], hb.out.drew⟩
          · have HR := Bx.mk (show (decide (0 ≤ v) && decide (v ≤ Ex.top 10)) = false from by simp; omega)
            go_enter Try.func34, Try.ntmps34
            go_wp2_with fail
            generalize w.alloc (.cells #[.int .i64 10, .int .i64 a, .int .i64 v, .slice pp kids.len cap] 36) = W at c0 c1 c2 c3 hb ⊢
            refine region_stB (by kernel_rfl) (by kernel_rfl) ?_
            (repeat (refine stB_step (fun K hK => ?_); go_simp; refine hK _ ?_; clear hK K))
            (refine stB_step (fun K hK => ?_); go_simp; refine ⟨_, HK.out _, hK _ ?_⟩; clear hK K)
            (repeat (refine stB_step (fun K hK => ?_); go_simp; refine hK _ ?_; clear hK K))
            refine stB_nil ?_
            go_wp2_with fail
            go_ret
            exact ⟨by rw [HTop.out, HR.out]; rfl, hb.out.drew⟩
        · by_cases h0 : v ≥ 0
          · by_cases ht : v ≤ 7
            · have HR := Bx.mk (show (decide (0 ≤ v) && decide (v ≤ Ex.top 11)) = true from by unfold Ex.top; simp; omega)
              go_enter Try.func34, Try.ntmps34
              go_wp2_with fail
              generalize w.alloc (.cells #[.int .i64 11, .int .i64 a, .int .i64 v, .slice pp kids.len cap] 36) = W at c0 c1 c2 c3 hb ⊢
              refine region_stB (by kernel_rfl) (by kernel_rfl) ?_
              (repeat (refine stB_step (fun K hK => ?_); go_simp; refine hK _ ?_; clear hK K))
              (refine stB_step (fun K hK => ?_); go_simp; refine ⟨_, HK.out _, hK _ ?_⟩; clear hK K)
              (repeat (refine stB_step (fun K hK => ?_); go_simp; refine hK _ ?_; clear hK K))
              refine stB_nil ?_
              go_wp2_with fail
              go_ret
              exact ⟨by rw [HTop.out, HR.out]; rfl, hb.out.drew⟩
            · have HR := Bx.mk (show (decide (0 ≤ v) && decide (v ≤ Ex.top 11)) = false from by unfold Ex.top; simp; omega)
              go_enter Try.func34, Try.ntmps34
              go_wp2_with fail
              generalize w.alloc (.cells #[.int .i64 11, .int .i64 a, .int .i64 v, .slice pp kids.len cap] 36) = W at c0 c1 c2 c3 hb ⊢
              refine region_stB (by kernel_rfl) (by kernel_rfl) ?_
              (repeat (refine stB_step (fun K hK => ?_); go_simp; refine hK _ ?_; clear hK K))
              (refine stB_step (fun K hK => ?_); go_simp; refine ⟨_, HK.out _, hK _ ?_⟩; clear hK K)
              (repeat (refine stB_step (fun K hK => ?_); go_simp; refine hK _ ?_; clear hK K))
              refine stB_nil ?_
              go_wp2_with fail
              go_ret
              exact ⟨by rw [HTop.out, HR.out]; show Ending.returned (Value.bool (decide (v ≤ 7))) = _; rw [decide_eq_false (by omega)], hb.out.drew⟩
          · have HR := Bx.mk (show (decide (0 ≤ v) && decide (v ≤ Ex.top 11)) = false from by simp; omega)
            go_enter Try.func34, Try.ntmps34
            go_wp2_with fail
            generalize w.alloc (.cells #[.int .i64 11, .int .i64 a, .int .i64 v, .slice pp kids.len cap] 36) = W at c0 c1 c2 c3 hb ⊢
            refine region_stB (by kernel_rfl) (by kernel_rfl) ?_
            (repeat (refine stB_step (fun K hK => ?_); go_simp; refine hK _ ?_; clear hK K))
            (refine stB_step (fun K hK => ?_); go_simp; refine ⟨_, HK.out _, hK _ ?_⟩; clear hK K)
            (repeat (refine stB_step (fun K hK => ?_); go_simp; refine hK _ ?_; clear hK K))
            refine stB_nil ?_
            go_wp2_with fail
            go_ret
            exact ⟨by rw [HTop.out, HR.out]; rfl, hb.out.drew⟩
      · have q3 : ¬ (kids.len : Int) = (Ex.kids k : Int) := by omega
        have HF := Bx.mk (show Ex.plain ⟨k, a, v, kids⟩ = false from by unfold Ex.plain; simp [h3])
        have HK := Bx.mk hK
        have q4 : ((kids.len : Int) == (Ex.kids k : Int)) = false := by rw [beq_eq_false_iff_ne]; omega
        have q5 : ((kids.len : Int) != (Ex.kids k : Int)) = true := by rw [bne_iff_ne]; omega
        clear h3 hK
        go_enter Try.func34, Try.ntmps34
        go_wp2_with fail
        generalize w.alloc (.cells #[.int .i64 k, .int .i64 a, .int .i64 v, .slice pp kids.len cap] 36) = W at c0 c1 c2 c3 hb ⊢
        refine region_stB (by kernel_rfl) (by kernel_rfl) ?_
        (repeat (refine stB_step (fun K hK => ?_); go_simp; refine hK _ ?_; clear hK K))
        (refine stB_step (fun K hK => ?_); go_simp; refine ⟨_, HK.out _, hK _ ?_⟩; clear hK K)
        (repeat (refine stB_step (fun K hK => ?_); go_simp; refine hK _ ?_; clear hK K))
        refine stB_nil ?_
        go_wp2_with fail
        all_goals first | (go_ret; exact ⟨by rw [HF.out]; rfl, hb.out.drew⟩) | (exfalso; simp_all)
end Go.Proofs.Ytfgokhafiffbaaa

/-
  Formulas: Is.
-/
namespace Go.Proofs.Ytfgokhafiffbaaa
set_option linter.unusedVariables false
open Go.RowKit

def Fo.nodes : Fo → Nat
  | .nil => 0
  | .cons _ _ _ kids rest => 1 + kids.nodes + rest.nodes
def Fo.allPlain : Fo → Bool
  | .nil => true
  | .cons k a v kids rest => Ex.plain ⟨k, a, v, kids⟩ && kids.allPlain && rest.allPlain
/-- is it a formula? -/
def Ex.is (t : Tr) : Bool := decide ((t.on .nil).nodes ≤ 4000) && (t.on .nil).allPlain
theorem Fo.nodes_app : ∀ (F G : Fo), (F.app G).nodes = F.nodes + G.nodes
  | .nil, G => by simp [Fo.app, Fo.nodes]
  | .cons k a v kids rest, G => by simp [Fo.app, Fo.nodes, Fo.nodes_app rest G]; omega
theorem Fo.allPlain_app : ∀ (F G : Fo), (F.app G).allPlain = (F.allPlain && G.allPlain)
  | .nil, G => by simp [Fo.app, Fo.allPlain]
  | .cons k a v kids rest, G => by simp [Fo.app, Fo.allPlain, Fo.allPlain_app rest G, Bool.and_assoc]
theorem Fo.snoc : ∀ (F : Fo), F.len ≠ 0 → ∃ (G : Fo) (x : Tr), F = G.app (x.on .nil)
  | .nil, h => absurd rfl h
  | .cons k a v kids .nil, _ => ⟨.nil, ⟨k, a, v, kids⟩, rfl⟩
  | .cons k a v kids (.cons k' a' v' kids' rest), _ => by
    obtain ⟨G, x, e⟩ := Fo.snoc (.cons k' a' v' kids' rest) (by simp [Fo.len])
    exact ⟨.cons k a v kids G, x, by rw [e]; rfl⟩
theorem RowF.split {w : World} {B : Nat → Prop} {G : Fo} : ∀ {F : Fo} {L : List Value}, RowF w B (F.app G) L → ∃ L1 L2, L = L1 ++ L2 ∧ RowF w B F L1 ∧ RowF w B G L2
  | .nil, L, h => ⟨[], L, rfl, rfl, h⟩
  | .cons k a v kids rest, L, h => by
    obtain ⟨sl, L', rfl, hs, hr⟩ := h
    obtain ⟨L1, L2, rfl, h1, h2⟩ := RowF.split hr
    exact ⟨_, L2, rfl, ⟨sl, L1, rfl, hs, h1⟩, h2⟩
theorem Ex.kids_le (k : Int) : Ex.kids k ≤ 3 := by
  unfold Ex.kids
  split
  · omega
  · split
    · omega
    · split <;> omega
/-- where the loop of Is stands: what is left, behind n of them -/
structure IsL (w wr : World) (v : Value) (n : Nat) (F : Fo) (b : Bool) : Prop where
  be : Below w.heap.size w wr
  own : ∃ L, wr.ownsRow w.heap.size 36 4 v F.len L ∧ RowF wr (fun g => g < w.heap.size) F L
  few : n ≤ 4000
  len : F.len ≤ 3 * n + 1
  val : b = (decide (n + F.nodes ≤ 4000) && F.allPlain)
/-- what is popped -/
theorem IsL.pop {w wr : World} {v : Value} {n : Nat} {F G : Fo} {x : Tr} {b : Bool} (h : IsL w wr v n F b) (hF : F = G.app (x.on .nil)) :
    ∃ g cap sl, v = .slice (some ⟨g, 0, none⟩) (G.len + 1) cap ∧ w.heap.size ≤ g ∧ g < wr.heap.size ∧ G.len + 1 ≤ cap ∧ SlF wr (fun g => g < w.heap.size) sl x.kids ∧
      wr.cell? ⟨g, G.len * 4, none⟩ = some (.int .i64 x.k) ∧ wr.cell? ⟨g, G.len * 4 + 1, none⟩ = some (.int .i64 x.a) ∧ wr.cell? ⟨g, G.len * 4 + 2, none⟩ = some (.int .i64 x.v) ∧ wr.cell? ⟨g, G.len * 4 + 3, none⟩ = some sl ∧
      ∃ L, wr.ownsRow w.heap.size 36 4 (.slice (some ⟨g, 0, none⟩) G.len cap) G.len L ∧ RowF wr (fun g => g < w.heap.size) G L := by
  obtain ⟨L, h1, h2⟩ := h.own
  subst hF
  have hlen : (G.app (x.on .nil)).len = G.len + 1 := by rw [Fo.len_app]; rfl
  rw [hlen] at h1
  obtain ⟨L1, L2, rfl, hL1, hL2⟩ := RowF.split h2
  obtain ⟨sl, L', rfl, hs, hn⟩ := hL2
  rw [show L' = [] from hn] at h1
  have hl1 := hL1.length
  rcases h1.2 with ⟨rfl, h0⟩ | ⟨g, cap, cur, rfl, hbg, hg, hnc, hcm, hcs, htake⟩
  · omega
  · have hc : ∀ j u, (L1 ++ [.int .i64 x.k, .int .i64 x.a, .int .i64 x.v, sl])[j]? = some u → wr.cell? ⟨g, j, none⟩ = some u := fun j u hj => by
      have := h1.cells (g := g) rfl j u hj
      simp only [Addr.add] at this
      split at this
      · rename_i e0; subst e0; exact this
      · simpa using this
    refine ⟨g, cap, sl, rfl, hbg, (h1.lt g rfl).2, hnc, hs, hc _ _ (by rw [← hl1]; simp), hc _ _ (by rw [← hl1]; simp), hc _ _ (by rw [← hl1]; simp), hc _ _ (by rw [← hl1]; simp), L1, ⟨hl1, .inr ⟨g, cap, cur, rfl, hbg, hg, by omega, hcm, hcs, ?_⟩⟩, hL1⟩
    have := congrArg (List.take (G.len * 4)) htake
    rw [List.take_take, Nat.min_eq_left (by omega), ← hl1, List.take_left] at this
    rw [← hl1]; exact this

theorem below_gr {w w' : World} (h : Below w.heap.size w w') : w.grownBy w' none := ⟨h.os, h.tape, h.output, h.size, fun k hk _ => h.block k hk⟩
set_option maxRecDepth 100000 in
/-- nothing appended, wherever it lies -/
theorem own_app0 {w : World} {base : Nat} {v : Value} {n : Nat} {L : List Value} (h : w.ownsRow base 36 4 v n L) (a : Addr) (hn : n < 1000000) (hb : base ≤ w.heap.size) (ty : TypeId) :
    ∃ v' w', (Builtin.append_ #[34, 34] ty #[v, .slice (some a) 0 0]).run Try.prog w = .ok v' w' ∧ w'.ownsRow base 36 4 v' n L ∧ w.grownBy w' v.ownBlock := by
  obtain ⟨i0, hi, hz⟩ : ∃ i, Try.prog.info? 36 = some i ∧ i.zero = some (.agg #[.int .i64 0, .int .i64 0, .int .i64 0, .slice none 0 0]) ∧ i.size = 4 ∧ i.bytes = 48 := by
    refine ⟨_, rfl, ?_⟩
    exact ⟨by kernel_rfl, by kernel_rfl, by kernel_rfl⟩
  obtain ⟨v', w', hr, h1, h2, _⟩ := run_append_own_at (P := Try.prog) w base 34 ty 36 i0 _ 4 48 Try.underlying34 hi hz.1 hz.2.1 hz.2.2 rfl (by omega) _ _ _ h a 0 0 [] rfl (by simp) (by simp) (by unfold maxLen; omega) (by omega) hb
  rw [List.append_nil, Nat.add_zero] at h1
  exact ⟨v', w', hr, h1, h2⟩
/-- what is pushed -/
theorem IsL.push {w u : World} {G : Fo} {x : Tr} {sx : Value} {g m cap : Nat} (hbe : Below w.heap.size w u) (hown : ∃ L, u.ownsRow w.heap.size 36 4 (.slice (some ⟨g, 0, none⟩) m cap) G.len L ∧ RowF u (fun g => g < w.heap.size) G L)
    (hs : SlF u (fun g => g < w.heap.size) sx x.kids) (hlen : G.len + x.kids.len < 100000) (ty : TypeId) :
    ∃ v' w', (Builtin.append_ #[34, 34] ty #[.slice (some ⟨g, 0, none⟩) m cap, sx]).run Try.prog u = .ok v' w' ∧ Below w.heap.size w w' ∧
      ∃ L, w'.ownsRow w.heap.size 36 4 v' (G.app x.kids).len L ∧ RowF w' (fun g => g < w.heap.size) (G.app x.kids) L := by
  obtain ⟨L, h1, h2⟩ := hown
  have hg := h1.lt g rfl
  have hsz := hbe.size
  obtain ⟨i0, hi⟩ : ∃ i, Try.prog.info? 36 = some i := ⟨_, rfl⟩
  obtain ⟨p, cx, b, o, rfl, hp, hc, hr⟩ := hs
  rw [Fo.len_app]
  rcases hp with ⟨hk, rfl⟩ | rfl
  · rw [hk]
    have h2' : RowF u (fun g => g < w.heap.size) (G.app .nil) L := by
      have := RowF.app (G := .nil) (M := []) (w := u) (B := fun g => g < w.heap.size) rfl h2
      rwa [List.append_nil] at this
    cases p with
    | none => exact ⟨_, u, run_append_owned_none (P := Try.prog) u w.heap.size 34 ty 36 i0 4 Try.underlying34 hi _ _ _ h1, hbe, L, h1, h2'⟩
    | some a =>
      obtain ⟨v', w', hrun, ho, hgr⟩ := own_app0 h1 a (by omega) hsz ty
      refine ⟨v', w', hrun, hbe.grown hgr hsz (fun k hk => by simp [Value.ownBlock] at hk; omega), L, ho, ?_⟩
      refine h2'.kept fun j hj hl => hgr.block j hl (fun e => ?_)
      simp [Value.ownBlock] at e
      omega
  · obtain ⟨M, hM, hcell⟩ := hr.row
    obtain ⟨v', w', hrun, ho, hgr, hbk⟩ := own_app h1 b o x.kids.len cx M hM.length (fun e => by simp at e) hcell hM.one (by omega) hsz ty
    refine ⟨v', w', hrun, hbe.grown hgr hsz (fun k hk => by simp [Value.ownBlock] at hk; omega), L ++ M, ho, ?_⟩
    refine (RowF.app hM h2).kept fun j hj hl => hgr.block j hl (fun e => ?_)
    simp [Value.ownBlock] at e
    omega
set_option maxHeartbeats 8000000 in
theorem is_any (t : Tr) (sl : Value) (B : Nat → Prop) (w : World) (h : SlF w B sl t.kids) : Calls Try.prog 15 #[Ev t sl] w fun e w' => e = .returned (.bool (Ex.is t)) ∧ Below w.heap.size w w' := by
  obtain ⟨pp, cap, rfl⟩ := h.is
  have hT := h.mono' (B' := fun g => g < w.heap.size) fun g hg _ => hg
  have hb0 := boxE w t.k t.a t.v (.slice pp t.kids.len cap)
  have H0 : Bx (IsL w ((w.alloc (.cells #[.int .i64 t.k, .int .i64 t.a, .int .i64 t.v, .slice pp t.kids.len cap] 36)).alloc (.cells #[.int .i64 t.k, .int .i64 t.a, .int .i64 t.v, .slice pp t.kids.len cap] 36)) (.slice (some ⟨w.heap.size + 1, 0, none⟩) 1 1) 0 (t.on .nil) (Ex.is t)) := by
    refine ⟨⟨((Below.refl _ _).alloc (Nat.le_refl _) _).alloc (by rw [alloc_size]; omega) _, ⟨[.int .i64 t.k, .int .i64 t.a, .int .i64 t.v, .slice pp t.kids.len cap], ?_, ?_⟩, by omega, by simp [Fo.len_on, Fo.len], by unfold Ex.is; rw [Nat.zero_add]⟩⟩
    · have := World.ownsRow_lit (e := 36) (size := 4) (base := w.heap.size) (w.alloc (.cells #[.int .i64 t.k, .int .i64 t.a, .int .i64 t.v, .slice pp t.kids.len cap] 36)) #[.int .i64 t.k, .int .i64 t.a, .int .i64 t.v, .slice pp t.kids.len cap] 1 (by rw [alloc_size]; omega) (by unfold maxLen; omega) rfl
      rw [alloc_size] at this
      exact this
    · exact ⟨_, [], rfl, (hT.alloc _).alloc _, rfl⟩
  clear h hT
  unfold Ev
  go_enter Try.func15, Try.ntmps15
  go_wp2_with fail
  go_loopw [3, 4] (fun v n wr => ∃ (k : Nat) (F : Fo), n = .int .i64 (k : Int) ∧ IsL w wr v k F (Ex.is t)) (fun _ n _ => 4001 - (intOf n).toNat)
  case atStart => exact ⟨0, t.on .nil, rfl, H0.out⟩
  case round =>
    obtain ⟨k, F, rfl, HL⟩ := hrel
    have HL := Bx.mk HL
    by_cases hF : F.len = 0
    · have hn : F = .nil := by cases F with | nil => rfl | cons => simp [Fo.len] at hF
      subst hn
      have hv : Bx (Ex.is t = true) := ⟨by rw [HL.out.val]; have := HL.out.few; simp [Fo.nodes, Fo.allPlain]; exact decide_eq_true this⟩
      obtain ⟨L, h1, h2⟩ := HL.out.own
      have hlen : ∃ p cp, u3 = .slice p 0 cp := by
        rcases h1.2 with ⟨e, _⟩ | ⟨g, cp, cur, e, _⟩
        · exact ⟨_, _, e⟩
        · exact ⟨_, _, e⟩
      obtain ⟨p, cp, rfl⟩ := hlen
      clear h1 h2 hF
      go_wp2_with fail
      go_ret
      exact ⟨by rw [hv.out]; rfl, HL.out.be⟩
    · obtain ⟨G, x, hG⟩ := F.snoc hF
      obtain ⟨g, cp, sx, rfl, hg1, hg2, hcp, hsx, x0, x1, x2, x3, L, hL1, hL2⟩ := HL.out.pop hG
      obtain ⟨px, cx, rfl⟩ := hsx.is
      have hlb := HL.out.len
      have hfew := HL.out.few
      have hln : F.len = G.len + 1 := by rw [hG, Fo.len_app]; rfl
      rw [hln] at hlb
      have HX := Bx.mk hsx
      have HO := Bx.mk (show ∃ L, wr.ownsRow w.heap.size 36 4 (.slice (some ⟨g, 0, none⟩) G.len cp) G.len L ∧ RowF wr (fun g => g < w.heap.size) G L from ⟨L, hL1, hL2⟩)
      have HG := Bx.mk hG
      have HB := Bx.mk (show G.len ≤ 3 * k ∧ k ≤ 4000 from ⟨by omega, hfew⟩)
      have HC := Bx.mk hcp
      have HGl := Bx.mk (show g < wr.heap.size ∧ w.heap.size ≤ g from ⟨hg2, hg1⟩)
      generalize hm : G.len = m at HB HC HO x0 x1 x2 x3
      have HM := Bx.mk hm
      clear hsx hL1 hL2 hG hln hF hlb hfew hcp hg1 hg2
      try rw [hm]
      clear hm
      have HW := Bx.mk (show wrap64 (m : Int) = (m : Int) from w64 _ (by have := HB.out; omega))
      have hwn : (wrap64 (m : Int)).toNat = m := by rw [HW.out, Int.toNat_natCast]
      have b1 : 0 ≤ wrap64 (m : Int) := by rw [HW.out]; omega
      have b2 : wrap64 (m : Int) < (m : Int) + 1 := by rw [HW.out]; omega
      have b3 : wrap64 (m : Int) ≤ (cp : Int) := by rw [HW.out]; have := HC.out; omega
      rw [← hwn] at x0 x1 x2 x3
      clear hwn
      by_cases hk : (k : Int) ≥ 4000
      · go_wp2_with fail
        go_ret
        refine ⟨?_, HL.out.be.alloc HL.out.be.size _⟩
        have hv : Ex.is t = false := by
          rw [HL.out.val, HG.out, Fo.nodes_app]
          have h1 : (x.on .nil).nodes = 1 + x.kids.nodes + 0 := rfl
          rw [h1, decide_eq_false (by omega)]
          rfl
        rw [hv]
        rfl
      · have hbx := boxE wr x.k x.a x.v (.slice px x.kids.len cx)
        have hbe := HL.out.be.alloc HL.out.be.size (.cells #[.int .i64 x.k, .int .i64 x.a, .int .i64 x.v, .slice px x.kids.len cx] 36)
        obtain ⟨y0, y1, y2, y3, _, _, _, _⟩ := cells4 hbx
        have HBX := Bx.mk hbx
        have HBE := Bx.mk hbe
        have hzz := alloc_size wr (.cells #[.int .i64 x.k, .int .i64 x.a, .int .i64 x.v, .slice px x.kids.len cx] 36)
        have HZ := Bx.mk hzz
        clear hbx hbe hzz
        have HP := Bx.mk (plain_any x px cx)
        unfold Ev at HP
        go_wp2_with fail
        refine (HP.out _).mono ?_
        rintro e w2 ⟨rfl, hb2⟩
        have hbx2 := HBX.out.below hb2 (by rw [HZ.out]; omega)
        obtain ⟨z0, z1, z2, z3, _, _, _, _⟩ := cells4 hbx2
        have HB2 := Bx.mk hb2
        clear hb2 hbx2 y0 y1 y2 y3
        cases hpl : Ex.plain x with
        | false =>
          have hv : Bx (Ex.is t = false) := ⟨by rw [HL.out.val, HG.out, Fo.allPlain_app]; simp [Tr.on, Fo.allPlain, hpl]⟩
          clear hpl
          go_wp2_with fail
          go_ret
          exact ⟨by rw [hv.out]; rfl, HBE.out.trans (HB2.out.mono (by have := HBE.out.size; omega))⟩
        | true =>
          have HPL := Bx.mk hpl
          clear hpl
          simp only [HW.out, Int.toNat_natCast]
          obtain ⟨v', w', hr, hbe', hown'⟩ := IsL.push (G := G) (x := x) (HBE.out.trans (HB2.out.mono (by have := HBE.out.size; omega))) (by
              obtain ⟨L, h1, h2⟩ := HO.out
              rw [HM.out]
              have hgl := HGl.out
              refine ⟨L, (h1.kept (World.grownBy_alloc wr (.cells #[.int .i64 x.k, .int .i64 x.a, .int .i64 x.v, .slice px x.kids.len cx] 36) none) (by simp [Value.ownBlock])).kept (below_gr HB2.out) (by simp [Value.ownBlock]), (h2.kept fun g _ hl => Below.heap_alloc _ _ _ hl).kept fun g _ hl => HB2.out.block g hl⟩)
            ((HX.out.alloc _).below HB2.out) (by
              have h3 : x.kids.len = Ex.kids x.k := by have := HPL.out; unfold Ex.plain at this; simp at this; exact this.1.2
              have h4 := Ex.kids_le x.k
              have := HB.out; rw [HM.out]; omega) 34
          have HBE' := Bx.mk hbe'
          have HOW' := Bx.mk hown'
          clear hbe' hown'
          go_wp2_with (refine wpList_app _ _ _ _ hr rfl rfl rfl rfl ?_)
          have h3 : x.kids.len = Ex.kids x.k := by have := HPL.out; unfold Ex.plain at this; simp at this; exact this.1.2
          have h4 := Ex.kids_le x.k
          have h5 := HB.out
          refine ⟨⟨k + 1, G.app x.kids, by go_num, HBE'.out, HOW'.out, by omega, by rw [Fo.len_app, HM.out]; omega, ?_⟩, by simp [intOf]; omega⟩
          rw [HL.out.val, HG.out, Fo.nodes_app, Fo.allPlain_app, Fo.nodes_app, Fo.allPlain_app]
          have e1 : (x.on .nil).nodes = 1 + x.kids.nodes + 0 := rfl
          have e2 : (x.on .nil).allPlain = (Ex.plain x && x.kids.allPlain && true) := rfl
          rw [e1, e2, HPL.out]
          have e3 : k + (G.nodes + (1 + x.kids.nodes + 0)) = k + 1 + (G.nodes + x.kids.nodes) := by omega
          rw [e3]
          simp
end Go.Proofs.Ytfgokhafiffbaaa

/-
  The walks of package truth, second part: tables out of what is asked of each assignment.
-/
namespace Go.Proofs.Ytfgokhafiffbaaa
set_option linter.unusedVariables false
open Go.RowKit

set_option maxRecDepth 100000 in
set_option maxHeartbeats 1000000 in
theorem of_any (p : Nat → Bool) (K : Nat) (caps : Array Value) (hc : ∀ args w, (callFunc K args).run Try.prog w = .ok (.enter K args) w) (w : World)
    (HJ : Bx (∀ (x : Nat) w1, x < 256 → Below w.heap.size w w1 → Calls Try.prog K (#[.int .u8 (x : Int)] ++ caps) w1 fun e w2 => e = .returned (.bool (p x)) ∧ Below w1.heap.size w1 w2)) :
    Calls Try.prog 64 #[.func (.func K) #[] caps] w fun e w' => e = .returned (Tb.tv (Tb.tab p)) ∧ Below w.heap.size w w' := by
  go_enter Try.func64, Try.ntmps64
  go_wp2_with fail
  go_loopw [4, 5] (fun _ i wr => ∃ k : Nat, k ≤ 256 ∧ i = .int .i64 k ∧ Below w.heap.size w wr ∧ Blk wr w.heap.size 29 (Tb.tcells 0#256) ∧ Blk wr (w.heap.size + 1) 29 (Tb.tcells (Tb.tabTo p k))) (fun _ i _ => 256 - (intOf i).toNat)
  case atStart =>
    refine ⟨0, by omega, rfl, ((Below.refl _ _).alloc (by simp) _).alloc (by simp) _, ?_, ?_⟩
    · rw [Tb.tcells_zero]; exact (Blk.new _ _ _).alloc _
    · rw [Tb.tabTo_zero, Tb.tcells_zero]
      have h := Blk.new (w.alloc (Obj.cells #[Value.int IntKind.u64 0, Value.int IntKind.u64 0, Value.int IntKind.u64 0, Value.int IntKind.u64 0] 29)) 29 #[Value.int IntKind.u64 0, Value.int IntKind.u64 0, Value.int IntKind.u64 0, Value.int IntKind.u64 0]
      rw [show (w.alloc (Obj.cells #[Value.int IntKind.u64 0, Value.int IntKind.u64 0, Value.int IntKind.u64 0, Value.int IntKind.u64 0] 29)).heap.size = w.heap.size + 1 from by simp] at h
      exact h
  case round =>
    rename_i wr
    obtain ⟨k, hk, rfl, hb, hB0, hB1⟩ := hrel
    by_cases hlt : k < 256
    · go_wp2_with fail
      refine (HJ.out k _ hlt hb).mono ?_
      rintro e w1 ⟨rfl, hb1⟩
      have hB0' := hB0.below hb1 hB0.lt
      have hB1' := hB1.below hb1 hB1.lt
      have hb2 := hb.trans (hb1.mono hb.size)
      clear hB0 hB1 hb hb1
      have hq5 : IntKind.i64.wrap ((k : Int) / 64) = (k : Int) / 64 := IntWalk.i64_in _ (by omega)
      have hq6 : IntKind.i64.wrap ((k : Int).tdiv 64) = (k : Int) / 64 := by rw [Int.tdiv_eq_ediv_of_nonneg (by omega)]; exact hq5
      have hq7 : (k : Int).tmod 64 = (k : Int) % 64 := Int.tmod_eq_emod_of_nonneg (by omega)
      have hq1 : (k : Int) / 64 < 4 := by omega
      have hq2 : 0 ≤ (k : Int) / 64 := by omega
      have hq3 : ((k : Int) / 64).toNat = k / 64 := by omega
      have hq4 : 0 ≤ (k : Int) % 64 := by omega
      by_cases hp : p k = true
      · have e1 : (w1.cell? ⟨w.heap.size + 1, k / 64, none⟩) = some (.int .u64 (Tb.wd (Tb.tabTo p k) (k / 64))) := (hB1'.cell _).trans (Tb.tcells_at _ k hlt)
        have e2 : (w1.frozen? ⟨w.heap.size + 1, k / 64, none⟩) = false := hB1'.frozen _
        have hset := hB1'.set_ (k / 64) (.int .u64 (bits .or .u64 (Tb.wd (Tb.tabTo p k) (k / 64)) (IntKind.u64.wrap (2 ^ (k % 64)))))
        rw [Tb.wrap_pow k, Tb.tcells_set _ k hlt, ← Tb.tabTo_yes hp, ← Tb.wrap_pow k] at hset
        have hset0 := hB0'.far (p := ⟨w.heap.size + 1, k / 64, none⟩) (by show w.heap.size ≠ w.heap.size + 1; omega) (.int .u64 (bits .or .u64 (Tb.wd (Tb.tabTo p k) (k / 64)) (IntKind.u64.wrap (2 ^ (k % 64)))))
        have hbb := hb2.setCell (p := ⟨w.heap.size + 1, k / 64, none⟩) (by show w.heap.size ≤ w.heap.size + 1; omega) (.int .u64 (bits .or .u64 (Tb.wd (Tb.tabTo p k) (k / 64)) (IntKind.u64.wrap (2 ^ (k % 64)))))
        go_wp2_with fail
        refine region_tail 9 (by kernel_rfl) (by kernel_rfl) ?_
        simp only [List.take_succ_cons, List.take_zero, List.drop_succ_cons, List.drop_zero]
        repeat still_step
        refine wpStill_nil ?_
        go_wp2_with fail
        exact ⟨⟨k + 1, by omega, by go_num, hbb.drew, hset0.drew, hset.drew⟩, by simp [intOf]; omega⟩
      · simp only [Bool.not_eq_true] at hp
        have hset := hB1'
        rw [← Tb.tabTo_no hp] at hset
        go_wp2_with fail
        exact ⟨⟨k + 1, by omega, by go_num, hb2, hB0', hset⟩, by simp [intOf]; omega⟩
    · obtain rfl : k = 256 := by omega
      obtain ⟨⟨a0, a1, a2, a3⟩, b0, b1, b2, b3⟩ := tfacts hB0
      obtain ⟨⟨c0, c1, c2, c3⟩, d0, d1, d2, d3⟩ := tfacts hB1
      rw [← Tb.tab_def] at c0 c1 c2 c3
      go_wp2_with fail
      refine bodyPost_ret (v := Tb.tv (Tb.tab p)) (by simp [results, Try.results64, go_sem, a0, a1, a2, a3]) rfl ⟨rfl, ?_⟩
      repeat (first | exact hb | refine Below.setCell ?_ (by simp) _)

end Go.Proofs.Ytfgokhafiffbaaa

/-
  The walks of package truth, third part: constants, variables, values, a variable set for good.
-/
namespace Go.Proofs.Ytfgokhafiffbaaa
set_option linter.unusedVariables false
open Go.RowKit

set_option maxHeartbeats 400000 in
theorem const1_any (x : Int) (b : Bool) (g : Nat) (w : World) (hc : w.cell? ⟨g, 0, none⟩ = some (.bool b)) :
    Calls Try.prog 67 #[.int .u8 x, .pointer (some ⟨g, 0, none⟩)] w fun e w' => e = .returned (.bool b) ∧ w = w' := by
  go_enter Try.func67, Try.ntmps67
  go_wp2_with fail
  go_ret
  exact ⟨rfl, rfl⟩

set_option maxHeartbeats 400000 in
theorem const_any (b : Bool) (w : World) :
    Calls Try.prog 46 #[.bool b] w fun e w' => e = .returned (Tb.tv (Tb.cst b)) ∧ Below w.heap.size w w' := by
  go_enter Try.func46, Try.ntmps46
  go_wp2_with fail
  have hE := of_any (fun _ => b) 67 #[.pointer (some ⟨w.heap.size, 0, none⟩)] (fun _ _ => rfl) ((w.alloc (.cells #[.bool b] 4)).alloc (.cells #[.int .u64 0, .int .u64 0, .int .u64 0, .int .u64 0] 29))
    ⟨fun x w1 hx hb => (const1_any x b w.heap.size w1 (by rw [(bcell hb).1 _ _ (by first | omega | (simp <;> omega))]; go_simp)).mono fun e w2 ⟨he, hw⟩ => ⟨he, hw ▸ Below.refl _ _⟩⟩
  rw [Tb.tab_cst] at hE
  refine hE.mono ?_
  clear hE
  rintro e w1 ⟨rfl, hb⟩
  obtain ⟨hcell, hfr⟩ := bcell hb
  have hz := hb.size
  go_wp2_with fail
  refine bodyPost_ret (v := Tb.tv (Tb.cst b)) (by simp [results, Try.results46, go_sem, hcell]) rfl ⟨rfl, ?_⟩
  (repeat (first | (with_reducible exact Below.refl _ _) | (with_reducible assumption) | (with_reducible refine Below.drew ?_) | (with_reducible refine Below.setCell ?_ ?_ _; rotate_left; (first | omega | (simp <;> omega))) | (with_reducible refine Below.alloc ?_ ?_ _; rotate_left; (first | omega | (simp <;> omega))) | (with_reducible refine Below.trans ?_ (hb.mono ?_); rotate_left; (first | omega | (simp <;> omega)))))

set_option maxHeartbeats 400000 in
theorem tknown_any (v : Int) (w : World) :
    Calls Try.prog 66 #[.int .i64 v] w fun e w' => e = .returned (.bool (Tb.kn v)) ∧ w = w' := by
  by_cases h0 : 0 ≤ v
  · by_cases h1 : v < 8
    · have hk : Tb.kn v = true := by unfold Tb.kn; simp [h0, h1]
      go_enter Try.func66, Try.ntmps66
      go_wp2_with fail
      go_ret
      first | exact ⟨rfl, rfl⟩ | exact ⟨by rw [hk]; rfl, rfl⟩
    · have hk : Tb.kn v = false := by unfold Tb.kn; simp [h1]
      go_enter Try.func66, Try.ntmps66
      go_wp2_with fail
      go_ret
      first | exact ⟨rfl, rfl⟩ | exact ⟨by rw [hk]; rfl, rfl⟩
  · have hk : Tb.kn v = false := by unfold Tb.kn; simp [h0]
    go_enter Try.func66, Try.ntmps66
    go_wp2_with fail
    go_ret
    first | exact ⟨rfl, rfl⟩ | exact ⟨by rw [hk]; rfl, rfl⟩

theorem kn_yes {v : Int} (h : Tb.kn v = true) : 0 ≤ v ∧ v < 8 := by unfold Tb.kn at h; simpa using h

set_option maxHeartbeats 400000 in
theorem var1_any (x : Nat) (v : Int) (g : Nat) (w : World) (hx : x < 256) (hc : w.cell? ⟨g, 0, none⟩ = some (.int .i64 v)) :
    Calls Try.prog 65 #[.int .u8 (x : Int), .pointer (some ⟨g, 0, none⟩)] w fun e w' => e = .returned (.bool (Tb.kn v && x.testBit v.toNat)) ∧ w = w' := by
  cases hk : Tb.kn v with
  | false =>
    have hkn := tknown_any v w
    rw [hk] at hkn
    have HK := Bx.mk hkn
    clear hkn hx
    go_enter Try.func65, Try.ntmps65
    go_wp2_with fail
    refine HK.out.mono ?_
    rintro e w' ⟨rfl, rfl⟩
    go_wp2_with fail
    go_ret
    exact ⟨rfl, rfl⟩
  | true =>
    have hkn := tknown_any v w
    rw [hk] at hkn
    have HK := Bx.mk hkn
    clear hkn
    obtain ⟨h0, h1⟩ := kn_yes hk
    obtain ⟨v, rfl⟩ := Int.eq_ofNat_of_zero_le h0
    have hb := Tb.u8_bit x hx v (by omega)
    rw [Int.toNat_natCast]
    clear hx hk
    cases ht : x.testBit v
    all_goals
      rw [ht] at hb
      go_enter Try.func65, Try.ntmps65
      go_wp2_with fail
      refine HK.out.mono ?_
      rintro e w' ⟨rfl, rfl⟩
      go_wp2_with fail
      go_ret
      exact ⟨rfl, rfl⟩

set_option maxHeartbeats 400000 in
theorem var_any (v : Int) (w : World) :
    Calls Try.prog 45 #[.int .i64 v] w fun e w' => e = .returned (Tb.tv (Tb.var v)) ∧ Below w.heap.size w w' := by
  go_enter Try.func45, Try.ntmps45
  go_wp2_with fail
  have hE := of_any (fun x => Tb.kn v && x.testBit v.toNat) 65 #[.pointer (some ⟨w.heap.size, 0, none⟩)] (fun _ _ => rfl) ((w.alloc (.cells #[.int .i64 v] 3)).alloc (.cells #[.int .u64 0, .int .u64 0, .int .u64 0, .int .u64 0] 29))
    ⟨fun x w1 hx hb => (var1_any x v w.heap.size w1 hx (by rw [(bcell hb).1 _ _ (by first | omega | (simp <;> omega))]; go_simp)).mono fun e w2 ⟨he, hw⟩ => ⟨he, hw ▸ Below.refl _ _⟩⟩
  rw [show Tb.tab (fun x => Tb.kn v && x.testBit v.toNat) = Tb.var v from by unfold Tb.var; rfl] at hE
  refine hE.mono ?_
  clear hE
  rintro e w1 ⟨rfl, hb⟩
  obtain ⟨hcell, hfr⟩ := bcell hb
  have hz := hb.size
  go_wp2_with fail
  refine bodyPost_ret (v := Tb.tv (Tb.var v)) (by simp [results, Try.results45, go_sem, hcell]) rfl ⟨rfl, ?_⟩
  (repeat (first | (with_reducible exact Below.refl _ _) | (with_reducible assumption) | (with_reducible refine Below.drew ?_) | (with_reducible refine Below.setCell ?_ ?_ _; rotate_left; (first | omega | (simp <;> omega))) | (with_reducible refine Below.alloc ?_ ?_ _; rotate_left; (first | omega | (simp <;> omega))) | (with_reducible refine Below.trans ?_ (hb.mono ?_); rotate_left; (first | omega | (simp <;> omega)))))

theorem tcells_fact (w : World) (f : Tb.T) (t : Nat) (k : Nat) (hk : k < 256) : (w.alloc (.cells (Tb.tcells f) t)).cell? ⟨w.heap.size, k / 64, none⟩ = some (.int .u64 (Tb.wd f (k / 64))) :=
  ((Blk.new w t (Tb.tcells f)).cell _).trans (Tb.tcells_at f k hk)

set_option maxRecDepth 100000 in
set_option maxHeartbeats 400000 in
theorem eval_any (f : Tb.T) (x : Nat) (w : World) (hx : x < 256) :
    Calls Try.prog 85 #[Tb.tv f, .int .u8 (x : Int)] w fun e w' => e = .returned (.bool (f.getLsbD x)) ∧ Below w.heap.size w w' := by
  have hc := tcells_fact w f 29 x hx
  have hb := Tb.u64_bit f x hx
  have HB := Bx.mk hb
  have hl := Tb.wd_lo f (x / 64)
  have hq1 : (x : Int) / 64 < 4 := by omega
  have hq2 : 0 ≤ (x : Int) / 64 := by omega
  have hq3 : ((x : Int) / 64).toNat = x / 64 := by omega
  have hq4 : 0 ≤ (x : Int) % 64 := by omega
  have hq5 : ((x : Int) % 64).toNat = x % 64 := by omega
  have hq6 : min (x % 64) 64 = x % 64 := by omega
  clear hb
  go_enter Try.func85, Try.ntmps85
  go_wp2_with fail
  go_ret
  refine ⟨by rw [← HB.out]; rfl, ?_⟩
  (repeat (first | (with_reducible exact Below.refl _ _) | (with_reducible assumption) | (with_reducible refine Below.drew ?_) | (with_reducible refine Below.setCell ?_ ?_ _; rotate_left; (first | omega | (simp <;> omega))) | (with_reducible refine Below.alloc ?_ ?_ _; rotate_left; (first | omega | (simp <;> omega)))))

end Go.Proofs.Ytfgokhafiffbaaa

/-
  The walks of package truth, fourth part: a variable set for good, and what is made of it.
-/
namespace Go.Proofs.Ytfgokhafiffbaaa
set_option linter.unusedVariables false
open Go.RowKit

set_option maxRecDepth 100000 in
set_option maxHeartbeats 400000 in
theorem with_any (x v : Nat) (b : Bool) (w : World) (hx : x < 256) (hv : v < 8) :
    Calls Try.prog 86 #[.int .u8 (x : Int), .int .i64 (v : Int), .bool b] w fun e w' => e = .returned (.int .u8 (Tb.wth x v b : Int)) ∧ w = w' := by
  have h1 := Tb.wth_or x hx v hv
  have h2 := Tb.wth_andNot x hx v hv
  have H1 := Bx.mk h1
  have H2 := Bx.mk h2
  clear h1 h2
  cases b with
  | true =>
    go_enter Try.func86, Try.ntmps86
    go_wp2_with fail
    go_ret
    exact ⟨by rw [← H1.out]; rfl, rfl⟩
  | false =>
    go_enter Try.func86, Try.ntmps86
    go_wp2_with fail
    go_ret
    exact ⟨by rw [← H2.out]; rfl, rfl⟩

set_option maxRecDepth 100000 in
set_option maxHeartbeats 2000000 in
theorem fix1_any (x v : Nat) (b : Bool) (f : Tb.T) (gf gv gb : Nat) (w : World) (hx : x < 256) (hv : v < 8)
    (h0 : w.cell? ⟨gf, 0, none⟩ = some (.int .u64 (Tb.wd f 0))) (h1 : w.cell? ⟨gf, 1, none⟩ = some (.int .u64 (Tb.wd f 1))) (h2 : w.cell? ⟨gf, 2, none⟩ = some (.int .u64 (Tb.wd f 2))) (h3 : w.cell? ⟨gf, 3, none⟩ = some (.int .u64 (Tb.wd f 3)))
    (hcv : w.cell? ⟨gv, 0, none⟩ = some (.int .i64 (v : Int))) (hcb : w.cell? ⟨gb, 0, none⟩ = some (.bool b)) :
    Calls Try.prog 84 #[.int .u8 (x : Int), .pointer (some ⟨gf, 0, none⟩), .pointer (some ⟨gv, 0, none⟩), .pointer (some ⟨gb, 0, none⟩)] w fun e w' => e = .returned (.bool (f.getLsbD (Tb.wth x v b))) ∧ Below w.heap.size w w' := by
  have hl := Tb.wth_lt x hx v hv b
  have lf := World.block_lt_of_cell? w _ h0
  have lv := World.block_lt_of_cell? w _ hcv
  have lb := World.block_lt_of_cell? w _ hcb
  simp only [] at lf lv lb
  go_enter Try.func84, Try.ntmps84
  go_wp2_with fail
  go_region_held3 (fun w' => Below w.heap.size w w' ∧ w.heap.size ≤ w'.heap.size ∧ (w'.cell? ⟨gf, 0, none⟩ = some (.int .u64 (Tb.wd f 0)) ∧ w'.cell? ⟨gf, 1, none⟩ = some (.int .u64 (Tb.wd f 1)) ∧ w'.cell? ⟨gf, 2, none⟩ = some (.int .u64 (Tb.wd f 2)) ∧ w'.cell? ⟨gf, 3, none⟩ = some (.int .u64 (Tb.wd f 3))) ∧
      w'.cell? ⟨gv, 0, none⟩ = some (.int .i64 (v : Int)) ∧ w'.cell? ⟨gb, 0, none⟩ = some (.bool b))
    (((try go_split_ands); (repeat' apply And.intro) <;> first | (with_reducible assumption) | omega | (with_reducible refine (hcl _ _ ?_).trans ?_; (first | omega | (simp <;> omega)); (first | (with_reducible assumption) | (go_simp; done))) | (with_reducible refine (hfz _ _ ?_).trans ?_; (first | omega | (simp <;> omega)); (first | (with_reducible assumption) | (go_simp; done))) | (with_reducible refine cval_ok ?_; (first | (with_reducible refine (congrArg Option.isSome (hcl _ _ ?_)).trans ?_; (first | omega | (simp <;> omega)); (go_simp; done)) | (go_simp; done))) | ((repeat (first | (with_reducible exact Below.refl _ _) | (with_reducible assumption) | (with_reducible refine Below.drew ?_) | (with_reducible refine Below.setCell ?_ ?_ _; rotate_left; (first | omega | (simp <;> omega))) | (with_reducible refine Below.alloc ?_ ?_ _; rotate_left; (first | omega | (simp <;> omega))) | (with_reducible refine Below.trans ?_ (hb.mono ?_); rotate_left; (first | omega | (simp <;> omega))))); done) | ((repeat (first | (with_reducible exact Below.refl _ _) | (with_reducible assumption) | (with_reducible refine Below.drew ?_) | (with_reducible refine Below.setCell ?_ ?_ _; rotate_left; (first | omega | (simp <;> omega))) | (with_reducible refine Below.alloc ?_ ?_ _; rotate_left; (first | omega | (simp <;> omega))))); done) | (simp <;> omega) | (go_simp; done) | (go_simp <;> omega)))
    (first | (go_at_call 86; refine (with_any x v b _ hx hv).mono ?_; rintro e w' ⟨rfl, rfl⟩) | (go_at_call 85; refine (eval_any f (Tb.wth x v b) _ hl).mono ?_; rintro e w' ⟨rfl, hb⟩; obtain ⟨hcl, hfz⟩ := bcell hb; have hz := hb.size))
  go_split_ands
  go_wp2_with fail
  go_ret
  refine ⟨rfl, ?_⟩
  assumption

set_option maxHeartbeats 2000000 in
theorem fix_any (f : Tb.T) (v : Int) (b : Bool) (w : World) :
    Calls Try.prog 81 #[Tb.tv f, .int .i64 v, .bool b] w fun e w' => e = .returned (Tb.tv (Tb.fix f v b)) ∧ Below w.heap.size w w' := by
  cases hk : Tb.kn v with
  | false =>
    rw [Tb.fix_no hk]
    have hkn := fun w => tknown_any v w
    rw [hk] at hkn
    have HK := Bx.mk hkn
    clear hkn
    go_enter Try.func81, Try.ntmps81
    go_wp2_with fail
    refine (HK.out _).mono ?_
    rintro e w1 ⟨rfl, rfl⟩
    go_wp2_with fail
    refine bodyPost_ret (v := Tb.tv f) (by simp [results, Try.results81, go_sem]) rfl ⟨rfl, ?_⟩
    (repeat (first | (with_reducible exact Below.refl _ _) | (with_reducible assumption) | (with_reducible refine Below.drew ?_) | (with_reducible refine Below.setCell ?_ ?_ _; rotate_left; (first | omega | (simp <;> omega))) | (with_reducible refine Below.alloc ?_ ?_ _; rotate_left; (first | omega | (simp <;> omega)))))
  | true =>
    have hkn := fun w => tknown_any v w
    rw [hk] at hkn
    have HK := Bx.mk hkn
    clear hkn
    obtain ⟨h0, h1⟩ := kn_yes hk
    obtain ⟨v, rfl⟩ := Int.eq_ofNat_of_zero_le h0
    have hv : v < 8 := by omega
    rw [Tb.fix_yes hk, Int.toNat_natCast]
    clear hk
    generalize hR : Tb.tab (fun x => f.getLsbD (Tb.wth x v b)) = R
    have HR := Bx.mk hR
    clear hR
    go_enter Try.func81, Try.ntmps81
    go_wp2_with fail
    refine (HK.out _).mono ?_
    rintro e w1 ⟨rfl, rfl⟩
    go_wp2_with fail
    have hE := of_any (fun x => f.getLsbD (Tb.wth x v b)) 84 #[.pointer (some ⟨w.heap.size, 0, none⟩), .pointer (some ⟨w.heap.size + 1, 0, none⟩), .pointer (some ⟨w.heap.size + 1 + 1, 0, none⟩)] (fun _ _ => rfl)
      ((((w.alloc (.cells (Tb.tcells f) 29)).alloc (.cells #[.int .i64 v] 3)).alloc (.cells #[.bool b] 4)).alloc (.cells #[.int .u64 0, .int .u64 0, .int .u64 0, .int .u64 0] 29))
      ⟨fun x w1 hx hb => fix1_any x v b f w.heap.size (w.heap.size + 1) (w.heap.size + 1 + 1) w1 hx hv
        (by rw [(bcell hb).1 _ _ (by first | omega | (simp <;> omega))]; go_simp) (by rw [(bcell hb).1 _ _ (by first | omega | (simp <;> omega))]; go_simp) (by rw [(bcell hb).1 _ _ (by first | omega | (simp <;> omega))]; go_simp) (by rw [(bcell hb).1 _ _ (by first | omega | (simp <;> omega))]; go_simp)
        (by rw [(bcell hb).1 _ _ (by first | omega | (simp <;> omega))]; go_simp) (by rw [(bcell hb).1 _ _ (by first | omega | (simp <;> omega))]; go_simp)⟩
    rw [HR.out] at hE
    refine hE.mono ?_
    clear hE
    rintro e w1 ⟨rfl, hb⟩
    obtain ⟨hcell, hfr⟩ := bcell hb
    have hz := hb.size
    go_wp2_with fail
    refine bodyPost_ret (v := Tb.tv R) (by simp [results, Try.results81, go_sem, hcell]) rfl ⟨rfl, ?_⟩
    (repeat (first | (with_reducible exact Below.refl _ _) | (with_reducible assumption) | (with_reducible refine Below.drew ?_) | (with_reducible refine Below.setCell ?_ ?_ _; rotate_left; (first | omega | (simp <;> omega))) | (with_reducible refine Below.alloc ?_ ?_ _; rotate_left; (first | omega | (simp <;> omega))) | (with_reducible refine Below.trans ?_ (hb.mono ?_); rotate_left; (first | omega | (simp <;> omega)))))

end Go.Proofs.Ytfgokhafiffbaaa
