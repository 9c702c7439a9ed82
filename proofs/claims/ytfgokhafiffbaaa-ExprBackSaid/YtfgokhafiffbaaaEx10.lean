/-
  Formulas: and, xor, or, iff, imp.
-/
import Derived.Test.YtfgokhafiffbaaaEx9
namespace Go.Proofs.Ytfgokhafiffbaaa
set_option linter.unusedVariables false
open Go.RowKit

/-- the signs left never grow more -/
def Mono (p : St → Tr × St) : Prop := ∀ st, (p st).2.ts.length ≤ st.ts.length
theorem Mono.chainF {t : Tok} {k : Int} {p : St → Tr × St} (h : Mono p) : ∀ (n : Nat) (x : Tr) (st : St), (Ex.chainF n t k p x st).2.ts.length ≤ st.ts.length := by
  intro n
  induction n with
  | zero => intro x st; exact Nat.le_refl _
  | succ n ih =>
    intro x st
    rw [Ex.chainF]
    split
    · have h1 := ih (Ex.two k st.at_ x (p st.goes).1) (p st.goes).2
      have h2 := h st.goes
      have h3 : st.goes.ts.length ≤ st.ts.length := by unfold St.goes; simp
      omega
    · exact Nat.le_refl _
theorem Mono.chain {t : Tok} {k : Int} {p : St → Tr × St} (h : Mono p) : Mono (Ex.chain t k p) := fun st => by
  unfold Ex.chain
  have h1 := Mono.chainF (t := t) (k := k) h (p st).2.ts.length (p st).1 (p st).2
  have h2 := h st
  omega
theorem goes_le (st : St) : st.goes.ts.length ≤ st.ts.length := by unfold St.goes; simp
theorem bad_le (x : Nat) (st : St) : (st.bad x).ts.length ≤ st.ts.length := by unfold St.bad; split <;> exact Nat.le_refl _
theorem must_le (t : Tok) (st : St) : (st.must t).ts.length ≤ st.ts.length := by unfold St.must; split; exact goes_le st; exact bad_le _ st
/-- one deeper likewise -/
def MonoO (r : Option (St → Tr × St)) : Prop := match r with | none => True | some p => Mono p
theorem MonoO.within {r : Option (St → Tr × St)} (h : MonoO r) : Mono (Ex.within r) := fun st => by
  cases r with
  | none => exact bad_le _ st
  | some p =>
    show (if st.e = 0 then p st else (Tr.zero, st)).2.ts.length ≤ _
    split
    · exact h st
    · exact Nat.le_refl _
theorem Mono.imp {r : Option (St → Tr × St)} {p : St → Tr × St} (hr : MonoO r) (h : Mono p) : Mono (Ex.imp r p) := fun st => by
  unfold Ex.imp
  split
  · have h1 := hr.within (p st).2.goes
    have h2 := goes_le (p st).2
    have h3 := h st
    exact Nat.le_trans h1 (Nat.le_trans h2 h3)
  · exact h st

set_option maxHeartbeats 4000000 in
theorem pand_any (d : Nat) (p : St → Tr × St) (hp : Pz 87 d p) (hmono : Mono p) : Pz 83 d (Ex.chain .and 4 p) := by
  intro N s st w h
  have hlt := h.lt
  have HC := Bx.mk (chain_any N d s st (w.alloc (Obj.cells #[.int .i64 0, .int .i64 0, .int .i64 0, .slice none 0 0] 36)) 87 .and 4 { data := #[38] } p (fun _ _ => rfl) hp hmono (by unfold Tok.str Tok.txt strOf; decide +kernel) (by decide) (by decide) (h.alloc _))
  generalize Ex.chain .and 4 p st = R at HC ⊢
  clear h hp hmono
  go_enter Try.func83, Try.ntmps83
  go_wp2_with fail
  refine HC.out.mono ?_
  rintro e w1 ⟨sl, rfl, hS1, hP1, hG1⟩
  obtain ⟨pp, cap, rfl⟩ := hS1.is
  have hr := hG1.blk (Blk.new w 36 #[.int .i64 0, .int .i64 0, .int .i64 0, .slice none 0 0]) (by omega)
  rw [alloc_size] at hS1
  obtain ⟨r0, r1, r2, r3, g0, g1, g2, g3⟩ := cells4 hr
  have HP1 := Bx.mk hP1
  have HG1 := Bx.mk (((Gb.refl N w).alloc _).trans hG1)
  have HR1 := Bx.mk hr
  have HS1 := Bx.mk hS1
  clear hP1 hG1 hr hS1 HC
  unfold Ev
  go_wp2_with fail
  have hE := Blk.own4 HR1.out (.int .i64 R.1.k) (.int .i64 R.1.a) (.int .i64 R.1.v) (.slice pp R.1.kids.len cap)
  clear r0 r1 r2 r3 g0 g1 g2 g3
  obtain ⟨r0, r1, r2, r3, _, _, _, _⟩ := cells4 hE
  refine bodyPost_ret (v := Ev R.1 (.slice pp R.1.kids.len cap)) (by simp [results, Try.results83, go_sem, r0, r1, r2, r3]; rfl) rfl ?_
  exact ⟨_, rfl, (HS1.out.st4 (R := w.heap.size) (fun h => by unfold Ge at h; omega) _ _ _ _).mono (fun g hg => by unfold Ge at hg ⊢; omega), HP1.out.st4 (by omega) _ _ _ _, HG1.out.st4 (Nat.le_refl _) _ _ _ _⟩

set_option maxHeartbeats 4000000 in
theorem pxor_any (d : Nat) (p : St → Tr × St) (hp : Pz 83 d p) (hmono : Mono p) : Pz 77 d (Ex.chain .xor 6 p) := by
  intro N s st w h
  have hlt := h.lt
  have HC := Bx.mk (chain_any N d s st (w.alloc (Obj.cells #[.int .i64 0, .int .i64 0, .int .i64 0, .slice none 0 0] 36)) 83 .xor 6 { data := #[94] } p (fun _ _ => rfl) hp hmono (by unfold Tok.str Tok.txt strOf; decide +kernel) (by decide) (by decide) (h.alloc _))
  generalize Ex.chain .xor 6 p st = R at HC ⊢
  clear h hp hmono
  go_enter Try.func77, Try.ntmps77
  go_wp2_with fail
  refine HC.out.mono ?_
  rintro e w1 ⟨sl, rfl, hS1, hP1, hG1⟩
  obtain ⟨pp, cap, rfl⟩ := hS1.is
  have hr := hG1.blk (Blk.new w 36 #[.int .i64 0, .int .i64 0, .int .i64 0, .slice none 0 0]) (by omega)
  rw [alloc_size] at hS1
  obtain ⟨r0, r1, r2, r3, g0, g1, g2, g3⟩ := cells4 hr
  have HP1 := Bx.mk hP1
  have HG1 := Bx.mk (((Gb.refl N w).alloc _).trans hG1)
  have HR1 := Bx.mk hr
  have HS1 := Bx.mk hS1
  clear hP1 hG1 hr hS1 HC
  unfold Ev
  go_wp2_with fail
  have hE := Blk.own4 HR1.out (.int .i64 R.1.k) (.int .i64 R.1.a) (.int .i64 R.1.v) (.slice pp R.1.kids.len cap)
  clear r0 r1 r2 r3 g0 g1 g2 g3
  obtain ⟨r0, r1, r2, r3, _, _, _, _⟩ := cells4 hE
  refine bodyPost_ret (v := Ev R.1 (.slice pp R.1.kids.len cap)) (by simp [results, Try.results77, go_sem, r0, r1, r2, r3]; rfl) rfl ?_
  exact ⟨_, rfl, (HS1.out.st4 (R := w.heap.size) (fun h => by unfold Ge at h; omega) _ _ _ _).mono (fun g hg => by unfold Ge at hg ⊢; omega), HP1.out.st4 (by omega) _ _ _ _, HG1.out.st4 (Nat.le_refl _) _ _ _ _⟩

set_option maxHeartbeats 4000000 in
theorem por_any (d : Nat) (p : St → Tr × St) (hp : Pz 77 d p) (hmono : Mono p) : Pz 62 d (Ex.chain .or 5 p) := by
  intro N s st w h
  have hlt := h.lt
  have HC := Bx.mk (chain_any N d s st (w.alloc (Obj.cells #[.int .i64 0, .int .i64 0, .int .i64 0, .slice none 0 0] 36)) 77 .or 5 { data := #[124] } p (fun _ _ => rfl) hp hmono (by unfold Tok.str Tok.txt strOf; decide +kernel) (by decide) (by decide) (h.alloc _))
  generalize Ex.chain .or 5 p st = R at HC ⊢
  clear h hp hmono
  go_enter Try.func62, Try.ntmps62
  go_wp2_with fail
  refine HC.out.mono ?_
  rintro e w1 ⟨sl, rfl, hS1, hP1, hG1⟩
  obtain ⟨pp, cap, rfl⟩ := hS1.is
  have hr := hG1.blk (Blk.new w 36 #[.int .i64 0, .int .i64 0, .int .i64 0, .slice none 0 0]) (by omega)
  rw [alloc_size] at hS1
  obtain ⟨r0, r1, r2, r3, g0, g1, g2, g3⟩ := cells4 hr
  have HP1 := Bx.mk hP1
  have HG1 := Bx.mk (((Gb.refl N w).alloc _).trans hG1)
  have HR1 := Bx.mk hr
  have HS1 := Bx.mk hS1
  clear hP1 hG1 hr hS1 HC
  unfold Ev
  go_wp2_with fail
  have hE := Blk.own4 HR1.out (.int .i64 R.1.k) (.int .i64 R.1.a) (.int .i64 R.1.v) (.slice pp R.1.kids.len cap)
  clear r0 r1 r2 r3 g0 g1 g2 g3
  obtain ⟨r0, r1, r2, r3, _, _, _, _⟩ := cells4 hE
  refine bodyPost_ret (v := Ev R.1 (.slice pp R.1.kids.len cap)) (by simp [results, Try.results62, go_sem, r0, r1, r2, r3]; rfl) rfl ?_
  exact ⟨_, rfl, (HS1.out.st4 (R := w.heap.size) (fun h => by unfold Ge at h; omega) _ _ _ _).mono (fun g hg => by unfold Ge at hg ⊢; omega), HP1.out.st4 (by omega) _ _ _ _, HG1.out.st4 (Nat.le_refl _) _ _ _ _⟩

set_option maxHeartbeats 4000000 in
theorem piff_any (d : Nat) (p : St → Tr × St) (hp : Pz 44 d p) (hmono : Mono p) : Pz 31 d (Ex.chain .iff 8 p) := by
  intro N s st w h
  have hlt := h.lt
  have HC := Bx.mk (chain_any N d s st (w.alloc (Obj.cells #[.int .i64 0, .int .i64 0, .int .i64 0, .slice none 0 0] 36)) 44 .iff 8 { data := #[60, 45, 62] } p (fun _ _ => rfl) hp hmono (by unfold Tok.str Tok.txt strOf; decide +kernel) (by decide) (by decide) (h.alloc _))
  generalize Ex.chain .iff 8 p st = R at HC ⊢
  clear h hp hmono
  go_enter Try.func31, Try.ntmps31
  go_wp2_with fail
  refine HC.out.mono ?_
  rintro e w1 ⟨sl, rfl, hS1, hP1, hG1⟩
  obtain ⟨pp, cap, rfl⟩ := hS1.is
  have hr := hG1.blk (Blk.new w 36 #[.int .i64 0, .int .i64 0, .int .i64 0, .slice none 0 0]) (by omega)
  rw [alloc_size] at hS1
  obtain ⟨r0, r1, r2, r3, g0, g1, g2, g3⟩ := cells4 hr
  have HP1 := Bx.mk hP1
  have HG1 := Bx.mk (((Gb.refl N w).alloc _).trans hG1)
  have HR1 := Bx.mk hr
  have HS1 := Bx.mk hS1
  clear hP1 hG1 hr hS1 HC
  unfold Ev
  go_wp2_with fail
  have hE := Blk.own4 HR1.out (.int .i64 R.1.k) (.int .i64 R.1.a) (.int .i64 R.1.v) (.slice pp R.1.kids.len cap)
  clear r0 r1 r2 r3 g0 g1 g2 g3
  obtain ⟨r0, r1, r2, r3, _, _, _, _⟩ := cells4 hE
  refine bodyPost_ret (v := Ev R.1 (.slice pp R.1.kids.len cap)) (by simp [results, Try.results31, go_sem, r0, r1, r2, r3]; rfl) rfl ?_
  exact ⟨_, rfl, (HS1.out.st4 (R := w.heap.size) (fun h => by unfold Ge at h; omega) _ _ _ _).mono (fun g hg => by unfold Ge at hg ⊢; omega), HP1.out.st4 (by omega) _ _ _ _, HG1.out.st4 (Nat.le_refl _) _ _ _ _⟩

end Go.Proofs.Ytfgokhafiffbaaa
