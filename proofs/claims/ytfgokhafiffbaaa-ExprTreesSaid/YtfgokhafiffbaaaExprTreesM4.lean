/-
  Texts on which the law ExprTrees rests, part 4 of 9.
-/
import Derived.Test.YtfgokhafiffbaaaExprTreesM3
import Derived.Lib.AppendStr
import Derived.Laws.IdiomStrings
/-
  Formulas: all readers, by the levels that are left; Parse.
-/
namespace Go.Proofs.Ytfgokhafiffbaaa
set_option linter.unusedVariables false
open Go.RowKit

theorem mono_bound {r : Option (St → Tr × St)} (hr : MonoO r) (k : Int) (a : Nat) : Mono (Ex.bound r k a) := fun st => by
  unfold Ex.bound
  split
  · exact Nat.le_trans (hr.within _) (goes_le st)
  · exact bad_le _ st
theorem mono_ite {r : Option (St → Tr × St)} (hr : MonoO r) (a : Nat) : Mono (Ex.ite r a) := fun st =>
  Nat.le_trans (must_le _ _) (Nat.le_trans (hr.within _) (Nat.le_trans (must_le _ _) (Nat.le_trans (hr.within _) (Nat.le_trans (must_le _ _) (Nat.le_trans (hr.within _) (must_le _ _))))))
theorem mono_prim {r : Option (St → Tr × St)} (hr : MonoO r) : Mono (Ex.prim r) := fun st => by
  unfold Ex.prim
  split
  · exact goes_le st
  · exact goes_le st
  · exact goes_le st
  · split
    · exact Nat.le_trans (must_le _ _) (Nat.le_trans (hr.within _) (goes_le st))
    · split
      · exact Nat.le_trans (mono_ite hr _ _) (goes_le st)
      · exact bad_le _ st
theorem mono_un {ru rf : Option (St → Tr × St)} (hu : MonoO ru) (hf : MonoO rf) : Mono (Ex.un ru rf) := fun st => by
  unfold Ex.un
  split
  · exact Nat.le_refl _
  · split
    · exact Nat.le_trans (hu.within _) (goes_le st)
    · split
      · exact Nat.le_trans (mono_bound hu _ _ _) (goes_le st)
      · split
        · exact Nat.le_trans (mono_bound hu _ _ _) (goes_le st)
        · exact mono_prim hf st
/-- what holds of the readers at a level -/
structure Lv (d : Nat) (r : Rd) : Prop where
  iff : Pz 31 d r.iff
  imp : Pz 44 d r.imp
  un : Pz 87 d r.un
  miff : Mono r.iff
  mimp : Mono r.imp
  mun : Mono r.un
theorem Lv.mk' (d : Nat) (ru ri rf : Option (St → Tr × St)) (hu : Rz 87 d ru) (hi : Rz 44 d ri) (hf : Rz 31 d rf) (mu : MonoO ru) (mi : MonoO ri) (mf : MonoO rf) : Lv d (Ex.mk ru ri rf) := by
  have u := un_any d ru rf hu hf
  have m := mono_un mu mf
  have a := pand_any d _ u m
  have x := pxor_any d _ a m.chain
  have o := por_any d _ x m.chain.chain
  have i := pimp_any d _ ri o hi
  have mi : Mono (Ex.imp ri (Ex.chain .or 5 (Ex.chain .xor 6 (Ex.chain .and 4 (Ex.un ru rf))))) := Mono.imp mi m.chain.chain.chain
  have f := piff_any d _ i mi
  exact ⟨f, i, u, mi.chain, mi, m⟩
theorem Lv.all : ∀ n, n ≤ 30 → Lv (30 - n) (Ex.lev n)
  | 0, _ => Lv.mk' 30 none none none rfl rfl rfl True.intro True.intro True.intro
  | n + 1, h => by
    have ih := Lv.all n (by omega)
    have e : 30 - (n + 1) + 1 = 30 - n := by omega
    refine Lv.mk' (30 - (n + 1)) _ _ _ ⟨by omega, ?_⟩ ⟨by omega, ?_⟩ ⟨by omega, ?_⟩ ih.mun ih.mimp ih.miff
    · rw [e]; exact ih.un
    · rw [e]; exact ih.imp
    · rw [e]; exact ih.iff
theorem top_any : Pz 31 0 (Ex.lev 30).iff := (Lv.all 30 (Nat.le_refl _)).iff

/-- what Parse hands back -/
def Pv (t : Tr) (sl : Value) (a e : Nat) : Value := .tuple #[Ev t sl, .int .i64 (a : Int), .int .i64 (e : Int)]
def Parsed (w : World) (r : Tr × Nat × Nat) (e : Ending) (w' : World) : Prop :=
  ∃ sl, e = .returned (Pv r.1 sl r.2.1 r.2.2) ∧ SlF w' (Ge w.heap.size) sl r.1.kids ∧ Below w.heap.size w w'
set_option maxHeartbeats 8000000 in
theorem parse_long (s : ByteArray) (w : World) (h : 4000 < s.size) : Calls Try.prog 13 #[.string s] w (Parsed w (Ex.parse (bl s))) := by
  have hE : Ex.parse (bl s) = (Tr.zero, 0, 232) := by unfold Ex.parse; rw [if_pos (by rw [bl_length]; exact h)]
  rw [hE]
  have q : (s.size : Int) > 4000 := by omega
  clear h hE
  go_enter Try.func13, Try.ntmps13
  go_wp2_with fail
  obtain ⟨r0, r1, r2, r3, _, _, _, _⟩ := cells4 (Blk.new w 36 #[.int .i64 0, .int .i64 0, .int .i64 0, .slice none 0 0])
  refine bodyPost_ret (v := Pv Tr.zero (.slice none 0 0) 0 232) (by simp [results, Try.results13, go_sem, r0, r1, r2, r3]; rfl) rfl ?_
  exact ⟨_, rfl, SlF.nil _ _, (Below.refl _ _).alloc (Nat.le_refl _) _⟩
theorem isEmpty_tok (t : Tok) : t.str.toList.isEmpty = decide (t = .eof) := by
  by_cases h : t = .eof
  · subst h
    rw [decide_eq_true rfl, ByteArray.toList_eq]
    unfold Tok.str Tok.txt strOf
    rfl
  · rw [decide_eq_false h]
    have hl := Tok.txt_len t h
    rw [← Tok.bl_str, bl_length] at hl
    rw [ByteArray.toList_eq]
    cases e : t.str.data.toList with
    | nil => have : t.str.size = t.str.data.toList.length := by simp
             rw [e] at this; have h0 : t.str.size = 0 := this; omega
    | cons a r => rfl
theorem Ex.parse_eq (l : List Nat) (h : l.length ≤ 4000) : ((((Ex.lev 30).iff ⟨Lx.lex l 0, 0, 0⟩).2.e = 0 → ((Ex.lev 30).iff ⟨Lx.lex l 0, 0, 0⟩).2.now = .eof → Ex.parse l = (((Ex.lev 30).iff ⟨Lx.lex l 0, 0, 0⟩).1, 0, 0)) ∧
    (((Ex.lev 30).iff ⟨Lx.lex l 0, 0, 0⟩).2.e = 0 → ((Ex.lev 30).iff ⟨Lx.lex l 0, 0, 0⟩).2.now ≠ .eof → Ex.parse l = (Tr.zero, (((Ex.lev 30).iff ⟨Lx.lex l 0, 0, 0⟩).2.bad 230).eat, (((Ex.lev 30).iff ⟨Lx.lex l 0, 0, 0⟩).2.bad 230).e)) ∧
    (((Ex.lev 30).iff ⟨Lx.lex l 0, 0, 0⟩).2.e ≠ 0 → Ex.parse l = (Tr.zero, ((Ex.lev 30).iff ⟨Lx.lex l 0, 0, 0⟩).2.eat, ((Ex.lev 30).iff ⟨Lx.lex l 0, 0, 0⟩).2.e))) := by
  unfold Ex.parse
  rw [if_neg (by omega)]
  simp only []
  generalize (Ex.lev 30).iff ⟨Lx.lex l 0, 0, 0⟩ = R
  have hb := bad_ne 230 (by omega) R.2
  refine ⟨fun h1 h2 => ?_, fun h1 h2 => ?_, fun h1 => ?_⟩
  · have e : (if R.2.e = 0 ∧ R.2.now ≠ .eof then R.2.bad 230 else R.2) = R.2 := if_neg (fun h => h.2 h2)
    rw [e, if_pos h1]
  · have e : (if R.2.e = 0 ∧ R.2.now ≠ .eof then R.2.bad 230 else R.2) = R.2.bad 230 := if_pos ⟨h1, h2⟩
    rw [e, if_neg hb]
  · have e : (if R.2.e = 0 ∧ R.2.now ≠ .eof then R.2.bad 230 else R.2) = R.2 := if_neg (fun h => h1 h.1)
    rw [e, if_neg h1]
/-- where Parse stands behind its reader -/
structure Ph (w wr : World) (s : ByteArray) (R : Tr × St) (b : Nat) (pp : Option Addr) (cap : Nat) : Prop where
  ps : PS wr (w.heap.size + 1) 0 s R.2
  be : Below w.heap.size w wr
  res : Blk wr w.heap.size 36 #[.int .i64 0, .int .i64 0, .int .i64 0, .slice none 0 0]
  own : Blk wr b 36 #[.int .i64 R.1.k, .int .i64 R.1.a, .int .i64 R.1.v, .slice pp R.1.kids.len cap]
  sl : SlF wr (Ge (w.heap.size + 2)) (.slice pp R.1.kids.len cap) R.1.kids
  lt : w.heap.size + 1 < b
set_option maxHeartbeats 8000000 in
theorem parse_short (s : ByteArray) (w : World) (h : s.size ≤ 4000) : Calls Try.prog 13 #[.string s] w (Parsed w (Ex.parse (bl s))) := by
  have q : ¬ (s.size : Int) > 4000 := by omega
  have hB0 : Blk ((w.alloc (Obj.cells #[.int .i64 0, .int .i64 0, .int .i64 0, .slice none 0 0] 36)).alloc (Obj.cells (PB s { data := #[] } 0 0 0 0) 62)) (w.heap.size + 1) 62 (PB s { data := #[] } 0 0 0 0) := by
    have := Blk.new (w.alloc (Obj.cells #[.int .i64 0, .int .i64 0, .int .i64 0, .slice none 0 0] 36)) 62 (PB s { data := #[] } 0 0 0 0)
    rwa [alloc_size] at this
  have hR0 := (Blk.new w 36 #[.int .i64 0, .int .i64 0, .int .i64 0, .slice none 0 0]).alloc (Obj.cells (PB s { data := #[] } 0 0 0 0) 62)
  have hG0 := ((Below.refl w.heap.size w).alloc (Nat.le_refl _) (Obj.cells #[.int .i64 0, .int .i64 0, .int .i64 0, .slice none 0 0] 36)).alloc (by rw [alloc_size]; omega) (Obj.cells (PB s { data := #[] } 0 0 0 0) 62)
  have hz0 : ((w.alloc (Obj.cells #[.int .i64 0, .int .i64 0, .int .i64 0, .slice none 0 0] 36)).alloc (Obj.cells (PB s { data := #[] } 0 0 0 0) 62)).heap.size = w.heap.size + 2 := by rw [alloc_size, alloc_size]
  have hgo := goes_any (w.heap.size + 1) s { data := #[] } 0 0 0 0 _ _ _ hB0 h (Nat.zero_le _) rfl rfl
  generalize hW : (w.alloc (Obj.cells #[.int .i64 0, .int .i64 0, .int .i64 0, .slice none 0 0] 36)).alloc (Obj.cells (PB s { data := #[] } 0 0 0 0) 62) = W0 at hB0 hR0 hG0 hz0 hgo
  have HW0 := Bx.mk hW
  have HR0 := Bx.mk hR0
  have HG0 := Bx.mk hG0
  have HGO := Bx.mk hgo
  have HE := Bx.mk (Ex.parse_eq (bl s) (by rw [bl_length]; exact h))
  have HT := Bx.mk fun u (hu : PS u (w.heap.size + 1) 0 s ⟨Lx.lex (bl s) 0, 0, 0⟩) => top_any (w.heap.size + 1) s ⟨Lx.lex (bl s) 0, 0, 0⟩ u hu
  generalize (Ex.lev 30).iff ⟨Lx.lex (bl s) 0, 0, 0⟩ = R at HE HT
  generalize Ex.parse (bl s) = RR at HE ⊢
  clear hW hB0 hR0 hG0 hgo
  go_enter Try.func13, Try.ntmps13
  go_wp2_with fail
  rw [show (w.alloc (Obj.cells #[.int .i64 0, .int .i64 0, .int .i64 0, .slice none 0 0] 36)).alloc (Obj.cells #[.string s, .string { data := #[] }, .int .i64 0, .int .i64 0, .int .i64 0, .int .i64 0] 62) = W0 from HW0.out]
  refine HGO.out.mono ?_
  rintro e w1 ⟨rfl, hB1, hG1⟩
  have hP1 := PS.fresh (a := 0) rfl rfl hB1 (Nat.zero_le _) h
  rw [List.drop_zero] at hP1
  have hT1 := HT.out w1 hP1
  have HG1 := Bx.mk hG1
  clear hB1 hP1 hG1
  go_wp2_with fail
  refine hT1.mono ?_
  clear hT1
  rintro e w2 ⟨sl, rfl, hS2, hP2, hG2⟩
  obtain ⟨pp, cap, rfl⟩ := hS2.is
  have hz1 := HG1.out.size
  have hz2 := hG2.size
  have hR2 := hG2.blk (HG1.out.blk HR0.out (by omega)) (by omega)
  have hH : Ph w (w2.alloc (Obj.cells #[.int .i64 R.1.k, .int .i64 R.1.a, .int .i64 R.1.v, .slice pp R.1.kids.len cap] 36)) s R w2.heap.size pp cap :=
    ⟨hP2.alloc _, (Gb.to_below (Gb.to_below HG0.out HG1.out (by omega)) hG2 (by omega)).alloc (by omega) _, hR2.alloc _, Blk.new _ _ _, (hS2.mono fun g hg => by unfold Ge at hg ⊢; omega).alloc _, by omega⟩
  have HH := Bx.mk hH
  clear hS2 hP2 hG2 hR2 hH hz1
  unfold Ev
  obtain ⟨c0, c1, c2, c3, c4, c5, f1, f2, f3, f4, f5⟩ := pb_cells HH.out.ps.blk
  have hie := isEmpty_tok R.2.now
  have hr := HH.out.res
  have ho := HH.out.own
  obtain ⟨r0, r1, r2, r3, g0, g1, g2, g3⟩ := cells4 hr
  obtain ⟨o0, o1, o2, o3, _, _, _, _⟩ := cells4 ho
  by_cases he : R.2.e = 0
  · have qe : (R.2.e : Int) = 0 := by omega
    by_cases hn : R.2.now = .eof
    · have hE : RR = (R.1, 0, 0) := HE.out.1 he hn
      have HE2 := Bx.mk hE
      rw [decide_eq_true hn] at hie
      clear hE he c0 c2 c3 c5 f1 f2 f3 f4 f5 hr ho
      rw [hn] at c1 hie
      clear hn
      go_wp2_with fail
      have hf := HH.out.res.own4 (.int .i64 R.1.k) (.int .i64 R.1.a) (.int .i64 R.1.v) (.slice pp R.1.kids.len cap)
      clear r0 r1 r2 r3 g0 g1 g2 g3
      obtain ⟨r0, r1, r2, r3, _, _, _, _⟩ := cells4 hf
      refine bodyPost_ret (v := Pv R.1 (.slice pp R.1.kids.len cap) 0 0) (by simp [results, Try.results13, go_sem, r0, r1, r2, r3]; rfl) rfl ?_
      rw [HE2.out]
      exact ⟨_, rfl, (HH.out.sl.st4 (R := w.heap.size) (fun h => by unfold Ge at h; omega) _ _ _ _).mono (fun g hg => by unfold Ge at hg ⊢; omega), (((HH.out.be.setCell (p := ⟨w.heap.size, 0, none⟩) (Nat.le_refl _) _).setCell (p := ⟨w.heap.size, 1, none⟩) (Nat.le_refl _) _).setCell (p := ⟨w.heap.size, 2, none⟩) (Nat.le_refl _) _).setCell (p := ⟨w.heap.size, 3, none⟩) (Nat.le_refl _) _⟩
    · have hE : RR = (Tr.zero, (R.2.bad 230).eat, (R.2.bad 230).e) := HE.out.2.1 he hn
      have HE2 := Bx.mk hE
      rw [decide_eq_false hn] at hie
      have hbad := bad_st (w.heap.size + 1) 0 230 s R.2 _ HH.out.ps
      have hq := bad_ne 230 (by omega) R.2
      have HB := Bx.mk hbad
      clear hE he hn c0 c2 c3 c5 f1 f2 f3 f4 f5 hr ho hbad
      go_wp2_with fail
      refine HB.out.mono ?_
      rintro e w3 ⟨rfl, hP3, hG3⟩
      have hR3 := hG3.blk HH.out.res (by omega)
      have hb3 := Gb.to_below HH.out.be hG3 (by omega)
      obtain ⟨c0, c1, c2, c3, c4, c5, f1, f2, f3, f4, f5⟩ := pb_cells hP3.blk
      obtain ⟨r0, r1, r2, r3, g0, g1, g2, g3⟩ := cells4 hR3
      have HR3 := Bx.mk hR3
      have HB3 := Bx.mk hb3
      have qe2 : ¬ ((R.2.bad 230).e : Int) = 0 := by omega
      clear hP3 hG3 hR3 hb3 c0 c1 c2 c3 f1 f2 f3 f4 f5
      go_wp2_with fail
      have hR4 := HR3.out.drew
      have hS0 : (fun u => u.cell? ⟨w.heap.size + 1, 4, none⟩ = some (.int .i64 ((R.2.bad 230).e : Int)) ∧ u.cell? ⟨w.heap.size + 1, 5, none⟩ = some (.int .i64 ((R.2.bad 230).eat : Int)) ∧ ∃ v0 v1 v2 v3, Blk u w.heap.size 36 #[v0, v1, v2, v3]) w3.drew := ⟨c4, c5, _, _, _, _, hR4⟩
      clear r0 r1 r2 r3 g0 g1 g2 g3
      refine region_any 100 (fun u => u.cell? ⟨w.heap.size + 1, 4, none⟩ = some (.int .i64 ((R.2.bad 230).e : Int)) ∧ u.cell? ⟨w.heap.size + 1, 5, none⟩ = some (.int .i64 ((R.2.bad 230).eat : Int)) ∧ ∃ v0 v1 v2 v3, Blk u w.heap.size 36 #[v0, v1, v2, v3]) (by kernel_rfl) ?_
      have hB4 := HB3.out.drew
      generalize w3.drew = u0 at hS0 hR4 hB4 ⊢
      refine any_take (i := 0) (.agg #[.int .i64 0, .int .i64 0, .int .i64 0, .slice none 0 0]) rfl rfl (by kernel_rfl) (by kernel_rfl) (by kernel_rfl) (by kernel_rfl) (fun _ _ d _ _ h => by cases d <;> exact h) (fun u hS => by obtain ⟨k4, k5, _⟩ := hS; first | rfl | (unfold execOp; go_simp)) hS0 ?_
      (try simp only [Act.put]); (try simp only [List.getElem_toArray]); (try simp only [List.getElem_cons_succ]); (try simp only [List.getElem_cons_zero]); (try simp only [List.setIfInBounds_toArray]); (try simp only [List.set_cons_succ]); (try simp only [List.set_cons_zero])
      refine any_take (i := 1) (.pointer (some ⟨w.heap.size + 1, 0, none⟩)) rfl rfl (by kernel_rfl) (by kernel_rfl) (by kernel_rfl) (by kernel_rfl) (fun _ _ d _ _ h => by cases d <;> exact h) (fun u hS => by obtain ⟨k4, k5, _⟩ := hS; first | rfl | (unfold execOp; go_simp)) hS0 ?_
      (try simp only [Act.put]); (try simp only [List.getElem_toArray]); (try simp only [List.getElem_cons_succ]); (try simp only [List.getElem_cons_zero]); (try simp only [List.setIfInBounds_toArray]); (try simp only [List.set_cons_succ]); (try simp only [List.set_cons_zero])
      refine any_take (i := 2) (.pointer (some ⟨w.heap.size + 1, 0, none⟩)) rfl rfl (by kernel_rfl) (by kernel_rfl) (by kernel_rfl) (by kernel_rfl) (fun _ _ d _ _ h => by cases d <;> exact h) (fun u hS => by obtain ⟨k4, k5, _⟩ := hS; first | rfl | (unfold execOp; go_simp)) hS0 ?_
      (try simp only [Act.put]); (try simp only [List.getElem_toArray]); (try simp only [List.getElem_cons_succ]); (try simp only [List.getElem_cons_zero]); (try simp only [List.setIfInBounds_toArray]); (try simp only [List.set_cons_succ]); (try simp only [List.set_cons_zero])
      refine any_take (i := 3) (.pointer (some ⟨w.heap.size + 1, 5, none⟩)) rfl rfl (by kernel_rfl) (by kernel_rfl) (by kernel_rfl) (by kernel_rfl) (fun _ _ d _ _ h => by cases d <;> exact h) (fun u hS => by obtain ⟨k4, k5, _⟩ := hS; first | rfl | (unfold execOp; go_simp)) hS0 ?_
      (try simp only [Act.put]); (try simp only [List.getElem_toArray]); (try simp only [List.getElem_cons_succ]); (try simp only [List.getElem_cons_zero]); (try simp only [List.setIfInBounds_toArray]); (try simp only [List.set_cons_succ]); (try simp only [List.set_cons_zero])
      refine any_take (i := 4) (.int .i64 ((R.2.bad 230).eat : Int)) rfl rfl (by kernel_rfl) (by kernel_rfl) (by kernel_rfl) (by kernel_rfl) (fun _ _ d _ _ h => by cases d <;> exact h) (fun u hS => by obtain ⟨k4, k5, _⟩ := hS; first | rfl | (unfold execOp; go_simp)) hS0 ?_
      (try simp only [Act.put]); (try simp only [List.getElem_toArray]); (try simp only [List.getElem_cons_succ]); (try simp only [List.getElem_cons_zero]); (try simp only [List.setIfInBounds_toArray]); (try simp only [List.set_cons_succ]); (try simp only [List.set_cons_zero])
      refine any_take (i := 5) (.pointer (some ⟨w.heap.size + 1, 0, none⟩)) rfl rfl (by kernel_rfl) (by kernel_rfl) (by kernel_rfl) (by kernel_rfl) (fun _ _ d _ _ h => by cases d <;> exact h) (fun u hS => by obtain ⟨k4, k5, _⟩ := hS; first | rfl | (unfold execOp; go_simp)) hS0 ?_
      (try simp only [Act.put]); (try simp only [List.getElem_toArray]); (try simp only [List.getElem_cons_succ]); (try simp only [List.getElem_cons_zero]); (try simp only [List.setIfInBounds_toArray]); (try simp only [List.set_cons_succ]); (try simp only [List.set_cons_zero])
      refine any_take (i := 6) (.pointer (some ⟨w.heap.size + 1, 0, none⟩)) rfl rfl (by kernel_rfl) (by kernel_rfl) (by kernel_rfl) (by kernel_rfl) (fun _ _ d _ _ h => by cases d <;> exact h) (fun u hS => by obtain ⟨k4, k5, _⟩ := hS; first | rfl | (unfold execOp; go_simp)) hS0 ?_
      (try simp only [Act.put]); (try simp only [List.getElem_toArray]); (try simp only [List.getElem_cons_succ]); (try simp only [List.getElem_cons_zero]); (try simp only [List.setIfInBounds_toArray]); (try simp only [List.set_cons_succ]); (try simp only [List.set_cons_zero])
      refine any_take (i := 7) (.pointer (some ⟨w.heap.size + 1, 4, none⟩)) rfl rfl (by kernel_rfl) (by kernel_rfl) (by kernel_rfl) (by kernel_rfl) (fun _ _ d _ _ h => by cases d <;> exact h) (fun u hS => by obtain ⟨k4, k5, _⟩ := hS; first | rfl | (unfold execOp; go_simp)) hS0 ?_
      (try simp only [Act.put]); (try simp only [List.getElem_toArray]); (try simp only [List.getElem_cons_succ]); (try simp only [List.getElem_cons_zero]); (try simp only [List.setIfInBounds_toArray]); (try simp only [List.set_cons_succ]); (try simp only [List.set_cons_zero])
      refine any_take (i := 8) (.int .i64 ((R.2.bad 230).e : Int)) rfl rfl (by kernel_rfl) (by kernel_rfl) (by kernel_rfl) (by kernel_rfl) (fun _ _ d _ _ h => by cases d <;> exact h) (fun u hS => by obtain ⟨k4, k5, _⟩ := hS; first | rfl | (unfold execOp; go_simp)) hS0 ?_
      (try simp only [Act.put]); (try simp only [List.getElem_toArray]); (try simp only [List.getElem_cons_succ]); (try simp only [List.getElem_cons_zero]); (try simp only [List.setIfInBounds_toArray]); (try simp only [List.set_cons_succ]); (try simp only [List.set_cons_zero])
      obtain ⟨k4, k5, v0, v1, v2, v3, hRS⟩ := hS0
      obtain ⟨r0, r1, r2, r3, g0, g1, g2, g3⟩ := cells4 hRS
      refine any_branch [9] (by kernel_rfl) rfl fun ix hix => ?_
      simp only [List.mem_cons, List.not_mem_nil, or_false] at hix
      subst hix
      refine any_op rfl rfl fun K hK => ?_
      go_simp
      have hS1 : (fun u => u.cell? ⟨w.heap.size + 1, 4, none⟩ = some (.int .i64 ((R.2.bad 230).e : Int)) ∧ u.cell? ⟨w.heap.size + 1, 5, none⟩ = some (.int .i64 ((R.2.bad 230).eat : Int)) ∧ ∃ v0 v1 v2 v3, Blk u w.heap.size 36 #[v0, v1, v2, v3]) ((((u0.setCell ⟨w.heap.size, 0, none⟩ (.int .i64 0)).setCell ⟨w.heap.size, 1, none⟩ (.int .i64 0)).setCell ⟨w.heap.size, 2, none⟩ (.int .i64 0)).setCell ⟨w.heap.size, 3, none⟩ (.slice none 0 0)) := ⟨by rw [set_far (.inl (by omega)), set_far (.inl (by omega)), set_far (.inl (by omega)), set_far (.inl (by omega))]; exact k4, by rw [set_far (.inl (by omega)), set_far (.inl (by omega)), set_far (.inl (by omega)), set_far (.inl (by omega))]; exact k5, _, _, _, _, hRS.own4 (.int .i64 0) (.int .i64 0) (.int .i64 0) (.slice none 0 0)⟩
      refine hK _ _ (fun _ => hS1) ?_
      (try simp only [Act.put]); (try simp only [List.getElem_toArray]); (try simp only [List.getElem_cons_succ]); (try simp only [List.getElem_cons_zero]); (try simp only [List.setIfInBounds_toArray]); (try simp only [List.set_cons_succ]); (try simp only [List.set_cons_zero])
      clear hK
      refine any_branch [10] (by kernel_rfl) rfl fun ix hix => ?_
      simp only [List.mem_cons, List.not_mem_nil, or_false] at hix
      subst hix
      refine any_op rfl rfl fun K hK => ?_
      go_simp
      refine hK _ _ (fun _ => hS1) ?_
      (try simp only [Act.put]); (try simp only [List.getElem_toArray]); (try simp only [List.getElem_cons_succ]); (try simp only [List.getElem_cons_zero]); (try simp only [List.setIfInBounds_toArray]); (try simp only [List.set_cons_succ]); (try simp only [List.set_cons_zero])
      clear hK
      refine any_branch [11] (by kernel_rfl) rfl fun ix hix => ?_
      simp only [List.mem_cons, List.not_mem_nil, or_false] at hix
      subst hix
      refine any_op rfl rfl fun K hK => ?_
      go_simp
      refine hK _ _ (fun _ => hS1) ?_
      (try simp only [Act.put]); (try simp only [List.getElem_toArray]); (try simp only [List.getElem_cons_succ]); (try simp only [List.getElem_cons_zero]); (try simp only [List.setIfInBounds_toArray]); (try simp only [List.set_cons_succ]); (try simp only [List.set_cons_zero])
      clear hK
      refine any_end (by kernel_rfl) ?_
      go_wp2_with fail
      have hf := (hR4.own4 (.int .i64 0) (.int .i64 0) (.int .i64 0) (.slice none 0 0))
      clear r0 r1 r2 r3 g0 g1 g2 g3
      obtain ⟨r0, r1, r2, r3, _, _, _, _⟩ := cells4 hf
      refine bodyPost_ret (v := Pv Tr.zero (.slice none 0 0) (R.2.bad 230).eat (R.2.bad 230).e) (by simp [results, Try.results13, go_sem, r0, r1, r2, r3]; rfl) rfl ?_
      rw [HE2.out]
      exact ⟨_, rfl, SlF.nil _ _, (((hB4.setCell (p := ⟨w.heap.size, 0, none⟩) (Nat.le_refl _) _).setCell (p := ⟨w.heap.size, 1, none⟩) (Nat.le_refl _) _).setCell (p := ⟨w.heap.size, 2, none⟩) (Nat.le_refl _) _).setCell (p := ⟨w.heap.size, 3, none⟩) (Nat.le_refl _) _⟩
  · have qe : ¬ (R.2.e : Int) = 0 := by omega
    have qe2 : ((R.2.e : Int) == 0) = false := by rw [beq_eq_false_iff_ne]; omega
    have hE : RR = (Tr.zero, R.2.eat, R.2.e) := HE.out.2.2 he
    have HE2 := Bx.mk hE
    clear hE he c0 c1 c2 c3 f1 f2 f3 f4 f5 hr ho hie
    go_wp2_with fail
    have hR4 := HH.out.res.drew
    have hS0 : (fun u => u.cell? ⟨w.heap.size + 1, 4, none⟩ = some (.int .i64 (R.2.e : Int)) ∧ u.cell? ⟨w.heap.size + 1, 5, none⟩ = some (.int .i64 (R.2.eat : Int)) ∧ ∃ v0 v1 v2 v3, Blk u w.heap.size 36 #[v0, v1, v2, v3]) (w2.alloc (Obj.cells #[.int .i64 R.1.k, .int .i64 R.1.a, .int .i64 R.1.v, .slice pp R.1.kids.len cap] 36)).drew := ⟨c4, c5, _, _, _, _, hR4⟩
    clear r0 r1 r2 r3 g0 g1 g2 g3
    refine region_any 100 (fun u => u.cell? ⟨w.heap.size + 1, 4, none⟩ = some (.int .i64 (R.2.e : Int)) ∧ u.cell? ⟨w.heap.size + 1, 5, none⟩ = some (.int .i64 (R.2.eat : Int)) ∧ ∃ v0 v1 v2 v3, Blk u w.heap.size 36 #[v0, v1, v2, v3]) (by kernel_rfl) ?_
    have hB4 := HH.out.be.drew
    generalize (w2.alloc (Obj.cells #[.int .i64 R.1.k, .int .i64 R.1.a, .int .i64 R.1.v, .slice pp R.1.kids.len cap] 36)).drew = u0 at hS0 hR4 hB4 ⊢
    refine any_take (i := 0) (.agg #[.int .i64 0, .int .i64 0, .int .i64 0, .slice none 0 0]) rfl rfl (by kernel_rfl) (by kernel_rfl) (by kernel_rfl) (by kernel_rfl) (fun _ _ d _ _ h => by cases d <;> exact h) (fun u hS => by obtain ⟨k4, k5, _⟩ := hS; first | rfl | (unfold execOp; go_simp)) hS0 ?_
    (try simp only [Act.put]); (try simp only [List.getElem_toArray]); (try simp only [List.getElem_cons_succ]); (try simp only [List.getElem_cons_zero]); (try simp only [List.setIfInBounds_toArray]); (try simp only [List.set_cons_succ]); (try simp only [List.set_cons_zero])
    refine any_take (i := 1) (.pointer (some ⟨w.heap.size + 1, 0, none⟩)) rfl rfl (by kernel_rfl) (by kernel_rfl) (by kernel_rfl) (by kernel_rfl) (fun _ _ d _ _ h => by cases d <;> exact h) (fun u hS => by obtain ⟨k4, k5, _⟩ := hS; first | rfl | (unfold execOp; go_simp)) hS0 ?_
    (try simp only [Act.put]); (try simp only [List.getElem_toArray]); (try simp only [List.getElem_cons_succ]); (try simp only [List.getElem_cons_zero]); (try simp only [List.setIfInBounds_toArray]); (try simp only [List.set_cons_succ]); (try simp only [List.set_cons_zero])
    refine any_take (i := 2) (.pointer (some ⟨w.heap.size + 1, 0, none⟩)) rfl rfl (by kernel_rfl) (by kernel_rfl) (by kernel_rfl) (by kernel_rfl) (fun _ _ d _ _ h => by cases d <;> exact h) (fun u hS => by obtain ⟨k4, k5, _⟩ := hS; first | rfl | (unfold execOp; go_simp)) hS0 ?_
    (try simp only [Act.put]); (try simp only [List.getElem_toArray]); (try simp only [List.getElem_cons_succ]); (try simp only [List.getElem_cons_zero]); (try simp only [List.setIfInBounds_toArray]); (try simp only [List.set_cons_succ]); (try simp only [List.set_cons_zero])
    refine any_take (i := 3) (.pointer (some ⟨w.heap.size + 1, 5, none⟩)) rfl rfl (by kernel_rfl) (by kernel_rfl) (by kernel_rfl) (by kernel_rfl) (fun _ _ d _ _ h => by cases d <;> exact h) (fun u hS => by obtain ⟨k4, k5, _⟩ := hS; first | rfl | (unfold execOp; go_simp)) hS0 ?_
    (try simp only [Act.put]); (try simp only [List.getElem_toArray]); (try simp only [List.getElem_cons_succ]); (try simp only [List.getElem_cons_zero]); (try simp only [List.setIfInBounds_toArray]); (try simp only [List.set_cons_succ]); (try simp only [List.set_cons_zero])
    refine any_take (i := 4) (.int .i64 (R.2.eat : Int)) rfl rfl (by kernel_rfl) (by kernel_rfl) (by kernel_rfl) (by kernel_rfl) (fun _ _ d _ _ h => by cases d <;> exact h) (fun u hS => by obtain ⟨k4, k5, _⟩ := hS; first | rfl | (unfold execOp; go_simp)) hS0 ?_
    (try simp only [Act.put]); (try simp only [List.getElem_toArray]); (try simp only [List.getElem_cons_succ]); (try simp only [List.getElem_cons_zero]); (try simp only [List.setIfInBounds_toArray]); (try simp only [List.set_cons_succ]); (try simp only [List.set_cons_zero])
    refine any_take (i := 5) (.pointer (some ⟨w.heap.size + 1, 0, none⟩)) rfl rfl (by kernel_rfl) (by kernel_rfl) (by kernel_rfl) (by kernel_rfl) (fun _ _ d _ _ h => by cases d <;> exact h) (fun u hS => by obtain ⟨k4, k5, _⟩ := hS; first | rfl | (unfold execOp; go_simp)) hS0 ?_
    (try simp only [Act.put]); (try simp only [List.getElem_toArray]); (try simp only [List.getElem_cons_succ]); (try simp only [List.getElem_cons_zero]); (try simp only [List.setIfInBounds_toArray]); (try simp only [List.set_cons_succ]); (try simp only [List.set_cons_zero])
    refine any_take (i := 6) (.pointer (some ⟨w.heap.size + 1, 0, none⟩)) rfl rfl (by kernel_rfl) (by kernel_rfl) (by kernel_rfl) (by kernel_rfl) (fun _ _ d _ _ h => by cases d <;> exact h) (fun u hS => by obtain ⟨k4, k5, _⟩ := hS; first | rfl | (unfold execOp; go_simp)) hS0 ?_
    (try simp only [Act.put]); (try simp only [List.getElem_toArray]); (try simp only [List.getElem_cons_succ]); (try simp only [List.getElem_cons_zero]); (try simp only [List.setIfInBounds_toArray]); (try simp only [List.set_cons_succ]); (try simp only [List.set_cons_zero])
    refine any_take (i := 7) (.pointer (some ⟨w.heap.size + 1, 4, none⟩)) rfl rfl (by kernel_rfl) (by kernel_rfl) (by kernel_rfl) (by kernel_rfl) (fun _ _ d _ _ h => by cases d <;> exact h) (fun u hS => by obtain ⟨k4, k5, _⟩ := hS; first | rfl | (unfold execOp; go_simp)) hS0 ?_
    (try simp only [Act.put]); (try simp only [List.getElem_toArray]); (try simp only [List.getElem_cons_succ]); (try simp only [List.getElem_cons_zero]); (try simp only [List.setIfInBounds_toArray]); (try simp only [List.set_cons_succ]); (try simp only [List.set_cons_zero])
    refine any_take (i := 8) (.int .i64 (R.2.e : Int)) rfl rfl (by kernel_rfl) (by kernel_rfl) (by kernel_rfl) (by kernel_rfl) (fun _ _ d _ _ h => by cases d <;> exact h) (fun u hS => by obtain ⟨k4, k5, _⟩ := hS; first | rfl | (unfold execOp; go_simp)) hS0 ?_
    (try simp only [Act.put]); (try simp only [List.getElem_toArray]); (try simp only [List.getElem_cons_succ]); (try simp only [List.getElem_cons_zero]); (try simp only [List.setIfInBounds_toArray]); (try simp only [List.set_cons_succ]); (try simp only [List.set_cons_zero])
    obtain ⟨k4, k5, v0, v1, v2, v3, hRS⟩ := hS0
    obtain ⟨r0, r1, r2, r3, g0, g1, g2, g3⟩ := cells4 hRS
    refine any_branch [9] (by kernel_rfl) rfl fun ix hix => ?_
    simp only [List.mem_cons, List.not_mem_nil, or_false] at hix
    subst hix
    refine any_op rfl rfl fun K hK => ?_
    go_simp
    have hS1 : (fun u => u.cell? ⟨w.heap.size + 1, 4, none⟩ = some (.int .i64 (R.2.e : Int)) ∧ u.cell? ⟨w.heap.size + 1, 5, none⟩ = some (.int .i64 (R.2.eat : Int)) ∧ ∃ v0 v1 v2 v3, Blk u w.heap.size 36 #[v0, v1, v2, v3]) ((((u0.setCell ⟨w.heap.size, 0, none⟩ (.int .i64 0)).setCell ⟨w.heap.size, 1, none⟩ (.int .i64 0)).setCell ⟨w.heap.size, 2, none⟩ (.int .i64 0)).setCell ⟨w.heap.size, 3, none⟩ (.slice none 0 0)) := ⟨by rw [set_far (.inl (by omega)), set_far (.inl (by omega)), set_far (.inl (by omega)), set_far (.inl (by omega))]; exact k4, by rw [set_far (.inl (by omega)), set_far (.inl (by omega)), set_far (.inl (by omega)), set_far (.inl (by omega))]; exact k5, _, _, _, _, hRS.own4 (.int .i64 0) (.int .i64 0) (.int .i64 0) (.slice none 0 0)⟩
    refine hK _ _ (fun _ => hS1) ?_
    (try simp only [Act.put]); (try simp only [List.getElem_toArray]); (try simp only [List.getElem_cons_succ]); (try simp only [List.getElem_cons_zero]); (try simp only [List.setIfInBounds_toArray]); (try simp only [List.set_cons_succ]); (try simp only [List.set_cons_zero])
    clear hK
    refine any_branch [10] (by kernel_rfl) rfl fun ix hix => ?_
    simp only [List.mem_cons, List.not_mem_nil, or_false] at hix
    subst hix
    refine any_op rfl rfl fun K hK => ?_
    go_simp
    refine hK _ _ (fun _ => hS1) ?_
    (try simp only [Act.put]); (try simp only [List.getElem_toArray]); (try simp only [List.getElem_cons_succ]); (try simp only [List.getElem_cons_zero]); (try simp only [List.setIfInBounds_toArray]); (try simp only [List.set_cons_succ]); (try simp only [List.set_cons_zero])
    clear hK
    refine any_branch [11] (by kernel_rfl) rfl fun ix hix => ?_
    simp only [List.mem_cons, List.not_mem_nil, or_false] at hix
    subst hix
    refine any_op rfl rfl fun K hK => ?_
    go_simp
    refine hK _ _ (fun _ => hS1) ?_
    (try simp only [Act.put]); (try simp only [List.getElem_toArray]); (try simp only [List.getElem_cons_succ]); (try simp only [List.getElem_cons_zero]); (try simp only [List.setIfInBounds_toArray]); (try simp only [List.set_cons_succ]); (try simp only [List.set_cons_zero])
    clear hK
    refine any_end (by kernel_rfl) ?_
    go_wp2_with fail
    have hf := (hR4.own4 (.int .i64 0) (.int .i64 0) (.int .i64 0) (.slice none 0 0))
    clear r0 r1 r2 r3 g0 g1 g2 g3
    obtain ⟨r0, r1, r2, r3, _, _, _, _⟩ := cells4 hf
    refine bodyPost_ret (v := Pv Tr.zero (.slice none 0 0) R.2.eat R.2.e) (by simp [results, Try.results13, go_sem, r0, r1, r2, r3]; rfl) rfl ?_
    rw [HE2.out]
    exact ⟨_, rfl, SlF.nil _ _, (((hB4.setCell (p := ⟨w.heap.size, 0, none⟩) (Nat.le_refl _) _).setCell (p := ⟨w.heap.size, 1, none⟩) (Nat.le_refl _) _).setCell (p := ⟨w.heap.size, 2, none⟩) (Nat.le_refl _) _).setCell (p := ⟨w.heap.size, 3, none⟩) (Nat.le_refl _) _⟩
theorem parse_any (s : ByteArray) (w : World) : Calls Try.prog 13 #[.string s] w (Parsed w (Ex.parse (bl s))) := by
  by_cases h : s.size ≤ 4000
  · exact parse_short s w h
  · exact parse_long s w (by omega)
end Go.Proofs.Ytfgokhafiffbaaa

/-
  Formulas, plain: what the parser hands back: a formula, or the first error and its place.
-/
namespace Go.Proofs.Ytfgokhafiffbaaa
set_option linter.unusedVariables false
open Go.RowKit

/-- all places are within the text -/
structure Pos (L : Nat) (st : St) : Prop where
  eat : st.eat ≤ L
  ts : ∀ x ∈ st.ts, x.2 ≤ L
theorem Pos.at_ {L : Nat} {st : St} (h : Pos L st) : st.at_ ≤ L := by
  unfold St.at_
  cases e : st.ts with
  | nil => exact Nat.zero_le _
  | cons x r => exact h.ts x (by rw [e]; exact List.mem_cons_self)
theorem Pos.goes {L : Nat} {st : St} (h : Pos L st) : Pos L st.goes := ⟨h.eat, fun x hx => h.ts x (List.mem_of_mem_tail hx)⟩
theorem Pos.bad {L : Nat} {st : St} (h : Pos L st) (e : Nat) : Pos L (st.bad e) := by
  unfold St.bad
  split
  · exact ⟨h.at_, h.ts⟩
  · exact h
theorem Pos.must {L : Nat} {st : St} (h : Pos L st) (t : Tok) : Pos L (st.must t) := by
  unfold St.must
  split
  · exact h.goes
  · exact h.bad _
theorem may_no {st : St} (h : st.e ≠ 0) (t : Tok) : st.may t = false := by unfold St.may; rw [decide_eq_false h]; rfl
theorem bad_keep {st : St} (h : st.e ≠ 0) (e : Nat) : st.bad e = st := by unfold St.bad; rw [if_neg h]
theorem must_keep {st : St} (h : st.e ≠ 0) (t : Tok) : st.must t = st := by unfold St.must; rw [may_no h, if_neg (by simp), bad_keep h]
theorem may_yes {st : St} {t : Tok} (h : st.may t = true) : st.e = 0 ∧ st.now = t := by
  unfold St.may at h
  rw [Bool.and_eq_true] at h
  exact ⟨of_decide_eq_true h.1, of_decide_eq_true h.2⟩
theorem now_len {st : St} (h : st.now ≠ .eof) : st.goes.ts.length + 1 = st.ts.length := by
  unfold St.now at h
  unfold St.goes
  cases e : st.ts with
  | nil => rw [e] at h; exact absurd rfl h
  | cons x r => simp
theorem must_e {st : St} {t : Tok} (h : (st.must t).e = 0) : st.e = 0 := by
  rcases Nat.eq_zero_or_pos st.e with h0 | h0
  · exact h0
  · rw [must_keep (by omega)] at h; exact h
/-- what a reader is good for -/
structure Gd (p : St → Tr × St) : Prop where
  keep : ∀ st, st.e ≠ 0 → (p st).2.e = st.e
  pos : ∀ L st, Pos L st → Pos L (p st).2
  good : ∀ st, (p st).2.e = 0 → ((p st).1.on .nil).allPlain = true ∧ ((p st).1.on .nil).nodes + (p st).2.ts.length ≤ st.ts.length
def GdO (r : Option (St → Tr × St)) : Prop := match r with | none => True | some p => Gd p
theorem GdO.within {r : Option (St → Tr × St)} (h : GdO r) : Gd (Ex.within r) := by
  cases r with
  | none =>
    refine ⟨fun st he => by unfold Ex.within; rw [bad_keep he], fun L st hp => hp.bad _, fun st he => ?_⟩
    exact absurd he (bad_ne 231 (by omega) st)
  | some p =>
    have h : Gd p := h
    refine ⟨fun st he => ?_, fun L st hp => ?_, fun st he => ?_⟩
    · unfold Ex.within; simp only [if_neg he]
    · unfold Ex.within; simp only []; split
      · exact h.pos L st hp
      · exact hp
    · unfold Ex.within at he ⊢
      simp only [] at he ⊢
      by_cases h0 : st.e = 0
      · rw [if_pos h0] at he ⊢; exact h.good st he
      · rw [if_neg h0] at he; exact absurd he h0
theorem plain_two {k : Int} {a : Nat} {x y : Tr} (hk : 4 ≤ k ∧ k ≤ 8) (hx : (x.on .nil).allPlain = true) (hy : (y.on .nil).allPlain = true) : ((Ex.two k a x y).on .nil).allPlain = true := by
  rw [Fo.allPlain_on] at hx hy ⊢
  unfold Ex.two
  simp only [Fo.allPlain_on] at hx hy ⊢
  have e : Ex.plain ⟨k, a, 0, x.on (y.on .nil)⟩ = true := by
    unfold Ex.plain
    rw [show (x.on (y.on Fo.nil)).len = 2 from rfl, Ex.kids2 hk]
    have ht : Ex.top k = 0 := by unfold Ex.top; rw [if_neg (by omega), if_neg (by omega)]
    rw [ht]
    simp; omega
  rw [e]
  rw [Bool.and_eq_true, Bool.and_eq_true] at hx hy
  rw [hx.1.1, hx.1.2, hy.1.1, hy.1.2]
  rfl
theorem plain_one {k : Int} {a : Nat} {v : Int} {x : Tr} (hk : k = 3 ∨ k = 10 ∨ k = 11) (hv : 0 ≤ v) (hv2 : v ≤ Ex.top k) (hx : (x.on .nil).allPlain = true) : ((Ex.one k a v x).on .nil).allPlain = true := by
  rw [Fo.allPlain_on] at hx ⊢
  unfold Ex.one
  simp only [Fo.allPlain_on] at hx ⊢
  have e : Ex.plain ⟨k, a, v, x.on .nil⟩ = true := by
    unfold Ex.plain
    rw [show (x.on Fo.nil).len = 1 from rfl, Ex.kids1 hk]
    simp; omega
  rw [e, hx]
  rfl
theorem nodes_two (k : Int) (a : Nat) (x y : Tr) : ((Ex.two k a x y).on .nil).nodes = 1 + (x.on .nil).nodes + (y.on .nil).nodes := by
  unfold Ex.two
  simp only [Fo.nodes_on, show Fo.nil.nodes = 0 from rfl]
  omega
theorem nodes_one (k : Int) (a : Nat) (v : Int) (x : Tr) : ((Ex.one k a v x).on .nil).nodes = 1 + (x.on .nil).nodes := by
  unfold Ex.one
  simp only [Fo.nodes_on, show Fo.nil.nodes = 0 from rfl]
  omega
theorem Gd.chainF {t : Tok} {k : Int} {p : St → Tr × St} (h : Gd p) (ht : t ≠ .eof) (hk : 4 ≤ k ∧ k ≤ 8) : ∀ (n : Nat) (x : Tr) (st : St),
    (st.e ≠ 0 → (Ex.chainF n t k p x st).2.e = st.e) ∧ (∀ L, Pos L st → Pos L (Ex.chainF n t k p x st).2) ∧
    ((Ex.chainF n t k p x st).2.e = 0 → (x.on .nil).allPlain = true → ((Ex.chainF n t k p x st).1.on .nil).allPlain = true ∧ ((Ex.chainF n t k p x st).1.on .nil).nodes + (Ex.chainF n t k p x st).2.ts.length ≤ (x.on .nil).nodes + st.ts.length) := by
  intro n
  induction n with
  | zero => exact fun x st => ⟨fun _ => rfl, fun L hp => hp, fun _ hx => ⟨hx, Nat.le_refl _⟩⟩
  | succ n ih =>
    intro x st
    cases hm : st.may t with
    | false =>
      rw [Ex.chainF_no hm]
      exact ⟨fun _ => rfl, fun L hp => hp, fun _ hx => ⟨hx, Nat.le_refl _⟩⟩
    | true =>
      have hg := St.goes_len hm ht
      rw [Ex.chainF, if_pos hm]
      obtain ⟨i1, i2, i3⟩ := ih (Ex.two k st.at_ x (p st.goes).1) (p st.goes).2
      refine ⟨fun he => absurd (may_yes hm).1 he, fun L hp => i2 L (h.pos L _ hp.goes), fun he hx => ?_⟩
      have he2 : (p st.goes).2.e = 0 := by
        rcases Nat.eq_zero_or_pos (p st.goes).2.e with h0 | h0
        · exact h0
        · rw [i1 (by omega)] at he; exact he
      obtain ⟨g1, g2⟩ := h.good _ he2
      obtain ⟨j1, j2⟩ := i3 he (plain_two hk hx g1)
      refine ⟨j1, ?_⟩
      rw [nodes_two] at j2
      omega
theorem Gd.chain {t : Tok} {k : Int} {p : St → Tr × St} (h : Gd p) (ht : t ≠ .eof) (hk : 4 ≤ k ∧ k ≤ 8) : Gd (Ex.chain t k p) := by
  refine ⟨fun st he => ?_, fun L st hp => ?_, fun st he => ?_⟩
  · unfold Ex.chain
    have := h.keep st he
    rw [(Gd.chainF h ht hk _ _ _).1 (by rw [this]; exact he), this]
  · exact (Gd.chainF h ht hk _ _ _).2.1 L (h.pos L st hp)
  · unfold Ex.chain at he ⊢
    obtain ⟨i1, i2, i3⟩ := Gd.chainF h ht hk (p st).2.ts.length (p st).1 (p st).2
    have he2 : (p st).2.e = 0 := by
      rcases Nat.eq_zero_or_pos (p st).2.e with h0 | h0
      · exact h0
      · rw [i1 (by omega)] at he; exact he
    obtain ⟨g1, g2⟩ := h.good _ he2
    obtain ⟨j1, j2⟩ := i3 he g1
    exact ⟨j1, by omega⟩
theorem Gd.imp {r : Option (St → Tr × St)} {p : St → Tr × St} (hr : GdO r) (h : Gd p) : Gd (Ex.imp r p) := by
  have hw := hr.within
  refine ⟨fun st he => ?_, fun L st hp => ?_, fun st he => ?_⟩
  · unfold Ex.imp
    have := h.keep st he
    rw [may_no (by rw [this]; exact he), if_neg (by simp), this]
  · unfold Ex.imp
    split
    · exact hw.pos L _ (h.pos L st hp).goes
    · exact h.pos L st hp
  · unfold Ex.imp at he ⊢
    cases hm : (p st).2.may .imp with
    | false =>
      rw [hm, if_neg (by simp)] at he
      rw [if_neg (by simp)]
      exact h.good st he
    | true =>
      rw [hm, if_pos rfl] at he
      rw [if_pos rfl]
      obtain ⟨g1, g2⟩ := h.good st (may_yes hm).1
      obtain ⟨j1, j2⟩ := hw.good _ he
      have hg := St.goes_len hm (by decide)
      refine ⟨plain_two (by omega) g1 j1, ?_⟩
      rw [nodes_two]
      simp only []
      omega
theorem Gd.bound {r : Option (St → Tr × St)} (hr : GdO r) (k : Int) (hk : k = 10 ∨ k = 11) (a : Nat) (st : St) (hs : st.e = 0) : (∀ L, Pos L st → Pos L (Ex.bound r k a st).2) ∧
    ((Ex.bound r k a st).2.e = 0 → ((Ex.bound r k a st).1.on .nil).allPlain = true ∧ ((Ex.bound r k a st).1.on .nil).nodes + (Ex.bound r k a st).2.ts.length ≤ st.ts.length) := by
  have hw := hr.within
  unfold Ex.bound
  split
  · rename_i n hn
    have hl := now_len (st := st) (by rw [hn]; simp)
    refine ⟨fun L hp => hw.pos L _ hp.goes, fun he => ?_⟩
    obtain ⟨j1, j2⟩ := hw.good _ he
    refine ⟨plain_one (by omega) (by omega) ?_ j1, ?_⟩
    · have := n.isLt
      have ht : Ex.top k = 7 := by unfold Ex.top; rw [if_pos (by omega)]
      omega
    · rw [nodes_one]
      simp only []
      omega
  · exact ⟨fun L hp => hp.bad _, fun he => absurd he (bad_ne 230 (by omega) st)⟩
theorem Gd.ite {r : Option (St → Tr × St)} (hr : GdO r) (a : Nat) : (∀ st, st.e ≠ 0 → (Ex.ite r a st).2.e = st.e) ∧ (∀ L st, Pos L st → Pos L (Ex.ite r a st).2) ∧
    (∀ st, (Ex.ite r a st).2.e = 0 → ((Ex.ite r a st).1.on .nil).allPlain = true ∧ ((Ex.ite r a st).1.on .nil).nodes + (Ex.ite r a st).2.ts.length ≤ st.ts.length + 1) := by
  have hw := hr.within
  refine ⟨fun st he => ?_, fun L st hp => ?_, fun st he => ?_⟩
  · unfold Ex.ite
    simp only []
    have k : ∀ t (st : St), st.e ≠ 0 → (Ex.within r (st.must t)).2.e = st.e := fun t st h => by rw [must_keep h]; exact hw.keep st h
    have e1 := k .lp st he
    have e2 := k .comma (Ex.within r (st.must .lp)).2 (by rw [e1]; exact he)
    have e3 := k .comma (Ex.within r ((Ex.within r (st.must .lp)).2.must .comma)).2 (by rw [e2, e1]; exact he)
    rw [must_keep (by rw [e3, e2, e1]; exact he), e3, e2, e1]
  · unfold Ex.ite
    simp only []
    exact (hw.pos L _ ((hw.pos L _ ((hw.pos L _ (hp.must _)).must _)).must _)).must _
  · unfold Ex.ite at he ⊢
    simp only [] at he ⊢
    have e3 := must_e he
    obtain ⟨a3, b3⟩ := hw.good _ e3
    have e2 : (Ex.within r ((Ex.within r (st.must .lp)).2.must .comma)).2.e = 0 := by
      rcases Nat.eq_zero_or_pos (Ex.within r ((Ex.within r (st.must .lp)).2.must .comma)).2.e with h0 | h0
      · exact h0
      · have := hw.keep ((Ex.within r ((Ex.within r (st.must .lp)).2.must .comma)).2.must .comma) (by rw [must_keep (by omega)]; omega)
        rw [this, must_keep (by omega)] at e3; exact e3
    obtain ⟨a2, b2⟩ := hw.good _ e2
    have e1 : (Ex.within r (st.must .lp)).2.e = 0 := by
      rcases Nat.eq_zero_or_pos (Ex.within r (st.must .lp)).2.e with h0 | h0
      · exact h0
      · have := hw.keep ((Ex.within r (st.must .lp)).2.must .comma) (by rw [must_keep (by omega)]; omega)
        rw [this, must_keep (by omega)] at e2; exact e2
    obtain ⟨a1, b1⟩ := hw.good _ e1
    have l0 := must_le .lp st
    have l1 := must_le .comma (Ex.within r (st.must .lp)).2
    have l2 := must_le .comma (Ex.within r ((Ex.within r (st.must .lp)).2.must .comma)).2
    have l3 := must_le .rp (Ex.within r ((Ex.within r ((Ex.within r (st.must .lp)).2.must .comma)).2.must .comma)).2
    generalize Ex.within r (st.must .lp) = r1 at *
    generalize Ex.within r (r1.2.must .comma) = r2 at *
    generalize Ex.within r (r2.2.must .comma) = r3 at *
    constructor
    · rw [Fo.allPlain_on] at a1 a2 a3 ⊢
      simp only [Fo.allPlain_on] at a1 a2 a3 ⊢
      have e : Ex.plain ⟨9, a, 0, r1.1.on (r2.1.on (r3.1.on .nil))⟩ = true := by
        unfold Ex.plain
        rw [show (r1.1.on (r2.1.on (r3.1.on Fo.nil))).len = 3 from rfl, Ex.kids3 rfl]
        simp only []
        unfold Ex.top
        simp
      rw [e]
      rw [Bool.and_eq_true, Bool.and_eq_true] at a1 a2 a3
      rw [a1.1.1, a1.1.2, a2.1.1, a2.1.2, a3.1.1, a3.1.2]
      rfl
    · simp only [Fo.nodes_on, show Fo.nil.nodes = 0 from rfl] at b1 b2 b3 ⊢
      omega
theorem plain_leaf {k a v : Int} (h : (k = 1 ∧ 0 ≤ v ∧ v ≤ 7) ∨ (k = 2 ∧ 0 ≤ v ∧ v ≤ 1)) : ((⟨k, a, v, .nil⟩ : Tr).on .nil).allPlain = true := by
  rw [Fo.allPlain_on]
  have e : Ex.plain ⟨k, a, v, .nil⟩ = true := by
    unfold Ex.plain
    simp only []
    rw [show (Fo.nil).len = 0 from rfl, Ex.kids0 (by omega)]
    unfold Ex.top
    rcases h with ⟨rfl, h⟩ | ⟨rfl, h⟩
    · simp; omega
    · simp; omega
  rw [e]
  rfl
theorem Gd.prim {r : Option (St → Tr × St)} (hr : GdO r) (st : St) (hs : st.e = 0) : (∀ L, Pos L st → Pos L (Ex.prim r st).2) ∧
    ((Ex.prim r st).2.e = 0 → ((Ex.prim r st).1.on .nil).allPlain = true ∧ ((Ex.prim r st).1.on .nil).nodes + (Ex.prim r st).2.ts.length ≤ st.ts.length) := by
  have hw := hr.within
  have hnil : ∀ (k a v : Int), ((⟨k, a, v, .nil⟩ : Tr).on .nil).nodes = 1 := fun _ _ _ => rfl
  unfold Ex.prim
  split
  · rename_i n hn
    have hl := now_len (st := st) (by rw [hn]; simp)
    exact ⟨fun L hp => hp.goes, fun _ => ⟨plain_leaf (.inl ⟨rfl, by have := n.isLt; omega, by have := n.isLt; omega⟩), by rw [hnil]; simp only []; omega⟩⟩
  · rename_i hn
    have hl := now_len (st := st) (by rw [hn]; simp)
    exact ⟨fun L hp => hp.goes, fun _ => ⟨plain_leaf (.inr ⟨rfl, by omega, by omega⟩), by rw [hnil]; simp only []; omega⟩⟩
  · rename_i hn
    have hl := now_len (st := st) (by rw [hn]; simp)
    exact ⟨fun L hp => hp.goes, fun _ => ⟨plain_leaf (.inr ⟨rfl, by omega, by omega⟩), by rw [hnil]; simp only []; omega⟩⟩
  · split
    · rename_i hm
      have hg := St.goes_len hm (by decide)
      refine ⟨fun L hp => (hw.pos L _ hp.goes).must _, fun he => ?_⟩
      simp only [] at he ⊢
      obtain ⟨j1, j2⟩ := hw.good _ (must_e he)
      have := must_le .rp (Ex.within r st.goes).2
      exact ⟨j1, by omega⟩
    · split
      · rename_i hm
        have hg := St.goes_len hm (by decide)
        refine ⟨fun L hp => (Gd.ite hr _).2.1 L _ hp.goes, fun he => ?_⟩
        obtain ⟨j1, j2⟩ := (Gd.ite hr _).2.2 _ he
        exact ⟨j1, by omega⟩
      · exact ⟨fun L hp => hp.bad _, fun he => absurd he (bad_ne 230 (by omega) st)⟩
theorem Gd.un {ru rf : Option (St → Tr × St)} (hu : GdO ru) (hf : GdO rf) : Gd (Ex.un ru rf) := by
  have hw := hu.within
  refine ⟨fun st he => by unfold Ex.un; rw [if_pos he], fun L st hp => ?_, fun st he => ?_⟩
  · unfold Ex.un
    by_cases h0 : st.e = 0
    · rw [if_neg (by simpa using h0)]
      split
      · exact hw.pos L _ hp.goes
      · split
        · exact (Gd.bound hu 10 (by omega) _ _ (show st.goes.e = 0 from h0)).1 L hp.goes
        · split
          · exact (Gd.bound hu 11 (by omega) _ _ (show st.goes.e = 0 from h0)).1 L hp.goes
          · exact (Gd.prim hf st h0).1 L hp
    · rw [if_pos h0]; exact hp
  · unfold Ex.un at he ⊢
    by_cases h0 : st.e = 0
    · rw [if_neg (by simpa using h0)] at he ⊢
      cases m0 : st.may .not with
      | true =>
        have hg := St.goes_len m0 (by decide)
        rw [m0, if_pos rfl] at he
        rw [if_pos rfl]
        simp only [] at he ⊢
        obtain ⟨j1, j2⟩ := hw.good _ he
        refine ⟨plain_one (by omega) (by omega) (by unfold Ex.top; simp) j1, ?_⟩
        rw [nodes_one]
        omega
      | false =>
        rw [m0, if_neg (by simp)] at he
        rw [if_neg (by simp)]
        cases m1 : st.may .all with
        | true =>
          have hg := St.goes_len m1 (by decide)
          rw [m1, if_pos rfl] at he
          rw [if_pos rfl]
          obtain ⟨j1, j2⟩ := (Gd.bound hu 10 (by omega) _ _ (show st.goes.e = 0 from h0)).2 he
          exact ⟨j1, by omega⟩
        | false =>
          rw [m1, if_neg (by simp)] at he
          rw [if_neg (by simp)]
          cases m2 : st.may .any with
          | true =>
            have hg := St.goes_len m2 (by decide)
            rw [m2, if_pos rfl] at he
            rw [if_pos rfl]
            obtain ⟨j1, j2⟩ := (Gd.bound hu 11 (by omega) _ _ (show st.goes.e = 0 from h0)).2 he
            exact ⟨j1, by omega⟩
          | false =>
            rw [m2, if_neg (by simp)] at he
            rw [if_neg (by simp)]
            exact (Gd.prim hf st h0).2 he
    · rw [if_pos h0] at he
      exact absurd he h0
structure GdR (r : Rd) : Prop where
  iff : Gd r.iff
  imp : Gd r.imp
  un : Gd r.un
theorem GdR.mk' (ru ri rf : Option (St → Tr × St)) (hu : GdO ru) (hi : GdO ri) (hf : GdO rf) : GdR (Ex.mk ru ri rf) := by
  have h1 := Gd.un hu hf
  have h2 := Gd.imp hi (((h1.chain (t := .and) (k := 4) (by decide) (by omega)).chain (t := .xor) (k := 6) (by decide) (by omega)).chain (t := .or) (k := 5) (by decide) (by omega))
  exact ⟨h2.chain (by decide) (by omega), h2, h1⟩
theorem GdR.all : ∀ n, GdR (Ex.lev n)
  | 0 => GdR.mk' none none none True.intro True.intro True.intro
  | n + 1 => GdR.mk' _ _ _ (GdR.all n).un (GdR.all n).imp (GdR.all n).iff
theorem Lx.lexF_pos (n : Nat) : ∀ (l : List Nat) (a : Nat), (∀ x ∈ l, x < 256) → (∀ x ∈ Lx.lexF n l a, x.2 ≤ a + l.length) ∧ (Lx.lexF n l a).length ≤ l.length + 1 := by
  induction n with
  | zero => intro l a _; rw [Lx.lexF]; simp
  | succ n ih =>
    intro l a hl
    rw [Lx.lexF]
    have hs := Lx.skip_le l
    split
    · simp
      omega
    · rename_i hb
      have hll : ∀ x ∈ (l.drop (Lx.skip l)).drop (Lx.scan (l.drop (Lx.skip l))).txt.length, x < 256 := fun x hx => hl x (List.mem_of_mem_drop (List.mem_of_mem_drop hx))
      obtain ⟨i1, i2⟩ := ih ((l.drop (Lx.skip l)).drop (Lx.scan (l.drop (Lx.skip l))).txt.length) (a + Lx.skip l + (Lx.scan (l.drop (Lx.skip l))).txt.length) hll
      have hp := Tok.txt_len (Lx.scan (l.drop (Lx.skip l))) (fun e => hb (.inl e))
      have hsl := Lx.scan_len (l.drop (Lx.skip l)) (fun x hx => hl x (List.mem_of_mem_drop hx))
      rw [List.length_drop, List.length_drop] at i1 i2
      rw [List.length_drop] at hsl
      constructor
      · intro x hx
        rcases List.mem_cons.1 hx with rfl | hx
        · simp only []; omega
        · have := i1 x hx; omega
      · rw [List.length_cons]; omega
theorem Lx.lex_pos (l : List Nat) (hl : ∀ x ∈ l, x < 256) : (∀ x ∈ Lx.lex l 0, x.2 ≤ l.length) ∧ (Lx.lex l 0).length ≤ l.length + 1 := by
  unfold Lx.lex
  have := Lx.lexF_pos (l.length + 1) l 0 hl
  rw [Nat.zero_add] at this
  exact this
/-- what Parse tells: a formula; or an error, its place within the text -/
theorem Ex.parse_good (l : List Nat) (hl : ∀ x ∈ l, x < 256) (h : l.length ≤ 3999) :
    ((Ex.parse l).2.2 = 0 → (Ex.parse l).2.1 = 0 ∧ Ex.is (Ex.parse l).1 = true) ∧ ((Ex.parse l).2.2 ≠ 0 → (Ex.parse l).1 = Tr.zero ∧ (Ex.parse l).2.1 ≤ l.length) := by
  have hg := (GdR.all 30).iff
  obtain ⟨p1, p2⟩ := Lx.lex_pos l hl
  obtain ⟨E1, E2, E3⟩ := Ex.parse_eq l (by omega)
  have hP : Pos l.length (⟨Lx.lex l 0, 0, 0⟩ : St) := ⟨Nat.zero_le _, p1⟩
  have hP2 := hg.pos _ _ hP
  have hgood := hg.good ⟨Lx.lex l 0, 0, 0⟩
  generalize (Ex.lev 30).iff ⟨Lx.lex l 0, 0, 0⟩ = R at *
  by_cases h0 : R.2.e = 0
  · by_cases hn : R.2.now = .eof
    · rw [E1 h0 hn]
      refine ⟨fun _ => ⟨rfl, ?_⟩, fun h => absurd rfl h⟩
      obtain ⟨g1, g2⟩ := hgood h0
      have g3 : (R.1.on .nil).nodes ≤ 4000 := by simp only [] at g2; omega
      show (decide ((R.1.on .nil).nodes ≤ 4000) && (R.1.on .nil).allPlain) = true
      rw [g1, decide_eq_true g3]
      rfl
    · rw [E2 h0 hn]
      exact ⟨fun h => absurd h (bad_ne 230 (by omega) R.2), fun _ => ⟨rfl, (hP2.bad 230).eat⟩⟩
  · rw [E3 h0]
    exact ⟨fun h => absurd h h0, fun _ => ⟨rfl, hP2.eat⟩⟩
end Go.Proofs.Ytfgokhafiffbaaa

/-
  Formulas: digit; a variable's print.
-/
namespace Go.Proofs.Ytfgokhafiffbaaa
set_option linter.unusedVariables false
open Go.RowKit Go.Lib

/-- a slice of bytes in a block of one's own, or none yet -/
def OwnB (w : World) (base : Nat) (v : Value) (l : List UInt8) : Prop := w.ownsRow base 5 1 v l.length (l.map fun b => .int .u8 (b.toNat : Int))
theorem OwnB.nil (w : World) (base : Nat) : OwnB w base (.slice none 0 0) [] := World.ownsRow_nil w base _ 1
theorem OwnB.kept {w w' : World} {base : Nat} {v : Value} {l : List UInt8} {row : Option Nat} (h : OwnB w base v l) (hg : w.grownBy w' row) (hne : v.ownBlock = none ∨ v.ownBlock ≠ row) : OwnB w' base v l := World.ownsRow.kept h hg hne
theorem OwnB.below {w w' : World} {base : Nat} {v : Value} {l : List UInt8} (h : OwnB w base v l) (hb : Below w.heap.size w w') : OwnB w' base v l :=
  h.kept (below_gr hb) (by cases e : v.ownBlock <;> simp)
theorem OwnB.lt {w : World} {base : Nat} {v : Value} {l : List UInt8} (h : OwnB w base v l) {k : Nat} (hk : v.ownBlock = some k) : base ≤ k ∧ k < w.heap.size := World.ownsRow.lt h k hk
theorem u8_info : ∃ i, Try.prog.info? 5 = some i ∧ i.zero = some (.int .u8 0) ∧ i.size = 1 ∧ i.bytes = 1 := by
  refine ⟨_, rfl, ?_⟩
  exact ⟨by kernel_rfl, by kernel_rfl, by kernel_rfl⟩
theorem strCells_of (s : ByteArray) : strCells s = s.data.toList.map fun b => (.int .u8 (b.toNat : Int) : Value) := by
  unfold strCells
  simp
/-- a string appended -/
theorem OwnB.app_str {w : World} {base : Nat} {v : Value} {l : List UInt8} (h : OwnB w base v l) (s : ByteArray) (hn : l.length + s.size ≤ 1000000) (hb : base ≤ w.heap.size) (ty : TypeId) :
    ∃ v' w', (Builtin.append_ #[22, 9] ty #[v, .string s]).run Try.prog w = .ok v' w' ∧ OwnB w' base v' (l ++ s.data.toList) ∧ w.grownBy w' v.ownBlock := by
  obtain ⟨i, hi, hz, hs, hby⟩ := u8_info
  obtain ⟨v', w', hr, ho, hg, _⟩ := run_append_own_string (P := Try.prog) w base 22 9 ty 5 i Try.underlying22 Try.underlying9 hi hz hs hby v l.length _ h s (by unfold maxLen; omega) (by omega) hb
  refine ⟨v', w', hr, ?_, hg⟩
  unfold OwnB
  rw [List.length_append, List.map_append, ← strCells_of, show s.data.toList.length = s.size from by simp]
  exact ho
/-- one byte appended, that lies in a block -/
theorem OwnB.app_one {w : World} {base : Nat} {v : Value} {l : List UInt8} (h : OwnB w base v l) (p c : Nat) (x : UInt8) (hx : w.cell? ⟨p, 0, none⟩ = some (.int .u8 (x.toNat : Int))) (hn : l.length + 1 ≤ 1000000) (hb : base ≤ w.heap.size) (ty : TypeId) :
    ∃ v' w', (Builtin.append_ #[22, 22] ty #[v, .slice (some ⟨p, 0, none⟩) 1 c]).run Try.prog w = .ok v' w' ∧ OwnB w' base v' (l ++ [x]) ∧ w.grownBy w' v.ownBlock := by
  obtain ⟨i, hi, hz, hs, hby⟩ := u8_info
  obtain ⟨v', w', hr, ho, hg, _⟩ := run_append_own (P := Try.prog) w base 22 ty 5 i _ 1 1 Try.underlying22 hi hz hs hby rfl (by omega) v l.length _ h ⟨p, 0, none⟩ 1 c [.int .u8 (x.toNat : Int)] rfl
    (fun j u hj => by
      match j, hj with
      | 0, hj => cases hj; exact hx
      | j + 1, hj => simp at hj) (by intro u hu; simp at hu; subst hu; rfl) (by unfold maxLen; omega) (by omega) hb
  refine ⟨v', w', hr, ?_, hg⟩
  unfold OwnB
  rw [List.length_append, List.map_append]
  exact ho
/-- the bytes as a string -/
theorem OwnB.str {w : World} {base : Nat} {v : Value} {l : List UInt8} (h : OwnB w base v l) (hl : l ≠ []) : (convert 22 9 v).run Try.prog w = .ok (.string ⟨l.toArray⟩) w := by
  have h0 := h
  rcases h0.2 with ⟨rfl, e⟩ | ⟨g, cap, cur, rfl, hbg, hg, hnc, hcm, hcs, htake⟩
  · exact absurd (List.eq_nil_of_length_eq_zero e) hl
  · refine run_convert_bytes_back (P := Try.prog) w 22 9 5 ⟨g, 0, none⟩ cap l Try.underlying22 Try.underlying5 Try.underlying9 fun j hj => ?_
    have := World.ownsRow.cells h (g := g) rfl j (.int .u8 (l[j].toNat : Int)) (by rw [List.getElem?_map, List.getElem?_eq_getElem hj]; rfl)
    exact this
theorem wp_app {P : Program} {w w' : World} {o : Oper} {a : Act} {K : Act → World → Prop} {Q : Exit → Act → World → Prop} {v y v' : Value} (s x : Operand) (t u : TypeId)
    (hr : (Builtin.append_ #[t, u] o.type #[v, y]).run P w = .ok v' w')
    (ho : o.op = .call { callee := .builtin .append, args := #[s, x], argTypes := #[t, u] }) (hs : a.eval s = v) (hx : a.eval x = y)
    (h : K (a.put o.dst v') w') : o.wp P a w K Q := by
  unfold Oper.wp execOp
  simp only [ho, resolve, invoke, builtin, Sem.run_bind, Sem.run_pure, Result.andThen_ok, List.map_toArray, List.map_cons, List.map_nil, hs, hx, hr]
  exact h

set_option maxHeartbeats 2000000 in
theorem digit_any (n : Nat) (hn : n < 10) (w : World) : Calls Try.prog 54 #[.int .i64 (n : Int)] w fun e w' => e = .returned (.string (strOf [48 + n])) ∧ Below w.heap.size w w' := by
  have hw1 : wrap64 (48 + (n : Int)) = 48 + (n : Int) := w64 _ (by omega)
  have hw2 : IntKind.i64.wrap (48 + (n : Int)) = 48 + (n : Int) := by rw [IntKind.wrap_i64]; omega
  have hw3 : IntKind.u8.wrap (48 + (n : Int)) = 48 + (n : Int) := by rw [IntKind.wrap_u8]; omega
  have hB := Blk.new w 5 #[.int .u8 (48 + (n : Int))]
  have hO : OwnB (w.alloc (.cells #[.int .u8 (48 + (n : Int))] 5)) w.heap.size (.slice (some ⟨w.heap.size, 0, none⟩) 1 1) [Nat.toUInt8 (48 + n)] := by
    refine ⟨rfl, .inr ⟨w.heap.size, 1, #[.int .u8 (48 + (n : Int))], rfl, Nat.le_refl _, hB.eq, Nat.le_refl _, by unfold maxLen; omega, rfl, ?_⟩⟩
    have e : ((Nat.toUInt8 (48 + n)).toNat : Int) = 48 + (n : Int) := by
      have : (Nat.toUInt8 (48 + n)).toNat = 48 + n := by simp [Nat.toUInt8, UInt8.toNat_ofNat', Nat.mod_eq_of_lt (show 48 + n < 256 by omega)]
      rw [this]; omega
    simp
    omega
  have hC := hO.str (by simp)
  have hE : strOf [48 + n] = ⟨#[48 + UInt8.ofNat n]⟩ := by unfold strOf; simp [Nat.toUInt8]
  have HE := Bx.mk hE
  clear hE hO hB
  go_enter Try.func54, Try.ntmps54
  go_wp2_with fail
  go_ret
  exact ⟨by rw [HE.out]; rfl, (Below.refl _ _).alloc (Nat.le_refl _) _⟩

/-- what is kept while a variable is printed -/
def VB (w u : World) : Prop := Below w.heap.size w u ∧ Blk u w.heap.size 36 #[.int .i64 1, .int .i64 0, .int .i64 3, .slice none 0 0]
theorem VB.step {w u u' : World} (h : VB w u) (hb : Below u.heap.size u u') : VB w u' := ⟨h.1.trans (hb.mono h.1.size), h.2.below hb h.2.lt⟩
theorem VB.grown {w u u' : World} (h : VB w u) {row : Option Nat} (hg : u.grownBy u' row) (hr : row = none) : VB w u' := by
  subst hr
  exact h.step ⟨hg.os, hg.tape, hg.output, hg.size, fun k hk => hg.block k hk (by simp)⟩
theorem VB.far {w u u' : World} (h : VB w u) {row : Option Nat} (hg : u.grownBy u' row) (hr : ∀ k, row = some k → w.heap.size + 1 ≤ k) : VB w u' :=
  ⟨h.1.grown hg h.1.size (fun k e => by have := hr k e; omega), ⟨(hg.block _ h.2.lt (fun e => by have := hr _ e.symm; omega)).trans h.2.eq⟩⟩
set_option maxHeartbeats 8000000 in
theorem put_v3 (w : World) : Calls Try.prog 35 #[.slice none 0 0, .agg #[.int .i64 1, .int .i64 0, .int .i64 3, .slice none 0 0]] w fun e w' => ∃ v, e = .returned v ∧ OwnB w' (w.heap.size + 1) v [118, 51] ∧ Below w.heap.size w w' := by
  have hb := boxE w 1 0 3 (.slice none 0 0)
  have hbe := (Below.refl w.heap.size w).alloc (Nat.le_refl _) (.cells #[.int .i64 1, .int .i64 0, .int .i64 3, .slice none 0 0] 36)
  obtain ⟨c0, c1, c2, c3, _, _, _, _⟩ := cells4 hb
  have HV : Bx (VB w (w.alloc (.cells #[.int .i64 1, .int .i64 0, .int .i64 3, .slice none 0 0] 36))) := ⟨⟨hbe, hb⟩⟩
  clear hb hbe
  go_enter Try.func35, Try.ntmps35
  go_wp2_with fail
  refine region_any 7 (VB w) (by kernel_rfl) ?_
  generalize hu : World.drew _ = u0
  have hS0 : VB w u0 := by rw [← hu]; exact HV.out.step ((Below.refl _ _).drew)
  clear hu c0 c1 c2 c3 HV
  refine any_take (i := 0) (.slice none 0 0) rfl rfl (by kernel_rfl) (by kernel_rfl) (by kernel_rfl) (by kernel_rfl) (fun _ _ d _ _ h => by cases d <;> exact h) (fun u hS => rfl) hS0 ?_
  (try simp only [Act.put]); (try simp only [List.getElem_toArray]); (try simp only [List.getElem_cons_succ]); (try simp only [List.getElem_cons_zero]); (try simp only [List.setIfInBounds_toArray]); (try simp only [List.set_cons_succ]); (try simp only [List.set_cons_zero])
  refine any_take (i := 3) (.pointer (some ⟨w.heap.size, 2, none⟩)) rfl rfl (by kernel_rfl) (by kernel_rfl) (by kernel_rfl) (by kernel_rfl) (fun _ _ d _ _ h => by cases d <;> exact h) (fun u hS => rfl) hS0 ?_
  (try simp only [Act.put]); (try simp only [List.getElem_toArray]); (try simp only [List.getElem_cons_succ]); (try simp only [List.getElem_cons_zero]); (try simp only [List.setIfInBounds_toArray]); (try simp only [List.set_cons_succ]); (try simp only [List.set_cons_zero])
  refine any_take (i := 4) (.int .i64 3) rfl rfl (by kernel_rfl) (by kernel_rfl) (by kernel_rfl) (by kernel_rfl) (fun _ _ d _ _ h => by cases d <;> exact h) (fun u hS => exec_loadI rfl rfl (hS.2.cell 2)) hS0 ?_
  (try simp only [Act.put]); (try simp only [List.getElem_toArray]); (try simp only [List.getElem_cons_succ]); (try simp only [List.getElem_cons_zero]); (try simp only [List.setIfInBounds_toArray]); (try simp only [List.set_cons_succ]); (try simp only [List.set_cons_zero])
  refine any_branch [1] (by kernel_rfl) rfl fun ix hix => ?_
  simp only [List.mem_cons, List.not_mem_nil, or_false] at hix
  subst hix
  refine any_op rfl rfl fun K hK => ?_
  go_simp
  have hp := Blk.new u0 5 #[.int .u8 118]
  have hbs := (Below.refl u0.heap.size u0).alloc (Nat.le_refl _) (.cells #[.int .u8 118] 5)
  have hSs := hS0.step hbs
  generalize hpn : u0.heap.size = pn at hp ⊢
  generalize u0.alloc (.cells #[.int .u8 118] 5) = us at hp hbs hSs ⊢
  refine hK _ _ (fun _ => hSs) ?_
  (try simp only [Act.put]); (try simp only [List.getElem_toArray]); (try simp only [List.getElem_cons_succ]); (try simp only [List.getElem_cons_zero]); (try simp only [List.setIfInBounds_toArray]); (try simp only [List.set_cons_succ]); (try simp only [List.set_cons_zero])
  clear hK
  clear hbs hpn
  replace hS0 := hSs
  clear hSs
  refine any_branch [2] (by kernel_rfl) rfl fun ix hix => ?_
  simp only [List.mem_cons, List.not_mem_nil, or_false] at hix
  subst hix
  refine any_op rfl rfl fun K hK => ?_
  obtain ⟨v1, ua, hr, ho, hg⟩ := (OwnB.nil us (w.heap.size + 1)).app_one pn 1 118 (hp.cell 0) (by simp) hS0.2.lt 22
  refine wp_app _ _ _ _ hr rfl rfl rfl ?_
  have hSs := hS0.grown hg rfl
  refine hK _ _ (fun _ => hSs) ?_
  (try simp only [Act.put]); (try simp only [List.getElem_toArray]); (try simp only [List.getElem_cons_succ]); (try simp only [List.getElem_cons_zero]); (try simp only [List.setIfInBounds_toArray]); (try simp only [List.set_cons_succ]); (try simp only [List.set_cons_zero])
  clear hK
  replace hS0 := hSs
  clear hSs hr hg hp
  refine any_branch [5] (by kernel_rfl) rfl fun ix hix => ?_
  simp only [List.mem_cons, List.not_mem_nil, or_false] at hix
  subst hix
  refine any_op rfl rfl fun K hK => ?_
  go_simp
  refine (digit_any 3 (by omega) _).mono ?_
  rintro e ud ⟨rfl, hbd⟩
  have hSs := hS0.step hbd
  have ho2 := ho.below hbd
  clear ho
  have ho := ho2
  clear ho2
  refine hK _ _ (fun _ => hSs) ?_
  (try simp only [Act.put]); (try simp only [List.getElem_toArray]); (try simp only [List.getElem_cons_succ]); (try simp only [List.getElem_cons_zero]); (try simp only [List.setIfInBounds_toArray]); (try simp only [List.set_cons_succ]); (try simp only [List.set_cons_zero])
  clear hK
  replace hS0 := hSs
  clear hSs hbd
  refine any_branch [6] (by kernel_rfl) rfl fun ix hix => ?_
  simp only [List.mem_cons, List.not_mem_nil, or_false] at hix
  subst hix
  refine any_op rfl rfl fun K hK => ?_
  obtain ⟨v6, u6, hr, ho6, hg6⟩ := ho.app_str (strOf [48 + 3]) (by unfold strOf; decide +kernel) (Nat.le_of_lt (Nat.lt_of_lt_of_le (Nat.lt_succ_self _) hS0.2.lt) |> fun _ => hS0.2.lt) 22
  refine wp_app _ _ _ _ hr rfl rfl rfl ?_
  have hS6 := hS0.far hg6 (fun k hk => (ho.lt hk).1)
  refine hK _ _ (fun _ => hS6) ?_
  (try simp only [Act.put]); (try simp only [List.getElem_toArray]); (try simp only [List.getElem_cons_succ]); (try simp only [List.getElem_cons_zero]); (try simp only [List.setIfInBounds_toArray]); (try simp only [List.set_cons_succ]); (try simp only [List.set_cons_zero])
  clear hK
  refine any_branch [7] (by kernel_rfl) rfl fun ix hix => ?_
  simp only [List.mem_cons, List.not_mem_nil, or_false] at hix
  subst hix
  refine any_op rfl rfl fun K hK => ?_
  go_simp
  refine hK _ _ (fun h => absurd rfl h) ?_
  (try simp only [Act.put]); (try simp only [List.getElem_toArray]); (try simp only [List.getElem_cons_succ]); (try simp only [List.getElem_cons_zero]); (try simp only [List.setIfInBounds_toArray]); (try simp only [List.set_cons_succ]); (try simp only [List.set_cons_zero])
  clear hK
  refine any_end (by kernel_rfl) ?_
  have HO := Bx.mk ho6
  have HS := Bx.mk hS6
  clear ho ho6 hg6 hr hS6 hS0
  go_wp2_with fail
  go_ret
  refine ⟨_, rfl, ?_, HS.out.1⟩
  have e : [118] ++ (strOf [48 + 3]).data.toList = [118, 51] := by unfold strOf; decide +kernel
  have h := HO.out
  simp only [List.nil_append] at h
  rw [e] at h
  exact h
set_option maxHeartbeats 4000000 in
theorem print_v3 (w : World) : Calls Try.prog 16 #[.agg #[.int .i64 1, .int .i64 0, .int .i64 3, .slice none 0 0]] w fun e w' => e = .returned (.string { data := #[118, 51] }) ∧ Below w.heap.size w w' := by
  have hb := boxE w 1 0 3 (.slice none 0 0)
  have hbe := (Below.refl w.heap.size w).alloc (Nat.le_refl _) (.cells #[.int .i64 1, .int .i64 0, .int .i64 3, .slice none 0 0] 36)
  have HB := Bx.mk hb
  have HBE := Bx.mk hbe
  have hI := fun u => is_any ⟨1, 0, 3, .nil⟩ (.slice none 0 0) (fun _ => True) u (SlF.nil _ _)
  have ht : Ex.is ⟨1, 0, 3, .nil⟩ = true := by decide +kernel
  rw [ht] at hI
  unfold Ev at hI
  have HI := Bx.mk hI
  clear hI hb hbe ht
  go_enter Try.func16, Try.ntmps16
  go_wp2_with fail
  refine (HI.out _).mono ?_
  rintro e w1 ⟨rfl, hb1⟩
  have hb2 := HB.out.below hb1 HB.out.lt
  have HBE1 := Bx.mk (HBE.out.trans (hb1.mono HBE.out.size))
  obtain ⟨c0, c1, c2, c3, _, _, _, _⟩ := cells4 hb2
  clear hb1 hb2
  go_wp2_with fail
  refine (put_v3 _).mono ?_
  rintro e w2 ⟨v, rfl, ho, hb3⟩
  have hC := ho.str (by simp)
  have HB3 := Bx.mk (HBE1.out.trans (hb3.mono HBE1.out.size))
  clear ho hb3 c0 c1 c2 c3
  go_wp2_with fail
  go_ret
  exact ⟨rfl, HB3.out⟩
end Go.Proofs.Ytfgokhafiffbaaa
