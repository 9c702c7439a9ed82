/-
  Formulas: all readers, by the levels that are left; Parse.
-/
import Derived.Test.YtfgokhafiffbaaaEx16
namespace Go.Proofs.Ytfgokhafiffbaaa
set_option linter.unusedVariables false
open Go.RowKit

theorem mono_bound {r : Option (St → Tr × St)} (hr : MonoO r) (k : Int) (a : Nat) : Mono (Ex.bound r k a) := fun st => by
  unfold Ex.bound
  split
  · exact Nat.le_trans (hr.within _) (goes_le st)
  · exact bad_le _ st
theorem mono_ite {r : Option (St → Tr × St)} (hr : MonoO r) (a : Nat) : Mono (Ex.ite r a) := fun st =>
  Nat.le_trans (must_le _ _) (Nat.le_trans (hr.within _) (Nat.le_trans (must_le _ _) (Nat.le_trans (hr.within _) (Nat.le_trans (must_le _ _) (Nat.le_trans (hr.within _) (must_le _ _))))))
theorem mono_prim {r : Option (St → Tr × St)} (hr : MonoO r) : Mono (Ex.prim r) := fun st => by
  unfold Ex.prim
  split
  · exact goes_le st
  · exact goes_le st
  · exact goes_le st
  · split
    · exact Nat.le_trans (must_le _ _) (Nat.le_trans (hr.within _) (goes_le st))
    · split
      · exact Nat.le_trans (mono_ite hr _ _) (goes_le st)
      · exact bad_le _ st
theorem mono_un {ru rf : Option (St → Tr × St)} (hu : MonoO ru) (hf : MonoO rf) : Mono (Ex.un ru rf) := fun st => by
  unfold Ex.un
  split
  · exact Nat.le_refl _
  · split
    · exact Nat.le_trans (hu.within _) (goes_le st)
    · split
      · exact Nat.le_trans (mono_bound hu _ _ _) (goes_le st)
      · split
        · exact Nat.le_trans (mono_bound hu _ _ _) (goes_le st)
        · exact mono_prim hf st
/-- what holds of the readers at a level -/
structure Lv (d : Nat) (r : Rd) : Prop where
  iff : Pz 31 d r.iff
  imp : Pz 44 d r.imp
  un : Pz 87 d r.un
  miff : Mono r.iff
  mimp : Mono r.imp
  mun : Mono r.un
theorem Lv.mk' (d : Nat) (ru ri rf : Option (St → Tr × St)) (hu : Rz 87 d ru) (hi : Rz 44 d ri) (hf : Rz 31 d rf) (mu : MonoO ru) (mi : MonoO ri) (mf : MonoO rf) : Lv d (Ex.mk ru ri rf) := by
  have u := un_any d ru rf hu hf
  have m := mono_un mu mf
  have a := pand_any d _ u m
  have x := pxor_any d _ a m.chain
  have o := por_any d _ x m.chain.chain
  have i := pimp_any d _ ri o hi
  have mi : Mono (Ex.imp ri (Ex.chain .or 5 (Ex.chain .xor 6 (Ex.chain .and 4 (Ex.un ru rf))))) := Mono.imp mi m.chain.chain.chain
  have f := piff_any d _ i mi
  exact ⟨f, i, u, mi.chain, mi, m⟩
theorem Lv.all : ∀ n, n ≤ 30 → Lv (30 - n) (Ex.lev n)
  | 0, _ => Lv.mk' 30 none none none rfl rfl rfl True.intro True.intro True.intro
  | n + 1, h => by
    have ih := Lv.all n (by omega)
    have e : 30 - (n + 1) + 1 = 30 - n := by omega
    refine Lv.mk' (30 - (n + 1)) _ _ _ ⟨by omega, ?_⟩ ⟨by omega, ?_⟩ ⟨by omega, ?_⟩ ih.mun ih.mimp ih.miff
    · rw [e]; exact ih.un
    · rw [e]; exact ih.imp
    · rw [e]; exact ih.iff
theorem top_any : Pz 31 0 (Ex.lev 30).iff := (Lv.all 30 (Nat.le_refl _)).iff

/-- what Parse hands back -/
def Pv (t : Tr) (sl : Value) (a e : Nat) : Value := .tuple #[Ev t sl, .int .i64 (a : Int), .int .i64 (e : Int)]
def Parsed (w : World) (r : Tr × Nat × Nat) (e : Ending) (w' : World) : Prop :=
  ∃ sl, e = .returned (Pv r.1 sl r.2.1 r.2.2) ∧ SlF w' (Ge w.heap.size) sl r.1.kids ∧ Below w.heap.size w w'
set_option maxHeartbeats 8000000 in
theorem parse_long (s : ByteArray) (w : World) (h : 4000 < s.size) : Calls Try.prog 13 #[.string s] w (Parsed w (Ex.parse (bl s))) := by
  have hE : Ex.parse (bl s) = (Tr.zero, 0, 232) := by unfold Ex.parse; rw [if_pos (by rw [bl_length]; exact h)]
  rw [hE]
  have q : (s.size : Int) > 4000 := by omega
  clear h hE
  go_enter Try.func13, Try.ntmps13
  go_wp2_with fail
  obtain ⟨r0, r1, r2, r3, _, _, _, _⟩ := cells4 (Blk.new w 36 #[.int .i64 0, .int .i64 0, .int .i64 0, .slice none 0 0])
  refine bodyPost_ret (v := Pv Tr.zero (.slice none 0 0) 0 232) (by simp [results, Try.results13, go_sem, r0, r1, r2, r3]; rfl) rfl ?_
  exact ⟨_, rfl, SlF.nil _ _, (Below.refl _ _).alloc (Nat.le_refl _) _⟩
theorem isEmpty_tok (t : Tok) : t.str.toList.isEmpty = decide (t = .eof) := by
  by_cases h : t = .eof
  · subst h
    rw [decide_eq_true rfl, ByteArray.toList_eq]
    unfold Tok.str Tok.txt strOf
    rfl
  · rw [decide_eq_false h]
    have hl := Tok.txt_len t h
    rw [← Tok.bl_str, bl_length] at hl
    rw [ByteArray.toList_eq]
    cases e : t.str.data.toList with
    | nil => have : t.str.size = t.str.data.toList.length := by simp
             rw [e] at this; have h0 : t.str.size = 0 := this; omega
    | cons a r => rfl
theorem Ex.parse_eq (l : List Nat) (h : l.length ≤ 4000) : ((((Ex.lev 30).iff ⟨Lx.lex l 0, 0, 0⟩).2.e = 0 → ((Ex.lev 30).iff ⟨Lx.lex l 0, 0, 0⟩).2.now = .eof → Ex.parse l = (((Ex.lev 30).iff ⟨Lx.lex l 0, 0, 0⟩).1, 0, 0)) ∧
    (((Ex.lev 30).iff ⟨Lx.lex l 0, 0, 0⟩).2.e = 0 → ((Ex.lev 30).iff ⟨Lx.lex l 0, 0, 0⟩).2.now ≠ .eof → Ex.parse l = (Tr.zero, (((Ex.lev 30).iff ⟨Lx.lex l 0, 0, 0⟩).2.bad 230).eat, (((Ex.lev 30).iff ⟨Lx.lex l 0, 0, 0⟩).2.bad 230).e)) ∧
    (((Ex.lev 30).iff ⟨Lx.lex l 0, 0, 0⟩).2.e ≠ 0 → Ex.parse l = (Tr.zero, ((Ex.lev 30).iff ⟨Lx.lex l 0, 0, 0⟩).2.eat, ((Ex.lev 30).iff ⟨Lx.lex l 0, 0, 0⟩).2.e))) := by
  unfold Ex.parse
  rw [if_neg (by omega)]
  simp only []
  generalize (Ex.lev 30).iff ⟨Lx.lex l 0, 0, 0⟩ = R
  have hb := bad_ne 230 (by omega) R.2
  refine ⟨fun h1 h2 => ?_, fun h1 h2 => ?_, fun h1 => ?_⟩
  · have e : (if R.2.e = 0 ∧ R.2.now ≠ .eof then R.2.bad 230 else R.2) = R.2 := if_neg (fun h => h.2 h2)
    rw [e, if_pos h1]
  · have e : (if R.2.e = 0 ∧ R.2.now ≠ .eof then R.2.bad 230 else R.2) = R.2.bad 230 := if_pos ⟨h1, h2⟩
    rw [e, if_neg hb]
  · have e : (if R.2.e = 0 ∧ R.2.now ≠ .eof then R.2.bad 230 else R.2) = R.2 := if_neg (fun h => h1 h.1)
    rw [e, if_neg h1]
/-- where Parse stands behind its reader -/
structure Ph (w wr : World) (s : ByteArray) (R : Tr × St) (b : Nat) (pp : Option Addr) (cap : Nat) : Prop where
  ps : PS wr (w.heap.size + 1) 0 s R.2
  be : Below w.heap.size w wr
  res : Blk wr w.heap.size 36 #[.int .i64 0, .int .i64 0, .int .i64 0, .slice none 0 0]
  own : Blk wr b 36 #[.int .i64 R.1.k, .int .i64 R.1.a, .int .i64 R.1.v, .slice pp R.1.kids.len cap]
  sl : SlF wr (Ge (w.heap.size + 2)) (.slice pp R.1.kids.len cap) R.1.kids
  lt : w.heap.size + 1 < b
set_option maxHeartbeats 8000000 in
theorem parse_short (s : ByteArray) (w : World) (h : s.size ≤ 4000) : Calls Try.prog 13 #[.string s] w (Parsed w (Ex.parse (bl s))) := by
  have q : ¬ (s.size : Int) > 4000 := by omega
  have hB0 : Blk ((w.alloc (Obj.cells #[.int .i64 0, .int .i64 0, .int .i64 0, .slice none 0 0] 36)).alloc (Obj.cells (PB s { data := #[] } 0 0 0 0) 62)) (w.heap.size + 1) 62 (PB s { data := #[] } 0 0 0 0) := by
    have := Blk.new (w.alloc (Obj.cells #[.int .i64 0, .int .i64 0, .int .i64 0, .slice none 0 0] 36)) 62 (PB s { data := #[] } 0 0 0 0)
    rwa [alloc_size] at this
  have hR0 := (Blk.new w 36 #[.int .i64 0, .int .i64 0, .int .i64 0, .slice none 0 0]).alloc (Obj.cells (PB s { data := #[] } 0 0 0 0) 62)
  have hG0 := ((Below.refl w.heap.size w).alloc (Nat.le_refl _) (Obj.cells #[.int .i64 0, .int .i64 0, .int .i64 0, .slice none 0 0] 36)).alloc (by rw [alloc_size]; omega) (Obj.cells (PB s { data := #[] } 0 0 0 0) 62)
  have hz0 : ((w.alloc (Obj.cells #[.int .i64 0, .int .i64 0, .int .i64 0, .slice none 0 0] 36)).alloc (Obj.cells (PB s { data := #[] } 0 0 0 0) 62)).heap.size = w.heap.size + 2 := by rw [alloc_size, alloc_size]
  have hgo := goes_any (w.heap.size + 1) s { data := #[] } 0 0 0 0 _ _ _ hB0 h (Nat.zero_le _) rfl rfl
  generalize hW : (w.alloc (Obj.cells #[.int .i64 0, .int .i64 0, .int .i64 0, .slice none 0 0] 36)).alloc (Obj.cells (PB s { data := #[] } 0 0 0 0) 62) = W0 at hB0 hR0 hG0 hz0 hgo
  have HW0 := Bx.mk hW
  have HR0 := Bx.mk hR0
  have HG0 := Bx.mk hG0
  have HGO := Bx.mk hgo
  have HE := Bx.mk (Ex.parse_eq (bl s) (by rw [bl_length]; exact h))
  have HT := Bx.mk fun u (hu : PS u (w.heap.size + 1) 0 s ⟨Lx.lex (bl s) 0, 0, 0⟩) => top_any (w.heap.size + 1) s ⟨Lx.lex (bl s) 0, 0, 0⟩ u hu
  generalize (Ex.lev 30).iff ⟨Lx.lex (bl s) 0, 0, 0⟩ = R at HE HT
  generalize Ex.parse (bl s) = RR at HE ⊢
  clear hW hB0 hR0 hG0 hgo
  go_enter Try.func13, Try.ntmps13
  go_wp2_with fail
  rw [show (w.alloc (Obj.cells #[.int .i64 0, .int .i64 0, .int .i64 0, .slice none 0 0] 36)).alloc (Obj.cells #[.string s, .string { data := #[] }, .int .i64 0, .int .i64 0, .int .i64 0, .int .i64 0] 62) = W0 from HW0.out]
  refine HGO.out.mono ?_
  rintro e w1 ⟨rfl, hB1, hG1⟩
  have hP1 := PS.fresh (a := 0) rfl rfl hB1 (Nat.zero_le _) h
  rw [List.drop_zero] at hP1
  have hT1 := HT.out w1 hP1
  have HG1 := Bx.mk hG1
  clear hB1 hP1 hG1
  go_wp2_with fail
  refine hT1.mono ?_
  clear hT1
  rintro e w2 ⟨sl, rfl, hS2, hP2, hG2⟩
  obtain ⟨pp, cap, rfl⟩ := hS2.is
  have hz1 := HG1.out.size
  have hz2 := hG2.size
  have hR2 := hG2.blk (HG1.out.blk HR0.out (by omega)) (by omega)
  have hH : Ph w (w2.alloc (Obj.cells #[.int .i64 R.1.k, .int .i64 R.1.a, .int .i64 R.1.v, .slice pp R.1.kids.len cap] 36)) s R w2.heap.size pp cap :=
    ⟨hP2.alloc _, (Gb.to_below (Gb.to_below HG0.out HG1.out (by omega)) hG2 (by omega)).alloc (by omega) _, hR2.alloc _, Blk.new _ _ _, (hS2.mono fun g hg => by unfold Ge at hg ⊢; omega).alloc _, by omega⟩
  have HH := Bx.mk hH
  clear hS2 hP2 hG2 hR2 hH hz1
  unfold Ev
  obtain ⟨c0, c1, c2, c3, c4, c5, f1, f2, f3, f4, f5⟩ := pb_cells HH.out.ps.blk
  have hie := isEmpty_tok R.2.now
  have hr := HH.out.res
  have ho := HH.out.own
  obtain ⟨r0, r1, r2, r3, g0, g1, g2, g3⟩ := cells4 hr
  obtain ⟨o0, o1, o2, o3, _, _, _, _⟩ := cells4 ho
  by_cases he : R.2.e = 0
  · have qe : (R.2.e : Int) = 0 := by omega
    by_cases hn : R.2.now = .eof
    · have hE : RR = (R.1, 0, 0) := HE.out.1 he hn
      have HE2 := Bx.mk hE
      rw [decide_eq_true hn] at hie
      clear hE he c0 c2 c3 c5 f1 f2 f3 f4 f5 hr ho
      rw [hn] at c1 hie
      clear hn
      go_wp2_with fail
      have hf := HH.out.res.own4 (.int .i64 R.1.k) (.int .i64 R.1.a) (.int .i64 R.1.v) (.slice pp R.1.kids.len cap)
      clear r0 r1 r2 r3 g0 g1 g2 g3
      obtain ⟨r0, r1, r2, r3, _, _, _, _⟩ := cells4 hf
      refine bodyPost_ret (v := Pv R.1 (.slice pp R.1.kids.len cap) 0 0) (by simp [results, Try.results13, go_sem, r0, r1, r2, r3]; rfl) rfl ?_
      rw [HE2.out]
      exact ⟨_, rfl, (HH.out.sl.st4 (R := w.heap.size) (fun h => by unfold Ge at h; omega) _ _ _ _).mono (fun g hg => by unfold Ge at hg ⊢; omega), (((HH.out.be.setCell (p := ⟨w.heap.size, 0, none⟩) (Nat.le_refl _) _).setCell (p := ⟨w.heap.size, 1, none⟩) (Nat.le_refl _) _).setCell (p := ⟨w.heap.size, 2, none⟩) (Nat.le_refl _) _).setCell (p := ⟨w.heap.size, 3, none⟩) (Nat.le_refl _) _⟩
    · have hE : RR = (Tr.zero, (R.2.bad 230).eat, (R.2.bad 230).e) := HE.out.2.1 he hn
      have HE2 := Bx.mk hE
      rw [decide_eq_false hn] at hie
      have hbad := bad_st (w.heap.size + 1) 0 230 s R.2 _ HH.out.ps
      have hq := bad_ne 230 (by omega) R.2
      have HB := Bx.mk hbad
      clear hE he hn c0 c2 c3 c5 f1 f2 f3 f4 f5 hr ho hbad
      go_wp2_with fail
      refine HB.out.mono ?_
      rintro e w3 ⟨rfl, hP3, hG3⟩
      have hR3 := hG3.blk HH.out.res (by omega)
      have hb3 := Gb.to_below HH.out.be hG3 (by omega)
      obtain ⟨c0, c1, c2, c3, c4, c5, f1, f2, f3, f4, f5⟩ := pb_cells hP3.blk
      obtain ⟨r0, r1, r2, r3, g0, g1, g2, g3⟩ := cells4 hR3
      have HR3 := Bx.mk hR3
      have HB3 := Bx.mk hb3
      have qe2 : ¬ ((R.2.bad 230).e : Int) = 0 := by omega
      clear hP3 hG3 hR3 hb3 c0 c1 c2 c3 f1 f2 f3 f4 f5
      go_wp2_with fail
      have hR4 := HR3.out.drew
      have hS0 : (fun u => u.cell? ⟨w.heap.size + 1, 4, none⟩ = some (.int .i64 ((R.2.bad 230).e : Int)) ∧ u.cell? ⟨w.heap.size + 1, 5, none⟩ = some (.int .i64 ((R.2.bad 230).eat : Int)) ∧ ∃ v0 v1 v2 v3, Blk u w.heap.size 36 #[v0, v1, v2, v3]) w3.drew := ⟨c4, c5, _, _, _, _, hR4⟩
      clear r0 r1 r2 r3 g0 g1 g2 g3
      refine region_any 100 (fun u => u.cell? ⟨w.heap.size + 1, 4, none⟩ = some (.int .i64 ((R.2.bad 230).e : Int)) ∧ u.cell? ⟨w.heap.size + 1, 5, none⟩ = some (.int .i64 ((R.2.bad 230).eat : Int)) ∧ ∃ v0 v1 v2 v3, Blk u w.heap.size 36 #[v0, v1, v2, v3]) (by kernel_rfl) ?_
      have hB4 := HB3.out.drew
      generalize w3.drew = u0 at hS0 hR4 hB4 ⊢
      refine any_take (i := 0) (.agg #[.int .i64 0, .int .i64 0, .int .i64 0, .slice none 0 0]) rfl rfl (by kernel_rfl) (by kernel_rfl) (by kernel_rfl) (by kernel_rfl) (fun _ _ d _ _ h => by cases d <;> exact h) (fun u hS => by obtain ⟨k4, k5, _⟩ := hS; first | rfl | (unfold execOp; go_simp)) hS0 ?_
      (try simp only [Act.put]); (try simp only [List.getElem_toArray]); (try simp only [List.getElem_cons_succ]); (try simp only [List.getElem_cons_zero]); (try simp only [List.setIfInBounds_toArray]); (try simp only [List.set_cons_succ]); (try simp only [List.set_cons_zero])
      refine any_take (i := 1) (.pointer (some ⟨w.heap.size + 1, 0, none⟩)) rfl rfl (by kernel_rfl) (by kernel_rfl) (by kernel_rfl) (by kernel_rfl) (fun _ _ d _ _ h => by cases d <;> exact h) (fun u hS => by obtain ⟨k4, k5, _⟩ := hS; first | rfl | (unfold execOp; go_simp)) hS0 ?_
      (try simp only [Act.put]); (try simp only [List.getElem_toArray]); (try simp only [List.getElem_cons_succ]); (try simp only [List.getElem_cons_zero]); (try simp only [List.setIfInBounds_toArray]); (try simp only [List.set_cons_succ]); (try simp only [List.set_cons_zero])
      refine any_take (i := 2) (.pointer (some ⟨w.heap.size + 1, 0, none⟩)) rfl rfl (by kernel_rfl) (by kernel_rfl) (by kernel_rfl) (by kernel_rfl) (fun _ _ d _ _ h => by cases d <;> exact h) (fun u hS => by obtain ⟨k4, k5, _⟩ := hS; first | rfl | (unfold execOp; go_simp)) hS0 ?_
      (try simp only [Act.put]); (try simp only [List.getElem_toArray]); (try simp only [List.getElem_cons_succ]); (try simp only [List.getElem_cons_zero]); (try simp only [List.setIfInBounds_toArray]); (try simp only [List.set_cons_succ]); (try simp only [List.set_cons_zero])
      refine any_take (i := 3) (.pointer (some ⟨w.heap.size + 1, 5, none⟩)) rfl rfl (by kernel_rfl) (by kernel_rfl) (by kernel_rfl) (by kernel_rfl) (fun _ _ d _ _ h => by cases d <;> exact h) (fun u hS => by obtain ⟨k4, k5, _⟩ := hS; first | rfl | (unfold execOp; go_simp)) hS0 ?_
      (try simp only [Act.put]); (try simp only [List.getElem_toArray]); (try simp only [List.getElem_cons_succ]); (try simp only [List.getElem_cons_zero]); (try simp only [List.setIfInBounds_toArray]); (try simp only [List.set_cons_succ]); (try simp only [List.set_cons_zero])
      refine any_take (i := 4) (.int .i64 ((R.2.bad 230).eat : Int)) rfl rfl (by kernel_rfl) (by kernel_rfl) (by kernel_rfl) (by kernel_rfl) (fun _ _ d _ _ h => by cases d <;> exact h) (fun u hS => by obtain ⟨k4, k5, _⟩ := hS; first | rfl | (unfold execOp; go_simp)) hS0 ?_
      (try simp only [Act.put]); (try simp only [List.getElem_toArray]); (try simp only [List.getElem_cons_succ]); (try simp only [List.getElem_cons_zero]); (try simp only [List.setIfInBounds_toArray]); (try simp only [List.set_cons_succ]); (try simp only [List.set_cons_zero])
      refine any_take (i := 5) (.pointer (some ⟨w.heap.size + 1, 0, none⟩)) rfl rfl (by kernel_rfl) (by kernel_rfl) (by kernel_rfl) (by kernel_rfl) (fun _ _ d _ _ h => by cases d <;> exact h) (fun u hS => by obtain ⟨k4, k5, _⟩ := hS; first | rfl | (unfold execOp; go_simp)) hS0 ?_
      (try simp only [Act.put]); (try simp only [List.getElem_toArray]); (try simp only [List.getElem_cons_succ]); (try simp only [List.getElem_cons_zero]); (try simp only [List.setIfInBounds_toArray]); (try simp only [List.set_cons_succ]); (try simp only [List.set_cons_zero])
      refine any_take (i := 6) (.pointer (some ⟨w.heap.size + 1, 0, none⟩)) rfl rfl (by kernel_rfl) (by kernel_rfl) (by kernel_rfl) (by kernel_rfl) (fun _ _ d _ _ h => by cases d <;> exact h) (fun u hS => by obtain ⟨k4, k5, _⟩ := hS; first | rfl | (unfold execOp; go_simp)) hS0 ?_
      (try simp only [Act.put]); (try simp only [List.getElem_toArray]); (try simp only [List.getElem_cons_succ]); (try simp only [List.getElem_cons_zero]); (try simp only [List.setIfInBounds_toArray]); (try simp only [List.set_cons_succ]); (try simp only [List.set_cons_zero])
      refine any_take (i := 7) (.pointer (some ⟨w.heap.size + 1, 4, none⟩)) rfl rfl (by kernel_rfl) (by kernel_rfl) (by kernel_rfl) (by kernel_rfl) (fun _ _ d _ _ h => by cases d <;> exact h) (fun u hS => by obtain ⟨k4, k5, _⟩ := hS; first | rfl | (unfold execOp; go_simp)) hS0 ?_
      (try simp only [Act.put]); (try simp only [List.getElem_toArray]); (try simp only [List.getElem_cons_succ]); (try simp only [List.getElem_cons_zero]); (try simp only [List.setIfInBounds_toArray]); (try simp only [List.set_cons_succ]); (try simp only [List.set_cons_zero])
      refine any_take (i := 8) (.int .i64 ((R.2.bad 230).e : Int)) rfl rfl (by kernel_rfl) (by kernel_rfl) (by kernel_rfl) (by kernel_rfl) (fun _ _ d _ _ h => by cases d <;> exact h) (fun u hS => by obtain ⟨k4, k5, _⟩ := hS; first | rfl | (unfold execOp; go_simp)) hS0 ?_
      (try simp only [Act.put]); (try simp only [List.getElem_toArray]); (try simp only [List.getElem_cons_succ]); (try simp only [List.getElem_cons_zero]); (try simp only [List.setIfInBounds_toArray]); (try simp only [List.set_cons_succ]); (try simp only [List.set_cons_zero])
      obtain ⟨k4, k5, v0, v1, v2, v3, hRS⟩ := hS0
      obtain ⟨r0, r1, r2, r3, g0, g1, g2, g3⟩ := cells4 hRS
      refine any_branch [9] (by kernel_rfl) rfl fun ix hix => ?_
      simp only [List.mem_cons, List.not_mem_nil, or_false] at hix
      subst hix
      refine any_op rfl rfl fun K hK => ?_
      go_simp
      have hS1 : (fun u => u.cell? ⟨w.heap.size + 1, 4, none⟩ = some (.int .i64 ((R.2.bad 230).e : Int)) ∧ u.cell? ⟨w.heap.size + 1, 5, none⟩ = some (.int .i64 ((R.2.bad 230).eat : Int)) ∧ ∃ v0 v1 v2 v3, Blk u w.heap.size 36 #[v0, v1, v2, v3]) ((((u0.setCell ⟨w.heap.size, 0, none⟩ (.int .i64 0)).setCell ⟨w.heap.size, 1, none⟩ (.int .i64 0)).setCell ⟨w.heap.size, 2, none⟩ (.int .i64 0)).setCell ⟨w.heap.size, 3, none⟩ (.slice none 0 0)) := ⟨by rw [set_far (.inl (by omega)), set_far (.inl (by omega)), set_far (.inl (by omega)), set_far (.inl (by omega))]; exact k4, by rw [set_far (.inl (by omega)), set_far (.inl (by omega)), set_far (.inl (by omega)), set_far (.inl (by omega))]; exact k5, _, _, _, _, hRS.own4 (.int .i64 0) (.int .i64 0) (.int .i64 0) (.slice none 0 0)⟩
      refine hK _ _ (fun _ => hS1) ?_
      (try simp only [Act.put]); (try simp only [List.getElem_toArray]); (try simp only [List.getElem_cons_succ]); (try simp only [List.getElem_cons_zero]); (try simp only [List.setIfInBounds_toArray]); (try simp only [List.set_cons_succ]); (try simp only [List.set_cons_zero])
      clear hK
      refine any_branch [10] (by kernel_rfl) rfl fun ix hix => ?_
      simp only [List.mem_cons, List.not_mem_nil, or_false] at hix
      subst hix
      refine any_op rfl rfl fun K hK => ?_
      go_simp
      refine hK _ _ (fun _ => hS1) ?_
      (try simp only [Act.put]); (try simp only [List.getElem_toArray]); (try simp only [List.getElem_cons_succ]); (try simp only [List.getElem_cons_zero]); (try simp only [List.setIfInBounds_toArray]); (try simp only [List.set_cons_succ]); (try simp only [List.set_cons_zero])
      clear hK
      refine any_branch [11] (by kernel_rfl) rfl fun ix hix => ?_
      simp only [List.mem_cons, List.not_mem_nil, or_false] at hix
      subst hix
      refine any_op rfl rfl fun K hK => ?_
      go_simp
      refine hK _ _ (fun _ => hS1) ?_
      (try simp only [Act.put]); (try simp only [List.getElem_toArray]); (try simp only [List.getElem_cons_succ]); (try simp only [List.getElem_cons_zero]); (try simp only [List.setIfInBounds_toArray]); (try simp only [List.set_cons_succ]); (try simp only [List.set_cons_zero])
      clear hK
      refine any_end (by kernel_rfl) ?_
      go_wp2_with fail
      have hf := (hR4.own4 (.int .i64 0) (.int .i64 0) (.int .i64 0) (.slice none 0 0))
      clear r0 r1 r2 r3 g0 g1 g2 g3
      obtain ⟨r0, r1, r2, r3, _, _, _, _⟩ := cells4 hf
      refine bodyPost_ret (v := Pv Tr.zero (.slice none 0 0) (R.2.bad 230).eat (R.2.bad 230).e) (by simp [results, Try.results13, go_sem, r0, r1, r2, r3]; rfl) rfl ?_
      rw [HE2.out]
      exact ⟨_, rfl, SlF.nil _ _, (((hB4.setCell (p := ⟨w.heap.size, 0, none⟩) (Nat.le_refl _) _).setCell (p := ⟨w.heap.size, 1, none⟩) (Nat.le_refl _) _).setCell (p := ⟨w.heap.size, 2, none⟩) (Nat.le_refl _) _).setCell (p := ⟨w.heap.size, 3, none⟩) (Nat.le_refl _) _⟩
  · have qe : ¬ (R.2.e : Int) = 0 := by omega
    have qe2 : ((R.2.e : Int) == 0) = false := by rw [beq_eq_false_iff_ne]; omega
    have hE : RR = (Tr.zero, R.2.eat, R.2.e) := HE.out.2.2 he
    have HE2 := Bx.mk hE
    clear hE he c0 c1 c2 c3 f1 f2 f3 f4 f5 hr ho hie
    go_wp2_with fail
    have hR4 := HH.out.res.drew
    have hS0 : (fun u => u.cell? ⟨w.heap.size + 1, 4, none⟩ = some (.int .i64 (R.2.e : Int)) ∧ u.cell? ⟨w.heap.size + 1, 5, none⟩ = some (.int .i64 (R.2.eat : Int)) ∧ ∃ v0 v1 v2 v3, Blk u w.heap.size 36 #[v0, v1, v2, v3]) (w2.alloc (Obj.cells #[.int .i64 R.1.k, .int .i64 R.1.a, .int .i64 R.1.v, .slice pp R.1.kids.len cap] 36)).drew := ⟨c4, c5, _, _, _, _, hR4⟩
    clear r0 r1 r2 r3 g0 g1 g2 g3
    refine region_any 100 (fun u => u.cell? ⟨w.heap.size + 1, 4, none⟩ = some (.int .i64 (R.2.e : Int)) ∧ u.cell? ⟨w.heap.size + 1, 5, none⟩ = some (.int .i64 (R.2.eat : Int)) ∧ ∃ v0 v1 v2 v3, Blk u w.heap.size 36 #[v0, v1, v2, v3]) (by kernel_rfl) ?_
    have hB4 := HH.out.be.drew
    generalize (w2.alloc (Obj.cells #[.int .i64 R.1.k, .int .i64 R.1.a, .int .i64 R.1.v, .slice pp R.1.kids.len cap] 36)).drew = u0 at hS0 hR4 hB4 ⊢
    refine any_take (i := 0) (.agg #[.int .i64 0, .int .i64 0, .int .i64 0, .slice none 0 0]) rfl rfl (by kernel_rfl) (by kernel_rfl) (by kernel_rfl) (by kernel_rfl) (fun _ _ d _ _ h => by cases d <;> exact h) (fun u hS => by obtain ⟨k4, k5, _⟩ := hS; first | rfl | (unfold execOp; go_simp)) hS0 ?_
    (try simp only [Act.put]); (try simp only [List.getElem_toArray]); (try simp only [List.getElem_cons_succ]); (try simp only [List.getElem_cons_zero]); (try simp only [List.setIfInBounds_toArray]); (try simp only [List.set_cons_succ]); (try simp only [List.set_cons_zero])
    refine any_take (i := 1) (.pointer (some ⟨w.heap.size + 1, 0, none⟩)) rfl rfl (by kernel_rfl) (by kernel_rfl) (by kernel_rfl) (by kernel_rfl) (fun _ _ d _ _ h => by cases d <;> exact h) (fun u hS => by obtain ⟨k4, k5, _⟩ := hS; first | rfl | (unfold execOp; go_simp)) hS0 ?_
    (try simp only [Act.put]); (try simp only [List.getElem_toArray]); (try simp only [List.getElem_cons_succ]); (try simp only [List.getElem_cons_zero]); (try simp only [List.setIfInBounds_toArray]); (try simp only [List.set_cons_succ]); (try simp only [List.set_cons_zero])
    refine any_take (i := 2) (.pointer (some ⟨w.heap.size + 1, 0, none⟩)) rfl rfl (by kernel_rfl) (by kernel_rfl) (by kernel_rfl) (by kernel_rfl) (fun _ _ d _ _ h => by cases d <;> exact h) (fun u hS => by obtain ⟨k4, k5, _⟩ := hS; first | rfl | (unfold execOp; go_simp)) hS0 ?_
    (try simp only [Act.put]); (try simp only [List.getElem_toArray]); (try simp only [List.getElem_cons_succ]); (try simp only [List.getElem_cons_zero]); (try simp only [List.setIfInBounds_toArray]); (try simp only [List.set_cons_succ]); (try simp only [List.set_cons_zero])
    refine any_take (i := 3) (.pointer (some ⟨w.heap.size + 1, 5, none⟩)) rfl rfl (by kernel_rfl) (by kernel_rfl) (by kernel_rfl) (by kernel_rfl) (fun _ _ d _ _ h => by cases d <;> exact h) (fun u hS => by obtain ⟨k4, k5, _⟩ := hS; first | rfl | (unfold execOp; go_simp)) hS0 ?_
    (try simp only [Act.put]); (try simp only [List.getElem_toArray]); (try simp only [List.getElem_cons_succ]); (try simp only [List.getElem_cons_zero]); (try simp only [List.setIfInBounds_toArray]); (try simp only [List.set_cons_succ]); (try simp only [List.set_cons_zero])
    refine any_take (i := 4) (.int .i64 (R.2.eat : Int)) rfl rfl (by kernel_rfl) (by kernel_rfl) (by kernel_rfl) (by kernel_rfl) (fun _ _ d _ _ h => by cases d <;> exact h) (fun u hS => by obtain ⟨k4, k5, _⟩ := hS; first | rfl | (unfold execOp; go_simp)) hS0 ?_
    (try simp only [Act.put]); (try simp only [List.getElem_toArray]); (try simp only [List.getElem_cons_succ]); (try simp only [List.getElem_cons_zero]); (try simp only [List.setIfInBounds_toArray]); (try simp only [List.set_cons_succ]); (try simp only [List.set_cons_zero])
    refine any_take (i := 5) (.pointer (some ⟨w.heap.size + 1, 0, none⟩)) rfl rfl (by kernel_rfl) (by kernel_rfl) (by kernel_rfl) (by kernel_rfl) (fun _ _ d _ _ h => by cases d <;> exact h) (fun u hS => by obtain ⟨k4, k5, _⟩ := hS; first | rfl | (unfold execOp; go_simp)) hS0 ?_
    (try simp only [Act.put]); (try simp only [List.getElem_toArray]); (try simp only [List.getElem_cons_succ]); (try simp only [List.getElem_cons_zero]); (try simp only [List.setIfInBounds_toArray]); (try simp only [List.set_cons_succ]); (try simp only [List.set_cons_zero])
    refine any_take (i := 6) (.pointer (some ⟨w.heap.size + 1, 0, none⟩)) rfl rfl (by kernel_rfl) (by kernel_rfl) (by kernel_rfl) (by kernel_rfl) (fun _ _ d _ _ h => by cases d <;> exact h) (fun u hS => by obtain ⟨k4, k5, _⟩ := hS; first | rfl | (unfold execOp; go_simp)) hS0 ?_
    (try simp only [Act.put]); (try simp only [List.getElem_toArray]); (try simp only [List.getElem_cons_succ]); (try simp only [List.getElem_cons_zero]); (try simp only [List.setIfInBounds_toArray]); (try simp only [List.set_cons_succ]); (try simp only [List.set_cons_zero])
    refine any_take (i := 7) (.pointer (some ⟨w.heap.size + 1, 4, none⟩)) rfl rfl (by kernel_rfl) (by kernel_rfl) (by kernel_rfl) (by kernel_rfl) (fun _ _ d _ _ h => by cases d <;> exact h) (fun u hS => by obtain ⟨k4, k5, _⟩ := hS; first | rfl | (unfold execOp; go_simp)) hS0 ?_
    (try simp only [Act.put]); (try simp only [List.getElem_toArray]); (try simp only [List.getElem_cons_succ]); (try simp only [List.getElem_cons_zero]); (try simp only [List.setIfInBounds_toArray]); (try simp only [List.set_cons_succ]); (try simp only [List.set_cons_zero])
    refine any_take (i := 8) (.int .i64 (R.2.e : Int)) rfl rfl (by kernel_rfl) (by kernel_rfl) (by kernel_rfl) (by kernel_rfl) (fun _ _ d _ _ h => by cases d <;> exact h) (fun u hS => by obtain ⟨k4, k5, _⟩ := hS; first | rfl | (unfold execOp; go_simp)) hS0 ?_
    (try simp only [Act.put]); (try simp only [List.getElem_toArray]); (try simp only [List.getElem_cons_succ]); (try simp only [List.getElem_cons_zero]); (try simp only [List.setIfInBounds_toArray]); (try simp only [List.set_cons_succ]); (try simp only [List.set_cons_zero])
    obtain ⟨k4, k5, v0, v1, v2, v3, hRS⟩ := hS0
    obtain ⟨r0, r1, r2, r3, g0, g1, g2, g3⟩ := cells4 hRS
    refine any_branch [9] (by kernel_rfl) rfl fun ix hix => ?_
    simp only [List.mem_cons, List.not_mem_nil, or_false] at hix
    subst hix
    refine any_op rfl rfl fun K hK => ?_
    go_simp
    have hS1 : (fun u => u.cell? ⟨w.heap.size + 1, 4, none⟩ = some (.int .i64 (R.2.e : Int)) ∧ u.cell? ⟨w.heap.size + 1, 5, none⟩ = some (.int .i64 (R.2.eat : Int)) ∧ ∃ v0 v1 v2 v3, Blk u w.heap.size 36 #[v0, v1, v2, v3]) ((((u0.setCell ⟨w.heap.size, 0, none⟩ (.int .i64 0)).setCell ⟨w.heap.size, 1, none⟩ (.int .i64 0)).setCell ⟨w.heap.size, 2, none⟩ (.int .i64 0)).setCell ⟨w.heap.size, 3, none⟩ (.slice none 0 0)) := ⟨by rw [set_far (.inl (by omega)), set_far (.inl (by omega)), set_far (.inl (by omega)), set_far (.inl (by omega))]; exact k4, by rw [set_far (.inl (by omega)), set_far (.inl (by omega)), set_far (.inl (by omega)), set_far (.inl (by omega))]; exact k5, _, _, _, _, hRS.own4 (.int .i64 0) (.int .i64 0) (.int .i64 0) (.slice none 0 0)⟩
    refine hK _ _ (fun _ => hS1) ?_
    (try simp only [Act.put]); (try simp only [List.getElem_toArray]); (try simp only [List.getElem_cons_succ]); (try simp only [List.getElem_cons_zero]); (try simp only [List.setIfInBounds_toArray]); (try simp only [List.set_cons_succ]); (try simp only [List.set_cons_zero])
    clear hK
    refine any_branch [10] (by kernel_rfl) rfl fun ix hix => ?_
    simp only [List.mem_cons, List.not_mem_nil, or_false] at hix
    subst hix
    refine any_op rfl rfl fun K hK => ?_
    go_simp
    refine hK _ _ (fun _ => hS1) ?_
    (try simp only [Act.put]); (try simp only [List.getElem_toArray]); (try simp only [List.getElem_cons_succ]); (try simp only [List.getElem_cons_zero]); (try simp only [List.setIfInBounds_toArray]); (try simp only [List.set_cons_succ]); (try simp only [List.set_cons_zero])
    clear hK
    refine any_branch [11] (by kernel_rfl) rfl fun ix hix => ?_
    simp only [List.mem_cons, List.not_mem_nil, or_false] at hix
    subst hix
    refine any_op rfl rfl fun K hK => ?_
    go_simp
    refine hK _ _ (fun _ => hS1) ?_
    (try simp only [Act.put]); (try simp only [List.getElem_toArray]); (try simp only [List.getElem_cons_succ]); (try simp only [List.getElem_cons_zero]); (try simp only [List.setIfInBounds_toArray]); (try simp only [List.set_cons_succ]); (try simp only [List.set_cons_zero])
    clear hK
    refine any_end (by kernel_rfl) ?_
    go_wp2_with fail
    have hf := (hR4.own4 (.int .i64 0) (.int .i64 0) (.int .i64 0) (.slice none 0 0))
    clear r0 r1 r2 r3 g0 g1 g2 g3
    obtain ⟨r0, r1, r2, r3, _, _, _, _⟩ := cells4 hf
    refine bodyPost_ret (v := Pv Tr.zero (.slice none 0 0) R.2.eat R.2.e) (by simp [results, Try.results13, go_sem, r0, r1, r2, r3]; rfl) rfl ?_
    rw [HE2.out]
    exact ⟨_, rfl, SlF.nil _ _, (((hB4.setCell (p := ⟨w.heap.size, 0, none⟩) (Nat.le_refl _) _).setCell (p := ⟨w.heap.size, 1, none⟩) (Nat.le_refl _) _).setCell (p := ⟨w.heap.size, 2, none⟩) (Nat.le_refl _) _).setCell (p := ⟨w.heap.size, 3, none⟩) (Nat.le_refl _) _⟩
theorem parse_any (s : ByteArray) (w : World) : Calls Try.prog 13 #[.string s] w (Parsed w (Ex.parse (bl s))) := by
  by_cases h : s.size ≤ 4000
  · exact parse_short s w h
  · exact parse_long s w (by omega)
end Go.Proofs.Ytfgokhafiffbaaa
