/-
  Texts on which the law ExprBinds rests, part 17 of 22.
-/
import Derived.Test.YtfgokhafiffbaaaExprBindsM16
import Derived.WalkKit
/-
  Formulas: the walk of ExprBack.
-/
namespace Go.Proofs.Ytfgokhafiffbaaa
set_option linter.unusedVariables false
open Go.RowKit
section
variable {a : Act} {u : World} {o : Oper} {x y : Operand}
theorem exec_eqS {s : ByteArray} (hop : o.op = .binOp .eql 9 x y 9) (hx : a.eval x = .string s) (hy : a.eval y = .string s) :
    (execOp a.eval o).run Try.prog u = .ok (.value (.bool true)) u := by
  unfold execOp
  simp only [hop, hx, hy]
  go_simp
end
/-- two formulas in boxes -/
structure TwoE (w u : World) (ba bb : Nat) (s t : Tr) (ss st : Value) : Prop where
  be : Below w.heap.size w u
  a : Blk u ba 36 #[.int .i64 s.k, .int .i64 s.a, .int .i64 s.v, ss]
  b : Blk u bb 36 #[.int .i64 t.k, .int .i64 t.a, .int .i64 t.v, st]
  sa : SlF u (fun _ => True) ss s.kids
  sb : SlF u (fun _ => True) st t.kids
theorem TwoE.step {w u u' : World} {ba bb : Nat} {s t : Tr} {ss st : Value} (h : TwoE w u ba bb s t ss st) (hb : Below u.heap.size u u') : TwoE w u' ba bb s t ss st :=
  ⟨h.be.trans (hb.mono h.be.size), h.a.below hb h.a.lt, h.b.below hb h.b.lt, h.sa.below hb, h.sb.below hb⟩
/-- one formula in a box -/
structure OneE (w u : World) (ba : Nat) (s : Tr) (ss : Value) : Prop where
  be : Below w.heap.size w u
  a : Blk u ba 36 #[.int .i64 s.k, .int .i64 s.a, .int .i64 s.v, ss]
  sa : SlF u (fun _ => True) ss s.kids
theorem OneE.step {w u u' : World} {ba : Nat} {s : Tr} {ss : Value} (h : OneE w u ba s ss) (hb : Below u.heap.size u u') : OneE w u' ba s ss :=
  ⟨h.be.trans (hb.mono h.be.size), h.a.below hb h.a.lt, h.sa.below hb⟩
theorem OneE.box {w u : World} {s : Tr} {ss : Value} {B : Nat → Prop} (hb : Below w.heap.size w u) (hs : SlF u B ss s.kids) :
    OneE w (u.alloc (.cells #[.int .i64 s.k, .int .i64 s.a, .int .i64 s.v, ss] 36)) u.heap.size s ss :=
  ⟨hb.alloc hb.size _, boxE _ _ _ _ _, (hs.mono fun _ _ => True.intro).alloc _⟩
theorem OneE.two {w u : World} {ba : Nat} {s t : Tr} {ss st : Value} {B : Nat → Prop} (h : OneE w u ba s ss) (hs : SlF u B st t.kids) :
    TwoE w (u.alloc (.cells #[.int .i64 t.k, .int .i64 t.a, .int .i64 t.v, st] 36)) ba u.heap.size s t ss st :=
  ⟨h.be.alloc h.be.size _, h.a.alloc _, boxE _ _ _ _ _, h.sa.alloc _, (hs.mono fun _ _ => True.intro).alloc _⟩
theorem bl_nl (l : List UInt8) : bl ⟨l.toArray⟩ = nl l := by rw [bl_mk]; rfl
theorem size_mk (l : List UInt8) : (⟨l.toArray⟩ : ByteArray).size = l.length := by simp [ByteArray.size]
set_option maxHeartbeats 8000000 in
theorem back_long (s : ByteArray) (w : World) (h : 2000 < s.size) : Calls Try.prog 5 #[.string s] w fun e w' => e = .returned (.bool true) ∧ Below w.heap.size w w' := by
  have q : (s.size : Int) > 2000 := by omega
  clear h
  go_enter Try.func5, Try.ntmps5
  go_wp2_with fail
  refine (known_any _).mono ?_
  rintro e w1 ⟨rfl, hb⟩
  have HB := Bx.mk hb
  clear hb
  go_wp2_with fail
  go_ret
  exact ⟨rfl, HB.out⟩
set_option maxHeartbeats 8000000 in
theorem back_bad (s : ByteArray) (w : World) (h : s.size ≤ 2000) (at_ e : Nat) (he : e ≠ 0) (ha : at_ ≤ s.size) (hR : Ex.parse (bl s) = (Tr.zero, at_, e)) :
    Calls Try.prog 5 #[.string s] w fun e w' => e = .returned (.bool true) ∧ Below w.heap.size w w' := by
  have q : ¬ (s.size : Int) > 2000 := by omega
  have q1 : ((e : Int) != 0) = true := by rw [bne_iff_ne]; omega
  have q2 : (at_ : Int) ≥ 0 := by omega
  have q3 : (at_ : Int) ≤ s.size := by omega
  have hp := fun u => parse_any s u
  rw [hR] at hp
  have HP := Bx.mk hp
  clear h he ha hR hp
  go_enter Try.func5, Try.ntmps5
  go_wp2_with fail
  refine (known_any _).mono ?_
  rintro e w1 ⟨rfl, hb⟩
  have HB := Bx.mk hb
  clear hb
  go_wp2_with fail
  refine (HP.out _).mono ?_
  rintro e w2 ⟨sl, rfl, hS, hb⟩
  obtain ⟨p1, c1, rfl⟩ := hS.is
  have HO := Bx.mk (OneE.box (s := Tr.zero) (HB.out.trans (hb.mono HB.out.size)) hS)
  obtain ⟨a0, a1, a2, a3, _, _, _, _⟩ := cells4 HO.out.a
  clear hS hb
  unfold Pv Ev
  simp only [show Tr.zero.k = 0 from rfl, show Tr.zero.a = 0 from rfl, show Tr.zero.v = 0 from rfl, show Tr.zero.kids.len = 0 from rfl] at a0 a1 a2 a3 ⊢
  go_wp2_with fail
  go_ret
  exact ⟨rfl, HO.out.be⟩

set_option maxHeartbeats 8000000 in
theorem back_deep (s : ByteArray) (w : World) (h : s.size ≤ 2000) (T T2 : Tr) (at2 e2 : Nat) (P : List UInt8) (hR : Ex.parse (bl s) = (T, 0, 0)) (hT : Ex.is T = true) (hP : Ex.pr T = P) (hR2 : Ex.parse (nl P) = (T2, at2, e2))
    (hc : (4000 < P.length ∧ e2 = 232) ∨ (P.length ≤ 4000 ∧ e2 = 231)) :
    Calls Try.prog 5 #[.string s] w fun e w' => e = .returned (.bool true) ∧ Below w.heap.size w w' := by
  rcases hc with ⟨hc, rfl⟩ | ⟨hc, rfl⟩
  · have q : ¬ (s.size : Int) > 2000 := by omega
    have hp := fun u => parse_any s u
    rw [hR] at hp
    have HP := Bx.mk hp
    have hpr : Ex.print T = P := by unfold Ex.print; rw [hT, if_pos rfl, hP]
    have hp2 := fun u => parse_any ⟨P.toArray⟩ u
    rw [bl_nl, hR2] at hp2
    have HP2 := Bx.mk hp2
    have HPR := Bx.mk hpr
    have HT := Bx.mk hT
    have Q4 := Bx.mk (show decide (4000 < (P.length : Int)) = true from by simp; omega)
    clear h hT hR hp hp2 hR2 hP hpr
    go_enter Try.func5, Try.ntmps5
    go_wp2_with fail
    refine (known_any _).mono ?_
    rintro e w1 ⟨rfl, hb⟩
    have HB := Bx.mk hb
    clear hb
    go_wp2_with fail
    refine (HP.out _).mono ?_
    rintro e w2 ⟨sl, rfl, hS, hb⟩
    obtain ⟨p1, c1, rfl⟩ := hS.is
    have HO := Bx.mk (OneE.box (s := T) (HB.out.trans (hb.mono HB.out.size)) hS)
    obtain ⟨a0, a1, a2, a3, _, _, _, _⟩ := cells4 HO.out.a
    clear hS hb
    unfold Pv Ev
    simp only []
    go_wp2_with fail
    have hq := print_any T _ _ _ HO.out.sa
    rw [HPR.out] at hq
    unfold Ev at hq
    refine hq.mono ?_
    rintro e w3 ⟨rfl, hb⟩
    have HO3 := Bx.mk (HO.out.step hb)
    clear hb hq HO a0 a1 a2 a3
    go_wp2_with fail
    refine (HP2.out _).mono ?_
    rintro e w4 ⟨sl, rfl, hS, hb⟩
    obtain ⟨p2, c2, rfl⟩ := hS.is
    have HW := Bx.mk ((HO3.out.step hb).two hS)
    obtain ⟨a0, a1, a2, a3, _, _, _, _⟩ := cells4 HW.out.a
    obtain ⟨b0, b1, b2, b3, _, _, _, _⟩ := cells4 HW.out.b
    clear hS hb HO3
    unfold Pv Ev
    simp only []
    go_wp2_with fail
    go_ret
    exact ⟨congrArg (fun b => Ending.returned (Value.bool b)) Q4.out, HW.out.be⟩
  · have q : ¬ (s.size : Int) > 2000 := by omega
    have hp := fun u => parse_any s u
    rw [hR] at hp
    have HP := Bx.mk hp
    have hpr : Ex.print T = P := by unfold Ex.print; rw [hT, if_pos rfl, hP]
    have hp2 := fun u => parse_any ⟨P.toArray⟩ u
    rw [bl_nl, hR2] at hp2
    have HP2 := Bx.mk hp2
    have HPR := Bx.mk hpr
    have HT := Bx.mk hT
    have Q4 := Bx.mk (show (!decide (4000 < (P.length : Int))) = true from by simp; omega)
    clear h hT hR hp hp2 hR2 hP hpr
    go_enter Try.func5, Try.ntmps5
    go_wp2_with fail
    refine (known_any _).mono ?_
    rintro e w1 ⟨rfl, hb⟩
    have HB := Bx.mk hb
    clear hb
    go_wp2_with fail
    refine (HP.out _).mono ?_
    rintro e w2 ⟨sl, rfl, hS, hb⟩
    obtain ⟨p1, c1, rfl⟩ := hS.is
    have HO := Bx.mk (OneE.box (s := T) (HB.out.trans (hb.mono HB.out.size)) hS)
    obtain ⟨a0, a1, a2, a3, _, _, _, _⟩ := cells4 HO.out.a
    clear hS hb
    unfold Pv Ev
    simp only []
    go_wp2_with fail
    have hq := print_any T _ _ _ HO.out.sa
    rw [HPR.out] at hq
    unfold Ev at hq
    refine hq.mono ?_
    rintro e w3 ⟨rfl, hb⟩
    have HO3 := Bx.mk (HO.out.step hb)
    clear hb hq HO a0 a1 a2 a3
    go_wp2_with fail
    refine (HP2.out _).mono ?_
    rintro e w4 ⟨sl, rfl, hS, hb⟩
    obtain ⟨p2, c2, rfl⟩ := hS.is
    have HW := Bx.mk ((HO3.out.step hb).two hS)
    obtain ⟨a0, a1, a2, a3, _, _, _, _⟩ := cells4 HW.out.a
    obtain ⟨b0, b1, b2, b3, _, _, _, _⟩ := cells4 HW.out.b
    clear hS hb HO3
    unfold Pv Ev
    simp only []
    go_wp2_with fail
    go_ret
    exact ⟨congrArg (fun b => Ending.returned (Value.bool b)) Q4.out, HW.out.be⟩
set_option maxHeartbeats 16000000 in
theorem back_same (s : ByteArray) (w : World) (h : s.size ≤ 2000) (T T2 : Tr) (P : List UInt8) (hR : Ex.parse (bl s) = (T, 0, 0)) (hT : Ex.is T = true) (hP : Ex.pr T = P) (hR2 : Ex.parse (nl P) = (T2, 0, 0)) (hS : Ex.same T T2 = true) :
    Calls Try.prog 5 #[.string s] w fun e w' => e = .returned (.bool true) ∧ Below w.heap.size w w' := by
  have hsa := Ex.same_all hS
  have HSM := Bx.mk hS
  have HP2R := Bx.mk (show Ex.print T2 = P from by unfold Ex.print; rw [← hsa.2.2, hT, if_pos rfl, ← hsa.1, hP])
  have HFN := Bx.mk (show Ex.func T2 = Ex.func T from by unfold Ex.func; rw [← hsa.2.2, hsa.2.1])
  have HN := Bx.mk (Ex.is_nodes hT).1
  clear hS hsa
  have q : ¬ (s.size : Int) > 2000 := by omega
  have hp := fun u => parse_any s u
  rw [hR] at hp
  have HP := Bx.mk hp
  have hpr : Ex.print T = P := by unfold Ex.print; rw [hT, if_pos rfl, hP]
  have hp2 := fun u => parse_any ⟨P.toArray⟩ u
  rw [bl_nl, hR2] at hp2
  have HP2 := Bx.mk hp2
  have HPR := Bx.mk hpr
  have HT := Bx.mk hT
  skip
  clear h hT hR hp hp2 hR2 hP hpr
  go_enter Try.func5, Try.ntmps5
  go_wp2_with fail
  refine (known_any _).mono ?_
  rintro e w1 ⟨rfl, hb⟩
  have HB := Bx.mk hb
  clear hb
  go_wp2_with fail
  refine (HP.out _).mono ?_
  rintro e w2 ⟨sl, rfl, hS, hb⟩
  obtain ⟨p1, c1, rfl⟩ := hS.is
  have HO := Bx.mk (OneE.box (s := T) (HB.out.trans (hb.mono HB.out.size)) hS)
  obtain ⟨a0, a1, a2, a3, _, _, _, _⟩ := cells4 HO.out.a
  clear hS hb
  unfold Pv Ev
  simp only []
  go_wp2_with fail
  have hq := print_any T _ _ _ HO.out.sa
  rw [HPR.out] at hq
  unfold Ev at hq
  refine hq.mono ?_
  rintro e w3 ⟨rfl, hb⟩
  have HO3 := Bx.mk (HO.out.step hb)
  clear hb hq HO a0 a1 a2 a3
  go_wp2_with fail
  refine (HP2.out _).mono ?_
  rintro e w4 ⟨sl, rfl, hS, hb⟩
  obtain ⟨p2, c2, rfl⟩ := hS.is
  have HW := Bx.mk ((HO3.out.step hb).two hS)
  obtain ⟨a0, a1, a2, a3, _, _, _, _⟩ := cells4 HW.out.a
  obtain ⟨b0, b1, b2, b3, _, _, _, _⟩ := cells4 HW.out.b
  clear hS hb HO3
  unfold Pv Ev
  simp only []
  go_wp2_with fail
  refine region_any 100 (fun u => TwoE w u w2.heap.size w4.heap.size T T2 (.slice p1 T.kids.len c1) (.slice p2 T2.kids.len c2)) (by kernel_rfl) ?_
  generalize hu : World.drew _ = u0
  have hq0 := HW.out.step ((Below.refl _ _).drew)
  rw [hu] at hq0
  clear hu a0 a1 a2 a3 b0 b1 b2 b3
  refine any_take (i := 0) (.int .i64 0) rfl rfl (by kernel_rfl) (by kernel_rfl) (by kernel_rfl) (by kernel_rfl) (fun _ _ d _ _ h => by cases d <;> exact h) (fun u hS => rfl) hq0 ?_
  (try simp only [Act.put]); (try simp only [List.getElem_toArray]); (try simp only [List.getElem_cons_succ]); (try simp only [List.getElem_cons_zero]); (try simp only [List.setIfInBounds_toArray]); (try simp only [List.set_cons_succ]); (try simp only [List.set_cons_zero])
  refine any_take (i := 1) (.bool true) rfl rfl (by kernel_rfl) (by kernel_rfl) (by kernel_rfl) (by kernel_rfl) (fun _ _ d _ _ h => by cases d <;> exact h) (fun u hS => rfl) hq0 ?_
  (try simp only [Act.put]); (try simp only [List.getElem_toArray]); (try simp only [List.getElem_cons_succ]); (try simp only [List.getElem_cons_zero]); (try simp only [List.setIfInBounds_toArray]); (try simp only [List.set_cons_succ]); (try simp only [List.set_cons_zero])
  refine any_take (i := 2) (.bool true) rfl rfl (by kernel_rfl) (by kernel_rfl) (by kernel_rfl) (by kernel_rfl) (fun _ _ d _ _ h => by cases d <;> exact h) (fun u hS => rfl) hq0 ?_
  (try simp only [Act.put]); (try simp only [List.getElem_toArray]); (try simp only [List.getElem_cons_succ]); (try simp only [List.getElem_cons_zero]); (try simp only [List.setIfInBounds_toArray]); (try simp only [List.set_cons_succ]); (try simp only [List.set_cons_zero])
  refine any_take (i := 3) (Ev T (.slice p1 T.kids.len c1)) rfl rfl (by kernel_rfl) (by kernel_rfl) (by kernel_rfl) (by kernel_rfl) (fun _ _ d _ _ h => by cases d <;> exact h) (fun u hS => by exact exec_loadE rfl rfl hS.a) hq0 ?_
  (try simp only [Act.put]); (try simp only [List.getElem_toArray]); (try simp only [List.getElem_cons_succ]); (try simp only [List.getElem_cons_zero]); (try simp only [List.setIfInBounds_toArray]); (try simp only [List.set_cons_succ]); (try simp only [List.set_cons_zero])
  refine any_take (i := 4) (Ev T2 (.slice p2 T2.kids.len c2)) rfl rfl (by kernel_rfl) (by kernel_rfl) (by kernel_rfl) (by kernel_rfl) (fun _ _ d _ _ h => by cases d <;> exact h) (fun u hS => by exact exec_loadE rfl rfl hS.b) hq0 ?_
  (try simp only [Act.put]); (try simp only [List.getElem_toArray]); (try simp only [List.getElem_cons_succ]); (try simp only [List.getElem_cons_zero]); (try simp only [List.setIfInBounds_toArray]); (try simp only [List.set_cons_succ]); (try simp only [List.set_cons_zero])
  refine any_branch [5] (by kernel_rfl) rfl fun ix hix => ?_
  simp only [List.mem_cons, List.not_mem_nil, or_false] at hix
  subst hix
  refine any_op rfl rfl fun K hK => ?_
  go_simp
  have hc := same_any T T2 _ _ _ _ u0 (by have := HN.out; omega) hq0.sa hq0.sb
  rw [HSM.out] at hc
  refine hc.mono ?_
  rintro e u1 ⟨rfl, hb⟩
  have hq1 := hq0.step hb
  refine hK _ _ (fun _ => hq1) ?_
  (try simp only [Act.put]); (try simp only [List.getElem_toArray]); (try simp only [List.getElem_cons_succ]); (try simp only [List.getElem_cons_zero]); (try simp only [List.setIfInBounds_toArray]); (try simp only [List.set_cons_succ]); (try simp only [List.set_cons_zero])
  clear hK
  refine any_take (i := 6) (.bool true) rfl rfl (by kernel_rfl) (by kernel_rfl) (by kernel_rfl) (by kernel_rfl) (fun _ _ d _ _ h => by cases d <;> exact h) (fun u hS => rfl) hq1 ?_
  (try simp only [Act.put]); (try simp only [List.getElem_toArray]); (try simp only [List.getElem_cons_succ]); (try simp only [List.getElem_cons_zero]); (try simp only [List.setIfInBounds_toArray]); (try simp only [List.set_cons_succ]); (try simp only [List.set_cons_zero])
  refine any_take (i := 7) (.bool true) rfl rfl (by kernel_rfl) (by kernel_rfl) (by kernel_rfl) (by kernel_rfl) (fun _ _ d _ _ h => by cases d <;> exact h) (fun u hS => rfl) hq1 ?_
  (try simp only [Act.put]); (try simp only [List.getElem_toArray]); (try simp only [List.getElem_cons_succ]); (try simp only [List.getElem_cons_zero]); (try simp only [List.setIfInBounds_toArray]); (try simp only [List.set_cons_succ]); (try simp only [List.set_cons_zero])
  refine any_take (i := 8) (Ev T2 (.slice p2 T2.kids.len c2)) rfl rfl (by kernel_rfl) (by kernel_rfl) (by kernel_rfl) (by kernel_rfl) (fun _ _ d _ _ h => by cases d <;> exact h) (fun u hS => by exact exec_loadE rfl rfl hS.b) hq1 ?_
  (try simp only [Act.put]); (try simp only [List.getElem_toArray]); (try simp only [List.getElem_cons_succ]); (try simp only [List.getElem_cons_zero]); (try simp only [List.setIfInBounds_toArray]); (try simp only [List.set_cons_succ]); (try simp only [List.set_cons_zero])
  refine any_take (i := 10) (.string ⟨P.toArray⟩) rfl rfl (by kernel_rfl) (by kernel_rfl) (by kernel_rfl) (by kernel_rfl) (fun _ _ d _ _ h => by cases d <;> exact h) (fun u hS => rfl) hq1 ?_
  (try simp only [Act.put]); (try simp only [List.getElem_toArray]); (try simp only [List.getElem_cons_succ]); (try simp only [List.getElem_cons_zero]); (try simp only [List.setIfInBounds_toArray]); (try simp only [List.set_cons_succ]); (try simp only [List.set_cons_zero])
  refine any_branch [9] (by kernel_rfl) rfl fun ix hix => ?_
  simp only [List.mem_cons, List.not_mem_nil, or_false] at hix
  subst hix
  refine any_op rfl rfl fun K hK => ?_
  go_simp
  have hc := print_any T2 _ _ u1 hq1.sb
  rw [HP2R.out] at hc
  refine hc.mono ?_
  rintro e u2 ⟨rfl, hb⟩
  have hq2 := hq1.step hb
  refine hK _ _ (fun _ => hq2) ?_
  (try simp only [Act.put]); (try simp only [List.getElem_toArray]); (try simp only [List.getElem_cons_succ]); (try simp only [List.getElem_cons_zero]); (try simp only [List.setIfInBounds_toArray]); (try simp only [List.set_cons_succ]); (try simp only [List.set_cons_zero])
  clear hK
  refine any_take (i := 11) (.bool true) rfl rfl (by kernel_rfl) (by kernel_rfl) (by kernel_rfl) (by kernel_rfl) (fun _ _ d _ _ h => by cases d <;> exact h) (fun u hS => exec_eqS rfl rfl rfl) hq2 ?_
  (try simp only [Act.put]); (try simp only [List.getElem_toArray]); (try simp only [List.getElem_cons_succ]); (try simp only [List.getElem_cons_zero]); (try simp only [List.setIfInBounds_toArray]); (try simp only [List.set_cons_succ]); (try simp only [List.set_cons_zero])
  refine any_take (i := 12) (.bool true) rfl rfl (by kernel_rfl) (by kernel_rfl) (by kernel_rfl) (by kernel_rfl) (fun _ _ d _ _ h => by cases d <;> exact h) (fun u hS => rfl) hq2 ?_
  (try simp only [Act.put]); (try simp only [List.getElem_toArray]); (try simp only [List.getElem_cons_succ]); (try simp only [List.getElem_cons_zero]); (try simp only [List.setIfInBounds_toArray]); (try simp only [List.set_cons_succ]); (try simp only [List.set_cons_zero])
  refine any_take (i := 13) (.bool true) rfl rfl (by kernel_rfl) (by kernel_rfl) (by kernel_rfl) (by kernel_rfl) (fun _ _ d _ _ h => by cases d <;> exact h) (fun u hS => rfl) hq2 ?_
  (try simp only [Act.put]); (try simp only [List.getElem_toArray]); (try simp only [List.getElem_cons_succ]); (try simp only [List.getElem_cons_zero]); (try simp only [List.setIfInBounds_toArray]); (try simp only [List.set_cons_succ]); (try simp only [List.set_cons_zero])
  refine any_take (i := 14) (Ev T2 (.slice p2 T2.kids.len c2)) rfl rfl (by kernel_rfl) (by kernel_rfl) (by kernel_rfl) (by kernel_rfl) (fun _ _ d _ _ h => by cases d <;> exact h) (fun u hS => by exact exec_loadE rfl rfl hS.b) hq2 ?_
  (try simp only [Act.put]); (try simp only [List.getElem_toArray]); (try simp only [List.getElem_cons_succ]); (try simp only [List.getElem_cons_zero]); (try simp only [List.setIfInBounds_toArray]); (try simp only [List.set_cons_succ]); (try simp only [List.set_cons_zero])
  refine any_take (i := 16) (Ev T (.slice p1 T.kids.len c1)) rfl rfl (by kernel_rfl) (by kernel_rfl) (by kernel_rfl) (by kernel_rfl) (fun _ _ d _ _ h => by cases d <;> exact h) (fun u hS => by exact exec_loadE rfl rfl hS.a) hq2 ?_
  (try simp only [Act.put]); (try simp only [List.getElem_toArray]); (try simp only [List.getElem_cons_succ]); (try simp only [List.getElem_cons_zero]); (try simp only [List.setIfInBounds_toArray]); (try simp only [List.set_cons_succ]); (try simp only [List.set_cons_zero])
  refine any_branch [15] (by kernel_rfl) rfl fun ix hix => ?_
  simp only [List.mem_cons, List.not_mem_nil, or_false] at hix
  subst hix
  refine any_op rfl rfl fun K hK => ?_
  go_simp
  have hc := func_any T2 _ _ u2 hq2.sb
  rw [HFN.out] at hc
  refine hc.mono ?_
  rintro e u3 ⟨rfl, hb⟩
  have hq3 := hq2.step hb
  refine hK _ _ (fun _ => hq3) ?_
  (try simp only [Act.put]); (try simp only [List.getElem_toArray]); (try simp only [List.getElem_cons_succ]); (try simp only [List.getElem_cons_zero]); (try simp only [List.setIfInBounds_toArray]); (try simp only [List.set_cons_succ]); (try simp only [List.set_cons_zero])
  clear hK
  refine any_branch [17] (by kernel_rfl) rfl fun ix hix => ?_
  simp only [List.mem_cons, List.not_mem_nil, or_false] at hix
  subst hix
  refine any_op rfl rfl fun K hK => ?_
  go_simp
  have hc := func_any T _ _ u3 hq3.sa
  refine hc.mono ?_
  rintro e u4 ⟨rfl, hb⟩
  have hq4 := hq3.step hb
  refine hK _ _ (fun _ => hq4) ?_
  (try simp only [Act.put]); (try simp only [List.getElem_toArray]); (try simp only [List.getElem_cons_succ]); (try simp only [List.getElem_cons_zero]); (try simp only [List.setIfInBounds_toArray]); (try simp only [List.set_cons_succ]); (try simp only [List.set_cons_zero])
  clear hK
  refine any_take (i := 18) (.bool true) rfl rfl (by kernel_rfl) (by kernel_rfl) (by kernel_rfl) (by kernel_rfl) (fun _ _ d _ _ h => by cases d <;> exact h) (fun u hS => exec_eqT rfl rfl rfl rfl) hq4 ?_
  (try simp only [Act.put]); (try simp only [List.getElem_toArray]); (try simp only [List.getElem_cons_succ]); (try simp only [List.getElem_cons_zero]); (try simp only [List.setIfInBounds_toArray]); (try simp only [List.set_cons_succ]); (try simp only [List.set_cons_zero])
  refine any_take (i := 19) (.bool true) rfl rfl (by kernel_rfl) (by kernel_rfl) (by kernel_rfl) (by kernel_rfl) (fun _ _ d _ _ h => by cases d <;> exact h) (fun u hS => rfl) hq4 ?_
  (try simp only [Act.put]); (try simp only [List.getElem_toArray]); (try simp only [List.getElem_cons_succ]); (try simp only [List.getElem_cons_zero]); (try simp only [List.setIfInBounds_toArray]); (try simp only [List.set_cons_succ]); (try simp only [List.set_cons_zero])
  refine any_branch [20] (by kernel_rfl) rfl fun ix hix => ?_
  simp only [List.mem_cons, List.not_mem_nil, or_false] at hix
  subst hix
  refine any_op rfl rfl fun K hK => ?_
  go_simp
  refine hK _ _ (fun _ => hq4) ?_
  (try simp only [Act.put]); (try simp only [List.getElem_toArray]); (try simp only [List.getElem_cons_succ]); (try simp only [List.getElem_cons_zero]); (try simp only [List.setIfInBounds_toArray]); (try simp only [List.set_cons_succ]); (try simp only [List.set_cons_zero])
  clear hK
  refine any_end (by kernel_rfl) ?_
  have HF := Bx.mk hq4.be
  clear hq0 hq1 hq2 hq3 hq4
  go_wp2_with fail
  go_ret
  exact ⟨rfl, HF.out⟩
theorem back_any (s : ByteArray) (w : World) : Calls Try.prog 5 #[.string s] w fun e w' => e = .returned (.bool true) ∧ Below w.heap.size w w' := by
  by_cases h : 2000 < s.size
  · exact back_long s w h
  have h : s.size ≤ 2000 := by omega
  obtain ⟨g1, g2⟩ := Ex.parse_good (bl s) (fun x hx => bl_lt hx) (by rw [bl_length]; omega)
  rw [bl_length] at g2
  rcases hR : Ex.parse (bl s) with ⟨T, at_, e⟩
  rw [hR] at g1 g2
  simp only [] at g1 g2
  by_cases he : e = 0
  · subst he
    obtain ⟨rfl, hT⟩ := g1 rfl
    obtain ⟨hn, hpl⟩ := Ex.is_nodes hT
    rcases hR2 : Ex.parse (nl (Ex.pr T)) with ⟨T2, at2, e2⟩
    by_cases hl : 4000 < (Ex.pr T).length
    · have := Ex.parse_long (l := nl (Ex.pr T)) (by unfold nl; simpa using hl)
      rw [hR2] at this
      exact back_deep s w h T T2 at2 e2 _ hR hT rfl hR2 (.inl ⟨hl, this⟩)
    · rcases Ex.back hpl (by omega) with hb | ⟨hb, hs⟩
      · rw [hR2] at hb
        exact back_deep s w h T T2 at2 e2 _ hR hT rfl hR2 (.inr ⟨by omega, hb⟩)
      · have h0 := Ex.parse_at (nl (Ex.pr T)) hb
        rw [hR2] at hb hs h0
        simp only [] at hb hs h0
        subst hb h0
        exact back_same s w h T T2 _ hR hT rfl hR2 hs
  · obtain ⟨rfl, ha⟩ := g2 he
    exact back_bad s w h at_ e he ha hR
end Go.Proofs.Ytfgokhafiffbaaa

/-
  Formulas of the document: Same, Vars.
-/
namespace Go.Proofs.Ytfgokhafiffbaaa
set_option linter.unusedVariables false
open Go.RowKit
section
variable {a : Act} {u : World} {o : Oper} {x y : Operand}
theorem exec_ixG {b o_ n c i : Nat} (hi : i < n) (hop : o.op = .indexAddr 34 x y) (hx : a.eval x = .slice (some ⟨b, o_, none⟩) n c) (hy : a.eval y = .int .i64 (i : Int)) :
    (execOp a.eval o).run Try.prog u = .ok (.value (.pointer (some ⟨b, o_ + i * 4, none⟩))) u := by
  have h1 : (i : Int) < (n : Int) := by omega
  unfold execOp
  simp only [hop, hx, hy]
  go_simp
end
/-- two boxes of formulas at the head of a call -/
structure B2 (w u : World) (s t : Tr) (ss st : Value) : Prop where
  be : Below w.heap.size w u
  a : Blk u w.heap.size 36 #[.int .i64 s.k, .int .i64 s.a, .int .i64 s.v, ss]
  b : Blk u (w.heap.size + 1) 36 #[.int .i64 t.k, .int .i64 t.a, .int .i64 t.v, st]
theorem B2.step {w u u' : World} {s t : Tr} {ss st : Value} (h : B2 w u s t ss st) (hb : Below u.heap.size u u') : B2 w u' s t ss st :=
  ⟨h.be.trans (hb.mono h.be.size), h.a.below hb h.a.lt, h.b.below hb h.b.lt⟩
/-- what is known of the document's Same for what has so few nodes -/
def S2z (n : Nat) : Prop := ∀ (a b : Tr) (sa sb : Value) (Ba Bb : Nat → Prop) (u : World), (a.on .nil).nodes ≤ n → SlF u Ba sa a.kids → SlF u Bb sb b.kids →
  Calls Try.prog 20 #[Ev a sa, Ev b sb] u fun e w' => e = .returned (.bool (Ex.same a b)) ∧ Below u.heap.size u w'
set_option maxHeartbeats 16000000 in
theorem S2z.succ (n : Nat) (hn1 : n ≤ 1000000) (ih : S2z n) : S2z (n + 1) := by
  intro s t ss st Bs Bt w hn hs ht
  obtain ⟨p, cap, b, o, rfl, hp, hc, hr⟩ := hs
  obtain ⟨p', cap', b', o', rfl, hp', hc', hr'⟩ := ht
  rw [Fo.nodes_on] at hn
  have hb2 : B2 w ((w.alloc (.cells #[.int .i64 s.k, .int .i64 s.a, .int .i64 s.v, .slice p s.kids.len cap] 36)).alloc (.cells #[.int .i64 t.k, .int .i64 t.a, .int .i64 t.v, .slice p' t.kids.len cap'] 36)) s t (.slice p s.kids.len cap) (.slice p' t.kids.len cap') := by
    refine ⟨((Below.refl w.heap.size w).alloc (Nat.le_refl _) _).alloc (by rw [alloc_size]; omega) _, (boxE _ _ _ _ _).alloc _, ?_⟩
    have := boxE (w.alloc (.cells #[.int .i64 s.k, .int .i64 s.a, .int .i64 s.v, .slice p s.kids.len cap] 36)) t.k t.a t.v (.slice p' t.kids.len cap')
    rw [alloc_size] at this
    exact this
  obtain ⟨c0, c1, c2, c3, _, _, _, _⟩ := cells4 hb2.a
  obtain ⟨d0, d1, d2, d3, _, _, _, _⟩ := cells4 hb2.b
  have HB := Bx.mk hb2
  have HK := Bx.mk (KL.start hb2.be hr.lows)
  have HL := Bx.mk (KL.start hb2.be hr'.lows)
  have HP : Bx ((s.kids.len ≠ 0 → p = some ⟨b, o, none⟩) ∧ (t.kids.len ≠ 0 → p' = some ⟨b', o', none⟩)) := ⟨by
    constructor
    · intro h
      rcases hp with ⟨e, _⟩ | e
      · exact absurd (by rw [e]; rfl) h
      · exact e
    · intro h
      rcases hp' with ⟨e, _⟩ | e
      · exact absurd (by rw [e]; rfl) h
      · exact e⟩
  have hlb := Fo.len_nodes s.kids
  have HLB := Bx.mk (show s.kids.len ≤ 1000000 from by omega)
  have HN := Bx.mk hn
  have IH := Bx.mk ih
  clear hb2 hp hc hr hp' hc' hr' hlb hn ih
  unfold Ev
  by_cases hk : s.k = t.k
  · have q1 : (s.k == t.k) = true := by rw [beq_iff_eq]; exact hk
    have q1' : (s.k != t.k) = false := by rw [bne_eq_false_iff_eq]; exact hk
    by_cases hv : s.v = t.v
    · have q2 : (s.v == t.v) = true := by rw [beq_iff_eq]; exact hv
      have q2' : (s.v != t.v) = false := by rw [bne_eq_false_iff_eq]; exact hv
      have HS := Bx.mk (show Ex.same s t = Fo.same s.kids t.kids from by unfold Ex.same; rw [decide_eq_true hk, decide_eq_true hv]; rfl)
      by_cases hl : s.kids.len = t.kids.len
      · have q3 : ((s.kids.len : Int) != (t.kids.len : Int)) = false := by rw [bne_eq_false_iff_eq]; omega
        have HLL := Bx.mk hl
        clear hk hv hl
        go_enter Try.func20, Try.ntmps20
        go_wp2_with fail
        go_loopw [5] (fun j wr => ∃ (i : Nat) (F2 G2 : Fo), j = .int .i64 (i : Int) ∧ Bx (Fo.same s.kids t.kids = Fo.same F2 G2) ∧ KL w wr b o i s.kids F2 ∧ KL w wr b' o' i t.kids G2 ∧ B2 w wr s t (.slice p s.kids.len cap) (.slice p' t.kids.len cap')) (fun j _ => s.kids.len - (intOf j).toNat)
        case atStart => exact ⟨0, s.kids, t.kids, rfl, ⟨rfl⟩, HK.out, HL.out, HB.out⟩
        case round =>
          clear HK HL HB c0 c1 c2 c3 d0 d1 d2 d3
          obtain ⟨i, F2, G2, rfl, HV, hK, hL, hB⟩ := hrel
          have HK := Bx.mk hK
          have HL := Bx.mk hL
          have HB := Bx.mk hB
          obtain ⟨c0, c1, c2, c3, _, _, _, _⟩ := cells4 hB.a
          obtain ⟨d0, d1, d2, d3, _, _, _, _⟩ := cells4 hB.b
          clear hK hL hB
          cases F2 with
          | nil =>
            have q : ¬ (i : Int) < (s.kids.len : Int) := by have := HK.out.lf; simp only [Fo.len] at this; omega
            have hG2 : G2 = .nil := Fo.len0 (by have h1 := HK.out.lf; have h2 := HL.out.lf; have h3 := HLL.out; simp only [Fo.len] at h1; omega)
            subst hG2
            go_wp2_with fail
            go_ret
            exact ⟨by rw [HS.out, HV.out]; rfl, HB.out.be⟩
          | cons k a v kids rest =>
            cases G2 with
            | nil => exact absurd HLL.out (by have h1 := HK.out.lf; have h2 := HL.out.lf; simp only [Fo.len] at h1 h2; omega)
            | cons k' a' v' kids' rest' =>
              obtain ⟨sx, Kx, hnn, hil, hnext⟩ := HK.out.next
              obtain ⟨sy, Ky, hnn', hil', hnext'⟩ := HL.out.next
              have q : (i : Int) < (s.kids.len : Int) := by omega
              have hp1 := HP.out.1 (by omega)
              have hp2 := HP.out.2 (by omega)
              subst hp1 hp2
              have BKx := Bx.mk Kx
              have BKy := Bx.mk Ky
              have hib : -9223372036854775808 ≤ (i : Int) + 1 ∧ (i : Int) + 1 ≤ 9223372036854775807 := by have := HLB.out; omega
              have hw : wrap64 ((i : Int) + 1) = (i : Int) + 1 := w64 _ hib
              have HNX := Bx.mk hnext
              have HNX' := Bx.mk hnext'
              have HI := Bx.mk fun u' (h : B2 w u' s t (.slice (some ⟨b, o, none⟩) s.kids.len cap) (.slice (some ⟨b', o', none⟩) t.kids.len cap')) =>
                IH.out ⟨k, a, v, kids⟩ ⟨k', a', v', kids'⟩ sx sy _ _ u' (by have := HN.out; rw [Fo.nodes_on]; simp only [show Fo.nil.nodes = 0 from rfl] at this ⊢; omega) (Kx.below h.be).2.2.2.2 (Ky.below h.be).2.2.2.2
              have HIL := Bx.mk hil
              have HIL' := Bx.mk hil'
              clear Kx Ky hnn hnn' hil hil' hnext hnext' hib
              go_wp2_with fail
              refine region_any 100 (fun u => B2 w u s t (.slice (some ⟨b, o, none⟩) s.kids.len cap) (.slice (some ⟨b', o', none⟩) t.kids.len cap')) (by kernel_rfl) ?_
              generalize hu : World.drew _ = u0
              have hq0 := HB.out.step ((Below.refl _ _).drew)
              rw [hu] at hq0
              have hbd : Below wr.heap.size wr u0 := by rw [← hu]; exact (Below.refl _ _).drew
              clear hu c0 c1 c2 c3 d0 d1 d2 d3
              refine any_take (i := 0) (.pointer (some ⟨w.heap.size, 3, none⟩)) rfl rfl (by kernel_rfl) (by kernel_rfl) (by kernel_rfl) (by kernel_rfl) (fun _ _ d _ _ h => by cases d <;> exact h) (fun u hS => rfl) hq0 ?_
              (try simp only [Act.put]); (try simp only [List.getElem_toArray]); (try simp only [List.getElem_cons_succ]); (try simp only [List.getElem_cons_zero]); (try simp only [List.setIfInBounds_toArray]); (try simp only [List.set_cons_succ]); (try simp only [List.set_cons_zero])
              refine any_take (i := 1) (.slice (some ⟨b, o, none⟩) s.kids.len cap) rfl rfl (by kernel_rfl) (by kernel_rfl) (by kernel_rfl) (by kernel_rfl) (fun _ _ d _ _ h => by cases d <;> exact h) (fun u hS => exec_loadS rfl rfl (hS.a.cell 3)) hq0 ?_
              (try simp only [Act.put]); (try simp only [List.getElem_toArray]); (try simp only [List.getElem_cons_succ]); (try simp only [List.getElem_cons_zero]); (try simp only [List.setIfInBounds_toArray]); (try simp only [List.set_cons_succ]); (try simp only [List.set_cons_zero])
              refine any_take (i := 2) (.int .i64 (i : Int)) rfl rfl (by kernel_rfl) (by kernel_rfl) (by kernel_rfl) (by kernel_rfl) (fun _ _ d _ _ h => by cases d <;> exact h) (fun u hS => rfl) hq0 ?_
              (try simp only [Act.put]); (try simp only [List.getElem_toArray]); (try simp only [List.getElem_cons_succ]); (try simp only [List.getElem_cons_zero]); (try simp only [List.setIfInBounds_toArray]); (try simp only [List.set_cons_succ]); (try simp only [List.set_cons_zero])
              refine any_take (i := 3) (.pointer (some ⟨b, o + i * 4, none⟩)) rfl rfl (by kernel_rfl) (by kernel_rfl) (by kernel_rfl) (by kernel_rfl) (fun _ _ d _ _ h => by cases d <;> exact h) (fun u hS => exec_ixG HIL.out rfl rfl rfl) hq0 ?_
              (try simp only [Act.put]); (try simp only [List.getElem_toArray]); (try simp only [List.getElem_cons_succ]); (try simp only [List.getElem_cons_zero]); (try simp only [List.setIfInBounds_toArray]); (try simp only [List.set_cons_succ]); (try simp only [List.set_cons_zero])
              refine any_take (i := 4) (Ev ⟨k, a, v, kids⟩ sx) rfl rfl (by kernel_rfl) (by kernel_rfl) (by kernel_rfl) (by kernel_rfl) (fun _ _ d _ _ h => by cases d <;> exact h) (fun u hS => by obtain ⟨x0, x1, x2, x3, _⟩ := BKx.out.below hS.be; exact exec_loadX rfl rfl x0 x1 x2 x3) hq0 ?_
              (try simp only [Act.put]); (try simp only [List.getElem_toArray]); (try simp only [List.getElem_cons_succ]); (try simp only [List.getElem_cons_zero]); (try simp only [List.setIfInBounds_toArray]); (try simp only [List.set_cons_succ]); (try simp only [List.set_cons_zero])
              refine any_take (i := 5) (.pointer (some ⟨w.heap.size + 1, 3, none⟩)) rfl rfl (by kernel_rfl) (by kernel_rfl) (by kernel_rfl) (by kernel_rfl) (fun _ _ d _ _ h => by cases d <;> exact h) (fun u hS => rfl) hq0 ?_
              (try simp only [Act.put]); (try simp only [List.getElem_toArray]); (try simp only [List.getElem_cons_succ]); (try simp only [List.getElem_cons_zero]); (try simp only [List.setIfInBounds_toArray]); (try simp only [List.set_cons_succ]); (try simp only [List.set_cons_zero])
              refine any_take (i := 6) (.slice (some ⟨b', o', none⟩) t.kids.len cap') rfl rfl (by kernel_rfl) (by kernel_rfl) (by kernel_rfl) (by kernel_rfl) (fun _ _ d _ _ h => by cases d <;> exact h) (fun u hS => exec_loadS rfl rfl (hS.b.cell 3)) hq0 ?_
              (try simp only [Act.put]); (try simp only [List.getElem_toArray]); (try simp only [List.getElem_cons_succ]); (try simp only [List.getElem_cons_zero]); (try simp only [List.setIfInBounds_toArray]); (try simp only [List.set_cons_succ]); (try simp only [List.set_cons_zero])
              refine any_take (i := 7) (.int .i64 (i : Int)) rfl rfl (by kernel_rfl) (by kernel_rfl) (by kernel_rfl) (by kernel_rfl) (fun _ _ d _ _ h => by cases d <;> exact h) (fun u hS => rfl) hq0 ?_
              (try simp only [Act.put]); (try simp only [List.getElem_toArray]); (try simp only [List.getElem_cons_succ]); (try simp only [List.getElem_cons_zero]); (try simp only [List.setIfInBounds_toArray]); (try simp only [List.set_cons_succ]); (try simp only [List.set_cons_zero])
              refine any_take (i := 8) (.pointer (some ⟨b', o' + i * 4, none⟩)) rfl rfl (by kernel_rfl) (by kernel_rfl) (by kernel_rfl) (by kernel_rfl) (fun _ _ d _ _ h => by cases d <;> exact h) (fun u hS => exec_ixG HIL'.out rfl rfl rfl) hq0 ?_
              (try simp only [Act.put]); (try simp only [List.getElem_toArray]); (try simp only [List.getElem_cons_succ]); (try simp only [List.getElem_cons_zero]); (try simp only [List.setIfInBounds_toArray]); (try simp only [List.set_cons_succ]); (try simp only [List.set_cons_zero])
              refine any_take (i := 9) (Ev ⟨k', a', v', kids'⟩ sy) rfl rfl (by kernel_rfl) (by kernel_rfl) (by kernel_rfl) (by kernel_rfl) (fun _ _ d _ _ h => by cases d <;> exact h) (fun u hS => by obtain ⟨x0, x1, x2, x3, _⟩ := BKy.out.below hS.be; exact exec_loadX rfl rfl x0 x1 x2 x3) hq0 ?_
              (try simp only [Act.put]); (try simp only [List.getElem_toArray]); (try simp only [List.getElem_cons_succ]); (try simp only [List.getElem_cons_zero]); (try simp only [List.setIfInBounds_toArray]); (try simp only [List.set_cons_succ]); (try simp only [List.set_cons_zero])
              refine any_branch [10] (by kernel_rfl) rfl fun ix hix => ?_
              simp only [List.mem_cons, List.not_mem_nil, or_false] at hix
              subst hix
              refine any_op rfl rfl fun K hK => ?_
              go_simp
              refine (HI.out u0 hq0).mono ?_
              rintro e u1 ⟨rfl, hb⟩
              have hq1 := hq0.step hb
              have hbt := hbd.trans (hb.mono hbd.size)
              refine hK _ _ (fun _ => hq1) ?_
              (try simp only [Act.put]); (try simp only [List.getElem_toArray]); (try simp only [List.getElem_cons_succ]); (try simp only [List.getElem_cons_zero]); (try simp only [List.setIfInBounds_toArray]); (try simp only [List.set_cons_succ]); (try simp only [List.set_cons_zero])
              clear hK
              refine any_take (i := 11) ((.bool (!Ex.same ⟨k, a, v, kids⟩ ⟨k', a', v', kids'⟩))) rfl rfl (by kernel_rfl) (by kernel_rfl) (by kernel_rfl) (by kernel_rfl) (fun _ _ d _ _ h => by cases d <;> exact h) (fun u hS => rfl) hq1 ?_
              (try simp only [Act.put]); (try simp only [List.getElem_toArray]); (try simp only [List.getElem_cons_succ]); (try simp only [List.getElem_cons_zero]); (try simp only [List.setIfInBounds_toArray]); (try simp only [List.set_cons_succ]); (try simp only [List.set_cons_zero])
              refine any_end (by kernel_rfl) ?_
              have HU := Bx.mk (HNX.out u1 hbt)
              have HU' := Bx.mk (HNX'.out u1 hbt)
              have HB1 := Bx.mk hq1
              have hvv : Bx (Fo.same s.kids t.kids = (Ex.same ⟨k, a, v, kids⟩ ⟨k', a', v', kids'⟩ && Fo.same rest rest')) := ⟨by rw [HV.out]; exact Fo.same_on ⟨k, a, v, kids⟩ ⟨k', a', v', kids'⟩ rest rest'⟩
              clear hq0 hq1 hbd hbt hb HNX HNX' HI BKx BKy
              cases hs : Ex.same ⟨k, a, v, kids⟩ ⟨k', a', v', kids'⟩ with
              | false =>
                have hv : Bx (Fo.same s.kids t.kids = false) := ⟨by rw [hvv.out, hs]; rfl⟩
                clear hs
                go_wp2_with fail
                go_ret
                exact ⟨by rw [HS.out, hv.out]; rfl, HB1.out.be⟩
              | true =>
                have hv : Bx (Fo.same s.kids t.kids = Fo.same rest rest') := ⟨by rw [hvv.out, hs]; rfl⟩
                clear hs
                go_wp2_with fail
                refine ⟨⟨i + 1, rest, rest', by go_num, hv, HU.out, HU'.out, HB1.out⟩, ?_⟩
                rw [intOf_i, intOf_i, hw]
                have := HIL.out
                clear hw
                omega
      · have q3 : ((s.kids.len : Int) != (t.kids.len : Int)) = true := by rw [bne_iff_ne]; omega
        have HF := Bx.mk (Fo.same_len _ _ hl)
        clear hk hv hl HK HL HN IH HP
        go_enter Try.func20, Try.ntmps20
        go_wp2_with fail
        go_ret
        exact ⟨by rw [HS.out, HF.out]; rfl, HB.out.be⟩
    · have q2 : (s.v == t.v) = false := by rw [beq_eq_false_iff_ne]; exact hv
      have q2' : (s.v != t.v) = true := by rw [bne_iff_ne]; exact hv
      have HS := Bx.mk (show Ex.same s t = false from by unfold Ex.same; rw [decide_eq_false hv]; simp)
      clear hk hv HK HL HN IH HP
      go_enter Try.func20, Try.ntmps20
      go_wp2_with fail
      go_ret
      exact ⟨by rw [HS.out]; rfl, HB.out.be⟩
  · have q1 : (s.k == t.k) = false := by rw [beq_eq_false_iff_ne]; exact hk
    have q1' : (s.k != t.k) = true := by rw [bne_iff_ne]; exact hk
    have HS := Bx.mk (show Ex.same s t = false from by unfold Ex.same; rw [decide_eq_false hk]; simp)
    clear hk HK HL HN IH HP
    go_enter Try.func20, Try.ntmps20
    go_wp2_with fail
    go_ret
    exact ⟨by rw [HS.out]; rfl, HB.out.be⟩
theorem S2z.all : ∀ n, n ≤ 1000000 → S2z n
  | 0, _ => fun a b sa sb Ba Bb u h => by rw [Fo.nodes_on] at h; omega
  | n + 1, h => S2z.succ n (by omega) (S2z.all n (by omega))
theorem rsame_any (a b : Tr) (sa sb : Value) (Ba Bb : Nat → Prop) (u : World) (hn : (a.on .nil).nodes ≤ 1000000) (ha : SlF u Ba sa a.kids) (hb : SlF u Bb sb b.kids) :
    Calls Try.prog 20 #[Ev a sa, Ev b sb] u fun e w' => e = .returned (.bool (Ex.same a b)) ∧ Below u.heap.size u w' := S2z.all _ (Nat.le_refl _) a b sa sb Ba Bb u hn ha hb
end Go.Proofs.Ytfgokhafiffbaaa

/-
  The plain mathematics of packing and mixing bits: no program in sight.
-/
namespace Go.Proofs.Ytfgokhafiffbaaa
set_option linter.unusedVariables false
namespace Bt

def xsB (b : BitVec 64) : BitVec 64 := b ^^^ (b >>> 33)
def mixB (b : BitVec 64) : BitVec 64 := xsB (xsB (xsB b * 0xff51afd7ed558ccd#64) * 0xc4ceb9fe1a85ec53#64)
/-- what Mix computes -/
def mix (x : Int) : Int := ((mixB (BitVec.ofInt 64 x)).toNat : Int)

theorem mix_lo (x : Int) : 0 ≤ mix x := by unfold mix; omega
theorem mix_hi (x : Int) : mix x < 18446744073709551616 := by
  unfold mix; have := (mixB (BitVec.ofInt 64 x)).isLt; omega

theorem ofInt_toNat (b : BitVec 64) : BitVec.ofInt 64 (b.toNat : Int) = b := by
  rw [BitVec.ofInt_natCast, BitVec.ofNat_toNat, BitVec.setWidth_eq]

theorem ofInt_inj {x y : Int} (h0 : 0 ≤ x) (h1 : x < 18446744073709551616) (g0 : 0 ≤ y) (g1 : y < 18446744073709551616) (h : BitVec.ofInt 64 x = BitVec.ofInt 64 y) : x = y := by
  have := congrArg BitVec.toNat h
  simp only [BitVec.toNat_ofInt] at this
  omega

theorem toNat_ofInt {x : Int} (h0 : 0 ≤ x) (h1 : x < 18446744073709551616) : ((BitVec.ofInt 64 x).toNat : Int) = x := by
  simp only [BitVec.toNat_ofInt]; omega

theorem shift33 (b : BitVec 64) : (b.toNat : Int) / (8589934592 : Int) = ((b >>> 33).toNat : Int) := by
  rw [BitVec.toNat_ushiftRight, Nat.shiftRight_eq_div_pow]; rfl

theorem xs_bits (b : BitVec 64) : bits .xor .u64 (b.toNat : Int) ((b.toNat : Int) / (8589934592 : Int)) = ((xsB b).toNat : Int) := by
  rw [shift33, bits_xor_u64_nat _ _ b.isLt (b >>> 33).isLt, xsB, BitVec.toNat_xor]

theorem mul_bits (b : BitVec 64) (c : Nat) : IntKind.u64.wrap ((b.toNat : Int) * (c : Int)) = ((b * BitVec.ofNat 64 c).toNat : Int) := by
  rw [IntKind.wrap_u64, BitVec.toNat_mul, BitVec.toNat_ofNat]
  rw [Nat.mul_mod_mod]
  omega

/-- the steps of the walk of Mix, as it leaves them -/
theorem mix_walk {x : Int} (h0 : 0 ≤ x) (h1 : x < 18446744073709551616) :
    bits .xor .u64
      (IntKind.u64.wrap (bits .xor .u64 (IntKind.u64.wrap (bits .xor .u64 x (x / 8589934592) * 18397679294719823053)) (IntKind.u64.wrap (bits .xor .u64 x (x / 8589934592) * 18397679294719823053) / 8589934592) * 14181476777654086739))
      (IntKind.u64.wrap (bits .xor .u64 (IntKind.u64.wrap (bits .xor .u64 x (x / 8589934592) * 18397679294719823053)) (IntKind.u64.wrap (bits .xor .u64 x (x / 8589934592) * 18397679294719823053) / 8589934592) * 14181476777654086739) / 8589934592) = mix x := by
  obtain ⟨b, rfl⟩ : ∃ b : BitVec 64, x = (b.toNat : Int) := ⟨BitVec.ofInt 64 x, (toNat_ofInt h0 h1).symm⟩
  have e1 : IntKind.u64.wrap (((xsB b).toNat : Int) * (18397679294719823053 : Int)) = _ := mul_bits (xsB b) 18397679294719823053
  have e2 : IntKind.u64.wrap (((xsB (xsB b * 18397679294719823053#64)).toNat : Int) * (14181476777654086739 : Int)) = _ := mul_bits (xsB (xsB b * 18397679294719823053#64)) 14181476777654086739
  rw [xs_bits, e1, xs_bits, e2, xs_bits, mix, ofInt_toNat]
  rfl

/-! ### counting -/
def pcF : Nat → Nat → Nat
  | 0, _ => 0
  | f + 1, n => n % 2 + pcF f (n / 2)
/-- how many bits are set -/
def pc (n : Nat) : Nat := pcF 64 n

theorem pcF_zero (f : Nat) : pcF f 0 = 0 := by
  induction f with
  | zero => rfl
  | succ f ih => simp [pcF, ih]

theorem pcF_le (f n : Nat) : pcF f n ≤ f := by
  induction f generalizing n with
  | zero => simp [pcF]
  | succ f ih => have := ih (n / 2); simp only [pcF]; omega

theorem pc_le (n : Nat) : pc n ≤ 64 := pcF_le 64 n

theorem land_even (k j : Nat) : (2 * k) &&& (2 * j + 1) = 2 * (k &&& j) := by
  apply Nat.eq_of_testBit_eq
  intro i
  cases i with
  | zero => simp [Nat.testBit_zero]
  | succ i => rw [Nat.testBit_and, Nat.testBit_succ, Nat.testBit_succ, Nat.testBit_succ, show 2 * k / 2 = k from by omega, show (2 * j + 1) / 2 = j from by omega, show 2 * (k &&& j) / 2 = k &&& j from by omega, Nat.testBit_and]

theorem land_odd (k : Nat) : (2 * k + 1) &&& (2 * k) = 2 * k := by
  rw [Nat.and_comm, land_even, Nat.and_self]

/-- the lowest bit goes -/
theorem pcF_drop (f : Nat) : ∀ n, 0 < n → n < 2 ^ f → pcF f (n &&& (n - 1)) + 1 = pcF f n := by
  induction f with
  | zero => intro n h0 h1; simp at h1; omega
  | succ f ih =>
    intro n h0 h1
    rcases Nat.mod_two_eq_zero_or_one n with h | h
    · obtain ⟨k, rfl⟩ : ∃ k, n = 2 * k := ⟨n / 2, by omega⟩
      obtain ⟨j, rfl⟩ : ∃ j, k = j + 1 := ⟨k - 1, by omega⟩
      rw [show 2 * (j + 1) - 1 = 2 * j + 1 from by omega, land_even]
      have e := ih (j + 1) (by omega) (by rw [Nat.pow_succ] at h1; omega)
      rw [show j + 1 - 1 = j from rfl] at e
      simp only [pcF]
      rw [show 2 * (j + 1 &&& j) % 2 = 0 from by omega, show 2 * (j + 1 &&& j) / 2 = (j + 1 &&& j) from by omega, show 2 * (j + 1) % 2 = 0 from by omega, show 2 * (j + 1) / 2 = j + 1 from by omega]
      omega
    · obtain ⟨k, rfl⟩ : ∃ k, n = 2 * k + 1 := ⟨n / 2, by omega⟩
      rw [show 2 * k + 1 - 1 = 2 * k from by omega, land_odd]
      simp only [pcF]
      rw [show 2 * k / 2 = k from by omega, show (2 * k + 1) / 2 = k from by omega]
      omega

theorem pc_drop (n : Nat) (h0 : 0 < n) (h1 : n < 18446744073709551616) : pc (n &&& (n - 1)) + 1 = pc n := pcF_drop 64 n h0 (by omega)

theorem and_lt_self (n : Nat) (h0 : 0 < n) : n &&& (n - 1) < n := by
  have := @Nat.and_le_right n (n - 1)
  omega

theorem drop_bits (y : Nat) (h0 : 0 < y) (h1 : y < 18446744073709551616) : bits .and .u64 (y : Int) (IntKind.u64.wrap ((y : Int) - 1)) = ((y &&& (y - 1) : Nat) : Int) := by
  rw [IntKind.wrap_u64, show (((y : Int) - 1) % 18446744073709551616) = ((y - 1 : Nat) : Int) from by omega]
  exact bits_and_u64_nat _ _ h1 (by omega)

/-- all bits but some: the complement has the others -/
theorem pcF_compl (f : Nat) : ∀ n, n < 2 ^ f → pcF f n + pcF f (2 ^ f - 1 - n) = f := by
  induction f with
  | zero => intro n h; simp [pcF]
  | succ f ih =>
    intro n h
    have e := ih (n / 2) (by rw [Nat.pow_succ] at h; omega)
    rw [Nat.pow_succ] at h ⊢
    simp only [pcF]
    rw [show (2 ^ f * 2 - 1 - n) / 2 = 2 ^ f - 1 - n / 2 from by omega]
    omega

/-- counting bit by bit from the lowest on -/
theorem pcF_shift (f : Nat) : ∀ n, n < 2 ^ (f + 1) → pcF (f + 1) n = n % 2 + pcF (f + 1) (n / 2) := by
  induction f with
  | zero => intro n h; simp only [Nat.zero_add, Nat.pow_one] at h; simp only [pcF]; omega
  | succ f ih =>
    intro n h
    have e := ih (n / 2) (by rw [Nat.pow_succ] at h; omega)
    show n % 2 + pcF (f + 1) (n / 2) = _
    rw [e]
    rfl

theorem pc_shift (n : Nat) (h : n < 18446744073709551616) : pc n = n % 2 + pc (n / 2) := pcF_shift 63 n (by omega)

/-! ### spreading and gathering -/
def spreadTo (x : Int) : Nat → Int
  | 0 => 0
  | k + 1 => bits .or .u16 (spreadTo x k) (IntKind.u16.wrap (IntKind.u16.wrap (bits .and .u8 (x / 2 ^ k) 1) * 2 ^ (2 * k)))
/-- what Spread computes -/
def spread (x : Int) : Int := spreadTo x 8
def gatherTo (x : Int) : Nat → Int
  | 0 => 0
  | k + 1 => bits .or .u8 (gatherTo x k) (bits .and .u16 (x / 2 ^ (2 * k)) 1 % 256 * 2 ^ k % 256)
/-- what Gather computes -/
def gather (x : Int) : Int := gatherTo x 8

def bit (x i : Nat) : Nat := x / 2 ^ i % 2
def spN (x : Nat) : Nat := bit x 0 + bit x 1 * 4 + bit x 2 * 16 + bit x 3 * 64 + bit x 4 * 256 + bit x 5 * 1024 + bit x 6 * 4096 + bit x 7 * 16384
def gaN (x : Nat) : Nat := bit x 0 + bit x 2 * 2 + bit x 4 * 4 + bit x 6 * 8 + bit x 8 * 16 + bit x 10 * 32 + bit x 12 * 64 + bit x 14 * 128

theorem spread_small : ∀ x : Nat, x < 256 → spread (x : Int) = (spN x : Int) := by decide +kernel

theorem spN_lt (x : Nat) : spN x < 21846 := by unfold spN bit; omega
theorem gaN_lt (x : Nat) : gaN x < 256 := by unfold gaN bit; omega

theorem or_u8_nat (a b : Nat) (ha : a < 256) (hb : b < 256) : bits .or .u8 (a : Int) (b : Int) = ((a ||| b : Nat) : Int) := by
  have h1 : (BitVec.ofInt 8 (a : Int)).toNat = a := by rw [BitVec.ofInt_natCast, BitVec.toNat_ofNat]; exact Nat.mod_eq_of_lt (by omega)
  have h2 : (BitVec.ofInt 8 (b : Int)).toNat = b := by rw [BitVec.ofInt_natCast, BitVec.toNat_ofNat]; exact Nat.mod_eq_of_lt (by omega)
  have hx : a ||| b < 2 ^ 8 := Nat.or_lt_two_pow (by omega) (by omega)
  show IntKind.u8.wrap ((BitVec.ofInt 8 (a : Int) ||| BitVec.ofInt 8 (b : Int)).toNat : Int) = _
  rw [BitVec.toNat_or, h1, h2]
  simp only [IntKind.wrap, IntKind.bits, IntKind.signed]
  simp
  omega

theorem and_u16_nat (a b : Nat) (ha : a < 65536) (hb : b < 65536) : bits .and .u16 (a : Int) (b : Int) = ((a &&& b : Nat) : Int) := by
  have h1 : (BitVec.ofInt 16 (a : Int)).toNat = a := by rw [BitVec.ofInt_natCast, BitVec.toNat_ofNat]; exact Nat.mod_eq_of_lt (by omega)
  have h2 : (BitVec.ofInt 16 (b : Int)).toNat = b := by rw [BitVec.ofInt_natCast, BitVec.toNat_ofNat]; exact Nat.mod_eq_of_lt (by omega)
  have hx : a &&& b < 2 ^ 16 := Nat.and_lt_two_pow _ (by omega)
  show IntKind.u16.wrap ((BitVec.ofInt 16 (a : Int) &&& BitVec.ofInt 16 (b : Int)).toNat : Int) = _
  rw [BitVec.toNat_and, h1, h2]
  simp only [IntKind.wrap, IntKind.bits, IntKind.signed]
  simp
  omega

def gN (x : Nat) : Nat → Nat
  | 0 => 0
  | k + 1 => gN x k + bit x (2 * k) * 2 ^ k

theorem bit_le (x i : Nat) : bit x i ≤ 1 := by unfold bit; omega

theorem gN_lt (x k : Nat) : gN x k < 2 ^ k := by
  induction k with
  | zero => simp [gN]
  | succ k ih =>
    have hb := bit_le x (2 * k)
    have h2 : bit x (2 * k) * 2 ^ k ≤ 1 * 2 ^ k := Nat.mul_le_mul_right _ hb
    simp only [gN, Nat.pow_succ]
    omega

theorem gatherTo_nat (x : Nat) (hx : x < 65536) (k : Nat) (hk : k ≤ 8) : gatherTo (x : Int) k = (gN x k : Int) := by
  induction k with
  | zero => rfl
  | succ k ih =>
    have hb := bit_le x (2 * k)
    have hp : 2 ^ k ≤ 128 := by
      have := Nat.pow_le_pow_right (n := 2) (by omega) (show k ≤ 7 from by omega)
      simpa using this
    have h2 : bit x (2 * k) * 2 ^ k ≤ 1 * 2 ^ k := Nat.mul_le_mul_right _ hb
    have hlt := gN_lt x k
    have hd : (x : Int) / 2 ^ (2 * k) = ((x / 2 ^ (2 * k) : Nat) : Int) := by
      rw [Int.natCast_ediv]; congr 1
    have hdl : x / 2 ^ (2 * k) ≤ x := Nat.div_le_self _ _
    simp only [gatherTo]
    rw [ih (by omega), hd]
    have e1 := and_u16_nat (x / 2 ^ (2 * k)) 1 (by omega) (by omega)
    rw [Nat.and_one_is_mod] at e1
    rw [show ((1 : Nat) : Int) = 1 from rfl] at e1
    rw [e1]
    rw [show (x / 2 ^ (2 * k) % 2) = bit x (2 * k) from rfl]
    have e2 : ((bit x (2 * k) : Nat) : Int) % 256 * 2 ^ k % 256 = ((bit x (2 * k) * 2 ^ k : Nat) : Int) := by
      rw [Int.emod_eq_of_lt (a := ((bit x (2 * k) : Nat) : Int)) (by omega) (by omega)]
      rw [show ((bit x (2 * k) : Nat) : Int) * 2 ^ k = ((bit x (2 * k) * 2 ^ k : Nat) : Int) from by rw [Int.natCast_mul, Int.natCast_pow]; rfl]
      omega
    rw [e2, or_u8_nat _ _ (by omega) (by omega)]
    simp only [gN]
    have e3 := Nat.two_pow_add_eq_or_of_lt hlt (bit x (2 * k))
    rw [Nat.mul_comm, Nat.or_comm] at e3
    rw [Nat.add_comm, e3, Nat.mul_comm]

theorem gN_eight (x : Nat) : gN x 8 = gaN x := by
  simp only [gN, gaN, Nat.mul_zero, Nat.pow_zero, Nat.mul_one, Nat.zero_add]

theorem gather_small (x : Nat) (hx : x < 65536) : gather (x : Int) = (gaN x : Int) := by
  unfold gather; rw [gatherTo_nat x hx 8 (by omega), gN_eight]

theorem gaN_spN : ∀ y : Nat, y < 256 → gaN (spN y) = y := by decide +kernel
theorem pc_spN : ∀ y : Nat, y < 256 → pc (spN y) = pc y := by decide +kernel
theorem spN_odd : ∀ y : Nat, y < 256 → spN y &&& 43690 = 0 := by decide +kernel

theorem bit_testBit (x i : Nat) : bit x i = (x.testBit i).toNat := by
  unfold bit
  rw [Nat.testBit_eq_decide_div_mod_eq]
  rcases Nat.mod_two_eq_zero_or_one (x / 2 ^ i) with h | h <;> simp [h]

theorem spN_testBit : ∀ y : Nat, y < 256 → ∀ j : Nat, j < 16 → (spN y).testBit j = (j % 2 == 0 && y.testBit (j / 2)) := by decide +kernel
theorem spN_step : ∀ y : Nat, y < 255 → spN y < spN (y + 1) := by decide +kernel

theorem testBit_hi (n j : Nat) (h : n < 65536) (hj : 16 ≤ j) : n.testBit j = false := by
  apply Nat.testBit_lt_two_pow
  have := Nat.pow_le_pow_right (n := 2) (by omega) hj
  omega

theorem spN_all (y : Nat) (hy : y < 256) (j : Nat) : (spN y).testBit j = (decide (j < 16) && (j % 2 == 0 && y.testBit (j / 2))) := by
  by_cases h : j < 16
  · rw [spN_testBit y hy j h]; simp [h]
  · have := spN_lt y
    rw [testBit_hi _ _ (by omega) (by omega)]; simp [h]

theorem spN_and (a b : Nat) (ha : a < 256) (hb : b < 256) : spN (a &&& b) = spN a &&& spN b := by
  apply Nat.eq_of_testBit_eq
  intro j
  rw [Nat.testBit_and, spN_all _ (by have := @Nat.and_le_left a b; omega), spN_all a ha, spN_all b hb, Nat.testBit_and]
  cases decide (j < 16) <;> cases (j % 2 == 0) <;> simp

theorem spN_or (a b : Nat) (ha : a < 256) (hb : b < 256) : spN (a ||| b) = spN a ||| spN b := by
  apply Nat.eq_of_testBit_eq
  intro j
  rw [Nat.testBit_or, spN_all _ (Nat.or_lt_two_pow (n := 8) (by omega) (by omega)), spN_all a ha, spN_all b hb, Nat.testBit_or]
  cases decide (j < 16) <;> cases (j % 2 == 0) <;> simp

theorem spN_xor (a b : Nat) (ha : a < 256) (hb : b < 256) : spN (a ^^^ b) = spN a ^^^ spN b := by
  apply Nat.eq_of_testBit_eq
  intro j
  rw [Nat.testBit_xor, spN_all _ (Nat.xor_lt_two_pow (n := 8) (by omega) (by omega)), spN_all a ha, spN_all b hb, Nat.testBit_xor]
  cases decide (j < 16) <;> cases (j % 2 == 0) <;> simp

theorem spN_mono (a b : Nat) (hb : b < 256) (h : a < b) : spN a < spN b := by
  induction b with
  | zero => omega
  | succ b ih =>
    have h1 := spN_step b (by omega)
    by_cases e : a = b
    · subst e; exact h1
    · have := ih (by omega) (by omega); omega

theorem spN_lt_iff (a b : Nat) (ha : a < 256) (hb : b < 256) : spN a < spN b ↔ a < b := by
  constructor
  · intro h
    by_cases e : a < b
    · exact e
    · by_cases e2 : a = b
      · subst e2; omega
      · have := spN_mono b a ha (by omega); omega
  · exact spN_mono a b hb

theorem gaN_of_bits (z a : Nat) (ha : a < 256) (h : ∀ i, i < 8 → z.testBit (2 * i) = a.testBit i) : gaN z = a := by
  have e : ∀ i, i < 8 → bit z (2 * i) = bit a i := fun i hi => by rw [bit_testBit, bit_testBit, h i hi]
  have e0 := e 0 (by omega)
  have e1 := e 1 (by omega)
  have e2 := e 2 (by omega)
  have e3 := e 3 (by omega)
  have e4 := e 4 (by omega)
  have e5 := e 5 (by omega)
  have e6 := e 6 (by omega)
  have e7 := e 7 (by omega)
  simp only [Nat.mul_zero, Nat.mul_one, Nat.reduceMul] at e0 e1 e2 e3 e4 e5 e6 e7
  unfold gaN
  rw [e0, e1, e2, e3, e4, e5, e6, e7]
  unfold bit
  omega

theorem two_testBit (n j : Nat) : (2 * n).testBit (j + 1) = n.testBit j := by
  rw [Nat.testBit_succ, show 2 * n / 2 = n from by omega]

theorem two_testBit0 (n : Nat) : (2 * n).testBit 0 = false := by simp [Nat.testBit_zero]

/-- what is spread and laid on the even places is gathered, whatever lies on the odd ones -/
theorem ga_even (a b : Nat) (ha : a < 256) (hb : b < 256) : gaN (spN a ||| 2 * spN b) = a := by
  refine gaN_of_bits _ a ha fun i hi => ?_
  rw [Nat.testBit_or, spN_all a ha]
  have : (2 * spN b).testBit (2 * i) = false := by
    cases i with
    | zero => exact two_testBit0 _
    | succ i => rw [show 2 * (i + 1) = (2 * i + 1) + 1 from by omega, two_testBit, spN_all b hb]; simp [show (2 * i + 1) % 2 = 1 from by omega]
  rw [this, show 2 * i / 2 = i from by omega, show (2 * i) % 2 = 0 from by omega]
  simp [show 2 * i < 16 from by omega]

theorem ga_odd (a b : Nat) (ha : a < 256) (hb : b < 256) : gaN ((spN a ||| 2 * spN b) / 2) = b := by
  refine gaN_of_bits _ b hb fun i hi => ?_
  rw [← Nat.testBit_succ, Nat.testBit_or, spN_all a ha, two_testBit, spN_all b hb, show 2 * i / 2 = i from by omega, show (2 * i) % 2 = 0 from by omega, show (2 * i + 1) % 2 = 1 from by omega]
  simp [show 2 * i < 16 from by omega]

theorem and_u8_nat (a b : Nat) (ha : a < 256) (hb : b < 256) : bits .and .u8 (a : Int) (b : Int) = ((a &&& b : Nat) : Int) := by
  have h1 : (BitVec.ofInt 8 (a : Int)).toNat = a := by rw [BitVec.ofInt_natCast, BitVec.toNat_ofNat]; exact Nat.mod_eq_of_lt (by omega)
  have h2 : (BitVec.ofInt 8 (b : Int)).toNat = b := by rw [BitVec.ofInt_natCast, BitVec.toNat_ofNat]; exact Nat.mod_eq_of_lt (by omega)
  have hx : a &&& b < 2 ^ 8 := Nat.and_lt_two_pow _ (by omega)
  show IntKind.u8.wrap ((BitVec.ofInt 8 (a : Int) &&& BitVec.ofInt 8 (b : Int)).toNat : Int) = _
  rw [BitVec.toNat_and, h1, h2]
  simp only [IntKind.wrap, IntKind.bits, IntKind.signed]
  simp
  omega

theorem xor_u8_nat (a b : Nat) (ha : a < 256) (hb : b < 256) : bits .xor .u8 (a : Int) (b : Int) = ((a ^^^ b : Nat) : Int) := by
  have h1 : (BitVec.ofInt 8 (a : Int)).toNat = a := by rw [BitVec.ofInt_natCast, BitVec.toNat_ofNat]; exact Nat.mod_eq_of_lt (by omega)
  have h2 : (BitVec.ofInt 8 (b : Int)).toNat = b := by rw [BitVec.ofInt_natCast, BitVec.toNat_ofNat]; exact Nat.mod_eq_of_lt (by omega)
  have hx : a ^^^ b < 2 ^ 8 := Nat.xor_lt_two_pow (by omega) (by omega)
  show IntKind.u8.wrap ((BitVec.ofInt 8 (a : Int) ^^^ BitVec.ofInt 8 (b : Int)).toNat : Int) = _
  rw [BitVec.toNat_xor, h1, h2]
  simp only [IntKind.wrap, IntKind.bits, IntKind.signed]
  simp
  omega

theorem or_u16_nat (a b : Nat) (ha : a < 65536) (hb : b < 65536) : bits .or .u16 (a : Int) (b : Int) = ((a ||| b : Nat) : Int) := by
  have h1 : (BitVec.ofInt 16 (a : Int)).toNat = a := by rw [BitVec.ofInt_natCast, BitVec.toNat_ofNat]; exact Nat.mod_eq_of_lt (by omega)
  have h2 : (BitVec.ofInt 16 (b : Int)).toNat = b := by rw [BitVec.ofInt_natCast, BitVec.toNat_ofNat]; exact Nat.mod_eq_of_lt (by omega)
  have hx : a ||| b < 2 ^ 16 := Nat.or_lt_two_pow (by omega) (by omega)
  show IntKind.u16.wrap ((BitVec.ofInt 16 (a : Int) ||| BitVec.ofInt 16 (b : Int)).toNat : Int) = _
  rw [BitVec.toNat_or, h1, h2]
  simp only [IntKind.wrap, IntKind.bits, IntKind.signed]
  simp
  omega

theorem xor_u16_nat (a b : Nat) (ha : a < 65536) (hb : b < 65536) : bits .xor .u16 (a : Int) (b : Int) = ((a ^^^ b : Nat) : Int) := by
  have h1 : (BitVec.ofInt 16 (a : Int)).toNat = a := by rw [BitVec.ofInt_natCast, BitVec.toNat_ofNat]; exact Nat.mod_eq_of_lt (by omega)
  have h2 : (BitVec.ofInt 16 (b : Int)).toNat = b := by rw [BitVec.ofInt_natCast, BitVec.toNat_ofNat]; exact Nat.mod_eq_of_lt (by omega)
  have hx : a ^^^ b < 2 ^ 16 := Nat.xor_lt_two_pow (by omega) (by omega)
  show IntKind.u16.wrap ((BitVec.ofInt 16 (a : Int) ^^^ BitVec.ofInt 16 (b : Int)).toNat : Int) = _
  rw [BitVec.toNat_xor, h1, h2]
  simp only [IntKind.wrap, IntKind.bits, IntKind.signed]
  simp
  omega

/-! ### packing -/
theorem and_u32_nat (a b : Nat) (ha : a < 4294967296) (hb : b < 4294967296) : bits .and .u32 (a : Int) (b : Int) = ((a &&& b : Nat) : Int) := by
  have h1 : (BitVec.ofInt 32 (a : Int)).toNat = a := by rw [BitVec.ofInt_natCast, BitVec.toNat_ofNat]; exact Nat.mod_eq_of_lt (by omega)
  have h2 : (BitVec.ofInt 32 (b : Int)).toNat = b := by rw [BitVec.ofInt_natCast, BitVec.toNat_ofNat]; exact Nat.mod_eq_of_lt (by omega)
  have hx : a &&& b < 2 ^ 32 := Nat.and_lt_two_pow _ (by omega)
  show IntKind.u32.wrap ((BitVec.ofInt 32 (a : Int) &&& BitVec.ofInt 32 (b : Int)).toNat : Int) = _
  rw [BitVec.toNat_and, h1, h2]
  simp only [IntKind.wrap, IntKind.bits, IntKind.signed]
  simp
  omega

theorem mask28_u32 {a : Int} (h0 : 0 ≤ a) (h1 : a < 4294967296) : bits .and .u32 a 268435455 = a % 268435456 := by
  obtain ⟨n, rfl⟩ := Int.eq_ofNat_of_zero_le h0
  have e := and_u32_nat n 268435455 (by omega) (by omega)
  have e2 := Nat.and_two_pow_sub_one_eq_mod n 28
  rw [show (2 : Nat) ^ 28 - 1 = 268435455 from rfl] at e2
  rw [e2] at e
  rw [show ((268435455 : Nat) : Int) = 268435455 from rfl] at e
  rw [e]; omega

theorem mask28_u64 {a : Int} (h0 : 0 ≤ a) (h1 : a < 18446744073709551616) : bits .and .u64 a 268435455 = a % 268435456 := by
  obtain ⟨n, rfl⟩ := Int.eq_ofNat_of_zero_le h0
  have e := bits_and_u64_nat n 268435455 (by omega) (by omega)
  have e2 := Nat.and_two_pow_sub_one_eq_mod n 28
  rw [show (2 : Nat) ^ 28 - 1 = 268435455 from rfl] at e2
  rw [e2] at e
  rw [show ((268435455 : Nat) : Int) = 268435455 from rfl] at e
  rw [e]; omega

/-- or of parts that don't meet is their sum -/
theorem or_sum (hi lo k : Nat) (hlo : lo < 2 ^ k) (h : 2 ^ k * hi + lo < 18446744073709551616) : bits .or .u64 ((2 ^ k * hi : Nat) : Int) (lo : Int) = ((2 ^ k * hi + lo : Nat) : Int) := by
  rw [bits_or_u64_nat _ _ (by omega) (by omega), ← Nat.two_pow_add_eq_or_of_lt hlo hi]

/-- what Node computes -/
def node (l a b : Int) : Int := l * 72057594037927936 + (a % 268435456) * 268435456 + b % 268435456

theorem node_walk {l a b : Int} (h0 : 0 ≤ l) (h1 : l < 256) (h2 : 0 ≤ a) (h3 : a < 4294967296) (h4 : 0 ≤ b) (h5 : b < 4294967296) :
    bits .or .u64 (bits .or .u64 (l * 72057594037927936) (IntKind.u64.wrap (IntKind.u64.wrap (bits .and .u32 a 268435455) * 268435456))) (IntKind.u64.wrap (bits .and .u32 b 268435455)) = node l a b := by
  rw [mask28_u32 h2 h3, mask28_u32 h4 h5]
  simp only [IntKind.wrap_u64]
  obtain ⟨l, rfl⟩ := Int.eq_ofNat_of_zero_le h0
  obtain ⟨a, rfl⟩ := Int.eq_ofNat_of_zero_le h2
  obtain ⟨b, rfl⟩ := Int.eq_ofNat_of_zero_le h4
  have e1 := or_sum l (a % 268435456 * 268435456) 56 (by omega) (by omega)
  have e2 := or_sum (l * 268435456 + a % 268435456) (b % 268435456) 28 (by omega) (by omega)
  rw [show ((l : Int) * 72057594037927936) = ((2 ^ 56 * l : Nat) : Int) from by omega,
    show ((a : Int) % 268435456 % 18446744073709551616 * 268435456 % 18446744073709551616) = ((a % 268435456 * 268435456 : Nat) : Int) from by omega,
    show ((b : Int) % 268435456 % 18446744073709551616) = ((b % 268435456 : Nat) : Int) from by omega]
  rw [e1, show (2 ^ 56 * l + a % 268435456 * 268435456 : Nat) = 2 ^ 28 * (l * 268435456 + a % 268435456) from by omega, e2]
  unfold node
  omega

theorem node_lo {l a b : Int} (h0 : 0 ≤ l) : 0 ≤ node l a b := by unfold node; omega
theorem node_hi {l a b : Int} (h1 : l < 256) : node l a b < 18446744073709551616 := by unfold node; omega

theorem node_inj {l a b l' a' b' : Int} (h : node l a b = node l' a' b') : l = l' ∧ a % 268435456 = a' % 268435456 ∧ b % 268435456 = b' % 268435456 := by
  unfold node at h; omega

/-! ### mixing is undone -/
theorem xs_xs (b : BitVec 64) : xsB (xsB b) = b := by
  unfold xsB
  apply BitVec.eq_of_getLsbD_eq
  intro i hi
  simp only [BitVec.getLsbD_xor, BitVec.getLsbD_ushiftRight]
  have : b.getLsbD (33 + (33 + i)) = false := BitVec.getLsbD_of_ge _ _ (by omega)
  rw [this]
  cases b.getLsbD i <;> cases b.getLsbD (33 + i) <;> rfl

theorem mul_inv1 (b : BitVec 64) : b * 0xff51afd7ed558ccd#64 * 0x4f74430c22a54005#64 = b := by
  rw [BitVec.mul_assoc, show (0xff51afd7ed558ccd#64 * 0x4f74430c22a54005#64) = 1#64 from by decide, BitVec.mul_one]
theorem mul_inv2 (b : BitVec 64) : b * 0xc4ceb9fe1a85ec53#64 * 0x9cb4b2f8129337db#64 = b := by
  rw [BitVec.mul_assoc, show (0xc4ceb9fe1a85ec53#64 * 0x9cb4b2f8129337db#64) = 1#64 from by decide, BitVec.mul_one]

def unB (b : BitVec 64) : BitVec 64 := xsB (xsB (xsB b * 0x9cb4b2f8129337db#64) * 0x4f74430c22a54005#64)
theorem un_mix (b : BitVec 64) : unB (mixB b) = b := by
  unfold unB mixB
  rw [xs_xs, mul_inv2, xs_xs, mul_inv1, xs_xs]

theorem mix_inj {x y : Int} (h0 : 0 ≤ x) (h1 : x < 18446744073709551616) (g0 : 0 ≤ y) (g1 : y < 18446744073709551616) (h : mix x = mix y) : x = y := by
  apply ofInt_inj h0 h1 g0 g1
  unfold mix at h
  have : mixB (BitVec.ofInt 64 x) = mixB (BitVec.ofInt 64 y) := BitVec.eq_of_toNat_eq (by omega)
  rw [← un_mix (BitVec.ofInt 64 x), this, un_mix]

/-- the steps of the law that undoes the mixing, as its walk leaves them -/
theorem unmix_walk {x : Int} (h0 : 0 ≤ x) (h1 : x < 18446744073709551616) :
    bits .xor .u64
      (IntKind.u64.wrap (bits .xor .u64 (IntKind.u64.wrap (bits .xor .u64 (mix x) (mix x / 8589934592) * 11291846944257947611)) (IntKind.u64.wrap (bits .xor .u64 (mix x) (mix x / 8589934592) * 11291846944257947611) / 8589934592) * 5725274745694666757))
      (IntKind.u64.wrap (bits .xor .u64 (IntKind.u64.wrap (bits .xor .u64 (mix x) (mix x / 8589934592) * 11291846944257947611)) (IntKind.u64.wrap (bits .xor .u64 (mix x) (mix x / 8589934592) * 11291846944257947611) / 8589934592) * 5725274745694666757) / 8589934592) = x := by
  unfold mix
  generalize hb : mixB (BitVec.ofInt 64 x) = b
  have e1 : IntKind.u64.wrap (((xsB b).toNat : Int) * (11291846944257947611 : Int)) = _ := mul_bits (xsB b) 11291846944257947611
  have e2 : IntKind.u64.wrap (((xsB (xsB b * 11291846944257947611#64)).toNat : Int) * (5725274745694666757 : Int)) = _ := mul_bits (xsB (xsB b * 11291846944257947611#64)) 5725274745694666757
  rw [xs_bits, e1, xs_bits, e2, xs_bits]
  have hu := un_mix (BitVec.ofInt 64 x)
  rw [hb] at hu
  rw [show xsB (xsB (xsB b * 11291846944257947611#64) * 5725274745694666757#64) = unB b from rfl, hu, toNat_ofInt h0 h1]

theorem not_u64 {x : Int} (h0 : 0 ≤ x) (h1 : x < 18446744073709551616) : bits .xor .u64 18446744073709551615 x = 18446744073709551615 - x := by
  obtain ⟨n, rfl⟩ := Int.eq_ofNat_of_zero_le h0
  have e := bits_xor_u64_nat 18446744073709551615 n (by omega) (by omega)
  have e2 : (BitVec.allOnes 64 ^^^ BitVec.ofNat 64 n).toNat = 18446744073709551615 - n := by
    rw [BitVec.allOnes_xor, BitVec.toNat_not, BitVec.toNat_ofNat, Nat.mod_eq_of_lt (by omega)]
  rw [BitVec.toNat_xor, BitVec.toNat_ofNat, Nat.mod_eq_of_lt (by omega), show (BitVec.allOnes 64).toNat = 18446744073709551615 from by decide] at e2
  rw [e2] at e
  rw [show ((18446744073709551615 : Nat) : Int) = 18446744073709551615 from rfl] at e
  rw [e]; omega

theorem pc_not {x : Int} (h0 : 0 ≤ x) (h1 : x < 18446744073709551616) : (pc x.toNat : Int) + (pc (18446744073709551615 - x).toNat : Int) = 64 := by
  have := pcF_compl 64 x.toNat (by omega)
  unfold pc
  rw [show (18446744073709551615 - x).toNat = 2 ^ 64 - 1 - x.toNat from by omega]
  omega

theorem spread_def (x : Int) : spread x = spreadTo x 8 := rfl
theorem gather_def (x : Int) : gather x = gatherTo x 8 := rfl

attribute [irreducible] pc spread gather mix spN gaN

end Bt
end Go.Proofs.Ytfgokhafiffbaaa

/-
  Formulas of the document: Vars.
-/
namespace Go.Proofs.Ytfgokhafiffbaaa
set_option linter.unusedVariables false
open Go.RowKit
/-- the mask of the variables that are named -/
def Ex.vk (k v : Int) : Nat := if k = 1 ∨ k = 10 ∨ k = 11 then 2 ^ v.toNat else 0
def Fo.vm : Fo → Nat
  | .nil => 0
  | .cons k _ v kids rest => (Ex.vk k v ||| kids.vm) ||| rest.vm
def Ex.vars (t : Tr) : Nat := Ex.vk t.k t.v ||| t.kids.vm
theorem Fo.vm_on (x : Tr) (r : Fo) : (x.on r).vm = Ex.vars x ||| r.vm := rfl
theorem vk_lt {t : Tr} (h : Ex.plain t = true) : Ex.vk t.k t.v < 256 := by
  obtain ⟨h1, h2, h3, h4, h5⟩ := plain_shape h
  unfold Ex.vk
  split
  · rename_i hk
    have ht : Ex.top t.k = 7 := by unfold Ex.top; rw [if_pos hk]
    exact pow_lt8 (by omega)
  · decide
theorem Fo.vm_lt : ∀ F : Fo, F.allPlain = true → F.vm < 256
  | .nil, _ => by decide
  | .cons k a v kids rest, h => by
    have h' : ((⟨k, a, v, kids⟩ : Tr).on rest).allPlain = true := h
    rw [Fo.allPlain_on, Bool.and_eq_true, Bool.and_eq_true] at h'
    have h1 := vk_lt h'.1.1
    have h2 := Fo.vm_lt kids h'.1.2
    have h3 := Fo.vm_lt rest h'.2
    simp only [Fo.vm]
    exact Nat.or_lt_two_pow (n := 8) (Nat.or_lt_two_pow (n := 8) h1 h2) h3
theorem Ex.vars_lt {t : Tr} (h : (t.on .nil).allPlain = true) : Ex.vars t < 256 := by
  have := Fo.vm_lt (t.on .nil) h
  rw [Fo.vm_on] at this
  simpa [Fo.vm] using this
theorem and7 {m : Nat} (h : m < 8) : bits .and .i64 (m : Int) 7 = (m : Int) := by
  have : ∀ m : Nat, m < 8 → bits .and .i64 (m : Int) 7 = (m : Int) := by decide +kernel
  exact this m h
theorem pow_mod8 {m : Nat} (h : 2 ^ m < 256) : (2 : Int) ^ m % 256 = ((2 ^ m : Nat) : Int) := by
  have e : ((2 ^ m : Nat) : Int) = (2 : Int) ^ m := by simp
  have e0 : (0 : Int) ≤ (2 : Int) ^ m := by rw [← e]; exact Int.natCast_nonneg _
  omega
def V2z (n : Nat) : Prop := ∀ (t : Tr) (sl : Value) (B : Nat → Prop) (u : World), (t.on .nil).nodes ≤ n → (t.on .nil).allPlain = true → SlF u B sl t.kids →
  Calls Try.prog 24 #[Ev t sl] u fun e w' => e = .returned (.int .u8 ((Ex.vars t : Nat) : Int)) ∧ Below u.heap.size u w'

set_option maxHeartbeats 16000000 in
theorem V2z.succ (n : Nat) (hn1 : n ≤ 1000000) (ih : V2z n) : V2z (n + 1) := by
  intro t sl B w hn hp0 hs
  obtain ⟨tk, ta, tv, tkids⟩ := t
  simp only [] at hs
  obtain ⟨p, cap, b, o, rfl, hp, hc, hr⟩ := hs
  rw [Fo.nodes_on] at hn
  rw [Fo.allPlain_on, Bool.and_eq_true, Bool.and_eq_true] at hp0
  obtain ⟨⟨hpl, hka⟩, _⟩ := hp0
  simp only [] at hn hka
  have HVK := Bx.mk (show Ex.vk tk tv < 256 from vk_lt hpl)
  obtain ⟨h1, h2, h3, h4, h5⟩ := plain_shape hpl
  simp only [] at h1 h2 h3 h4 h5
  have HKA := Bx.mk hka
  have hb1 := boxE w tk ta tv (.slice p tkids.len cap)
  have HB1 := Bx.mk hb1
  obtain ⟨c0, c1, c2, c3, _, _, _, _⟩ := cells4 hb1
  have HK0 := Bx.mk (KL.start ((Below.refl w.heap.size w).alloc (Nat.le_refl _) (.cells #[.int .i64 tk, .int .i64 ta, .int .i64 tv, .slice p tkids.len cap] 36)) hr.lows)
  have HP : Bx (tkids.len ≠ 0 → p = some ⟨b, o, none⟩) := ⟨fun h => by
    rcases hp with ⟨e, _⟩ | e
    · exact absurd (by rw [e]; rfl) h
    · exact e⟩
  have hlb := Fo.len_nodes tkids
  have HLB := Bx.mk (show tkids.len ≤ 1000000 from by omega)
  have HN := Bx.mk hn
  have IH := Bx.mk ih
  have htop := h5
  clear hb1 hp hc hr hn ih hlb hpl hka h3
  unfold Ev
  by_cases hk1 : tk = 1
  · have ht7 : Ex.top tk = 7 := by unfold Ex.top; rw [if_pos (by omega)]
    obtain ⟨m, rfl, hm8⟩ : ∃ m : Nat, tv = (m : Int) ∧ m < 8 := ⟨tv.toNat, by omega, by omega⟩
    have HVAL := Bx.mk (show Ex.vk tk (m : Int) = 2 ^ m from by unfold Ex.vk; rw [if_pos (by omega), Int.toNat_natCast])
    have q1 : (tk == 1) = true := by rw [beq_iff_eq]; omega
    have q10 : (tk == 10) = false := by rw [beq_eq_false_iff_ne]; omega
    have q11 : (tk == 11) = false := by rw [beq_eq_false_iff_ne]; omega
    have hand := and7 hm8
    have HPW := Bx.mk (pow_lt8 hm8)
    have hmi : (m : Int) < 8 := by omega
    clear h1 h2 h4 h5 htop ht7 hk1
    go_enter Try.func24, Try.ntmps24
    go_wp2_with fail
    go_loopw [3, 4] (fun c j wr => ∃ (i : Nat) (F2 : Fo) (d : Nat), j = .int .i64 (i : Int) ∧ c = .int .u8 (d : Int) ∧ Bx (d < 256 ∧ F2.allPlain = true ∧ Ex.vars ⟨tk, ta, (m : Int), tkids⟩ = d ||| F2.vm) ∧ KL w wr b o i tkids F2 ∧ Blk wr w.heap.size 36 #[.int .i64 tk, .int .i64 ta, .int .i64 (m : Int), .slice p tkids.len cap]) (fun _ j _ => tkids.len - (intOf j).toNat)
    case atStart => exact ⟨0, tkids, Ex.vk tk (m : Int), rfl, congrArg (Value.int .u8) (by rw [HVAL.out]; exact pow_mod8 HPW.out), ⟨⟨HVK.out, HKA.out, rfl⟩⟩, HK0.out, HB1.out⟩
    case round =>
      clear HK0 HB1 c0 c1 c2 c3
      obtain ⟨i, F2, d, rfl, rfl, HD, hK, hB⟩ := hrel
      have HK := Bx.mk hK
      have HB := Bx.mk hB
      obtain ⟨c0, c1, c2, c3, _, _, _, _⟩ := cells4 hB
      clear hK hB
      cases F2 with
      | nil =>
        have q : ¬ (i : Int) < (tkids.len : Int) := by have := HK.out.lf; simp only [Fo.len] at this; omega
        have HV := Bx.mk (show Ex.vars ⟨tk, ta, (m : Int), tkids⟩ = d from by rw [HD.out.2.2]; simp [Fo.vm])
        go_wp2_with fail
        go_ret
        exact ⟨by rw [HV.out]; rfl, HK.out.be⟩
      | cons k a v kids rest =>
        obtain ⟨sx, Kx, hnn, hil, hnext⟩ := HK.out.next
        obtain ⟨px, cx, rfl⟩ := Kx.sl.is
        have q : (i : Int) < (tkids.len : Int) := by omega
        have hpp := HP.out (by omega)
        subst hpp
        obtain ⟨x0, x1, x2, x3, xS⟩ := Kx.below HK.out.be
        simp only [] at x0 x1 x2 x3
        have hpl := HD.out.2.1
        have hpl' : ((⟨k, a, v, kids⟩ : Tr).on rest).allPlain = true := hpl
        rw [Fo.allPlain_on, Bool.and_eq_true, Bool.and_eq_true] at hpl'
        have hpx : ((⟨k, a, v, kids⟩ : Tr).on .nil).allPlain = true := by rw [Fo.allPlain_on, hpl'.1.1, hpl'.1.2]; rfl
        have HI := Bx.mk (IH.out ⟨k, a, v, kids⟩ _ _ _ (by have := HN.out; rw [Fo.nodes_on]; simp only [show Fo.nil.nodes = 0 from rfl] at this ⊢; omega) hpx xS)
        have HVX := Bx.mk (Ex.vars_lt hpx)
        have HRP := Bx.mk hpl'.2
        have HV := Bx.mk (show Ex.vars ⟨tk, ta, (m : Int), tkids⟩ = (d ||| Ex.vars ⟨k, a, v, kids⟩) ||| rest.vm from by rw [HD.out.2.2, Nat.or_assoc]; rfl)
        have HOR := Bx.mk (Bt.or_u8_nat d (Ex.vars ⟨k, a, v, kids⟩) HD.out.1 HVX.out)
        have HNX := Bx.mk hnext
        have HIL := Bx.mk hil
        have hlb := HLB.out
        have b3 : -9223372036854775808 ≤ (i : Int) + 1 ∧ (i : Int) + 1 ≤ 9223372036854775807 := by omega
        have hw : wrap64 ((i : Int) + 1) = (i : Int) + 1 := w64 _ b3
        clear Kx hnn hil hnext xS hpl hpl' hpx hlb b3
        unfold Ev at HI
        simp only [] at HI
        generalize Ex.vars ⟨k, a, v, kids⟩ = vv at *
        go_wp2_with fail
        refine HI.out.mono ?_
        rintro e u ⟨rfl, hb⟩
        have HU := Bx.mk (HNX.out u hb)
        have HBU := Bx.mk (HB.out.below hb HB.out.lt)
        clear hb c0 c1 c2 c3
        go_wp2_with fail
        refine ⟨⟨i + 1, rest, d ||| vv, by go_num, congrArg (Value.int .u8) HOR.out, ⟨⟨Nat.or_lt_two_pow (n := 8) HD.out.1 HVX.out, HRP.out, HV.out⟩⟩, HU.out, HBU.out⟩, ?_⟩
        rw [intOf_i, intOf_i, hw]
        have := HIL.out
        clear hw
        omega
  · by_cases hk10 : tk = 10
    · have ht7 : Ex.top tk = 7 := by unfold Ex.top; rw [if_pos (by omega)]
      obtain ⟨m, rfl, hm8⟩ : ∃ m : Nat, tv = (m : Int) ∧ m < 8 := ⟨tv.toNat, by omega, by omega⟩
      have HVAL := Bx.mk (show Ex.vk tk (m : Int) = 2 ^ m from by unfold Ex.vk; rw [if_pos (by omega), Int.toNat_natCast])
      have q1 : (tk == 1) = false := by rw [beq_eq_false_iff_ne]; omega
      have q10 : (tk == 10) = true := by rw [beq_iff_eq]; omega
      have q11 : (tk == 11) = false := by rw [beq_eq_false_iff_ne]; omega
      have hand := and7 hm8
      have HPW := Bx.mk (pow_lt8 hm8)
      have hmi : (m : Int) < 8 := by omega
      clear h1 h2 h4 h5 htop ht7 hk1 hk10
      go_enter Try.func24, Try.ntmps24
      go_wp2_with fail
      go_loopw [3, 4] (fun c j wr => ∃ (i : Nat) (F2 : Fo) (d : Nat), j = .int .i64 (i : Int) ∧ c = .int .u8 (d : Int) ∧ Bx (d < 256 ∧ F2.allPlain = true ∧ Ex.vars ⟨tk, ta, (m : Int), tkids⟩ = d ||| F2.vm) ∧ KL w wr b o i tkids F2 ∧ Blk wr w.heap.size 36 #[.int .i64 tk, .int .i64 ta, .int .i64 (m : Int), .slice p tkids.len cap]) (fun _ j _ => tkids.len - (intOf j).toNat)
      case atStart => exact ⟨0, tkids, Ex.vk tk (m : Int), rfl, congrArg (Value.int .u8) (by rw [HVAL.out]; exact pow_mod8 HPW.out), ⟨⟨HVK.out, HKA.out, rfl⟩⟩, HK0.out, HB1.out⟩
      case round =>
        clear HK0 HB1 c0 c1 c2 c3
        obtain ⟨i, F2, d, rfl, rfl, HD, hK, hB⟩ := hrel
        have HK := Bx.mk hK
        have HB := Bx.mk hB
        obtain ⟨c0, c1, c2, c3, _, _, _, _⟩ := cells4 hB
        clear hK hB
        cases F2 with
        | nil =>
          have q : ¬ (i : Int) < (tkids.len : Int) := by have := HK.out.lf; simp only [Fo.len] at this; omega
          have HV := Bx.mk (show Ex.vars ⟨tk, ta, (m : Int), tkids⟩ = d from by rw [HD.out.2.2]; simp [Fo.vm])
          go_wp2_with fail
          go_ret
          exact ⟨by rw [HV.out]; rfl, HK.out.be⟩
        | cons k a v kids rest =>
          obtain ⟨sx, Kx, hnn, hil, hnext⟩ := HK.out.next
          obtain ⟨px, cx, rfl⟩ := Kx.sl.is
          have q : (i : Int) < (tkids.len : Int) := by omega
          have hpp := HP.out (by omega)
          subst hpp
          obtain ⟨x0, x1, x2, x3, xS⟩ := Kx.below HK.out.be
          simp only [] at x0 x1 x2 x3
          have hpl := HD.out.2.1
          have hpl' : ((⟨k, a, v, kids⟩ : Tr).on rest).allPlain = true := hpl
          rw [Fo.allPlain_on, Bool.and_eq_true, Bool.and_eq_true] at hpl'
          have hpx : ((⟨k, a, v, kids⟩ : Tr).on .nil).allPlain = true := by rw [Fo.allPlain_on, hpl'.1.1, hpl'.1.2]; rfl
          have HI := Bx.mk (IH.out ⟨k, a, v, kids⟩ _ _ _ (by have := HN.out; rw [Fo.nodes_on]; simp only [show Fo.nil.nodes = 0 from rfl] at this ⊢; omega) hpx xS)
          have HVX := Bx.mk (Ex.vars_lt hpx)
          have HRP := Bx.mk hpl'.2
          have HV := Bx.mk (show Ex.vars ⟨tk, ta, (m : Int), tkids⟩ = (d ||| Ex.vars ⟨k, a, v, kids⟩) ||| rest.vm from by rw [HD.out.2.2, Nat.or_assoc]; rfl)
          have HOR := Bx.mk (Bt.or_u8_nat d (Ex.vars ⟨k, a, v, kids⟩) HD.out.1 HVX.out)
          have HNX := Bx.mk hnext
          have HIL := Bx.mk hil
          have hlb := HLB.out
          have b3 : -9223372036854775808 ≤ (i : Int) + 1 ∧ (i : Int) + 1 ≤ 9223372036854775807 := by omega
          have hw : wrap64 ((i : Int) + 1) = (i : Int) + 1 := w64 _ b3
          clear Kx hnn hil hnext xS hpl hpl' hpx hlb b3
          unfold Ev at HI
          simp only [] at HI
          generalize Ex.vars ⟨k, a, v, kids⟩ = vv at *
          go_wp2_with fail
          refine HI.out.mono ?_
          rintro e u ⟨rfl, hb⟩
          have HU := Bx.mk (HNX.out u hb)
          have HBU := Bx.mk (HB.out.below hb HB.out.lt)
          clear hb c0 c1 c2 c3
          go_wp2_with fail
          refine ⟨⟨i + 1, rest, d ||| vv, by go_num, congrArg (Value.int .u8) HOR.out, ⟨⟨Nat.or_lt_two_pow (n := 8) HD.out.1 HVX.out, HRP.out, HV.out⟩⟩, HU.out, HBU.out⟩, ?_⟩
          rw [intOf_i, intOf_i, hw]
          have := HIL.out
          clear hw
          omega
    · by_cases hk11 : tk = 11
      · have ht7 : Ex.top tk = 7 := by unfold Ex.top; rw [if_pos (by omega)]
        obtain ⟨m, rfl, hm8⟩ : ∃ m : Nat, tv = (m : Int) ∧ m < 8 := ⟨tv.toNat, by omega, by omega⟩
        have HVAL := Bx.mk (show Ex.vk tk (m : Int) = 2 ^ m from by unfold Ex.vk; rw [if_pos (by omega), Int.toNat_natCast])
        have q1 : (tk == 1) = false := by rw [beq_eq_false_iff_ne]; omega
        have q10 : (tk == 10) = false := by rw [beq_eq_false_iff_ne]; omega
        have q11 : (tk == 11) = true := by rw [beq_iff_eq]; omega
        have hand := and7 hm8
        have HPW := Bx.mk (pow_lt8 hm8)
        have hmi : (m : Int) < 8 := by omega
        clear h1 h2 h4 h5 htop ht7 hk1 hk10 hk11
        go_enter Try.func24, Try.ntmps24
        go_wp2_with fail
        go_loopw [3, 4] (fun c j wr => ∃ (i : Nat) (F2 : Fo) (d : Nat), j = .int .i64 (i : Int) ∧ c = .int .u8 (d : Int) ∧ Bx (d < 256 ∧ F2.allPlain = true ∧ Ex.vars ⟨tk, ta, (m : Int), tkids⟩ = d ||| F2.vm) ∧ KL w wr b o i tkids F2 ∧ Blk wr w.heap.size 36 #[.int .i64 tk, .int .i64 ta, .int .i64 (m : Int), .slice p tkids.len cap]) (fun _ j _ => tkids.len - (intOf j).toNat)
        case atStart => exact ⟨0, tkids, Ex.vk tk (m : Int), rfl, congrArg (Value.int .u8) (by rw [HVAL.out]; exact pow_mod8 HPW.out), ⟨⟨HVK.out, HKA.out, rfl⟩⟩, HK0.out, HB1.out⟩
        case round =>
          clear HK0 HB1 c0 c1 c2 c3
          obtain ⟨i, F2, d, rfl, rfl, HD, hK, hB⟩ := hrel
          have HK := Bx.mk hK
          have HB := Bx.mk hB
          obtain ⟨c0, c1, c2, c3, _, _, _, _⟩ := cells4 hB
          clear hK hB
          cases F2 with
          | nil =>
            have q : ¬ (i : Int) < (tkids.len : Int) := by have := HK.out.lf; simp only [Fo.len] at this; omega
            have HV := Bx.mk (show Ex.vars ⟨tk, ta, (m : Int), tkids⟩ = d from by rw [HD.out.2.2]; simp [Fo.vm])
            go_wp2_with fail
            go_ret
            exact ⟨by rw [HV.out]; rfl, HK.out.be⟩
          | cons k a v kids rest =>
            obtain ⟨sx, Kx, hnn, hil, hnext⟩ := HK.out.next
            obtain ⟨px, cx, rfl⟩ := Kx.sl.is
            have q : (i : Int) < (tkids.len : Int) := by omega
            have hpp := HP.out (by omega)
            subst hpp
            obtain ⟨x0, x1, x2, x3, xS⟩ := Kx.below HK.out.be
            simp only [] at x0 x1 x2 x3
            have hpl := HD.out.2.1
            have hpl' : ((⟨k, a, v, kids⟩ : Tr).on rest).allPlain = true := hpl
            rw [Fo.allPlain_on, Bool.and_eq_true, Bool.and_eq_true] at hpl'
            have hpx : ((⟨k, a, v, kids⟩ : Tr).on .nil).allPlain = true := by rw [Fo.allPlain_on, hpl'.1.1, hpl'.1.2]; rfl
            have HI := Bx.mk (IH.out ⟨k, a, v, kids⟩ _ _ _ (by have := HN.out; rw [Fo.nodes_on]; simp only [show Fo.nil.nodes = 0 from rfl] at this ⊢; omega) hpx xS)
            have HVX := Bx.mk (Ex.vars_lt hpx)
            have HRP := Bx.mk hpl'.2
            have HV := Bx.mk (show Ex.vars ⟨tk, ta, (m : Int), tkids⟩ = (d ||| Ex.vars ⟨k, a, v, kids⟩) ||| rest.vm from by rw [HD.out.2.2, Nat.or_assoc]; rfl)
            have HOR := Bx.mk (Bt.or_u8_nat d (Ex.vars ⟨k, a, v, kids⟩) HD.out.1 HVX.out)
            have HNX := Bx.mk hnext
            have HIL := Bx.mk hil
            have hlb := HLB.out
            have b3 : -9223372036854775808 ≤ (i : Int) + 1 ∧ (i : Int) + 1 ≤ 9223372036854775807 := by omega
            have hw : wrap64 ((i : Int) + 1) = (i : Int) + 1 := w64 _ b3
            clear Kx hnn hil hnext xS hpl hpl' hpx hlb b3
            unfold Ev at HI
            simp only [] at HI
            generalize Ex.vars ⟨k, a, v, kids⟩ = vv at *
            go_wp2_with fail
            refine HI.out.mono ?_
            rintro e u ⟨rfl, hb⟩
            have HU := Bx.mk (HNX.out u hb)
            have HBU := Bx.mk (HB.out.below hb HB.out.lt)
            clear hb c0 c1 c2 c3
            go_wp2_with fail
            refine ⟨⟨i + 1, rest, d ||| vv, by go_num, congrArg (Value.int .u8) HOR.out, ⟨⟨Nat.or_lt_two_pow (n := 8) HD.out.1 HVX.out, HRP.out, HV.out⟩⟩, HU.out, HBU.out⟩, ?_⟩
            rw [intOf_i, intOf_i, hw]
            have := HIL.out
            clear hw
            omega
      · have HVAL := Bx.mk (show Ex.vk tk tv = 0 from by unfold Ex.vk; rw [if_neg (by omega)])
        have q1 : (tk == 1) = false := by rw [beq_eq_false_iff_ne]; omega
        have q10 : (tk == 10) = false := by rw [beq_eq_false_iff_ne]; omega
        have q11 : (tk == 11) = false := by rw [beq_eq_false_iff_ne]; omega
        clear h1 h2 h4 h5 htop hk1 hk10 hk11
        go_enter Try.func24, Try.ntmps24
        go_wp2_with fail
        go_loopw [3, 4] (fun c j wr => ∃ (i : Nat) (F2 : Fo) (d : Nat), j = .int .i64 (i : Int) ∧ c = .int .u8 (d : Int) ∧ Bx (d < 256 ∧ F2.allPlain = true ∧ Ex.vars ⟨tk, ta, tv, tkids⟩ = d ||| F2.vm) ∧ KL w wr b o i tkids F2 ∧ Blk wr w.heap.size 36 #[.int .i64 tk, .int .i64 ta, .int .i64 tv, .slice p tkids.len cap]) (fun _ j _ => tkids.len - (intOf j).toNat)
        case atStart => exact ⟨0, tkids, Ex.vk tk tv, rfl, by rw [HVAL.out]; rfl, ⟨⟨HVK.out, HKA.out, rfl⟩⟩, HK0.out, HB1.out⟩
        case round =>
          clear HK0 HB1 c0 c1 c2 c3
          obtain ⟨i, F2, d, rfl, rfl, HD, hK, hB⟩ := hrel
          have HK := Bx.mk hK
          have HB := Bx.mk hB
          obtain ⟨c0, c1, c2, c3, _, _, _, _⟩ := cells4 hB
          clear hK hB
          cases F2 with
          | nil =>
            have q : ¬ (i : Int) < (tkids.len : Int) := by have := HK.out.lf; simp only [Fo.len] at this; omega
            have HV := Bx.mk (show Ex.vars ⟨tk, ta, tv, tkids⟩ = d from by rw [HD.out.2.2]; simp [Fo.vm])
            go_wp2_with fail
            go_ret
            exact ⟨by rw [HV.out]; rfl, HK.out.be⟩
          | cons k a v kids rest =>
            obtain ⟨sx, Kx, hnn, hil, hnext⟩ := HK.out.next
            obtain ⟨px, cx, rfl⟩ := Kx.sl.is
            have q : (i : Int) < (tkids.len : Int) := by omega
            have hpp := HP.out (by omega)
            subst hpp
            obtain ⟨x0, x1, x2, x3, xS⟩ := Kx.below HK.out.be
            simp only [] at x0 x1 x2 x3
            have hpl := HD.out.2.1
            have hpl' : ((⟨k, a, v, kids⟩ : Tr).on rest).allPlain = true := hpl
            rw [Fo.allPlain_on, Bool.and_eq_true, Bool.and_eq_true] at hpl'
            have hpx : ((⟨k, a, v, kids⟩ : Tr).on .nil).allPlain = true := by rw [Fo.allPlain_on, hpl'.1.1, hpl'.1.2]; rfl
            have HI := Bx.mk (IH.out ⟨k, a, v, kids⟩ _ _ _ (by have := HN.out; rw [Fo.nodes_on]; simp only [show Fo.nil.nodes = 0 from rfl] at this ⊢; omega) hpx xS)
            have HVX := Bx.mk (Ex.vars_lt hpx)
            have HRP := Bx.mk hpl'.2
            have HV := Bx.mk (show Ex.vars ⟨tk, ta, tv, tkids⟩ = (d ||| Ex.vars ⟨k, a, v, kids⟩) ||| rest.vm from by rw [HD.out.2.2, Nat.or_assoc]; rfl)
            have HOR := Bx.mk (Bt.or_u8_nat d (Ex.vars ⟨k, a, v, kids⟩) HD.out.1 HVX.out)
            have HNX := Bx.mk hnext
            have HIL := Bx.mk hil
            have hlb := HLB.out
            have b3 : -9223372036854775808 ≤ (i : Int) + 1 ∧ (i : Int) + 1 ≤ 9223372036854775807 := by omega
            have hw : wrap64 ((i : Int) + 1) = (i : Int) + 1 := w64 _ b3
            clear Kx hnn hil hnext xS hpl hpl' hpx hlb b3
            unfold Ev at HI
            simp only [] at HI
            generalize Ex.vars ⟨k, a, v, kids⟩ = vv at *
            go_wp2_with fail
            refine HI.out.mono ?_
            rintro e u ⟨rfl, hb⟩
            have HU := Bx.mk (HNX.out u hb)
            have HBU := Bx.mk (HB.out.below hb HB.out.lt)
            clear hb c0 c1 c2 c3
            go_wp2_with fail
            refine ⟨⟨i + 1, rest, d ||| vv, by go_num, congrArg (Value.int .u8) HOR.out, ⟨⟨Nat.or_lt_two_pow (n := 8) HD.out.1 HVX.out, HRP.out, HV.out⟩⟩, HU.out, HBU.out⟩, ?_⟩
            rw [intOf_i, intOf_i, hw]
            have := HIL.out
            clear hw
            omega
theorem V2z.all : ∀ n, n ≤ 1000000 → V2z n
  | 0, _ => fun t sl B u h => by rw [Fo.nodes_on] at h; omega
  | n + 1, h => V2z.succ n (by omega) (V2z.all n (by omega))
theorem rvars_any (t : Tr) (sl : Value) (B : Nat → Prop) (u : World) (hn : (t.on .nil).nodes ≤ 1000000) (hp : (t.on .nil).allPlain = true) (hs : SlF u B sl t.kids) :
    Calls Try.prog 24 #[Ev t sl] u fun e w' => e = .returned (.int .u8 ((Ex.vars t : Nat) : Int)) ∧ Below u.heap.size u w' := V2z.all _ (Nat.le_refl _) t sl B u hn hp hs
end Go.Proofs.Ytfgokhafiffbaaa
