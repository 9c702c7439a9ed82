/-
  Formulas: the walk of ExprBack.
-/
import Derived.Test.YtfgokhafiffbaaaBk4
import Derived.Test.YtfgokhafiffbaaaEx24
namespace Go.Proofs.Ytfgokhafiffbaaa
set_option linter.unusedVariables false
open Go.RowKit
section
variable {a : Act} {u : World} {o : Oper} {x y : Operand}
theorem exec_eqS {s : ByteArray} (hop : o.op = .binOp .eql 9 x y 9) (hx : a.eval x = .string s) (hy : a.eval y = .string s) :
    (execOp a.eval o).run Try.prog u = .ok (.value (.bool true)) u := by
  unfold execOp
  simp only [hop, hx, hy]
  go_simp
end
/-- two formulas in boxes -/
structure TwoE (w u : World) (ba bb : Nat) (s t : Tr) (ss st : Value) : Prop where
  be : Below w.heap.size w u
  a : Blk u ba 36 #[.int .i64 s.k, .int .i64 s.a, .int .i64 s.v, ss]
  b : Blk u bb 36 #[.int .i64 t.k, .int .i64 t.a, .int .i64 t.v, st]
  sa : SlF u (fun _ => True) ss s.kids
  sb : SlF u (fun _ => True) st t.kids
theorem TwoE.step {w u u' : World} {ba bb : Nat} {s t : Tr} {ss st : Value} (h : TwoE w u ba bb s t ss st) (hb : Below u.heap.size u u') : TwoE w u' ba bb s t ss st :=
  ⟨h.be.trans (hb.mono h.be.size), h.a.below hb h.a.lt, h.b.below hb h.b.lt, h.sa.below hb, h.sb.below hb⟩
/-- one formula in a box -/
structure OneE (w u : World) (ba : Nat) (s : Tr) (ss : Value) : Prop where
  be : Below w.heap.size w u
  a : Blk u ba 36 #[.int .i64 s.k, .int .i64 s.a, .int .i64 s.v, ss]
  sa : SlF u (fun _ => True) ss s.kids
theorem OneE.step {w u u' : World} {ba : Nat} {s : Tr} {ss : Value} (h : OneE w u ba s ss) (hb : Below u.heap.size u u') : OneE w u' ba s ss :=
  ⟨h.be.trans (hb.mono h.be.size), h.a.below hb h.a.lt, h.sa.below hb⟩
theorem OneE.box {w u : World} {s : Tr} {ss : Value} {B : Nat → Prop} (hb : Below w.heap.size w u) (hs : SlF u B ss s.kids) :
    OneE w (u.alloc (.cells #[.int .i64 s.k, .int .i64 s.a, .int .i64 s.v, ss] 36)) u.heap.size s ss :=
  ⟨hb.alloc hb.size _, boxE _ _ _ _ _, (hs.mono fun _ _ => True.intro).alloc _⟩
theorem OneE.two {w u : World} {ba : Nat} {s t : Tr} {ss st : Value} {B : Nat → Prop} (h : OneE w u ba s ss) (hs : SlF u B st t.kids) :
    TwoE w (u.alloc (.cells #[.int .i64 t.k, .int .i64 t.a, .int .i64 t.v, st] 36)) ba u.heap.size s t ss st :=
  ⟨h.be.alloc h.be.size _, h.a.alloc _, boxE _ _ _ _ _, h.sa.alloc _, (hs.mono fun _ _ => True.intro).alloc _⟩
theorem bl_nl (l : List UInt8) : bl ⟨l.toArray⟩ = nl l := by rw [bl_mk]; rfl
theorem size_mk (l : List UInt8) : (⟨l.toArray⟩ : ByteArray).size = l.length := by simp [ByteArray.size]
set_option maxHeartbeats 8000000 in
theorem back_long (s : ByteArray) (w : World) (h : 2000 < s.size) : Calls Try.prog 5 #[.string s] w fun e w' => e = .returned (.bool true) ∧ Below w.heap.size w w' := by
  have q : (s.size : Int) > 2000 := by omega
  clear h
  go_enter Try.func5, Try.ntmps5
  go_wp2_with fail
  refine (known_any _).mono ?_
  rintro e w1 ⟨rfl, hb⟩
  have HB := Bx.mk hb
  clear hb
  go_wp2_with fail
  go_ret
  exact ⟨rfl, HB.out⟩
set_option maxHeartbeats 8000000 in
theorem back_bad (s : ByteArray) (w : World) (h : s.size ≤ 2000) (at_ e : Nat) (he : e ≠ 0) (ha : at_ ≤ s.size) (hR : Ex.parse (bl s) = (Tr.zero, at_, e)) :
    Calls Try.prog 5 #[.string s] w fun e w' => e = .returned (.bool true) ∧ Below w.heap.size w w' := by
  have q : ¬ (s.size : Int) > 2000 := by omega
  have q1 : ((e : Int) != 0) = true := by rw [bne_iff_ne]; omega
  have q2 : (at_ : Int) ≥ 0 := by omega
  have q3 : (at_ : Int) ≤ s.size := by omega
  have hp := fun u => parse_any s u
  rw [hR] at hp
  have HP := Bx.mk hp
  clear h he ha hR hp
  go_enter Try.func5, Try.ntmps5
  go_wp2_with fail
  refine (known_any _).mono ?_
  rintro e w1 ⟨rfl, hb⟩
  have HB := Bx.mk hb
  clear hb
  go_wp2_with fail
  refine (HP.out _).mono ?_
  rintro e w2 ⟨sl, rfl, hS, hb⟩
  obtain ⟨p1, c1, rfl⟩ := hS.is
  have HO := Bx.mk (OneE.box (s := Tr.zero) (HB.out.trans (hb.mono HB.out.size)) hS)
  obtain ⟨a0, a1, a2, a3, _, _, _, _⟩ := cells4 HO.out.a
  clear hS hb
  unfold Pv Ev
  simp only [show Tr.zero.k = 0 from rfl, show Tr.zero.a = 0 from rfl, show Tr.zero.v = 0 from rfl, show Tr.zero.kids.len = 0 from rfl] at a0 a1 a2 a3 ⊢
  go_wp2_with fail
  go_ret
  exact ⟨rfl, HO.out.be⟩

set_option maxHeartbeats 8000000 in
theorem back_deep (s : ByteArray) (w : World) (h : s.size ≤ 2000) (T T2 : Tr) (at2 e2 : Nat) (P : List UInt8) (hR : Ex.parse (bl s) = (T, 0, 0)) (hT : Ex.is T = true) (hP : Ex.pr T = P) (hR2 : Ex.parse (nl P) = (T2, at2, e2))
    (hc : (4000 < P.length ∧ e2 = 232) ∨ (P.length ≤ 4000 ∧ e2 = 231)) :
    Calls Try.prog 5 #[.string s] w fun e w' => e = .returned (.bool true) ∧ Below w.heap.size w w' := by
  rcases hc with ⟨hc, rfl⟩ | ⟨hc, rfl⟩
  · have q : ¬ (s.size : Int) > 2000 := by omega
    have hp := fun u => parse_any s u
    rw [hR] at hp
    have HP := Bx.mk hp
    have hpr : Ex.print T = P := by unfold Ex.print; rw [hT, if_pos rfl, hP]
    have hp2 := fun u => parse_any ⟨P.toArray⟩ u
    rw [bl_nl, hR2] at hp2
    have HP2 := Bx.mk hp2
    have HPR := Bx.mk hpr
    have HT := Bx.mk hT
    have Q4 := Bx.mk (show decide (4000 < (P.length : Int)) = true from by simp; omega)
    clear h hT hR hp hp2 hR2 hP hpr
    go_enter Try.func5, Try.ntmps5
    go_wp2_with fail
    refine (known_any _).mono ?_
    rintro e w1 ⟨rfl, hb⟩
    have HB := Bx.mk hb
    clear hb
    go_wp2_with fail
    refine (HP.out _).mono ?_
    rintro e w2 ⟨sl, rfl, hS, hb⟩
    obtain ⟨p1, c1, rfl⟩ := hS.is
    have HO := Bx.mk (OneE.box (s := T) (HB.out.trans (hb.mono HB.out.size)) hS)
    obtain ⟨a0, a1, a2, a3, _, _, _, _⟩ := cells4 HO.out.a
    clear hS hb
    unfold Pv Ev
    simp only []
    go_wp2_with fail
    have hq := print_any T _ _ _ HO.out.sa
    rw [HPR.out] at hq
    unfold Ev at hq
    refine hq.mono ?_
    rintro e w3 ⟨rfl, hb⟩
    have HO3 := Bx.mk (HO.out.step hb)
    clear hb hq HO a0 a1 a2 a3
    go_wp2_with fail
    refine (HP2.out _).mono ?_
    rintro e w4 ⟨sl, rfl, hS, hb⟩
    obtain ⟨p2, c2, rfl⟩ := hS.is
    have HW := Bx.mk ((HO3.out.step hb).two hS)
    obtain ⟨a0, a1, a2, a3, _, _, _, _⟩ := cells4 HW.out.a
    obtain ⟨b0, b1, b2, b3, _, _, _, _⟩ := cells4 HW.out.b
    clear hS hb HO3
    unfold Pv Ev
    simp only []
    go_wp2_with fail
    go_ret
    exact ⟨congrArg (fun b => Ending.returned (Value.bool b)) Q4.out, HW.out.be⟩
  · have q : ¬ (s.size : Int) > 2000 := by omega
    have hp := fun u => parse_any s u
    rw [hR] at hp
    have HP := Bx.mk hp
    have hpr : Ex.print T = P := by unfold Ex.print; rw [hT, if_pos rfl, hP]
    have hp2 := fun u => parse_any ⟨P.toArray⟩ u
    rw [bl_nl, hR2] at hp2
    have HP2 := Bx.mk hp2
    have HPR := Bx.mk hpr
    have HT := Bx.mk hT
    have Q4 := Bx.mk (show (!decide (4000 < (P.length : Int))) = true from by simp; omega)
    clear h hT hR hp hp2 hR2 hP hpr
    go_enter Try.func5, Try.ntmps5
    go_wp2_with fail
    refine (known_any _).mono ?_
    rintro e w1 ⟨rfl, hb⟩
    have HB := Bx.mk hb
    clear hb
    go_wp2_with fail
    refine (HP.out _).mono ?_
    rintro e w2 ⟨sl, rfl, hS, hb⟩
    obtain ⟨p1, c1, rfl⟩ := hS.is
    have HO := Bx.mk (OneE.box (s := T) (HB.out.trans (hb.mono HB.out.size)) hS)
    obtain ⟨a0, a1, a2, a3, _, _, _, _⟩ := cells4 HO.out.a
    clear hS hb
    unfold Pv Ev
    simp only []
    go_wp2_with fail
    have hq := print_any T _ _ _ HO.out.sa
    rw [HPR.out] at hq
    unfold Ev at hq
    refine hq.mono ?_
    rintro e w3 ⟨rfl, hb⟩
    have HO3 := Bx.mk (HO.out.step hb)
    clear hb hq HO a0 a1 a2 a3
    go_wp2_with fail
    refine (HP2.out _).mono ?_
    rintro e w4 ⟨sl, rfl, hS, hb⟩
    obtain ⟨p2, c2, rfl⟩ := hS.is
    have HW := Bx.mk ((HO3.out.step hb).two hS)
    obtain ⟨a0, a1, a2, a3, _, _, _, _⟩ := cells4 HW.out.a
    obtain ⟨b0, b1, b2, b3, _, _, _, _⟩ := cells4 HW.out.b
    clear hS hb HO3
    unfold Pv Ev
    simp only []
    go_wp2_with fail
    go_ret
    exact ⟨congrArg (fun b => Ending.returned (Value.bool b)) Q4.out, HW.out.be⟩
set_option maxHeartbeats 16000000 in
theorem back_same (s : ByteArray) (w : World) (h : s.size ≤ 2000) (T T2 : Tr) (P : List UInt8) (hR : Ex.parse (bl s) = (T, 0, 0)) (hT : Ex.is T = true) (hP : Ex.pr T = P) (hR2 : Ex.parse (nl P) = (T2, 0, 0)) (hS : Ex.same T T2 = true) :
    Calls Try.prog 5 #[.string s] w fun e w' => e = .returned (.bool true) ∧ Below w.heap.size w w' := by
  have hsa := Ex.same_all hS
  have HSM := Bx.mk hS
  have HP2R := Bx.mk (show Ex.print T2 = P from by unfold Ex.print; rw [← hsa.2.2, hT, if_pos rfl, ← hsa.1, hP])
  have HFN := Bx.mk (show Ex.func T2 = Ex.func T from by unfold Ex.func; rw [← hsa.2.2, hsa.2.1])
  have HN := Bx.mk (Ex.is_nodes hT).1
  clear hS hsa
  have q : ¬ (s.size : Int) > 2000 := by omega
  have hp := fun u => parse_any s u
  rw [hR] at hp
  have HP := Bx.mk hp
  have hpr : Ex.print T = P := by unfold Ex.print; rw [hT, if_pos rfl, hP]
  have hp2 := fun u => parse_any ⟨P.toArray⟩ u
  rw [bl_nl, hR2] at hp2
  have HP2 := Bx.mk hp2
  have HPR := Bx.mk hpr
  have HT := Bx.mk hT
  skip
  clear h hT hR hp hp2 hR2 hP hpr
  go_enter Try.func5, Try.ntmps5
  go_wp2_with fail
  refine (known_any _).mono ?_
  rintro e w1 ⟨rfl, hb⟩
  have HB := Bx.mk hb
  clear hb
  go_wp2_with fail
  refine (HP.out _).mono ?_
  rintro e w2 ⟨sl, rfl, hS, hb⟩
  obtain ⟨p1, c1, rfl⟩ := hS.is
  have HO := Bx.mk (OneE.box (s := T) (HB.out.trans (hb.mono HB.out.size)) hS)
  obtain ⟨a0, a1, a2, a3, _, _, _, _⟩ := cells4 HO.out.a
  clear hS hb
  unfold Pv Ev
  simp only []
  go_wp2_with fail
  have hq := print_any T _ _ _ HO.out.sa
  rw [HPR.out] at hq
  unfold Ev at hq
  refine hq.mono ?_
  rintro e w3 ⟨rfl, hb⟩
  have HO3 := Bx.mk (HO.out.step hb)
  clear hb hq HO a0 a1 a2 a3
  go_wp2_with fail
  refine (HP2.out _).mono ?_
  rintro e w4 ⟨sl, rfl, hS, hb⟩
  obtain ⟨p2, c2, rfl⟩ := hS.is
  have HW := Bx.mk ((HO3.out.step hb).two hS)
  obtain ⟨a0, a1, a2, a3, _, _, _, _⟩ := cells4 HW.out.a
  obtain ⟨b0, b1, b2, b3, _, _, _, _⟩ := cells4 HW.out.b
  clear hS hb HO3
  unfold Pv Ev
  simp only []
  go_wp2_with fail
  refine region_any 100 (fun u => TwoE w u w2.heap.size w4.heap.size T T2 (.slice p1 T.kids.len c1) (.slice p2 T2.kids.len c2)) (by kernel_rfl) ?_
  generalize hu : World.drew _ = u0
  have hq0 := HW.out.step ((Below.refl _ _).drew)
  rw [hu] at hq0
  clear hu a0 a1 a2 a3 b0 b1 b2 b3
  refine any_take (i := 0) (.int .i64 0) rfl rfl (by kernel_rfl) (by kernel_rfl) (by kernel_rfl) (by kernel_rfl) (fun _ _ d _ _ h => by cases d <;> exact h) (fun u hS => rfl) hq0 ?_
  (try simp only [Act.put]); (try simp only [List.getElem_toArray]); (try simp only [List.getElem_cons_succ]); (try simp only [List.getElem_cons_zero]); (try simp only [List.setIfInBounds_toArray]); (try simp only [List.set_cons_succ]); (try simp only [List.set_cons_zero])
  refine any_take (i := 1) (.bool true) rfl rfl (by kernel_rfl) (by kernel_rfl) (by kernel_rfl) (by kernel_rfl) (fun _ _ d _ _ h => by cases d <;> exact h) (fun u hS => rfl) hq0 ?_
  (try simp only [Act.put]); (try simp only [List.getElem_toArray]); (try simp only [List.getElem_cons_succ]); (try simp only [List.getElem_cons_zero]); (try simp only [List.setIfInBounds_toArray]); (try simp only [List.set_cons_succ]); (try simp only [List.set_cons_zero])
  refine any_take (i := 2) (.bool true) rfl rfl (by kernel_rfl) (by kernel_rfl) (by kernel_rfl) (by kernel_rfl) (fun _ _ d _ _ h => by cases d <;> exact h) (fun u hS => rfl) hq0 ?_
  (try simp only [Act.put]); (try simp only [List.getElem_toArray]); (try simp only [List.getElem_cons_succ]); (try simp only [List.getElem_cons_zero]); (try simp only [List.setIfInBounds_toArray]); (try simp only [List.set_cons_succ]); (try simp only [List.set_cons_zero])
  refine any_take (i := 3) (Ev T (.slice p1 T.kids.len c1)) rfl rfl (by kernel_rfl) (by kernel_rfl) (by kernel_rfl) (by kernel_rfl) (fun _ _ d _ _ h => by cases d <;> exact h) (fun u hS => by exact exec_loadE rfl rfl hS.a) hq0 ?_
  (try simp only [Act.put]); (try simp only [List.getElem_toArray]); (try simp only [List.getElem_cons_succ]); (try simp only [List.getElem_cons_zero]); (try simp only [List.setIfInBounds_toArray]); (try simp only [List.set_cons_succ]); (try simp only [List.set_cons_zero])
  refine any_take (i := 4) (Ev T2 (.slice p2 T2.kids.len c2)) rfl rfl (by kernel_rfl) (by kernel_rfl) (by kernel_rfl) (by kernel_rfl) (fun _ _ d _ _ h => by cases d <;> exact h) (fun u hS => by exact exec_loadE rfl rfl hS.b) hq0 ?_
  (try simp only [Act.put]); (try simp only [List.getElem_toArray]); (try simp only [List.getElem_cons_succ]); (try simp only [List.getElem_cons_zero]); (try simp only [List.setIfInBounds_toArray]); (try simp only [List.set_cons_succ]); (try simp only [List.set_cons_zero])
  refine any_branch [5] (by kernel_rfl) rfl fun ix hix => ?_
  simp only [List.mem_cons, List.not_mem_nil, or_false] at hix
  subst hix
  refine any_op rfl rfl fun K hK => ?_
  go_simp
  have hc := same_any T T2 _ _ _ _ u0 (by have := HN.out; omega) hq0.sa hq0.sb
  rw [HSM.out] at hc
  refine hc.mono ?_
  rintro e u1 ⟨rfl, hb⟩
  have hq1 := hq0.step hb
  refine hK _ _ (fun _ => hq1) ?_
  (try simp only [Act.put]); (try simp only [List.getElem_toArray]); (try simp only [List.getElem_cons_succ]); (try simp only [List.getElem_cons_zero]); (try simp only [List.setIfInBounds_toArray]); (try simp only [List.set_cons_succ]); (try simp only [List.set_cons_zero])
  clear hK
  refine any_take (i := 6) (.bool true) rfl rfl (by kernel_rfl) (by kernel_rfl) (by kernel_rfl) (by kernel_rfl) (fun _ _ d _ _ h => by cases d <;> exact h) (fun u hS => rfl) hq1 ?_
  (try simp only [Act.put]); (try simp only [List.getElem_toArray]); (try simp only [List.getElem_cons_succ]); (try simp only [List.getElem_cons_zero]); (try simp only [List.setIfInBounds_toArray]); (try simp only [List.set_cons_succ]); (try simp only [List.set_cons_zero])
  refine any_take (i := 7) (.bool true) rfl rfl (by kernel_rfl) (by kernel_rfl) (by kernel_rfl) (by kernel_rfl) (fun _ _ d _ _ h => by cases d <;> exact h) (fun u hS => rfl) hq1 ?_
  (try simp only [Act.put]); (try simp only [List.getElem_toArray]); (try simp only [List.getElem_cons_succ]); (try simp only [List.getElem_cons_zero]); (try simp only [List.setIfInBounds_toArray]); (try simp only [List.set_cons_succ]); (try simp only [List.set_cons_zero])
  refine any_take (i := 8) (Ev T2 (.slice p2 T2.kids.len c2)) rfl rfl (by kernel_rfl) (by kernel_rfl) (by kernel_rfl) (by kernel_rfl) (fun _ _ d _ _ h => by cases d <;> exact h) (fun u hS => by exact exec_loadE rfl rfl hS.b) hq1 ?_
  (try simp only [Act.put]); (try simp only [List.getElem_toArray]); (try simp only [List.getElem_cons_succ]); (try simp only [List.getElem_cons_zero]); (try simp only [List.setIfInBounds_toArray]); (try simp only [List.set_cons_succ]); (try simp only [List.set_cons_zero])
  refine any_take (i := 10) (.string ⟨P.toArray⟩) rfl rfl (by kernel_rfl) (by kernel_rfl) (by kernel_rfl) (by kernel_rfl) (fun _ _ d _ _ h => by cases d <;> exact h) (fun u hS => rfl) hq1 ?_
  (try simp only [Act.put]); (try simp only [List.getElem_toArray]); (try simp only [List.getElem_cons_succ]); (try simp only [List.getElem_cons_zero]); (try simp only [List.setIfInBounds_toArray]); (try simp only [List.set_cons_succ]); (try simp only [List.set_cons_zero])
  refine any_branch [9] (by kernel_rfl) rfl fun ix hix => ?_
  simp only [List.mem_cons, List.not_mem_nil, or_false] at hix
  subst hix
  refine any_op rfl rfl fun K hK => ?_
  go_simp
  have hc := print_any T2 _ _ u1 hq1.sb
  rw [HP2R.out] at hc
  refine hc.mono ?_
  rintro e u2 ⟨rfl, hb⟩
  have hq2 := hq1.step hb
  refine hK _ _ (fun _ => hq2) ?_
  (try simp only [Act.put]); (try simp only [List.getElem_toArray]); (try simp only [List.getElem_cons_succ]); (try simp only [List.getElem_cons_zero]); (try simp only [List.setIfInBounds_toArray]); (try simp only [List.set_cons_succ]); (try simp only [List.set_cons_zero])
  clear hK
  refine any_take (i := 11) (.bool true) rfl rfl (by kernel_rfl) (by kernel_rfl) (by kernel_rfl) (by kernel_rfl) (fun _ _ d _ _ h => by cases d <;> exact h) (fun u hS => exec_eqS rfl rfl rfl) hq2 ?_
  (try simp only [Act.put]); (try simp only [List.getElem_toArray]); (try simp only [List.getElem_cons_succ]); (try simp only [List.getElem_cons_zero]); (try simp only [List.setIfInBounds_toArray]); (try simp only [List.set_cons_succ]); (try simp only [List.set_cons_zero])
  refine any_take (i := 12) (.bool true) rfl rfl (by kernel_rfl) (by kernel_rfl) (by kernel_rfl) (by kernel_rfl) (fun _ _ d _ _ h => by cases d <;> exact h) (fun u hS => rfl) hq2 ?_
  (try simp only [Act.put]); (try simp only [List.getElem_toArray]); (try simp only [List.getElem_cons_succ]); (try simp only [List.getElem_cons_zero]); (try simp only [List.setIfInBounds_toArray]); (try simp only [List.set_cons_succ]); (try simp only [List.set_cons_zero])
  refine any_take (i := 13) (.bool true) rfl rfl (by kernel_rfl) (by kernel_rfl) (by kernel_rfl) (by kernel_rfl) (fun _ _ d _ _ h => by cases d <;> exact h) (fun u hS => rfl) hq2 ?_
  (try simp only [Act.put]); (try simp only [List.getElem_toArray]); (try simp only [List.getElem_cons_succ]); (try simp only [List.getElem_cons_zero]); (try simp only [List.setIfInBounds_toArray]); (try simp only [List.set_cons_succ]); (try simp only [List.set_cons_zero])
  refine any_take (i := 14) (Ev T2 (.slice p2 T2.kids.len c2)) rfl rfl (by kernel_rfl) (by kernel_rfl) (by kernel_rfl) (by kernel_rfl) (fun _ _ d _ _ h => by cases d <;> exact h) (fun u hS => by exact exec_loadE rfl rfl hS.b) hq2 ?_
  (try simp only [Act.put]); (try simp only [List.getElem_toArray]); (try simp only [List.getElem_cons_succ]); (try simp only [List.getElem_cons_zero]); (try simp only [List.setIfInBounds_toArray]); (try simp only [List.set_cons_succ]); (try simp only [List.set_cons_zero])
  refine any_take (i := 16) (Ev T (.slice p1 T.kids.len c1)) rfl rfl (by kernel_rfl) (by kernel_rfl) (by kernel_rfl) (by kernel_rfl) (fun _ _ d _ _ h => by cases d <;> exact h) (fun u hS => by exact exec_loadE rfl rfl hS.a) hq2 ?_
  (try simp only [Act.put]); (try simp only [List.getElem_toArray]); (try simp only [List.getElem_cons_succ]); (try simp only [List.getElem_cons_zero]); (try simp only [List.setIfInBounds_toArray]); (try simp only [List.set_cons_succ]); (try simp only [List.set_cons_zero])
  refine any_branch [15] (by kernel_rfl) rfl fun ix hix => ?_
  simp only [List.mem_cons, List.not_mem_nil, or_false] at hix
  subst hix
  refine any_op rfl rfl fun K hK => ?_
  go_simp
  have hc := func_any T2 _ _ u2 hq2.sb
  rw [HFN.out] at hc
  refine hc.mono ?_
  rintro e u3 ⟨rfl, hb⟩
  have hq3 := hq2.step hb
  refine hK _ _ (fun _ => hq3) ?_
  (try simp only [Act.put]); (try simp only [List.getElem_toArray]); (try simp only [List.getElem_cons_succ]); (try simp only [List.getElem_cons_zero]); (try simp only [List.setIfInBounds_toArray]); (try simp only [List.set_cons_succ]); (try simp only [List.set_cons_zero])
  clear hK
  refine any_branch [17] (by kernel_rfl) rfl fun ix hix => ?_
  simp only [List.mem_cons, List.not_mem_nil, or_false] at hix
  subst hix
  refine any_op rfl rfl fun K hK => ?_
  go_simp
  have hc := func_any T _ _ u3 hq3.sa
  refine hc.mono ?_
  rintro e u4 ⟨rfl, hb⟩
  have hq4 := hq3.step hb
  refine hK _ _ (fun _ => hq4) ?_
  (try simp only [Act.put]); (try simp only [List.getElem_toArray]); (try simp only [List.getElem_cons_succ]); (try simp only [List.getElem_cons_zero]); (try simp only [List.setIfInBounds_toArray]); (try simp only [List.set_cons_succ]); (try simp only [List.set_cons_zero])
  clear hK
  refine any_take (i := 18) (.bool true) rfl rfl (by kernel_rfl) (by kernel_rfl) (by kernel_rfl) (by kernel_rfl) (fun _ _ d _ _ h => by cases d <;> exact h) (fun u hS => exec_eqT rfl rfl rfl rfl) hq4 ?_
  (try simp only [Act.put]); (try simp only [List.getElem_toArray]); (try simp only [List.getElem_cons_succ]); (try simp only [List.getElem_cons_zero]); (try simp only [List.setIfInBounds_toArray]); (try simp only [List.set_cons_succ]); (try simp only [List.set_cons_zero])
  refine any_take (i := 19) (.bool true) rfl rfl (by kernel_rfl) (by kernel_rfl) (by kernel_rfl) (by kernel_rfl) (fun _ _ d _ _ h => by cases d <;> exact h) (fun u hS => rfl) hq4 ?_
  (try simp only [Act.put]); (try simp only [List.getElem_toArray]); (try simp only [List.getElem_cons_succ]); (try simp only [List.getElem_cons_zero]); (try simp only [List.setIfInBounds_toArray]); (try simp only [List.set_cons_succ]); (try simp only [List.set_cons_zero])
  refine any_branch [20] (by kernel_rfl) rfl fun ix hix => ?_
  simp only [List.mem_cons, List.not_mem_nil, or_false] at hix
  subst hix
  refine any_op rfl rfl fun K hK => ?_
  go_simp
  refine hK _ _ (fun _ => hq4) ?_
  (try simp only [Act.put]); (try simp only [List.getElem_toArray]); (try simp only [List.getElem_cons_succ]); (try simp only [List.getElem_cons_zero]); (try simp only [List.setIfInBounds_toArray]); (try simp only [List.set_cons_succ]); (try simp only [List.set_cons_zero])
  clear hK
  refine any_end (by kernel_rfl) ?_
  have HF := Bx.mk hq4.be
  clear hq0 hq1 hq2 hq3 hq4
  go_wp2_with fail
  go_ret
  exact ⟨rfl, HF.out⟩
theorem back_any (s : ByteArray) (w : World) : Calls Try.prog 5 #[.string s] w fun e w' => e = .returned (.bool true) ∧ Below w.heap.size w w' := by
  by_cases h : 2000 < s.size
  · exact back_long s w h
  have h : s.size ≤ 2000 := by omega
  obtain ⟨g1, g2⟩ := Ex.parse_good (bl s) (fun x hx => bl_lt hx) (by rw [bl_length]; omega)
  rw [bl_length] at g2
  rcases hR : Ex.parse (bl s) with ⟨T, at_, e⟩
  rw [hR] at g1 g2
  simp only [] at g1 g2
  by_cases he : e = 0
  · subst he
    obtain ⟨rfl, hT⟩ := g1 rfl
    obtain ⟨hn, hpl⟩ := Ex.is_nodes hT
    rcases hR2 : Ex.parse (nl (Ex.pr T)) with ⟨T2, at2, e2⟩
    by_cases hl : 4000 < (Ex.pr T).length
    · have := Ex.parse_long (l := nl (Ex.pr T)) (by unfold nl; simpa using hl)
      rw [hR2] at this
      exact back_deep s w h T T2 at2 e2 _ hR hT rfl hR2 (.inl ⟨hl, this⟩)
    · rcases Ex.back hpl (by omega) with hb | ⟨hb, hs⟩
      · rw [hR2] at hb
        exact back_deep s w h T T2 at2 e2 _ hR hT rfl hR2 (.inr ⟨by omega, hb⟩)
      · have h0 := Ex.parse_at (nl (Ex.pr T)) hb
        rw [hR2] at hb hs h0
        simp only [] at hb hs h0
        subst hb h0
        exact back_same s w h T T2 _ hR hT rfl hR2 hs
  · obtain ⟨rfl, ha⟩ := g2 he
    exact back_bad s w h at_ e he ha hR
end Go.Proofs.Ytfgokhafiffbaaa
