/-
  Texts on which the law ExprBlanks rests, part 6 of 6.
-/
import Derived.Test.YtfgokhafiffbaaaExprBlanksM5
import Derived.Test.YtfgokhafiffbaaaRows
import Derived.WalkKit
import Derived.ProofKit
import Derived.OpenShut
/-
  Formulas: the walk of ExprBlanks.
-/
namespace Go.Proofs.Ytfgokhafiffbaaa
set_option linter.unusedVariables false
open Go.RowKit
def Bk.signs : ByteArray := { data := #[33, 38, 94, 124, 40, 41, 44] }
/-- is it one of the first j signs? -/
def Bk.upto (c j : Nat) : Bool := (([33, 38, 94, 124, 40, 41, 44] : List Nat).take j).any (fun d => c == d)
theorem Bk.bl_signs : bl { data := #[33, 38, 94, 124, 40, 41, 44] } = [33, 38, 94, 124, 40, 41, 44] := by unfold bl; decide +kernel
theorem Bk.upto7 (c : Nat) : Bk.upto c 7 = Bk.sign c := by
  unfold Bk.upto Bk.sign
  simp [List.any_cons, Bool.or_assoc]
theorem Bk.upto_succ {c j d : Nat} (h : ([33, 38, 94, 124, 40, 41, 44] : List Nat)[j]? = some d) : Bk.upto c (j + 1) = (Bk.upto c j || (c == d)) := by
  unfold Bk.upto
  rw [List.take_add_one, List.any_append, h]
  simp
theorem cat_size (a b : ByteArray) : (a ++ b).size = a.size + b.size := ByteArray.size_append ..
/-- where the outer loop stands: what has been made of the first i letters -/
structure BS (b s t : ByteArray) (i : Nat) : Prop where
  eq : bl t = Bk.sp (bl b) ((bl s).take i)
  hi : i ≤ s.size
theorem Bk.len_take {b : List Nat} (hb : b.length ≤ 2) (l : List Nat) (i : Nat) : (Bk.sp b (l.take i)).length ≤ 5 * i := by
  have := Bk.sp_len hb (l.take i)
  have h2 : (l.take i).length ≤ i := List.length_take_le _ _
  omega
theorem BS.step {b s t u : ByteArray} {i c : Nat} (h : BS b s t i) (hc : (bl s)[i]? = some c) (hu : bl u = bl t ++ Bk.one (bl b) c) : BS b s u (i + 1) := by
  have hlt := (List.getElem?_eq_some_iff.1 hc).1
  rw [bl_length] at hlt
  refine ⟨?_, by omega⟩
  rw [hu, h.eq, List.take_add_one, hc, Bk.sp_append]
  simp [Bk.sp]
theorem bl_piece {s : ByteArray} {i c : Nat} (hc : (bl s)[i]? = some c) : bl (s.extract i (i + 1)) = [c] := by
  rw [bl_extract, show i + 1 - i = 1 from by omega]
  have hlt := (List.getElem?_eq_some_iff.1 hc).1
  rw [List.drop_eq_getElem_cons hlt, (List.getElem?_eq_some_iff.1 hc).2]
  simp

theorem Bk.ix0 (w : World) : (Instr.index 49 (.agg #[.string { data := #[32] }, .string { data := #[9] }, .string { data := #[10, 32] }]) (.int .u8 0)).run Try.prog w = .ok (.string { data := #[32] }) w := by kernel_rfl
theorem Bk.bl0 : bl { data := #[32] } = [32] := by unfold bl; decide +kernel
theorem Bk.ok0 : Blk_ [32] := ⟨by simp, by intro x hx; simp at hx; unfold Lx.blank; subst hx; rfl⟩
theorem Bk.ix1 (w : World) : (Instr.index 49 (.agg #[.string { data := #[32] }, .string { data := #[9] }, .string { data := #[10, 32] }]) (.int .u8 1)).run Try.prog w = .ok (.string { data := #[9] }) w := by kernel_rfl
theorem Bk.bl1 : bl { data := #[9] } = [9] := by unfold bl; decide +kernel
theorem Bk.ok1 : Blk_ [9] := ⟨by simp, by intro x hx; simp at hx; unfold Lx.blank; subst hx; rfl⟩
theorem Bk.ix2 (w : World) : (Instr.index 49 (.agg #[.string { data := #[32] }, .string { data := #[9] }, .string { data := #[10, 32] }]) (.int .u8 2)).run Try.prog w = .ok (.string { data := #[10, 32] }) w := by kernel_rfl
theorem Bk.bl2 : bl { data := #[10, 32] } = [10, 32] := by unfold bl; decide +kernel
theorem Bk.ok2 : Blk_ [10, 32] := ⟨by simp, by intro x hx; simp at hx; unfold Lx.blank; rcases hx with rfl | rfl <;> rfl⟩
set_option maxHeartbeats 8000000 in
theorem blanks_long (s : ByteArray) (at_ bk : Int) (w : World) (h : 500 < s.size) : Calls Try.prog 6 #[.string s, .int .u16 at_, .int .u8 bk] w fun e w' => e = .returned (.bool true) ∧ Below w.heap.size w w' := by
  have q : (s.size : Int) > 500 := by omega
  clear h
  go_enter Try.func6, Try.ntmps6
  go_wp2_with fail
  refine (known_any _).mono ?_
  rintro e w1 ⟨rfl, hb⟩
  have HB := Bx.mk hb
  clear hb
  go_wp2_with fail
  go_ret
  exact ⟨rfl, HB.out⟩
set_option maxHeartbeats 8000000 in
theorem blanks_bad (s : ByteArray) (at_ bk : Int) (w : World) (h : s.size ≤ 500) (R : Tr × Nat × Nat) (hR : Ex.parse (bl s) = R) (he : R.2.2 ≠ 0) :
    Calls Try.prog 6 #[.string s, .int .u16 at_, .int .u8 bk] w fun e w' => e = .returned (.bool true) ∧ Below w.heap.size w w' := by
  obtain ⟨t, a, e⟩ := R
  simp only [] at he
  have q : ¬ (s.size : Int) > 500 := by omega
  have q1 : ((e : Int) != 0) = true := by rw [bne_iff_ne]; omega
  have hp := fun u => parse_any s u
  rw [hR] at hp
  have HP := Bx.mk hp
  clear h he hR hp
  go_enter Try.func6, Try.ntmps6
  go_wp2_with fail
  refine (known_any _).mono ?_
  rintro e w1 ⟨rfl, hb⟩
  have HB := Bx.mk hb
  clear hb
  go_wp2_with fail
  refine (HP.out _).mono ?_
  rintro e w2 ⟨sl, rfl, hS, hb⟩
  obtain ⟨p1, c1, rfl⟩ := hS.is
  have HO := Bx.mk (OneE.box (s := t) (HB.out.trans (hb.mono HB.out.size)) hS)
  clear hS hb
  unfold Pv Ev
  simp only []
  go_wp2_with fail
  go_ret
  exact ⟨rfl, HO.out.be⟩

set_option maxHeartbeats 16000000 in
theorem blanks_0 (s : ByteArray) (at_ : Int) (bk : Nat) (hbk : (bk : Int) % 3 = 0) (w : World) (h : s.size ≤ 500) (T : Tr) (hR : Ex.parse (bl s) = (T, 0, 0)) (hT : Ex.is T = true) :
    Calls Try.prog 6 #[.string s, .int .u16 at_, .int .u8 (bk : Int)] w fun e w' => e = .returned (.bool true) ∧ Below w.heap.size w w' := by
  have q : ¬ (s.size : Int) > 500 := by omega
  have ix := Bk.ix0
  have hp := fun u => parse_any s u
  rw [hR] at hp
  have HP := Bx.mk hp
  have HE := Bx.mk (show (Ex.parse (bl s)).2.2 = 0 from by rw [hR])
  have HR := Bx.mk hR
  have HZ := Bx.mk h
  have HN := Bx.mk (Ex.is_nodes hT).1
  have HT := Bx.mk hT
  have BZ := Bx.mk (show (({ data := #[32] } : ByteArray)).size = 1 from rfl)
  clear h hR hp hT
  go_enter Try.func6, Try.ntmps6
  go_wp2_with fail
  refine (known_any _).mono ?_
  rintro e w1 ⟨rfl, hb⟩
  have HB := Bx.mk hb
  clear hb
  go_wp2_with fail
  refine (HP.out _).mono ?_
  rintro e w2 ⟨sl, rfl, hS, hb⟩
  obtain ⟨p1, c1, rfl⟩ := hS.is
  have HO := Bx.mk (OneE.box (s := T) (HB.out.trans (hb.mono HB.out.size)) hS)
  clear hS hb
  unfold Pv Ev
  simp only []
  go_wp2_with fail
  go_loopw [11, 13] (fun t i wr => ∃ (j : Nat) (t0 : ByteArray), i = .int .i64 (j : Int) ∧ t = .string t0 ∧ Bx (BS ({ data := #[32] } : ByteArray) s t0 j) ∧ OneE w wr w2.heap.size T (.slice p1 T.kids.len c1)) (fun _ i _ => s.size - (intOf i).toNat)
  case atStart => exact ⟨0, _, rfl, rfl, ⟨⟨by rw [bl_nil, List.take_zero]; rfl, Nat.zero_le _⟩⟩, HO.out⟩
  case round =>
    clear HO
    obtain ⟨i, t, rfl, rfl, HS, hO⟩ := hrel
    have HO := Bx.mk hO
    clear hO
    have htl : t.size ≤ 5 * i := by rw [← bl_length, HS.out.eq]; exact Bk.len_take (by rw [Bk.bl0]; decide) _ _
    have HTL := Bx.mk htl
    have hile := HS.out.hi
    clear htl
    by_cases hlt : i < s.size
    · have qi : (i : Int) < s.size := by omega
      obtain ⟨c, hc⟩ : ∃ c, (bl s)[i]? = some c := ⟨_, List.getElem?_eq_getElem (by rw [bl_length]; exact hlt)⟩
      have HC := Bx.mk hc
      have hci := run_idx hc
      have hc256 := bl_lt (List.mem_of_getElem? hc)
      clear hc
      go_wp2_with fail
      obtain ⟨wo, rfl⟩ : ∃ wo : World, wo = wr := ⟨_, rfl⟩
      go_loopw [14, 15] (fun o k wv => ∃ (j : Nat), j ≤ 7 ∧ k = .int .i64 (j : Int) ∧ o = .bool (Bk.upto c j) ∧ OneE w wv w2.heap.size T (.slice p1 T.kids.len c1)) (fun _ k _ => 7 - (intOf k).toNat)
      case atStart => exact ⟨0, by omega, rfl, rfl, HO.out⟩
      case round =>
        clear HO
        obtain ⟨j, hj, rfl, rfl, hO⟩ := hrel
        have HO := Bx.mk hO
        clear hO
        by_cases hj7 : j < 7
        · have qj : (j : Int) < 7 := by omega
          obtain ⟨d, hd⟩ : ∃ d, ([33, 38, 94, 124, 40, 41, 44] : List Nat)[j]? = some d := ⟨_, List.getElem?_eq_getElem (by simpa using hj7)⟩
          have hdi := run_idx (s := { data := #[33, 38, 94, 124, 40, 41, 44] }) (by rw [Bk.bl_signs]; exact hd)
          have HU := Bx.mk (Bk.upto_succ (c := c) hd)
          clear hd
          cases hu : Bk.upto c j with
          | true =>
            have HV := Bx.mk (show Bk.upto c (j + 1) = true from by rw [HU.out, hu]; rfl)
            clear hu
            go_wp2_with fail
            refine region_stB (by kernel_rfl) (by kernel_rfl) ?_
            (repeat (refine stB_step (fun K hK => ?_); go_simp; refine hK _ ?_; clear hK K))
            refine stB_nil ?_
            go_wp2_with fail
            refine ⟨⟨j + 1, by omega, by go_num, by rw [HV.out], HO.out.step ((Below.refl _ _).drew)⟩, by simp [intOf]; omega⟩
          | false =>
            have HV := Bx.mk (show Bk.upto c (j + 1) = ((c : Int) == (d : Int)) from by rw [HU.out, hu, Bool.false_or, Bool.eq_iff_iff, beq_iff_eq, beq_iff_eq]; omega)
            clear hu
            go_wp2_with fail
            refine region_stB (by kernel_rfl) (by kernel_rfl) ?_
            (repeat (refine stB_step (fun K hK => ?_); go_simp; refine hK _ ?_; clear hK K))
            refine stB_nil ?_
            go_wp2_with fail
            refine ⟨⟨j + 1, by omega, by go_num, by rw [HV.out], HO.out.step ((Below.refl _ _).drew)⟩, by simp [intOf]; omega⟩
        · have qj : ¬ (j : Int) < 7 := by omega
          obtain rfl : j = 7 := by omega
          have hle : (i : Int) + 1 ≤ s.size := by omega
          have hpc := bl_piece HC.out
          have hpz : (s.extract i (i + 1)).size = 1 := by rw [← bl_length, hpc]; rfl
          have HPC := Bx.mk hpc
          cases hsg : Bk.sign c with
          | true =>
            have hu7 : Bk.upto c 7 = true := by rw [Bk.upto7]; exact hsg
            have z1 : ¬ 9223372036854775807 < t.size + 1 := by have := HTL.out; have := HZ.out; omega
            have z2 : ¬ 9223372036854775807 < t.size + 1 + (min (i + 1) s.size - i) := by have := HTL.out; have := HZ.out; omega
            have z3 : ¬ 9223372036854775807 < t.size + 1 + (min (i + 1) s.size - i) + 1 := by have := HTL.out; have := HZ.out; omega
            rw [hu7]
            clear hu7
            have HS2 := Bx.mk (HS.out.step HC.out (show bl (t ++ ({ data := #[32] } : ByteArray) ++ s.extract i (i + 1) ++ ({ data := #[32] } : ByteArray)) = bl t ++ Bk.one (bl ({ data := #[32] } : ByteArray)) c from by rw [bl_append, bl_append, bl_append, hpc, Bk.one, hsg, if_pos rfl]; simp))
            clear hpc hpz hsg
            go_wp2_with fail
            exact ⟨⟨i + 1, _, by go_num, rfl, HS2, HO.out⟩, by simp [intOf]; omega⟩
          | false =>
            have hu7 : Bk.upto c 7 = false := by rw [Bk.upto7]; exact hsg
            have z1 : ¬ 9223372036854775807 < t.size + (min (i + 1) s.size - i) := by have := HTL.out; have := HZ.out; omega
            rw [hu7]
            clear hu7
            have HS2 := Bx.mk (HS.out.step HC.out (show bl (t ++ s.extract i (i + 1)) = bl t ++ Bk.one (bl ({ data := #[32] } : ByteArray)) c from by rw [bl_append, hpc, Bk.one, hsg, if_neg (by simp)]))
            clear hpc hpz hsg
            go_wp2_with fail
            exact ⟨⟨i + 1, _, by go_num, rfl, HS2, HO.out⟩, by simp [intOf]; omega⟩
    · have qi : ¬ (i : Int) < s.size := by omega
      obtain rfl : i = s.size := by omega
      have hA1 := str_add ({ data := #[32] } : ByteArray) t (by have := HTL.out; have := HZ.out; rw [BZ.out]; omega)
      have hA2 := str_add (({ data := #[32] } : ByteArray) ++ t) ({ data := #[32] } : ByteArray) (by have := HTL.out; have := HZ.out; rw [cat_size, BZ.out]; omega)
      have hbl : bl (({ data := #[32] } : ByteArray) ++ t ++ ({ data := #[32] } : ByteArray)) = [32] ++ Bk.sp [32] (bl s) ++ [32] := by
        rw [bl_append, bl_append, HS.out.eq, Bk.bl0, List.take_of_length_le (by rw [bl_length]; omega)]
      obtain ⟨g1, g2⟩ := Bk.parse Bk.ok0 (by decide) (fun x hx => bl_lt hx) (by rw [bl_length]; exact HZ.out) HE.out
      rw [HR.out] at g2
      rw [← hbl] at g1 g2
      have hp := fun u => parse_any (({ data := #[32] } : ByteArray) ++ t ++ ({ data := #[32] } : ByteArray)) u
      have ga := Ex.parse_at _ g1
      rcases hR2 : Ex.parse (bl (({ data := #[32] } : ByteArray) ++ t ++ ({ data := #[32] } : ByteArray))) with ⟨T2, a2, e2⟩
      rw [hR2] at hp g1 g2 ga
      simp only [] at g1 g2 ga
      subst g1 ga
      have HP2 := Bx.mk hp
      have hsa := Ex.same_all g2
      have HSM := Bx.mk g2
      have hpq : Ex.print T2 = Ex.print T := by unfold Ex.print; rw [← hsa.2.2, ← hsa.1]
      have HPQ := Bx.mk hpq
      clear hbl hp hR2 g2 hsa hpq
      go_wp2_with fail
      refine (HP2.out _).mono ?_
      rintro e w4 ⟨sl, rfl, hS, hb⟩
      obtain ⟨p2, c2, rfl⟩ := hS.is
      have HW := Bx.mk ((HO.out.step hb).two hS)
      clear hS hb HO hA1 hA2
      unfold Pv Ev
      simp only []
      go_wp2_with fail
      refine region_any 100 (fun u => TwoE w u w2.heap.size w4.heap.size T T2 (.slice p1 T.kids.len c1) (.slice p2 T2.kids.len c2)) (by kernel_rfl) ?_
      generalize hu : World.drew _ = u0
      have hq0 := HW.out.step ((Below.refl _ _).drew)
      rw [hu] at hq0
      clear hu
      refine any_take (i := 0) (.int .i64 0) rfl rfl (by kernel_rfl) (by kernel_rfl) (by kernel_rfl) (by kernel_rfl) (fun _ _ d _ _ h => by cases d <;> exact h) (fun u hS => rfl) hq0 ?_
      (try simp only [Act.put]); (try simp only [List.getElem_toArray]); (try simp only [List.getElem_cons_succ]); (try simp only [List.getElem_cons_zero]); (try simp only [List.setIfInBounds_toArray]); (try simp only [List.set_cons_succ]); (try simp only [List.set_cons_zero])
      refine any_take (i := 1) (.bool true) rfl rfl (by kernel_rfl) (by kernel_rfl) (by kernel_rfl) (by kernel_rfl) (fun _ _ d _ _ h => by cases d <;> exact h) (fun u hS => rfl) hq0 ?_
      (try simp only [Act.put]); (try simp only [List.getElem_toArray]); (try simp only [List.getElem_cons_succ]); (try simp only [List.getElem_cons_zero]); (try simp only [List.setIfInBounds_toArray]); (try simp only [List.set_cons_succ]); (try simp only [List.set_cons_zero])
      refine any_take (i := 2) (.bool true) rfl rfl (by kernel_rfl) (by kernel_rfl) (by kernel_rfl) (by kernel_rfl) (fun _ _ d _ _ h => by cases d <;> exact h) (fun u hS => rfl) hq0 ?_
      (try simp only [Act.put]); (try simp only [List.getElem_toArray]); (try simp only [List.getElem_cons_succ]); (try simp only [List.getElem_cons_zero]); (try simp only [List.setIfInBounds_toArray]); (try simp only [List.set_cons_succ]); (try simp only [List.set_cons_zero])
      refine any_take (i := 3) (Ev T (.slice p1 T.kids.len c1)) rfl rfl (by kernel_rfl) (by kernel_rfl) (by kernel_rfl) (by kernel_rfl) (fun _ _ d _ _ h => by cases d <;> exact h) (fun u hS => by exact exec_loadE rfl rfl hS.a) hq0 ?_
      (try simp only [Act.put]); (try simp only [List.getElem_toArray]); (try simp only [List.getElem_cons_succ]); (try simp only [List.getElem_cons_zero]); (try simp only [List.setIfInBounds_toArray]); (try simp only [List.set_cons_succ]); (try simp only [List.set_cons_zero])
      refine any_take (i := 4) (Ev T2 (.slice p2 T2.kids.len c2)) rfl rfl (by kernel_rfl) (by kernel_rfl) (by kernel_rfl) (by kernel_rfl) (fun _ _ d _ _ h => by cases d <;> exact h) (fun u hS => by exact exec_loadE rfl rfl hS.b) hq0 ?_
      (try simp only [Act.put]); (try simp only [List.getElem_toArray]); (try simp only [List.getElem_cons_succ]); (try simp only [List.getElem_cons_zero]); (try simp only [List.setIfInBounds_toArray]); (try simp only [List.set_cons_succ]); (try simp only [List.set_cons_zero])
      refine any_branch [5] (by kernel_rfl) rfl fun ix hix => ?_
      simp only [List.mem_cons, List.not_mem_nil, or_false] at hix
      subst hix
      refine any_op rfl rfl fun K hK => ?_
      go_simp
      have hc := same_any T T2 _ _ _ _ u0 (by have := HN.out; omega) hq0.sa hq0.sb
      rw [HSM.out] at hc
      refine hc.mono ?_
      rintro e u1 ⟨rfl, hb⟩
      have hq1 := hq0.step hb
      refine hK _ _ (fun _ => hq1) ?_
      (try simp only [Act.put]); (try simp only [List.getElem_toArray]); (try simp only [List.getElem_cons_succ]); (try simp only [List.getElem_cons_zero]); (try simp only [List.setIfInBounds_toArray]); (try simp only [List.set_cons_succ]); (try simp only [List.set_cons_zero])
      clear hK
      refine any_take (i := 6) (.bool true) rfl rfl (by kernel_rfl) (by kernel_rfl) (by kernel_rfl) (by kernel_rfl) (fun _ _ d _ _ h => by cases d <;> exact h) (fun u hS => rfl) hq1 ?_
      (try simp only [Act.put]); (try simp only [List.getElem_toArray]); (try simp only [List.getElem_cons_succ]); (try simp only [List.getElem_cons_zero]); (try simp only [List.setIfInBounds_toArray]); (try simp only [List.set_cons_succ]); (try simp only [List.set_cons_zero])
      refine any_take (i := 7) (.bool true) rfl rfl (by kernel_rfl) (by kernel_rfl) (by kernel_rfl) (by kernel_rfl) (fun _ _ d _ _ h => by cases d <;> exact h) (fun u hS => rfl) hq1 ?_
      (try simp only [Act.put]); (try simp only [List.getElem_toArray]); (try simp only [List.getElem_cons_succ]); (try simp only [List.getElem_cons_zero]); (try simp only [List.setIfInBounds_toArray]); (try simp only [List.set_cons_succ]); (try simp only [List.set_cons_zero])
      refine any_take (i := 8) (Ev T (.slice p1 T.kids.len c1)) rfl rfl (by kernel_rfl) (by kernel_rfl) (by kernel_rfl) (by kernel_rfl) (fun _ _ d _ _ h => by cases d <;> exact h) (fun u hS => by exact exec_loadE rfl rfl hS.a) hq1 ?_
      (try simp only [Act.put]); (try simp only [List.getElem_toArray]); (try simp only [List.getElem_cons_succ]); (try simp only [List.getElem_cons_zero]); (try simp only [List.setIfInBounds_toArray]); (try simp only [List.set_cons_succ]); (try simp only [List.set_cons_zero])
      refine any_take (i := 10) (Ev T2 (.slice p2 T2.kids.len c2)) rfl rfl (by kernel_rfl) (by kernel_rfl) (by kernel_rfl) (by kernel_rfl) (fun _ _ d _ _ h => by cases d <;> exact h) (fun u hS => by exact exec_loadE rfl rfl hS.b) hq1 ?_
      (try simp only [Act.put]); (try simp only [List.getElem_toArray]); (try simp only [List.getElem_cons_succ]); (try simp only [List.getElem_cons_zero]); (try simp only [List.setIfInBounds_toArray]); (try simp only [List.set_cons_succ]); (try simp only [List.set_cons_zero])
      refine any_branch [9] (by kernel_rfl) rfl fun ix hix => ?_
      simp only [List.mem_cons, List.not_mem_nil, or_false] at hix
      subst hix
      refine any_op rfl rfl fun K hK => ?_
      go_simp
      have hc := print_any T _ _ u1 hq1.sa
      refine hc.mono ?_
      rintro e u2 ⟨rfl, hb⟩
      have hq2 := hq1.step hb
      refine hK _ _ (fun _ => hq2) ?_
      (try simp only [Act.put]); (try simp only [List.getElem_toArray]); (try simp only [List.getElem_cons_succ]); (try simp only [List.getElem_cons_zero]); (try simp only [List.setIfInBounds_toArray]); (try simp only [List.set_cons_succ]); (try simp only [List.set_cons_zero])
      clear hK
      refine any_branch [11] (by kernel_rfl) rfl fun ix hix => ?_
      simp only [List.mem_cons, List.not_mem_nil, or_false] at hix
      subst hix
      refine any_op rfl rfl fun K hK => ?_
      go_simp
      have hc := print_any T2 _ _ u2 hq2.sb
      rw [HPQ.out] at hc
      refine hc.mono ?_
      rintro e u3 ⟨rfl, hb⟩
      have hq3 := hq2.step hb
      refine hK _ _ (fun _ => hq3) ?_
      (try simp only [Act.put]); (try simp only [List.getElem_toArray]); (try simp only [List.getElem_cons_succ]); (try simp only [List.getElem_cons_zero]); (try simp only [List.setIfInBounds_toArray]); (try simp only [List.set_cons_succ]); (try simp only [List.set_cons_zero])
      clear hK
      refine any_take (i := 12) (.bool true) rfl rfl (by kernel_rfl) (by kernel_rfl) (by kernel_rfl) (by kernel_rfl) (fun _ _ d _ _ h => by cases d <;> exact h) (fun u hS => exec_eqS rfl rfl rfl) hq3 ?_
      (try simp only [Act.put]); (try simp only [List.getElem_toArray]); (try simp only [List.getElem_cons_succ]); (try simp only [List.getElem_cons_zero]); (try simp only [List.setIfInBounds_toArray]); (try simp only [List.set_cons_succ]); (try simp only [List.set_cons_zero])
      refine any_take (i := 13) (.bool true) rfl rfl (by kernel_rfl) (by kernel_rfl) (by kernel_rfl) (by kernel_rfl) (fun _ _ d _ _ h => by cases d <;> exact h) (fun u hS => rfl) hq3 ?_
      (try simp only [Act.put]); (try simp only [List.getElem_toArray]); (try simp only [List.getElem_cons_succ]); (try simp only [List.getElem_cons_zero]); (try simp only [List.setIfInBounds_toArray]); (try simp only [List.set_cons_succ]); (try simp only [List.set_cons_zero])
      refine any_branch [14] (by kernel_rfl) rfl fun ix hix => ?_
      simp only [List.mem_cons, List.not_mem_nil, or_false] at hix
      subst hix
      refine any_op rfl rfl fun K hK => ?_
      go_simp
      refine hK _ _ (fun _ => hq3) ?_
      (try simp only [Act.put]); (try simp only [List.getElem_toArray]); (try simp only [List.getElem_cons_succ]); (try simp only [List.getElem_cons_zero]); (try simp only [List.setIfInBounds_toArray]); (try simp only [List.set_cons_succ]); (try simp only [List.set_cons_zero])
      clear hK
      refine any_end (by kernel_rfl) ?_
      have HF := Bx.mk hq3.be
      clear hq0 hq1 hq2 hq3
      go_wp2_with fail
      go_ret
      exact ⟨rfl, HF.out⟩
set_option maxHeartbeats 16000000 in
theorem blanks_1 (s : ByteArray) (at_ : Int) (bk : Nat) (hbk : (bk : Int) % 3 = 1) (w : World) (h : s.size ≤ 500) (T : Tr) (hR : Ex.parse (bl s) = (T, 0, 0)) (hT : Ex.is T = true) :
    Calls Try.prog 6 #[.string s, .int .u16 at_, .int .u8 (bk : Int)] w fun e w' => e = .returned (.bool true) ∧ Below w.heap.size w w' := by
  have q : ¬ (s.size : Int) > 500 := by omega
  have ix := Bk.ix1
  have hp := fun u => parse_any s u
  rw [hR] at hp
  have HP := Bx.mk hp
  have HE := Bx.mk (show (Ex.parse (bl s)).2.2 = 0 from by rw [hR])
  have HR := Bx.mk hR
  have HZ := Bx.mk h
  have HN := Bx.mk (Ex.is_nodes hT).1
  have HT := Bx.mk hT
  have BZ := Bx.mk (show (({ data := #[9] } : ByteArray)).size = 1 from rfl)
  clear h hR hp hT
  go_enter Try.func6, Try.ntmps6
  go_wp2_with fail
  refine (known_any _).mono ?_
  rintro e w1 ⟨rfl, hb⟩
  have HB := Bx.mk hb
  clear hb
  go_wp2_with fail
  refine (HP.out _).mono ?_
  rintro e w2 ⟨sl, rfl, hS, hb⟩
  obtain ⟨p1, c1, rfl⟩ := hS.is
  have HO := Bx.mk (OneE.box (s := T) (HB.out.trans (hb.mono HB.out.size)) hS)
  clear hS hb
  unfold Pv Ev
  simp only []
  go_wp2_with fail
  go_loopw [11, 13] (fun t i wr => ∃ (j : Nat) (t0 : ByteArray), i = .int .i64 (j : Int) ∧ t = .string t0 ∧ Bx (BS ({ data := #[9] } : ByteArray) s t0 j) ∧ OneE w wr w2.heap.size T (.slice p1 T.kids.len c1)) (fun _ i _ => s.size - (intOf i).toNat)
  case atStart => exact ⟨0, _, rfl, rfl, ⟨⟨by rw [bl_nil, List.take_zero]; rfl, Nat.zero_le _⟩⟩, HO.out⟩
  case round =>
    clear HO
    obtain ⟨i, t, rfl, rfl, HS, hO⟩ := hrel
    have HO := Bx.mk hO
    clear hO
    have htl : t.size ≤ 5 * i := by rw [← bl_length, HS.out.eq]; exact Bk.len_take (by rw [Bk.bl1]; decide) _ _
    have HTL := Bx.mk htl
    have hile := HS.out.hi
    clear htl
    by_cases hlt : i < s.size
    · have qi : (i : Int) < s.size := by omega
      obtain ⟨c, hc⟩ : ∃ c, (bl s)[i]? = some c := ⟨_, List.getElem?_eq_getElem (by rw [bl_length]; exact hlt)⟩
      have HC := Bx.mk hc
      have hci := run_idx hc
      have hc256 := bl_lt (List.mem_of_getElem? hc)
      clear hc
      go_wp2_with fail
      obtain ⟨wo, rfl⟩ : ∃ wo : World, wo = wr := ⟨_, rfl⟩
      go_loopw [14, 15] (fun o k wv => ∃ (j : Nat), j ≤ 7 ∧ k = .int .i64 (j : Int) ∧ o = .bool (Bk.upto c j) ∧ OneE w wv w2.heap.size T (.slice p1 T.kids.len c1)) (fun _ k _ => 7 - (intOf k).toNat)
      case atStart => exact ⟨0, by omega, rfl, rfl, HO.out⟩
      case round =>
        clear HO
        obtain ⟨j, hj, rfl, rfl, hO⟩ := hrel
        have HO := Bx.mk hO
        clear hO
        by_cases hj7 : j < 7
        · have qj : (j : Int) < 7 := by omega
          obtain ⟨d, hd⟩ : ∃ d, ([33, 38, 94, 124, 40, 41, 44] : List Nat)[j]? = some d := ⟨_, List.getElem?_eq_getElem (by simpa using hj7)⟩
          have hdi := run_idx (s := { data := #[33, 38, 94, 124, 40, 41, 44] }) (by rw [Bk.bl_signs]; exact hd)
          have HU := Bx.mk (Bk.upto_succ (c := c) hd)
          clear hd
          cases hu : Bk.upto c j with
          | true =>
            have HV := Bx.mk (show Bk.upto c (j + 1) = true from by rw [HU.out, hu]; rfl)
            clear hu
            go_wp2_with fail
            refine region_stB (by kernel_rfl) (by kernel_rfl) ?_
            (repeat (refine stB_step (fun K hK => ?_); go_simp; refine hK _ ?_; clear hK K))
            refine stB_nil ?_
            go_wp2_with fail
            refine ⟨⟨j + 1, by omega, by go_num, by rw [HV.out], HO.out.step ((Below.refl _ _).drew)⟩, by simp [intOf]; omega⟩
          | false =>
            have HV := Bx.mk (show Bk.upto c (j + 1) = ((c : Int) == (d : Int)) from by rw [HU.out, hu, Bool.false_or, Bool.eq_iff_iff, beq_iff_eq, beq_iff_eq]; omega)
            clear hu
            go_wp2_with fail
            refine region_stB (by kernel_rfl) (by kernel_rfl) ?_
            (repeat (refine stB_step (fun K hK => ?_); go_simp; refine hK _ ?_; clear hK K))
            refine stB_nil ?_
            go_wp2_with fail
            refine ⟨⟨j + 1, by omega, by go_num, by rw [HV.out], HO.out.step ((Below.refl _ _).drew)⟩, by simp [intOf]; omega⟩
        · have qj : ¬ (j : Int) < 7 := by omega
          obtain rfl : j = 7 := by omega
          have hle : (i : Int) + 1 ≤ s.size := by omega
          have hpc := bl_piece HC.out
          have hpz : (s.extract i (i + 1)).size = 1 := by rw [← bl_length, hpc]; rfl
          have HPC := Bx.mk hpc
          cases hsg : Bk.sign c with
          | true =>
            have hu7 : Bk.upto c 7 = true := by rw [Bk.upto7]; exact hsg
            have z1 : ¬ 9223372036854775807 < t.size + 1 := by have := HTL.out; have := HZ.out; omega
            have z2 : ¬ 9223372036854775807 < t.size + 1 + (min (i + 1) s.size - i) := by have := HTL.out; have := HZ.out; omega
            have z3 : ¬ 9223372036854775807 < t.size + 1 + (min (i + 1) s.size - i) + 1 := by have := HTL.out; have := HZ.out; omega
            rw [hu7]
            clear hu7
            have HS2 := Bx.mk (HS.out.step HC.out (show bl (t ++ ({ data := #[9] } : ByteArray) ++ s.extract i (i + 1) ++ ({ data := #[9] } : ByteArray)) = bl t ++ Bk.one (bl ({ data := #[9] } : ByteArray)) c from by rw [bl_append, bl_append, bl_append, hpc, Bk.one, hsg, if_pos rfl]; simp))
            clear hpc hpz hsg
            go_wp2_with fail
            exact ⟨⟨i + 1, _, by go_num, rfl, HS2, HO.out⟩, by simp [intOf]; omega⟩
          | false =>
            have hu7 : Bk.upto c 7 = false := by rw [Bk.upto7]; exact hsg
            have z1 : ¬ 9223372036854775807 < t.size + (min (i + 1) s.size - i) := by have := HTL.out; have := HZ.out; omega
            rw [hu7]
            clear hu7
            have HS2 := Bx.mk (HS.out.step HC.out (show bl (t ++ s.extract i (i + 1)) = bl t ++ Bk.one (bl ({ data := #[9] } : ByteArray)) c from by rw [bl_append, hpc, Bk.one, hsg, if_neg (by simp)]))
            clear hpc hpz hsg
            go_wp2_with fail
            exact ⟨⟨i + 1, _, by go_num, rfl, HS2, HO.out⟩, by simp [intOf]; omega⟩
    · have qi : ¬ (i : Int) < s.size := by omega
      obtain rfl : i = s.size := by omega
      have hA1 := str_add ({ data := #[9] } : ByteArray) t (by have := HTL.out; have := HZ.out; rw [BZ.out]; omega)
      have hA2 := str_add (({ data := #[9] } : ByteArray) ++ t) ({ data := #[9] } : ByteArray) (by have := HTL.out; have := HZ.out; rw [cat_size, BZ.out]; omega)
      have hbl : bl (({ data := #[9] } : ByteArray) ++ t ++ ({ data := #[9] } : ByteArray)) = [9] ++ Bk.sp [9] (bl s) ++ [9] := by
        rw [bl_append, bl_append, HS.out.eq, Bk.bl1, List.take_of_length_le (by rw [bl_length]; omega)]
      obtain ⟨g1, g2⟩ := Bk.parse Bk.ok1 (by decide) (fun x hx => bl_lt hx) (by rw [bl_length]; exact HZ.out) HE.out
      rw [HR.out] at g2
      rw [← hbl] at g1 g2
      have hp := fun u => parse_any (({ data := #[9] } : ByteArray) ++ t ++ ({ data := #[9] } : ByteArray)) u
      have ga := Ex.parse_at _ g1
      rcases hR2 : Ex.parse (bl (({ data := #[9] } : ByteArray) ++ t ++ ({ data := #[9] } : ByteArray))) with ⟨T2, a2, e2⟩
      rw [hR2] at hp g1 g2 ga
      simp only [] at g1 g2 ga
      subst g1 ga
      have HP2 := Bx.mk hp
      have hsa := Ex.same_all g2
      have HSM := Bx.mk g2
      have hpq : Ex.print T2 = Ex.print T := by unfold Ex.print; rw [← hsa.2.2, ← hsa.1]
      have HPQ := Bx.mk hpq
      clear hbl hp hR2 g2 hsa hpq
      go_wp2_with fail
      refine (HP2.out _).mono ?_
      rintro e w4 ⟨sl, rfl, hS, hb⟩
      obtain ⟨p2, c2, rfl⟩ := hS.is
      have HW := Bx.mk ((HO.out.step hb).two hS)
      clear hS hb HO hA1 hA2
      unfold Pv Ev
      simp only []
      go_wp2_with fail
      refine region_any 100 (fun u => TwoE w u w2.heap.size w4.heap.size T T2 (.slice p1 T.kids.len c1) (.slice p2 T2.kids.len c2)) (by kernel_rfl) ?_
      generalize hu : World.drew _ = u0
      have hq0 := HW.out.step ((Below.refl _ _).drew)
      rw [hu] at hq0
      clear hu
      refine any_take (i := 0) (.int .i64 0) rfl rfl (by kernel_rfl) (by kernel_rfl) (by kernel_rfl) (by kernel_rfl) (fun _ _ d _ _ h => by cases d <;> exact h) (fun u hS => rfl) hq0 ?_
      (try simp only [Act.put]); (try simp only [List.getElem_toArray]); (try simp only [List.getElem_cons_succ]); (try simp only [List.getElem_cons_zero]); (try simp only [List.setIfInBounds_toArray]); (try simp only [List.set_cons_succ]); (try simp only [List.set_cons_zero])
      refine any_take (i := 1) (.bool true) rfl rfl (by kernel_rfl) (by kernel_rfl) (by kernel_rfl) (by kernel_rfl) (fun _ _ d _ _ h => by cases d <;> exact h) (fun u hS => rfl) hq0 ?_
      (try simp only [Act.put]); (try simp only [List.getElem_toArray]); (try simp only [List.getElem_cons_succ]); (try simp only [List.getElem_cons_zero]); (try simp only [List.setIfInBounds_toArray]); (try simp only [List.set_cons_succ]); (try simp only [List.set_cons_zero])
      refine any_take (i := 2) (.bool true) rfl rfl (by kernel_rfl) (by kernel_rfl) (by kernel_rfl) (by kernel_rfl) (fun _ _ d _ _ h => by cases d <;> exact h) (fun u hS => rfl) hq0 ?_
      (try simp only [Act.put]); (try simp only [List.getElem_toArray]); (try simp only [List.getElem_cons_succ]); (try simp only [List.getElem_cons_zero]); (try simp only [List.setIfInBounds_toArray]); (try simp only [List.set_cons_succ]); (try simp only [List.set_cons_zero])
      refine any_take (i := 3) (Ev T (.slice p1 T.kids.len c1)) rfl rfl (by kernel_rfl) (by kernel_rfl) (by kernel_rfl) (by kernel_rfl) (fun _ _ d _ _ h => by cases d <;> exact h) (fun u hS => by exact exec_loadE rfl rfl hS.a) hq0 ?_
      (try simp only [Act.put]); (try simp only [List.getElem_toArray]); (try simp only [List.getElem_cons_succ]); (try simp only [List.getElem_cons_zero]); (try simp only [List.setIfInBounds_toArray]); (try simp only [List.set_cons_succ]); (try simp only [List.set_cons_zero])
      refine any_take (i := 4) (Ev T2 (.slice p2 T2.kids.len c2)) rfl rfl (by kernel_rfl) (by kernel_rfl) (by kernel_rfl) (by kernel_rfl) (fun _ _ d _ _ h => by cases d <;> exact h) (fun u hS => by exact exec_loadE rfl rfl hS.b) hq0 ?_
      (try simp only [Act.put]); (try simp only [List.getElem_toArray]); (try simp only [List.getElem_cons_succ]); (try simp only [List.getElem_cons_zero]); (try simp only [List.setIfInBounds_toArray]); (try simp only [List.set_cons_succ]); (try simp only [List.set_cons_zero])
      refine any_branch [5] (by kernel_rfl) rfl fun ix hix => ?_
      simp only [List.mem_cons, List.not_mem_nil, or_false] at hix
      subst hix
      refine any_op rfl rfl fun K hK => ?_
      go_simp
      have hc := same_any T T2 _ _ _ _ u0 (by have := HN.out; omega) hq0.sa hq0.sb
      rw [HSM.out] at hc
      refine hc.mono ?_
      rintro e u1 ⟨rfl, hb⟩
      have hq1 := hq0.step hb
      refine hK _ _ (fun _ => hq1) ?_
      (try simp only [Act.put]); (try simp only [List.getElem_toArray]); (try simp only [List.getElem_cons_succ]); (try simp only [List.getElem_cons_zero]); (try simp only [List.setIfInBounds_toArray]); (try simp only [List.set_cons_succ]); (try simp only [List.set_cons_zero])
      clear hK
      refine any_take (i := 6) (.bool true) rfl rfl (by kernel_rfl) (by kernel_rfl) (by kernel_rfl) (by kernel_rfl) (fun _ _ d _ _ h => by cases d <;> exact h) (fun u hS => rfl) hq1 ?_
      (try simp only [Act.put]); (try simp only [List.getElem_toArray]); (try simp only [List.getElem_cons_succ]); (try simp only [List.getElem_cons_zero]); (try simp only [List.setIfInBounds_toArray]); (try simp only [List.set_cons_succ]); (try simp only [List.set_cons_zero])
      refine any_take (i := 7) (.bool true) rfl rfl (by kernel_rfl) (by kernel_rfl) (by kernel_rfl) (by kernel_rfl) (fun _ _ d _ _ h => by cases d <;> exact h) (fun u hS => rfl) hq1 ?_
      (try simp only [Act.put]); (try simp only [List.getElem_toArray]); (try simp only [List.getElem_cons_succ]); (try simp only [List.getElem_cons_zero]); (try simp only [List.setIfInBounds_toArray]); (try simp only [List.set_cons_succ]); (try simp only [List.set_cons_zero])
      refine any_take (i := 8) (Ev T (.slice p1 T.kids.len c1)) rfl rfl (by kernel_rfl) (by kernel_rfl) (by kernel_rfl) (by kernel_rfl) (fun _ _ d _ _ h => by cases d <;> exact h) (fun u hS => by exact exec_loadE rfl rfl hS.a) hq1 ?_
      (try simp only [Act.put]); (try simp only [List.getElem_toArray]); (try simp only [List.getElem_cons_succ]); (try simp only [List.getElem_cons_zero]); (try simp only [List.setIfInBounds_toArray]); (try simp only [List.set_cons_succ]); (try simp only [List.set_cons_zero])
      refine any_take (i := 10) (Ev T2 (.slice p2 T2.kids.len c2)) rfl rfl (by kernel_rfl) (by kernel_rfl) (by kernel_rfl) (by kernel_rfl) (fun _ _ d _ _ h => by cases d <;> exact h) (fun u hS => by exact exec_loadE rfl rfl hS.b) hq1 ?_
      (try simp only [Act.put]); (try simp only [List.getElem_toArray]); (try simp only [List.getElem_cons_succ]); (try simp only [List.getElem_cons_zero]); (try simp only [List.setIfInBounds_toArray]); (try simp only [List.set_cons_succ]); (try simp only [List.set_cons_zero])
      refine any_branch [9] (by kernel_rfl) rfl fun ix hix => ?_
      simp only [List.mem_cons, List.not_mem_nil, or_false] at hix
      subst hix
      refine any_op rfl rfl fun K hK => ?_
      go_simp
      have hc := print_any T _ _ u1 hq1.sa
      refine hc.mono ?_
      rintro e u2 ⟨rfl, hb⟩
      have hq2 := hq1.step hb
      refine hK _ _ (fun _ => hq2) ?_
      (try simp only [Act.put]); (try simp only [List.getElem_toArray]); (try simp only [List.getElem_cons_succ]); (try simp only [List.getElem_cons_zero]); (try simp only [List.setIfInBounds_toArray]); (try simp only [List.set_cons_succ]); (try simp only [List.set_cons_zero])
      clear hK
      refine any_branch [11] (by kernel_rfl) rfl fun ix hix => ?_
      simp only [List.mem_cons, List.not_mem_nil, or_false] at hix
      subst hix
      refine any_op rfl rfl fun K hK => ?_
      go_simp
      have hc := print_any T2 _ _ u2 hq2.sb
      rw [HPQ.out] at hc
      refine hc.mono ?_
      rintro e u3 ⟨rfl, hb⟩
      have hq3 := hq2.step hb
      refine hK _ _ (fun _ => hq3) ?_
      (try simp only [Act.put]); (try simp only [List.getElem_toArray]); (try simp only [List.getElem_cons_succ]); (try simp only [List.getElem_cons_zero]); (try simp only [List.setIfInBounds_toArray]); (try simp only [List.set_cons_succ]); (try simp only [List.set_cons_zero])
      clear hK
      refine any_take (i := 12) (.bool true) rfl rfl (by kernel_rfl) (by kernel_rfl) (by kernel_rfl) (by kernel_rfl) (fun _ _ d _ _ h => by cases d <;> exact h) (fun u hS => exec_eqS rfl rfl rfl) hq3 ?_
      (try simp only [Act.put]); (try simp only [List.getElem_toArray]); (try simp only [List.getElem_cons_succ]); (try simp only [List.getElem_cons_zero]); (try simp only [List.setIfInBounds_toArray]); (try simp only [List.set_cons_succ]); (try simp only [List.set_cons_zero])
      refine any_take (i := 13) (.bool true) rfl rfl (by kernel_rfl) (by kernel_rfl) (by kernel_rfl) (by kernel_rfl) (fun _ _ d _ _ h => by cases d <;> exact h) (fun u hS => rfl) hq3 ?_
      (try simp only [Act.put]); (try simp only [List.getElem_toArray]); (try simp only [List.getElem_cons_succ]); (try simp only [List.getElem_cons_zero]); (try simp only [List.setIfInBounds_toArray]); (try simp only [List.set_cons_succ]); (try simp only [List.set_cons_zero])
      refine any_branch [14] (by kernel_rfl) rfl fun ix hix => ?_
      simp only [List.mem_cons, List.not_mem_nil, or_false] at hix
      subst hix
      refine any_op rfl rfl fun K hK => ?_
      go_simp
      refine hK _ _ (fun _ => hq3) ?_
      (try simp only [Act.put]); (try simp only [List.getElem_toArray]); (try simp only [List.getElem_cons_succ]); (try simp only [List.getElem_cons_zero]); (try simp only [List.setIfInBounds_toArray]); (try simp only [List.set_cons_succ]); (try simp only [List.set_cons_zero])
      clear hK
      refine any_end (by kernel_rfl) ?_
      have HF := Bx.mk hq3.be
      clear hq0 hq1 hq2 hq3
      go_wp2_with fail
      go_ret
      exact ⟨rfl, HF.out⟩
set_option maxHeartbeats 16000000 in
theorem blanks_2 (s : ByteArray) (at_ : Int) (bk : Nat) (hbk : (bk : Int) % 3 = 2) (w : World) (h : s.size ≤ 500) (T : Tr) (hR : Ex.parse (bl s) = (T, 0, 0)) (hT : Ex.is T = true) :
    Calls Try.prog 6 #[.string s, .int .u16 at_, .int .u8 (bk : Int)] w fun e w' => e = .returned (.bool true) ∧ Below w.heap.size w w' := by
  have q : ¬ (s.size : Int) > 500 := by omega
  have ix := Bk.ix2
  have hp := fun u => parse_any s u
  rw [hR] at hp
  have HP := Bx.mk hp
  have HE := Bx.mk (show (Ex.parse (bl s)).2.2 = 0 from by rw [hR])
  have HR := Bx.mk hR
  have HZ := Bx.mk h
  have HN := Bx.mk (Ex.is_nodes hT).1
  have HT := Bx.mk hT
  have BZ := Bx.mk (show (({ data := #[10, 32] } : ByteArray)).size = 2 from rfl)
  clear h hR hp hT
  go_enter Try.func6, Try.ntmps6
  go_wp2_with fail
  refine (known_any _).mono ?_
  rintro e w1 ⟨rfl, hb⟩
  have HB := Bx.mk hb
  clear hb
  go_wp2_with fail
  refine (HP.out _).mono ?_
  rintro e w2 ⟨sl, rfl, hS, hb⟩
  obtain ⟨p1, c1, rfl⟩ := hS.is
  have HO := Bx.mk (OneE.box (s := T) (HB.out.trans (hb.mono HB.out.size)) hS)
  clear hS hb
  unfold Pv Ev
  simp only []
  go_wp2_with fail
  go_loopw [11, 13] (fun t i wr => ∃ (j : Nat) (t0 : ByteArray), i = .int .i64 (j : Int) ∧ t = .string t0 ∧ Bx (BS ({ data := #[10, 32] } : ByteArray) s t0 j) ∧ OneE w wr w2.heap.size T (.slice p1 T.kids.len c1)) (fun _ i _ => s.size - (intOf i).toNat)
  case atStart => exact ⟨0, _, rfl, rfl, ⟨⟨by rw [bl_nil, List.take_zero]; rfl, Nat.zero_le _⟩⟩, HO.out⟩
  case round =>
    clear HO
    obtain ⟨i, t, rfl, rfl, HS, hO⟩ := hrel
    have HO := Bx.mk hO
    clear hO
    have htl : t.size ≤ 5 * i := by rw [← bl_length, HS.out.eq]; exact Bk.len_take (by rw [Bk.bl2]; decide) _ _
    have HTL := Bx.mk htl
    have hile := HS.out.hi
    clear htl
    by_cases hlt : i < s.size
    · have qi : (i : Int) < s.size := by omega
      obtain ⟨c, hc⟩ : ∃ c, (bl s)[i]? = some c := ⟨_, List.getElem?_eq_getElem (by rw [bl_length]; exact hlt)⟩
      have HC := Bx.mk hc
      have hci := run_idx hc
      have hc256 := bl_lt (List.mem_of_getElem? hc)
      clear hc
      go_wp2_with fail
      obtain ⟨wo, rfl⟩ : ∃ wo : World, wo = wr := ⟨_, rfl⟩
      go_loopw [14, 15] (fun o k wv => ∃ (j : Nat), j ≤ 7 ∧ k = .int .i64 (j : Int) ∧ o = .bool (Bk.upto c j) ∧ OneE w wv w2.heap.size T (.slice p1 T.kids.len c1)) (fun _ k _ => 7 - (intOf k).toNat)
      case atStart => exact ⟨0, by omega, rfl, rfl, HO.out⟩
      case round =>
        clear HO
        obtain ⟨j, hj, rfl, rfl, hO⟩ := hrel
        have HO := Bx.mk hO
        clear hO
        by_cases hj7 : j < 7
        · have qj : (j : Int) < 7 := by omega
          obtain ⟨d, hd⟩ : ∃ d, ([33, 38, 94, 124, 40, 41, 44] : List Nat)[j]? = some d := ⟨_, List.getElem?_eq_getElem (by simpa using hj7)⟩
          have hdi := run_idx (s := { data := #[33, 38, 94, 124, 40, 41, 44] }) (by rw [Bk.bl_signs]; exact hd)
          have HU := Bx.mk (Bk.upto_succ (c := c) hd)
          clear hd
          cases hu : Bk.upto c j with
          | true =>
            have HV := Bx.mk (show Bk.upto c (j + 1) = true from by rw [HU.out, hu]; rfl)
            clear hu
            go_wp2_with fail
            refine region_stB (by kernel_rfl) (by kernel_rfl) ?_
            (repeat (refine stB_step (fun K hK => ?_); go_simp; refine hK _ ?_; clear hK K))
            refine stB_nil ?_
            go_wp2_with fail
            refine ⟨⟨j + 1, by omega, by go_num, by rw [HV.out], HO.out.step ((Below.refl _ _).drew)⟩, by simp [intOf]; omega⟩
          | false =>
            have HV := Bx.mk (show Bk.upto c (j + 1) = ((c : Int) == (d : Int)) from by rw [HU.out, hu, Bool.false_or, Bool.eq_iff_iff, beq_iff_eq, beq_iff_eq]; omega)
            clear hu
            go_wp2_with fail
            refine region_stB (by kernel_rfl) (by kernel_rfl) ?_
            (repeat (refine stB_step (fun K hK => ?_); go_simp; refine hK _ ?_; clear hK K))
            refine stB_nil ?_
            go_wp2_with fail
            refine ⟨⟨j + 1, by omega, by go_num, by rw [HV.out], HO.out.step ((Below.refl _ _).drew)⟩, by simp [intOf]; omega⟩
        · have qj : ¬ (j : Int) < 7 := by omega
          obtain rfl : j = 7 := by omega
          have hle : (i : Int) + 1 ≤ s.size := by omega
          have hpc := bl_piece HC.out
          have hpz : (s.extract i (i + 1)).size = 1 := by rw [← bl_length, hpc]; rfl
          have HPC := Bx.mk hpc
          cases hsg : Bk.sign c with
          | true =>
            have hu7 : Bk.upto c 7 = true := by rw [Bk.upto7]; exact hsg
            have z1 : ¬ 9223372036854775807 < t.size + 2 := by have := HTL.out; have := HZ.out; omega
            have z2 : ¬ 9223372036854775807 < t.size + 2 + (min (i + 1) s.size - i) := by have := HTL.out; have := HZ.out; omega
            have z3 : ¬ 9223372036854775807 < t.size + 2 + (min (i + 1) s.size - i) + 2 := by have := HTL.out; have := HZ.out; omega
            rw [hu7]
            clear hu7
            have HS2 := Bx.mk (HS.out.step HC.out (show bl (t ++ ({ data := #[10, 32] } : ByteArray) ++ s.extract i (i + 1) ++ ({ data := #[10, 32] } : ByteArray)) = bl t ++ Bk.one (bl ({ data := #[10, 32] } : ByteArray)) c from by rw [bl_append, bl_append, bl_append, hpc, Bk.one, hsg, if_pos rfl]; simp))
            clear hpc hpz hsg
            go_wp2_with fail
            exact ⟨⟨i + 1, _, by go_num, rfl, HS2, HO.out⟩, by simp [intOf]; omega⟩
          | false =>
            have hu7 : Bk.upto c 7 = false := by rw [Bk.upto7]; exact hsg
            have z1 : ¬ 9223372036854775807 < t.size + (min (i + 1) s.size - i) := by have := HTL.out; have := HZ.out; omega
            rw [hu7]
            clear hu7
            have HS2 := Bx.mk (HS.out.step HC.out (show bl (t ++ s.extract i (i + 1)) = bl t ++ Bk.one (bl ({ data := #[10, 32] } : ByteArray)) c from by rw [bl_append, hpc, Bk.one, hsg, if_neg (by simp)]))
            clear hpc hpz hsg
            go_wp2_with fail
            exact ⟨⟨i + 1, _, by go_num, rfl, HS2, HO.out⟩, by simp [intOf]; omega⟩
    · have qi : ¬ (i : Int) < s.size := by omega
      obtain rfl : i = s.size := by omega
      have hA1 := str_add ({ data := #[10, 32] } : ByteArray) t (by have := HTL.out; have := HZ.out; rw [BZ.out]; omega)
      have hA2 := str_add (({ data := #[10, 32] } : ByteArray) ++ t) ({ data := #[10, 32] } : ByteArray) (by have := HTL.out; have := HZ.out; rw [cat_size, BZ.out]; omega)
      have hbl : bl (({ data := #[10, 32] } : ByteArray) ++ t ++ ({ data := #[10, 32] } : ByteArray)) = [10, 32] ++ Bk.sp [10, 32] (bl s) ++ [10, 32] := by
        rw [bl_append, bl_append, HS.out.eq, Bk.bl2, List.take_of_length_le (by rw [bl_length]; omega)]
      obtain ⟨g1, g2⟩ := Bk.parse Bk.ok2 (by decide) (fun x hx => bl_lt hx) (by rw [bl_length]; exact HZ.out) HE.out
      rw [HR.out] at g2
      rw [← hbl] at g1 g2
      have hp := fun u => parse_any (({ data := #[10, 32] } : ByteArray) ++ t ++ ({ data := #[10, 32] } : ByteArray)) u
      have ga := Ex.parse_at _ g1
      rcases hR2 : Ex.parse (bl (({ data := #[10, 32] } : ByteArray) ++ t ++ ({ data := #[10, 32] } : ByteArray))) with ⟨T2, a2, e2⟩
      rw [hR2] at hp g1 g2 ga
      simp only [] at g1 g2 ga
      subst g1 ga
      have HP2 := Bx.mk hp
      have hsa := Ex.same_all g2
      have HSM := Bx.mk g2
      have hpq : Ex.print T2 = Ex.print T := by unfold Ex.print; rw [← hsa.2.2, ← hsa.1]
      have HPQ := Bx.mk hpq
      clear hbl hp hR2 g2 hsa hpq
      go_wp2_with fail
      refine (HP2.out _).mono ?_
      rintro e w4 ⟨sl, rfl, hS, hb⟩
      obtain ⟨p2, c2, rfl⟩ := hS.is
      have HW := Bx.mk ((HO.out.step hb).two hS)
      clear hS hb HO hA1 hA2
      unfold Pv Ev
      simp only []
      go_wp2_with fail
      refine region_any 100 (fun u => TwoE w u w2.heap.size w4.heap.size T T2 (.slice p1 T.kids.len c1) (.slice p2 T2.kids.len c2)) (by kernel_rfl) ?_
      generalize hu : World.drew _ = u0
      have hq0 := HW.out.step ((Below.refl _ _).drew)
      rw [hu] at hq0
      clear hu
      refine any_take (i := 0) (.int .i64 0) rfl rfl (by kernel_rfl) (by kernel_rfl) (by kernel_rfl) (by kernel_rfl) (fun _ _ d _ _ h => by cases d <;> exact h) (fun u hS => rfl) hq0 ?_
      (try simp only [Act.put]); (try simp only [List.getElem_toArray]); (try simp only [List.getElem_cons_succ]); (try simp only [List.getElem_cons_zero]); (try simp only [List.setIfInBounds_toArray]); (try simp only [List.set_cons_succ]); (try simp only [List.set_cons_zero])
      refine any_take (i := 1) (.bool true) rfl rfl (by kernel_rfl) (by kernel_rfl) (by kernel_rfl) (by kernel_rfl) (fun _ _ d _ _ h => by cases d <;> exact h) (fun u hS => rfl) hq0 ?_
      (try simp only [Act.put]); (try simp only [List.getElem_toArray]); (try simp only [List.getElem_cons_succ]); (try simp only [List.getElem_cons_zero]); (try simp only [List.setIfInBounds_toArray]); (try simp only [List.set_cons_succ]); (try simp only [List.set_cons_zero])
      refine any_take (i := 2) (.bool true) rfl rfl (by kernel_rfl) (by kernel_rfl) (by kernel_rfl) (by kernel_rfl) (fun _ _ d _ _ h => by cases d <;> exact h) (fun u hS => rfl) hq0 ?_
      (try simp only [Act.put]); (try simp only [List.getElem_toArray]); (try simp only [List.getElem_cons_succ]); (try simp only [List.getElem_cons_zero]); (try simp only [List.setIfInBounds_toArray]); (try simp only [List.set_cons_succ]); (try simp only [List.set_cons_zero])
      refine any_take (i := 3) (Ev T (.slice p1 T.kids.len c1)) rfl rfl (by kernel_rfl) (by kernel_rfl) (by kernel_rfl) (by kernel_rfl) (fun _ _ d _ _ h => by cases d <;> exact h) (fun u hS => by exact exec_loadE rfl rfl hS.a) hq0 ?_
      (try simp only [Act.put]); (try simp only [List.getElem_toArray]); (try simp only [List.getElem_cons_succ]); (try simp only [List.getElem_cons_zero]); (try simp only [List.setIfInBounds_toArray]); (try simp only [List.set_cons_succ]); (try simp only [List.set_cons_zero])
      refine any_take (i := 4) (Ev T2 (.slice p2 T2.kids.len c2)) rfl rfl (by kernel_rfl) (by kernel_rfl) (by kernel_rfl) (by kernel_rfl) (fun _ _ d _ _ h => by cases d <;> exact h) (fun u hS => by exact exec_loadE rfl rfl hS.b) hq0 ?_
      (try simp only [Act.put]); (try simp only [List.getElem_toArray]); (try simp only [List.getElem_cons_succ]); (try simp only [List.getElem_cons_zero]); (try simp only [List.setIfInBounds_toArray]); (try simp only [List.set_cons_succ]); (try simp only [List.set_cons_zero])
      refine any_branch [5] (by kernel_rfl) rfl fun ix hix => ?_
      simp only [List.mem_cons, List.not_mem_nil, or_false] at hix
      subst hix
      refine any_op rfl rfl fun K hK => ?_
      go_simp
      have hc := same_any T T2 _ _ _ _ u0 (by have := HN.out; omega) hq0.sa hq0.sb
      rw [HSM.out] at hc
      refine hc.mono ?_
      rintro e u1 ⟨rfl, hb⟩
      have hq1 := hq0.step hb
      refine hK _ _ (fun _ => hq1) ?_
      (try simp only [Act.put]); (try simp only [List.getElem_toArray]); (try simp only [List.getElem_cons_succ]); (try simp only [List.getElem_cons_zero]); (try simp only [List.setIfInBounds_toArray]); (try simp only [List.set_cons_succ]); (try simp only [List.set_cons_zero])
      clear hK
      refine any_take (i := 6) (.bool true) rfl rfl (by kernel_rfl) (by kernel_rfl) (by kernel_rfl) (by kernel_rfl) (fun _ _ d _ _ h => by cases d <;> exact h) (fun u hS => rfl) hq1 ?_
      (try simp only [Act.put]); (try simp only [List.getElem_toArray]); (try simp only [List.getElem_cons_succ]); (try simp only [List.getElem_cons_zero]); (try simp only [List.setIfInBounds_toArray]); (try simp only [List.set_cons_succ]); (try simp only [List.set_cons_zero])
      refine any_take (i := 7) (.bool true) rfl rfl (by kernel_rfl) (by kernel_rfl) (by kernel_rfl) (by kernel_rfl) (fun _ _ d _ _ h => by cases d <;> exact h) (fun u hS => rfl) hq1 ?_
      (try simp only [Act.put]); (try simp only [List.getElem_toArray]); (try simp only [List.getElem_cons_succ]); (try simp only [List.getElem_cons_zero]); (try simp only [List.setIfInBounds_toArray]); (try simp only [List.set_cons_succ]); (try simp only [List.set_cons_zero])
      refine any_take (i := 8) (Ev T (.slice p1 T.kids.len c1)) rfl rfl (by kernel_rfl) (by kernel_rfl) (by kernel_rfl) (by kernel_rfl) (fun _ _ d _ _ h => by cases d <;> exact h) (fun u hS => by exact exec_loadE rfl rfl hS.a) hq1 ?_
      (try simp only [Act.put]); (try simp only [List.getElem_toArray]); (try simp only [List.getElem_cons_succ]); (try simp only [List.getElem_cons_zero]); (try simp only [List.setIfInBounds_toArray]); (try simp only [List.set_cons_succ]); (try simp only [List.set_cons_zero])
      refine any_take (i := 10) (Ev T2 (.slice p2 T2.kids.len c2)) rfl rfl (by kernel_rfl) (by kernel_rfl) (by kernel_rfl) (by kernel_rfl) (fun _ _ d _ _ h => by cases d <;> exact h) (fun u hS => by exact exec_loadE rfl rfl hS.b) hq1 ?_
      (try simp only [Act.put]); (try simp only [List.getElem_toArray]); (try simp only [List.getElem_cons_succ]); (try simp only [List.getElem_cons_zero]); (try simp only [List.setIfInBounds_toArray]); (try simp only [List.set_cons_succ]); (try simp only [List.set_cons_zero])
      refine any_branch [9] (by kernel_rfl) rfl fun ix hix => ?_
      simp only [List.mem_cons, List.not_mem_nil, or_false] at hix
      subst hix
      refine any_op rfl rfl fun K hK => ?_
      go_simp
      have hc := print_any T _ _ u1 hq1.sa
      refine hc.mono ?_
      rintro e u2 ⟨rfl, hb⟩
      have hq2 := hq1.step hb
      refine hK _ _ (fun _ => hq2) ?_
      (try simp only [Act.put]); (try simp only [List.getElem_toArray]); (try simp only [List.getElem_cons_succ]); (try simp only [List.getElem_cons_zero]); (try simp only [List.setIfInBounds_toArray]); (try simp only [List.set_cons_succ]); (try simp only [List.set_cons_zero])
      clear hK
      refine any_branch [11] (by kernel_rfl) rfl fun ix hix => ?_
      simp only [List.mem_cons, List.not_mem_nil, or_false] at hix
      subst hix
      refine any_op rfl rfl fun K hK => ?_
      go_simp
      have hc := print_any T2 _ _ u2 hq2.sb
      rw [HPQ.out] at hc
      refine hc.mono ?_
      rintro e u3 ⟨rfl, hb⟩
      have hq3 := hq2.step hb
      refine hK _ _ (fun _ => hq3) ?_
      (try simp only [Act.put]); (try simp only [List.getElem_toArray]); (try simp only [List.getElem_cons_succ]); (try simp only [List.getElem_cons_zero]); (try simp only [List.setIfInBounds_toArray]); (try simp only [List.set_cons_succ]); (try simp only [List.set_cons_zero])
      clear hK
      refine any_take (i := 12) (.bool true) rfl rfl (by kernel_rfl) (by kernel_rfl) (by kernel_rfl) (by kernel_rfl) (fun _ _ d _ _ h => by cases d <;> exact h) (fun u hS => exec_eqS rfl rfl rfl) hq3 ?_
      (try simp only [Act.put]); (try simp only [List.getElem_toArray]); (try simp only [List.getElem_cons_succ]); (try simp only [List.getElem_cons_zero]); (try simp only [List.setIfInBounds_toArray]); (try simp only [List.set_cons_succ]); (try simp only [List.set_cons_zero])
      refine any_take (i := 13) (.bool true) rfl rfl (by kernel_rfl) (by kernel_rfl) (by kernel_rfl) (by kernel_rfl) (fun _ _ d _ _ h => by cases d <;> exact h) (fun u hS => rfl) hq3 ?_
      (try simp only [Act.put]); (try simp only [List.getElem_toArray]); (try simp only [List.getElem_cons_succ]); (try simp only [List.getElem_cons_zero]); (try simp only [List.setIfInBounds_toArray]); (try simp only [List.set_cons_succ]); (try simp only [List.set_cons_zero])
      refine any_branch [14] (by kernel_rfl) rfl fun ix hix => ?_
      simp only [List.mem_cons, List.not_mem_nil, or_false] at hix
      subst hix
      refine any_op rfl rfl fun K hK => ?_
      go_simp
      refine hK _ _ (fun _ => hq3) ?_
      (try simp only [Act.put]); (try simp only [List.getElem_toArray]); (try simp only [List.getElem_cons_succ]); (try simp only [List.getElem_cons_zero]); (try simp only [List.setIfInBounds_toArray]); (try simp only [List.set_cons_succ]); (try simp only [List.set_cons_zero])
      clear hK
      refine any_end (by kernel_rfl) ?_
      have HF := Bx.mk hq3.be
      clear hq0 hq1 hq2 hq3
      go_wp2_with fail
      go_ret
      exact ⟨rfl, HF.out⟩
theorem blanks_any (s : ByteArray) (at_ : Int) (bk : Nat) (w : World) : Calls Try.prog 6 #[.string s, .int .u16 at_, .int .u8 (bk : Int)] w fun e w' => e = .returned (.bool true) ∧ Below w.heap.size w w' := by
  by_cases h : 500 < s.size
  · exact blanks_long s at_ _ w h
  have h : s.size ≤ 500 := by omega
  obtain ⟨g1, g2⟩ := Ex.parse_good (bl s) (fun x hx => bl_lt hx) (by rw [bl_length]; omega)
  rcases hR : Ex.parse (bl s) with ⟨T, a, e⟩
  rw [hR] at g1 g2
  simp only [] at g1 g2
  by_cases he : e = 0
  · subst he
    obtain ⟨rfl, hT⟩ := g1 rfl
    have hc : (bk : Int) % 3 = 0 ∨ (bk : Int) % 3 = 1 ∨ (bk : Int) % 3 = 2 := by omega
    rcases hc with hc | hc | hc
    · exact blanks_0 s at_ bk hc w h T hR hT
    · exact blanks_1 s at_ bk hc w h T hR hT
    · exact blanks_2 s at_ bk hc w h T hR hT
  · exact blanks_bad s at_ _ w h _ hR he
end Go.Proofs.Ytfgokhafiffbaaa

/-
  What a law's row asks of the memory behind it, where nothing that was there has turned.
-/
namespace Go.Proofs.Ytfgokhafiffbaaa
open Go.ChangeShapes Go.WideShapes Go.ChangeAt Go.RowKit
set_option linter.unusedVariables false
section
variable {H : Type} {enc : TypeId × Value → H}
/-- what a row asks, where nothing that was there has turned -/
theorem post_of_below {P : Program} {f : Func} {s : ChangeSpec} {apart fresh handsOn again : Bool} {W W' : World} {args : Array Value} {v : Value} {ds gs : List (DataW H)} {before pa pv : List MemPlace}
    (hW : DataW.Whole enc P f.params.toList s.vars apart W args.toList ds gs before)
    (hres : ∀ (b : Nat) (sp : Nat → Bool) (hd : Bool), DataW.TrodAll enc P W' b sp hd f.resultTypes.toList (v.resultList f.resultTypes.size) (s.fn H (ds ++ gs)).results [])
    (hargs : ∀ sp : Nat → Bool, (∀ p ∈ before, sp p.block = true) → DataW.TrodAll enc P W' 0 sp true f.params.toList args.toList (s.fn H (ds ++ gs)).args pa)
    (hvars : ∀ sp : Nat → Bool, (∀ p ∈ before, sp p.block = true) → DataW.TrodVars enc P W' sp s.vars (s.fn H (ds ++ gs)).vars pv)
    (hps : before = pa ++ pv) (hb : Below W.heap.size W W')
    (hok : ∀ (j : Nat) (t : TypeId) (r : Value), f.resultTypes[j]? = some t → (v.resultList f.resultTypes.size)[j]? = some r → Value.okWide P W' .any 0 t r) :
    s.post enc P f apart fresh handsOn again W args v W' := by
  have hlt := fun p hp => hW.lt p hp
  have hold : ∀ p ∈ before, (fun b => decide (b < W.heap.size)) p.block = true := fun p hp => by simpa using hW.lt p hp
  refine ⟨ds, gs, before, [], pa, pv, hW, hres _ _ _, hargs _ hold, hvars _ hold, World.keptBut_mono (fun p hp => ⟨hp, ?_⟩) (hb.frame (· ∈ before)), fun _ => ?_⟩
  · rw [hps, List.mem_append] at hp
    exact Or.inr hp
  · obtain ⟨_, _, _, _, _, hz, hn⟩ := hW
    refine ⟨hok, _, _, ([] ++ pa) ++ pv, ⟨[] ++ pa, pv, trodAll_append (hargs _ (fun _ _ => rfl)) (hres _ _ _), hvars _ (fun _ _ => rfl), rfl, ?_, ?_⟩, ?_⟩
    · intro b off hp
      have hp' : MemPlace.cell b off ∈ before := by rw [hps]; simpa using hp
      have h1 : W'.frozen? ⟨b, off, none⟩ = W.frozen? ⟨b, off, none⟩ := hb.frozen (hlt _ hp')
      rw [h1]
      exact hz b off hp'
    · intro ha
      have := hn ha
      rw [hps] at this
      simpa using this
    · intro p hp _
      rw [hps]
      simpa using hp
end
end Go.Proofs.Ytfgokhafiffbaaa
