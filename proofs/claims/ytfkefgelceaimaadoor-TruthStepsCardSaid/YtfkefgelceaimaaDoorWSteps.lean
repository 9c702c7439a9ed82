/-
  The walk of the law TruthSteps.
-/
import Derived.Test.YtfkefgelceaimaaDoorLaw2
import Derived.Test.YtfkefgelceaimaaDoorStepPlain
namespace Go.Proofs.YtfkefgelceaimaaDoor
set_option linter.unusedVariables false
open Go.RowKit

set_option maxRecDepth 100000 in
set_option maxHeartbeats 20000000 in
theorem steps_walk (st rel : Tb.T) (x : Nat) (hx : x < 256) (w : World) (hT : TabAt w) (hG : 0 < w.heap.size) :
    Calls Tryd.prog 10 #[Tb.tv st, Tb.tv rel, .int .u8 (x : Int)] w fun e w' => e = .returned (.bool true) ∧ Below w.heap.size w w' := by
  have hK := ((Keep.nil w).new st).new rel
  have hT3 : TabAt ((w.alloc (.cells (Tb.tcells st) 24)).alloc (.cells (Tb.tcells rel) 24)) := hT.keep hK.below hG
  have hKn := known3_any _ hT3 (by simp)
  go_enter Tryd.func10, Tryd.ntmps10
  go_wp2_with fail
  refine hKn.mono ?_
  rintro e w5 ⟨rfl, b5⟩
  replace hK : Keep w w5 _ := hK.step b5
  simp at hK
  clear hKn b5 hT3
  obtain ⟨⟨a0, a1, a2, a3⟩, c0, c1, c2, c3⟩ := tfacts (hK.at_ 0 _ _ rfl)
  have HRe := Bx.mk (fun w => restrict_any st 170 0 w (by decide) (by decide))
  go_wp2_with fail
  refine (HRe.out _).mono ?_
  clear HRe a0 a1 a2 a3 c0 c1 c2 c3
  rintro e w6 ⟨rfl, b6⟩
  replace hK := hK.step b6
  generalize Tb.restrict st 170 0 = s
  have kk : Keep w (w6.alloc (.cells #[.int .u64 (Tb.wd s 0), .int .u64 (Tb.wd s 1), .int .u64 (Tb.wd s 2), .int .u64 (Tb.wd s 3)] 24)) _ := hK.new s
  simp only [List.cons_append, List.nil_append] at kk
  clear hK b6
  go_upto_region 4 with fail
  generalize w6.heap.size = b7 at kk ⊢
  generalize w6.alloc (.cells #[.int .u64 (Tb.wd s 0), .int .u64 (Tb.wd s 1), .int .u64 (Tb.wd s 2), .int .u64 (Tb.wd s 3)] 24) = w7 at kk ⊢
  -- steps
  refine region_float [] 8 (fun i => ([Tb.tv s, Tb.tv rel, Tb.tv (Tb.next s rel), Tb.tv s, Tb.tv rel, Tb.tv (Tb.prev s rel), undef, undef] : List Value).getD i undef) (fun i => if 6 ≤ i ∧ i < 8 then some (24, #[.int .u64 0, .int .u64 0, .int .u64 0, .int .u64 0]) else none) (fun u => Keep w u [(w.heap.size, st), ((w.heap.size + 1), rel), (b7, s)]) w7.heap.size (by kernel_rfl) (by kernel_rfl) (by simp) kk.drew (Nat.le_refl _) (fun _ o h => h.alloc o) ?_ ?_ ?_
  · iterate 1 skip
    refine all_succ ?_ ?_
    rotate_left
    · intro hf; cases hf
    refine all_succ ?_ ?_
    rotate_left
    · intro hf; cases hf
    refine all_succ ?_ ?_
    rotate_left
    · intro hf oo ho act uu hS hB hd hold KK hcont
      obtain rfl := Option.some.inj ho
      have h21 : act.tmps.getD 21 undef = Tb.tv s := (hd 3 21 (by kernel_rfl) rfl rfl)
      have h22 : act.tmps.getD 22 undef = Tb.tv rel := (hd 4 22 (by kernel_rfl) rfl rfl)
      go_simp
      refine (prev_any s rel _).mono ?_
      rintro e u' ⟨rfl, hb⟩
      exact hcont _ (hS.step hb) hb
    refine all_succ ?_ ?_
    rotate_left
    · intro hf oo ho act uu hS hB hd hold KK hcont
      obtain rfl := Option.some.inj ho
      exact wp_of_exec (exec_load rfl (hold 4 (notDst (by kernel_rfl))) (hS.at_ 1 _ _ rfl)) (hcont uu hS (Below.refl _ _))
    refine all_succ ?_ ?_
    rotate_left
    · intro hf oo ho act uu hS hB hd hold KK hcont
      obtain rfl := Option.some.inj ho
      exact wp_of_exec (exec_load rfl (hold 7 (notDst (by kernel_rfl))) (hS.at_ 2 _ _ rfl)) (hcont uu hS (Below.refl _ _))
    refine all_succ ?_ ?_
    rotate_left
    · intro hf oo ho act uu hS hB hd hold KK hcont
      obtain rfl := Option.some.inj ho
      have h18 : act.tmps.getD 18 undef = Tb.tv s := (hd 0 18 (by kernel_rfl) rfl rfl)
      have h19 : act.tmps.getD 19 undef = Tb.tv rel := (hd 1 19 (by kernel_rfl) rfl rfl)
      go_simp
      refine (next_any s rel _).mono ?_
      rintro e u' ⟨rfl, hb⟩
      exact hcont _ (hS.step hb) hb
    refine all_succ ?_ ?_
    rotate_left
    · intro hf oo ho act uu hS hB hd hold KK hcont
      obtain rfl := Option.some.inj ho
      exact wp_of_exec (exec_load rfl (hold 4 (notDst (by kernel_rfl))) (hS.at_ 1 _ _ rfl)) (hcont uu hS (Below.refl _ _))
    refine all_succ ?_ ?_
    rotate_left
    · intro hf oo ho act uu hS hB hd hold KK hcont
      obtain rfl := Option.some.inj ho
      exact wp_of_exec (exec_load rfl (hold 7 (notDst (by kernel_rfl))) (hS.at_ 2 _ _ rfl)) (hcont uu hS (Below.refl _ _))
    exact all_zero
  · intro i hi ty z hf o ho a u K hk
    have hi2 : 6 ≤ i ∧ i < 8 := by
      split at hf
      · assumption
      · cases hf
    rw [if_pos hi2] at hf
    cases hf
    by_cases c6 : i = 6
    · subst c6
      obtain rfl := Option.some.inj ho
      go_simp
      exact hk
    by_cases c7 : i = 7
    · subst c7
      obtain rfl := Option.some.inj ho
      go_simp
      exact hk
    omega
  · intro ρ u hF
    have e0 : ρ 0 = Tb.tv s := hF.val 0 (by omega) (by kernel_rfl) rfl
    have e1 : ρ 1 = Tb.tv rel := hF.val 1 (by omega) (by kernel_rfl) rfl
    have e2 : ρ 2 = Tb.tv (Tb.next s rel) := hF.val 2 (by omega) (by kernel_rfl) rfl
    have e3 : ρ 3 = Tb.tv s := hF.val 3 (by omega) (by kernel_rfl) rfl
    have e4 : ρ 4 = Tb.tv rel := hF.val 4 (by omega) (by kernel_rfl) rfl
    have e5 : ρ 5 = Tb.tv (Tb.prev s rel) := hF.val 5 (by omega) (by kernel_rfl) rfl
    obtain ⟨p6, e6, hb6, z6⟩ := hF.ptr 6 24 _ (by omega) rfl rfl
    rw [← Tb.tcells_zero] at z6
    obtain ⟨p7, e7, hb7, z7⟩ := hF.ptr 7 24 _ (by omega) rfl rfl
    rw [← Tb.tcells_zero] at z7
    have d6_7 : p6 ≠ p7 := fun e => hF.dis 6 7 (by omega) (by omega) (by omega) rfl rfl rfl rfl (by rw [e6, e7, e])
    have d7_6 : p7 ≠ p6 := fun e => hF.dis 7 6 (by omega) (by omega) (by omega) rfl rfl rfl rfl (by rw [e7, e6, e])
    have l0 := kk.lt (k := 0) rfl
    have l1 := kk.lt (k := 1) rfl
    have l2 := kk.lt (k := 2) rfl
    have k0 := hF.s_
    have k1 := k0.add' (p := p6) (F := 0#256) z6 (by simp <;> omega)
    have k2 := k1.add' (p := p7) (F := 0#256) z7 (by simp <;> omega)
    have k3 := k2.store 3 ((Tb.next s rel)) (p := p6) (G := 0#256) rfl (by have := kk.below.size; omega)
    have k4 := k3.store 4 ((Tb.prev s rel)) (p := p7) (G := 0#256) rfl (by have := kk.below.size; omega)
    obtain ⟨⟨a60, a61, a62, a63⟩, b60, b61, b62, b63⟩ := tfacts z6
    obtain ⟨⟨a70, a71, a72, a73⟩, b70, b71, b72, b73⟩ := tfacts z7
    simp only [puts, dstOf, e0, e1, e2, e3, e4, e5, e6, e7]
    go_upto_region 5 with fail
    replace kk : Keep w _ [(w.heap.size, st), ((w.heap.size + 1), rel), (b7, s), (p6, (Tb.next s rel)), (p7, (Tb.prev s rel))] := k4
    clear hF l0 l1 l2 k0 k1 k2 k3 k4 a60 a61 a62 a63 a70 a71 a72 a73 b60 b61 b62 b63 b70 b71 b72 b73 e0 e1 e2 e3 e4 e5 e6 e7 z6 z7 d6_7 d7_6 hb6 hb7
    generalize p6 = b8 at kk ⊢
    generalize p7 = b9 at kk ⊢
    go_wp2_with fail
    go_loopw [10, 11, 12, 13] (fun c g i _ wr => ∃ k : Nat, k ≤ 256 ∧ i = .int .i64 k ∧ c = .bool (Tb.anyTo (Tb.came s rel x) k) ∧ g = .bool (Tb.anyTo (Tb.goes s rel x) k) ∧ Keep w wr [(w.heap.size, st), (w.heap.size + 1, rel), (b7, s), (b8, Tb.next s rel), (b9, Tb.prev s rel)]) (fun _ _ i _ _ => 256 - (intOf i).toNat)
    case atStart => exact ⟨0, by omega, rfl, by rw [Tb.any_zero], by rw [Tb.any_zero], kk⟩
    case round =>
      clear kk
      obtain ⟨k, hk, rfl, rfl, rfl, kk⟩ := hrel
      by_cases hlt : k < 256
      · have hER := fun w => eval_any rel k w hlt
        have hES := fun w => eval_any s k w hlt
        have hES2 := fun w => eval_any s (Tb.half k) w (Tb.half_lt k)
        have f1 := Tb.half_walk2 k hlt
        have f2 := Tb.even_walk k hlt
        have f3 := Tb.even_walk x hx
        cases hr : rel.getLsbD k with
        | false =>
          have HC := Bx.mk (show Tb.came s rel x k = false from by unfold Tb.came; simp [hr])
          have HG := Bx.mk (show Tb.goes s rel x k = false from by unfold Tb.goes; simp [hr])
          rw [hr] at hER
          have HR := Bx.mk hER
          clear hER hES hES2 hr
          obtain ⟨⟨a0, a1, a2, a3⟩, c0, c1, c2, c3⟩ := tfacts (kk.at_ 1 _ _ rfl)
          go_wp2_with fail
          refine (HR.out _).mono ?_
          rintro e w1 ⟨rfl, hb1⟩
          replace kk := kk.step hb1
          clear hb1 a0 a1 a2 a3 c0 c1 c2 c3
          obtain ⟨⟨a0, a1, a2, a3⟩, c0, c1, c2, c3⟩ := tfacts (kk.at_ 1 _ _ rfl)
          go_wp2_with fail
          refine (HR.out _).mono ?_
          rintro e w1 ⟨rfl, hb1⟩
          replace kk := kk.step hb1
          clear hb1 a0 a1 a2 a3 c0 c1 c2 c3
          go_wp2_with fail
          exact ⟨⟨k + 1, by omega, by go_num, by rw [Tb.any_succ, HC.out]; simp, by rw [Tb.any_succ, HG.out]; simp, kk⟩, by simp [intOf]; omega⟩
        | true =>
          cases hs : s.getLsbD k with
          | false =>
            cases hc2 : ((k &&& 85) == (x &&& 85)) with
            | false =>
              have HC := Bx.mk (show Tb.came s rel x k = false from by unfold Tb.came; simp [hr, hs])
              have HG := Bx.mk (show Tb.goes s rel x k = false from by unfold Tb.goes; simp [hr, hc2])
              rw [hr] at hER
              rw [hs] at hES
              have HR := Bx.mk hER
              have HS := Bx.mk hES
              have HS2 := Bx.mk hES2
              have q2 : (((k &&& 85 : Nat) : Int) == (((x &&& 85 : Nat)) : Int)) = false := by rw [← hc2, Bool.eq_iff_iff, beq_iff_eq, beq_iff_eq]; omega
              clear hER hES hES2 hr hs hc2
              obtain ⟨⟨a0, a1, a2, a3⟩, c0, c1, c2, c3⟩ := tfacts (kk.at_ 1 _ _ rfl)
              go_wp2_with fail
              refine (HR.out _).mono ?_
              rintro e w1 ⟨rfl, hb1⟩
              replace kk := kk.step hb1
              clear hb1 a0 a1 a2 a3 c0 c1 c2 c3
              obtain ⟨⟨a0, a1, a2, a3⟩, c0, c1, c2, c3⟩ := tfacts (kk.at_ 2 _ _ rfl)
              go_wp2_with fail
              refine (HS.out _).mono ?_
              rintro e w1 ⟨rfl, hb1⟩
              replace kk := kk.step hb1
              clear hb1 a0 a1 a2 a3 c0 c1 c2 c3
              obtain ⟨⟨a0, a1, a2, a3⟩, c0, c1, c2, c3⟩ := tfacts (kk.at_ 1 _ _ rfl)
              go_wp2_with fail
              refine (HR.out _).mono ?_
              rintro e w1 ⟨rfl, hb1⟩
              replace kk := kk.step hb1
              clear hb1 a0 a1 a2 a3 c0 c1 c2 c3
              go_wp2_with fail
              exact ⟨⟨k + 1, by omega, by go_num, by rw [Tb.any_succ, HC.out]; simp, by rw [Tb.any_succ, HG.out]; simp, kk⟩, by simp [intOf]; omega⟩
            | true =>
              cases hs2 : s.getLsbD (Tb.half k) with
              | false =>
                have HC := Bx.mk (show Tb.came s rel x k = false from by unfold Tb.came; simp [hr, hs])
                have HG := Bx.mk (show Tb.goes s rel x k = false from by unfold Tb.goes; simp [hr, hc2, hs2])
                rw [hr] at hER
                rw [hs] at hES
                rw [hs2] at hES2
                have HR := Bx.mk hER
                have HS := Bx.mk hES
                have HS2 := Bx.mk hES2
                have q2 : (((k &&& 85 : Nat) : Int) == (((x &&& 85 : Nat)) : Int)) = true := by rw [← hc2, Bool.eq_iff_iff, beq_iff_eq, beq_iff_eq]; omega
                clear hER hES hES2 hr hs hc2 hs2
                obtain ⟨⟨a0, a1, a2, a3⟩, c0, c1, c2, c3⟩ := tfacts (kk.at_ 1 _ _ rfl)
                go_wp2_with fail
                refine (HR.out _).mono ?_
                rintro e w1 ⟨rfl, hb1⟩
                replace kk := kk.step hb1
                clear hb1 a0 a1 a2 a3 c0 c1 c2 c3
                obtain ⟨⟨a0, a1, a2, a3⟩, c0, c1, c2, c3⟩ := tfacts (kk.at_ 2 _ _ rfl)
                go_wp2_with fail
                refine (HS.out _).mono ?_
                rintro e w1 ⟨rfl, hb1⟩
                replace kk := kk.step hb1
                clear hb1 a0 a1 a2 a3 c0 c1 c2 c3
                obtain ⟨⟨a0, a1, a2, a3⟩, c0, c1, c2, c3⟩ := tfacts (kk.at_ 1 _ _ rfl)
                go_wp2_with fail
                refine (HR.out _).mono ?_
                rintro e w1 ⟨rfl, hb1⟩
                replace kk := kk.step hb1
                clear hb1 a0 a1 a2 a3 c0 c1 c2 c3
                obtain ⟨⟨a0, a1, a2, a3⟩, c0, c1, c2, c3⟩ := tfacts (kk.at_ 2 _ _ rfl)
                go_wp2_with fail
                refine (HS2.out _).mono ?_
                rintro e w1 ⟨rfl, hb1⟩
                replace kk := kk.step hb1
                clear hb1 a0 a1 a2 a3 c0 c1 c2 c3
                go_wp2_with fail
                exact ⟨⟨k + 1, by omega, by go_num, by rw [Tb.any_succ, HC.out]; simp, by rw [Tb.any_succ, HG.out]; simp, kk⟩, by simp [intOf]; omega⟩
              | true =>
                have HC := Bx.mk (show Tb.came s rel x k = false from by unfold Tb.came; simp [hr, hs])
                have HG := Bx.mk (show Tb.goes s rel x k = true from by unfold Tb.goes; simp [hr, hc2, hs2])
                rw [hr] at hER
                rw [hs] at hES
                rw [hs2] at hES2
                have HR := Bx.mk hER
                have HS := Bx.mk hES
                have HS2 := Bx.mk hES2
                have q2 : (((k &&& 85 : Nat) : Int) == (((x &&& 85 : Nat)) : Int)) = true := by rw [← hc2, Bool.eq_iff_iff, beq_iff_eq, beq_iff_eq]; omega
                clear hER hES hES2 hr hs hc2 hs2
                obtain ⟨⟨a0, a1, a2, a3⟩, c0, c1, c2, c3⟩ := tfacts (kk.at_ 1 _ _ rfl)
                go_wp2_with fail
                refine (HR.out _).mono ?_
                rintro e w1 ⟨rfl, hb1⟩
                replace kk := kk.step hb1
                clear hb1 a0 a1 a2 a3 c0 c1 c2 c3
                obtain ⟨⟨a0, a1, a2, a3⟩, c0, c1, c2, c3⟩ := tfacts (kk.at_ 2 _ _ rfl)
                go_wp2_with fail
                refine (HS.out _).mono ?_
                rintro e w1 ⟨rfl, hb1⟩
                replace kk := kk.step hb1
                clear hb1 a0 a1 a2 a3 c0 c1 c2 c3
                obtain ⟨⟨a0, a1, a2, a3⟩, c0, c1, c2, c3⟩ := tfacts (kk.at_ 1 _ _ rfl)
                go_wp2_with fail
                refine (HR.out _).mono ?_
                rintro e w1 ⟨rfl, hb1⟩
                replace kk := kk.step hb1
                clear hb1 a0 a1 a2 a3 c0 c1 c2 c3
                obtain ⟨⟨a0, a1, a2, a3⟩, c0, c1, c2, c3⟩ := tfacts (kk.at_ 2 _ _ rfl)
                go_wp2_with fail
                refine (HS2.out _).mono ?_
                rintro e w1 ⟨rfl, hb1⟩
                replace kk := kk.step hb1
                clear hb1 a0 a1 a2 a3 c0 c1 c2 c3
                go_wp2_with fail
                exact ⟨⟨k + 1, by omega, by go_num, by rw [Tb.any_succ, HC.out]; simp, by rw [Tb.any_succ, HG.out]; simp, kk⟩, by simp [intOf]; omega⟩
          | true =>
            cases hc1 : (Tb.half k == (x &&& 85)) with
            | false =>
              cases hc2 : ((k &&& 85) == (x &&& 85)) with
              | false =>
                have HC := Bx.mk (show Tb.came s rel x k = false from by unfold Tb.came; simp [hr, hs, hc1])
                have HG := Bx.mk (show Tb.goes s rel x k = false from by unfold Tb.goes; simp [hr, hc2])
                rw [hr] at hER
                rw [hs] at hES
                have HR := Bx.mk hER
                have HS := Bx.mk hES
                have HS2 := Bx.mk hES2
                have q1 : (((Tb.half k : Nat) : Int) == (((x &&& 85 : Nat)) : Int)) = false := by rw [← hc1, Bool.eq_iff_iff, beq_iff_eq, beq_iff_eq]; omega
                have q2 : (((k &&& 85 : Nat) : Int) == (((x &&& 85 : Nat)) : Int)) = false := by rw [← hc2, Bool.eq_iff_iff, beq_iff_eq, beq_iff_eq]; omega
                clear hER hES hES2 hr hs hc2 hc1
                obtain ⟨⟨a0, a1, a2, a3⟩, c0, c1, c2, c3⟩ := tfacts (kk.at_ 1 _ _ rfl)
                go_wp2_with fail
                refine (HR.out _).mono ?_
                rintro e w1 ⟨rfl, hb1⟩
                replace kk := kk.step hb1
                clear hb1 a0 a1 a2 a3 c0 c1 c2 c3
                obtain ⟨⟨a0, a1, a2, a3⟩, c0, c1, c2, c3⟩ := tfacts (kk.at_ 2 _ _ rfl)
                go_wp2_with fail
                refine (HS.out _).mono ?_
                rintro e w1 ⟨rfl, hb1⟩
                replace kk := kk.step hb1
                clear hb1 a0 a1 a2 a3 c0 c1 c2 c3
                obtain ⟨⟨a0, a1, a2, a3⟩, c0, c1, c2, c3⟩ := tfacts (kk.at_ 1 _ _ rfl)
                go_wp2_with fail
                refine (HR.out _).mono ?_
                rintro e w1 ⟨rfl, hb1⟩
                replace kk := kk.step hb1
                clear hb1 a0 a1 a2 a3 c0 c1 c2 c3
                go_wp2_with fail
                exact ⟨⟨k + 1, by omega, by go_num, by rw [Tb.any_succ, HC.out]; simp, by rw [Tb.any_succ, HG.out]; simp, kk⟩, by simp [intOf]; omega⟩
              | true =>
                cases hs2 : s.getLsbD (Tb.half k) with
                | false =>
                  have HC := Bx.mk (show Tb.came s rel x k = false from by unfold Tb.came; simp [hr, hs, hc1])
                  have HG := Bx.mk (show Tb.goes s rel x k = false from by unfold Tb.goes; simp [hr, hc2, hs2])
                  rw [hr] at hER
                  rw [hs] at hES
                  rw [hs2] at hES2
                  have HR := Bx.mk hER
                  have HS := Bx.mk hES
                  have HS2 := Bx.mk hES2
                  have q1 : (((Tb.half k : Nat) : Int) == (((x &&& 85 : Nat)) : Int)) = false := by rw [← hc1, Bool.eq_iff_iff, beq_iff_eq, beq_iff_eq]; omega
                  have q2 : (((k &&& 85 : Nat) : Int) == (((x &&& 85 : Nat)) : Int)) = true := by rw [← hc2, Bool.eq_iff_iff, beq_iff_eq, beq_iff_eq]; omega
                  clear hER hES hES2 hr hs hc2 hc1 hs2
                  obtain ⟨⟨a0, a1, a2, a3⟩, c0, c1, c2, c3⟩ := tfacts (kk.at_ 1 _ _ rfl)
                  go_wp2_with fail
                  refine (HR.out _).mono ?_
                  rintro e w1 ⟨rfl, hb1⟩
                  replace kk := kk.step hb1
                  clear hb1 a0 a1 a2 a3 c0 c1 c2 c3
                  obtain ⟨⟨a0, a1, a2, a3⟩, c0, c1, c2, c3⟩ := tfacts (kk.at_ 2 _ _ rfl)
                  go_wp2_with fail
                  refine (HS.out _).mono ?_
                  rintro e w1 ⟨rfl, hb1⟩
                  replace kk := kk.step hb1
                  clear hb1 a0 a1 a2 a3 c0 c1 c2 c3
                  obtain ⟨⟨a0, a1, a2, a3⟩, c0, c1, c2, c3⟩ := tfacts (kk.at_ 1 _ _ rfl)
                  go_wp2_with fail
                  refine (HR.out _).mono ?_
                  rintro e w1 ⟨rfl, hb1⟩
                  replace kk := kk.step hb1
                  clear hb1 a0 a1 a2 a3 c0 c1 c2 c3
                  obtain ⟨⟨a0, a1, a2, a3⟩, c0, c1, c2, c3⟩ := tfacts (kk.at_ 2 _ _ rfl)
                  go_wp2_with fail
                  refine (HS2.out _).mono ?_
                  rintro e w1 ⟨rfl, hb1⟩
                  replace kk := kk.step hb1
                  clear hb1 a0 a1 a2 a3 c0 c1 c2 c3
                  go_wp2_with fail
                  exact ⟨⟨k + 1, by omega, by go_num, by rw [Tb.any_succ, HC.out]; simp, by rw [Tb.any_succ, HG.out]; simp, kk⟩, by simp [intOf]; omega⟩
                | true =>
                  have HC := Bx.mk (show Tb.came s rel x k = false from by unfold Tb.came; simp [hr, hs, hc1])
                  have HG := Bx.mk (show Tb.goes s rel x k = true from by unfold Tb.goes; simp [hr, hc2, hs2])
                  rw [hr] at hER
                  rw [hs] at hES
                  rw [hs2] at hES2
                  have HR := Bx.mk hER
                  have HS := Bx.mk hES
                  have HS2 := Bx.mk hES2
                  have q1 : (((Tb.half k : Nat) : Int) == (((x &&& 85 : Nat)) : Int)) = false := by rw [← hc1, Bool.eq_iff_iff, beq_iff_eq, beq_iff_eq]; omega
                  have q2 : (((k &&& 85 : Nat) : Int) == (((x &&& 85 : Nat)) : Int)) = true := by rw [← hc2, Bool.eq_iff_iff, beq_iff_eq, beq_iff_eq]; omega
                  clear hER hES hES2 hr hs hc2 hc1 hs2
                  obtain ⟨⟨a0, a1, a2, a3⟩, c0, c1, c2, c3⟩ := tfacts (kk.at_ 1 _ _ rfl)
                  go_wp2_with fail
                  refine (HR.out _).mono ?_
                  rintro e w1 ⟨rfl, hb1⟩
                  replace kk := kk.step hb1
                  clear hb1 a0 a1 a2 a3 c0 c1 c2 c3
                  obtain ⟨⟨a0, a1, a2, a3⟩, c0, c1, c2, c3⟩ := tfacts (kk.at_ 2 _ _ rfl)
                  go_wp2_with fail
                  refine (HS.out _).mono ?_
                  rintro e w1 ⟨rfl, hb1⟩
                  replace kk := kk.step hb1
                  clear hb1 a0 a1 a2 a3 c0 c1 c2 c3
                  obtain ⟨⟨a0, a1, a2, a3⟩, c0, c1, c2, c3⟩ := tfacts (kk.at_ 1 _ _ rfl)
                  go_wp2_with fail
                  refine (HR.out _).mono ?_
                  rintro e w1 ⟨rfl, hb1⟩
                  replace kk := kk.step hb1
                  clear hb1 a0 a1 a2 a3 c0 c1 c2 c3
                  obtain ⟨⟨a0, a1, a2, a3⟩, c0, c1, c2, c3⟩ := tfacts (kk.at_ 2 _ _ rfl)
                  go_wp2_with fail
                  refine (HS2.out _).mono ?_
                  rintro e w1 ⟨rfl, hb1⟩
                  replace kk := kk.step hb1
                  clear hb1 a0 a1 a2 a3 c0 c1 c2 c3
                  go_wp2_with fail
                  exact ⟨⟨k + 1, by omega, by go_num, by rw [Tb.any_succ, HC.out]; simp, by rw [Tb.any_succ, HG.out]; simp, kk⟩, by simp [intOf]; omega⟩
            | true =>
              cases hc2 : ((k &&& 85) == (x &&& 85)) with
              | false =>
                have HC := Bx.mk (show Tb.came s rel x k = true from by unfold Tb.came; simp [hr, hs, hc1])
                have HG := Bx.mk (show Tb.goes s rel x k = false from by unfold Tb.goes; simp [hr, hc2])
                rw [hr] at hER
                rw [hs] at hES
                have HR := Bx.mk hER
                have HS := Bx.mk hES
                have HS2 := Bx.mk hES2
                have q1 : (((Tb.half k : Nat) : Int) == (((x &&& 85 : Nat)) : Int)) = true := by rw [← hc1, Bool.eq_iff_iff, beq_iff_eq, beq_iff_eq]; omega
                have q2 : (((k &&& 85 : Nat) : Int) == (((x &&& 85 : Nat)) : Int)) = false := by rw [← hc2, Bool.eq_iff_iff, beq_iff_eq, beq_iff_eq]; omega
                clear hER hES hES2 hr hs hc2 hc1
                obtain ⟨⟨a0, a1, a2, a3⟩, c0, c1, c2, c3⟩ := tfacts (kk.at_ 1 _ _ rfl)
                go_wp2_with fail
                refine (HR.out _).mono ?_
                rintro e w1 ⟨rfl, hb1⟩
                replace kk := kk.step hb1
                clear hb1 a0 a1 a2 a3 c0 c1 c2 c3
                obtain ⟨⟨a0, a1, a2, a3⟩, c0, c1, c2, c3⟩ := tfacts (kk.at_ 2 _ _ rfl)
                go_wp2_with fail
                refine (HS.out _).mono ?_
                rintro e w1 ⟨rfl, hb1⟩
                replace kk := kk.step hb1
                clear hb1 a0 a1 a2 a3 c0 c1 c2 c3
                obtain ⟨⟨a0, a1, a2, a3⟩, c0, c1, c2, c3⟩ := tfacts (kk.at_ 1 _ _ rfl)
                go_wp2_with fail
                refine (HR.out _).mono ?_
                rintro e w1 ⟨rfl, hb1⟩
                replace kk := kk.step hb1
                clear hb1 a0 a1 a2 a3 c0 c1 c2 c3
                go_wp2_with fail
                exact ⟨⟨k + 1, by omega, by go_num, by rw [Tb.any_succ, HC.out]; simp, by rw [Tb.any_succ, HG.out]; simp, kk⟩, by simp [intOf]; omega⟩
              | true =>
                cases hs2 : s.getLsbD (Tb.half k) with
                | false =>
                  have HC := Bx.mk (show Tb.came s rel x k = true from by unfold Tb.came; simp [hr, hs, hc1])
                  have HG := Bx.mk (show Tb.goes s rel x k = false from by unfold Tb.goes; simp [hr, hc2, hs2])
                  rw [hr] at hER
                  rw [hs] at hES
                  rw [hs2] at hES2
                  have HR := Bx.mk hER
                  have HS := Bx.mk hES
                  have HS2 := Bx.mk hES2
                  have q1 : (((Tb.half k : Nat) : Int) == (((x &&& 85 : Nat)) : Int)) = true := by rw [← hc1, Bool.eq_iff_iff, beq_iff_eq, beq_iff_eq]; omega
                  have q2 : (((k &&& 85 : Nat) : Int) == (((x &&& 85 : Nat)) : Int)) = true := by rw [← hc2, Bool.eq_iff_iff, beq_iff_eq, beq_iff_eq]; omega
                  clear hER hES hES2 hr hs hc2 hc1 hs2
                  obtain ⟨⟨a0, a1, a2, a3⟩, c0, c1, c2, c3⟩ := tfacts (kk.at_ 1 _ _ rfl)
                  go_wp2_with fail
                  refine (HR.out _).mono ?_
                  rintro e w1 ⟨rfl, hb1⟩
                  replace kk := kk.step hb1
                  clear hb1 a0 a1 a2 a3 c0 c1 c2 c3
                  obtain ⟨⟨a0, a1, a2, a3⟩, c0, c1, c2, c3⟩ := tfacts (kk.at_ 2 _ _ rfl)
                  go_wp2_with fail
                  refine (HS.out _).mono ?_
                  rintro e w1 ⟨rfl, hb1⟩
                  replace kk := kk.step hb1
                  clear hb1 a0 a1 a2 a3 c0 c1 c2 c3
                  obtain ⟨⟨a0, a1, a2, a3⟩, c0, c1, c2, c3⟩ := tfacts (kk.at_ 1 _ _ rfl)
                  go_wp2_with fail
                  refine (HR.out _).mono ?_
                  rintro e w1 ⟨rfl, hb1⟩
                  replace kk := kk.step hb1
                  clear hb1 a0 a1 a2 a3 c0 c1 c2 c3
                  obtain ⟨⟨a0, a1, a2, a3⟩, c0, c1, c2, c3⟩ := tfacts (kk.at_ 2 _ _ rfl)
                  go_wp2_with fail
                  refine (HS2.out _).mono ?_
                  rintro e w1 ⟨rfl, hb1⟩
                  replace kk := kk.step hb1
                  clear hb1 a0 a1 a2 a3 c0 c1 c2 c3
                  go_wp2_with fail
                  exact ⟨⟨k + 1, by omega, by go_num, by rw [Tb.any_succ, HC.out]; simp, by rw [Tb.any_succ, HG.out]; simp, kk⟩, by simp [intOf]; omega⟩
                | true =>
                  have HC := Bx.mk (show Tb.came s rel x k = true from by unfold Tb.came; simp [hr, hs, hc1])
                  have HG := Bx.mk (show Tb.goes s rel x k = true from by unfold Tb.goes; simp [hr, hc2, hs2])
                  rw [hr] at hER
                  rw [hs] at hES
                  rw [hs2] at hES2
                  have HR := Bx.mk hER
                  have HS := Bx.mk hES
                  have HS2 := Bx.mk hES2
                  have q1 : (((Tb.half k : Nat) : Int) == (((x &&& 85 : Nat)) : Int)) = true := by rw [← hc1, Bool.eq_iff_iff, beq_iff_eq, beq_iff_eq]; omega
                  have q2 : (((k &&& 85 : Nat) : Int) == (((x &&& 85 : Nat)) : Int)) = true := by rw [← hc2, Bool.eq_iff_iff, beq_iff_eq, beq_iff_eq]; omega
                  clear hER hES hES2 hr hs hc2 hc1 hs2
                  obtain ⟨⟨a0, a1, a2, a3⟩, c0, c1, c2, c3⟩ := tfacts (kk.at_ 1 _ _ rfl)
                  go_wp2_with fail
                  refine (HR.out _).mono ?_
                  rintro e w1 ⟨rfl, hb1⟩
                  replace kk := kk.step hb1
                  clear hb1 a0 a1 a2 a3 c0 c1 c2 c3
                  obtain ⟨⟨a0, a1, a2, a3⟩, c0, c1, c2, c3⟩ := tfacts (kk.at_ 2 _ _ rfl)
                  go_wp2_with fail
                  refine (HS.out _).mono ?_
                  rintro e w1 ⟨rfl, hb1⟩
                  replace kk := kk.step hb1
                  clear hb1 a0 a1 a2 a3 c0 c1 c2 c3
                  obtain ⟨⟨a0, a1, a2, a3⟩, c0, c1, c2, c3⟩ := tfacts (kk.at_ 1 _ _ rfl)
                  go_wp2_with fail
                  refine (HR.out _).mono ?_
                  rintro e w1 ⟨rfl, hb1⟩
                  replace kk := kk.step hb1
                  clear hb1 a0 a1 a2 a3 c0 c1 c2 c3
                  obtain ⟨⟨a0, a1, a2, a3⟩, c0, c1, c2, c3⟩ := tfacts (kk.at_ 2 _ _ rfl)
                  go_wp2_with fail
                  refine (HS2.out _).mono ?_
                  rintro e w1 ⟨rfl, hb1⟩
                  replace kk := kk.step hb1
                  clear hb1 a0 a1 a2 a3 c0 c1 c2 c3
                  go_wp2_with fail
                  exact ⟨⟨k + 1, by omega, by go_num, by rw [Tb.any_succ, HC.out]; simp, by rw [Tb.any_succ, HG.out]; simp, kk⟩, by simp [intOf]; omega⟩
      · obtain rfl : k = 256 := by omega
        have hN := fun w => eval_any (Tb.next s rel) x w hx
        have hP := fun w => eval_any (Tb.prev s rel) x w hx
        rw [Tb.next_came s rel hx] at hN
        rw [Tb.prev_goes s rel hx] at hP
        have HN := Bx.mk hN
        have HP := Bx.mk hP
        have HSN := Bx.mk (fun w => support_any (Tb.next s rel) w)
        have HSP := Bx.mk (fun w => support_any (Tb.prev s rel) w)
        have g1 : bits .and .u8 (Tb.support (Tb.next s rel) : Int) 170 = 0 := by
          have := u8_and_nat (Tb.support (Tb.next s rel)) 170 (Tb.support_lt _) (by decide)
          rw [Tb.sup_indep _ _ (Tb.indep_next s rel)] at this
          exact this
        have g2 : bits .and .u8 (Tb.support (Tb.prev s rel) : Int) 170 = 0 := by
          have := u8_and_nat (Tb.support (Tb.prev s rel)) 170 (Tb.support_lt _) (by decide)
          rw [Tb.sup_indep _ _ (Tb.indep_prev s rel)] at this
          exact this
        clear hN hP
        generalize Tb.anyTo (Tb.came s rel x) 256 = cm at HN ⊢
        generalize Tb.anyTo (Tb.goes s rel x) 256 = gs at HP ⊢
        have e1 := fun w => equal_bool 9999 cm cm w
        have e2 := fun w => equal_bool 9999 gs gs w
        obtain ⟨⟨a0, a1, a2, a3⟩, c0, c1, c2, c3⟩ := tfacts (kk.at_ 3 _ _ rfl)
        go_wp2_with fail
        refine (HN.out _).mono ?_
        rintro e w1 ⟨rfl, hb1⟩
        replace kk := kk.step hb1
        clear hb1 a0 a1 a2 a3 c0 c1 c2 c3
        obtain ⟨⟨a0, a1, a2, a3⟩, c0, c1, c2, c3⟩ := tfacts (kk.at_ 4 _ _ rfl)
        go_wp2_with fail
        refine (HP.out _).mono ?_
        rintro e w1 ⟨rfl, hb1⟩
        replace kk := kk.step hb1
        clear hb1 a0 a1 a2 a3 c0 c1 c2 c3
        obtain ⟨⟨a0, a1, a2, a3⟩, c0, c1, c2, c3⟩ := tfacts (kk.at_ 3 _ _ rfl)
        go_wp2_with fail
        refine (HSN.out _).mono ?_
        rintro e w1 ⟨rfl, hb1⟩
        replace kk := kk.step hb1
        clear hb1 a0 a1 a2 a3 c0 c1 c2 c3
        obtain ⟨⟨a0, a1, a2, a3⟩, c0, c1, c2, c3⟩ := tfacts (kk.at_ 4 _ _ rfl)
        go_wp2_with fail
        refine (HSP.out _).mono ?_
        rintro e w1 ⟨rfl, hb1⟩
        replace kk := kk.step hb1
        clear hb1 a0 a1 a2 a3 c0 c1 c2 c3
        go_wp2_with fail
        go_ret
        exact ⟨rfl, kk.below⟩
end Go.Proofs.YtfkefgelceaimaaDoor
