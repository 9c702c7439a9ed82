/-
  The walk of the law TruthRing.
-/
import Derived.Test.YtfkefgelceaimaaDoorLaw
namespace Go.Proofs.YtfkefgelceaimaaDoor
set_option linter.unusedVariables false
open Go.RowKit

set_option maxRecDepth 100000 in
set_option maxHeartbeats 4000000 in
theorem ring_walk (f g h : Tb.T) (w : World) (hT : TabAt w) (hG : 0 < w.heap.size) :
    Calls Tryd.prog 6 #[Tb.tv f, Tb.tv g, Tb.tv h] w fun e w' => e = .returned (.bool true) ∧ Below w.heap.size w w' := by
  have hK := (((Keep.nil w).new f).new g).new h
  have hT3 : TabAt (((w.alloc (.cells (Tb.tcells f) 24)).alloc (.cells (Tb.tcells g) 24)).alloc (.cells (Tb.tcells h) 24)) := hT.keep hK.below hG
  have hKn := known3_any _ hT3 (by simp)
  go_enter Tryd.func6, Tryd.ntmps6
  go_wp2_with fail
  refine hKn.mono ?_
  rintro e w5 ⟨rfl, b5⟩
  replace hK : Keep w w5 _ := hK.step b5
  simp at hK
  go_wp2_with fail
  -- ring
  refine region_float [] 15 (fun i => ([Tb.tv f, Tb.tv (~~~f), Tb.tv f, Tb.tv g, Tb.tv (f &&& g), Tb.tv f, Tb.tv g, Tb.tv (f ||| g), Tb.tv f, Tb.tv g, Tb.tv (f ^^^ g), undef, undef, undef, undef] : List Value).getD i undef) (fun i => if 11 ≤ i ∧ i < 15 then some (24, #[.int .u64 0, .int .u64 0, .int .u64 0, .int .u64 0]) else none) (fun u => Keep w u [(w.heap.size, f), ((w.heap.size + 1), g), ((w.heap.size + 1 + 1), h)]) w5.heap.size (by kernel_rfl) (by kernel_rfl) (by simp) hK.drew (Nat.le_refl _) (fun _ o h => h.alloc o) ?_ ?_ ?_
  · iterate 1 skip
    refine all_succ ?_ ?_
    rotate_left
    · intro hf; cases hf
    refine all_succ ?_ ?_
    rotate_left
    · intro hf; cases hf
    refine all_succ ?_ ?_
    rotate_left
    · intro hf; cases hf
    refine all_succ ?_ ?_
    rotate_left
    · intro hf; cases hf
    refine all_succ ?_ ?_
    rotate_left
    · intro hf oo ho act uu hS hB hd hold KK hcont
      obtain rfl := Option.some.inj ho
      have h21 : act.tmps.getD 21 undef = Tb.tv f := (hd 8 21 (by kernel_rfl) rfl rfl)
      have h22 : act.tmps.getD 22 undef = Tb.tv g := (hd 9 22 (by kernel_rfl) rfl rfl)
      go_simp
      refine (xor_any f g _).mono ?_
      rintro e u' ⟨rfl, hb⟩
      exact hcont _ (hS.step hb) hb
    refine all_succ ?_ ?_
    rotate_left
    · intro hf oo ho act uu hS hB hd hold KK hcont
      obtain rfl := Option.some.inj ho
      exact wp_of_exec (exec_load rfl (hold 4 (notDst (by kernel_rfl))) (hS.at_ 1 _ _ rfl)) (hcont uu hS (Below.refl _ _))
    refine all_succ ?_ ?_
    rotate_left
    · intro hf oo ho act uu hS hB hd hold KK hcont
      obtain rfl := Option.some.inj ho
      exact wp_of_exec (exec_load rfl (hold 3 (notDst (by kernel_rfl))) (hS.at_ 0 _ _ rfl)) (hcont uu hS (Below.refl _ _))
    refine all_succ ?_ ?_
    rotate_left
    · intro hf oo ho act uu hS hB hd hold KK hcont
      obtain rfl := Option.some.inj ho
      have h18 : act.tmps.getD 18 undef = Tb.tv f := (hd 5 18 (by kernel_rfl) rfl rfl)
      have h19 : act.tmps.getD 19 undef = Tb.tv g := (hd 6 19 (by kernel_rfl) rfl rfl)
      go_simp
      refine (or_any f g _).mono ?_
      rintro e u' ⟨rfl, hb⟩
      exact hcont _ (hS.step hb) hb
    refine all_succ ?_ ?_
    rotate_left
    · intro hf oo ho act uu hS hB hd hold KK hcont
      obtain rfl := Option.some.inj ho
      exact wp_of_exec (exec_load rfl (hold 4 (notDst (by kernel_rfl))) (hS.at_ 1 _ _ rfl)) (hcont uu hS (Below.refl _ _))
    refine all_succ ?_ ?_
    rotate_left
    · intro hf oo ho act uu hS hB hd hold KK hcont
      obtain rfl := Option.some.inj ho
      exact wp_of_exec (exec_load rfl (hold 3 (notDst (by kernel_rfl))) (hS.at_ 0 _ _ rfl)) (hcont uu hS (Below.refl _ _))
    refine all_succ ?_ ?_
    rotate_left
    · intro hf oo ho act uu hS hB hd hold KK hcont
      obtain rfl := Option.some.inj ho
      have h15 : act.tmps.getD 15 undef = Tb.tv f := (hd 2 15 (by kernel_rfl) rfl rfl)
      have h16 : act.tmps.getD 16 undef = Tb.tv g := (hd 3 16 (by kernel_rfl) rfl rfl)
      go_simp
      refine (and_any f g _).mono ?_
      rintro e u' ⟨rfl, hb⟩
      exact hcont _ (hS.step hb) hb
    refine all_succ ?_ ?_
    rotate_left
    · intro hf oo ho act uu hS hB hd hold KK hcont
      obtain rfl := Option.some.inj ho
      exact wp_of_exec (exec_load rfl (hold 4 (notDst (by kernel_rfl))) (hS.at_ 1 _ _ rfl)) (hcont uu hS (Below.refl _ _))
    refine all_succ ?_ ?_
    rotate_left
    · intro hf oo ho act uu hS hB hd hold KK hcont
      obtain rfl := Option.some.inj ho
      exact wp_of_exec (exec_load rfl (hold 3 (notDst (by kernel_rfl))) (hS.at_ 0 _ _ rfl)) (hcont uu hS (Below.refl _ _))
    refine all_succ ?_ ?_
    rotate_left
    · intro hf oo ho act uu hS hB hd hold KK hcont
      obtain rfl := Option.some.inj ho
      have h13 : act.tmps.getD 13 undef = Tb.tv f := (hd 0 13 (by kernel_rfl) rfl rfl)
      go_simp
      refine (not_any f _).mono ?_
      rintro e u' ⟨rfl, hb⟩
      exact hcont _ (hS.step hb) hb
    refine all_succ ?_ ?_
    rotate_left
    · intro hf oo ho act uu hS hB hd hold KK hcont
      obtain rfl := Option.some.inj ho
      exact wp_of_exec (exec_load rfl (hold 3 (notDst (by kernel_rfl))) (hS.at_ 0 _ _ rfl)) (hcont uu hS (Below.refl _ _))
    exact all_zero
  · intro i hi ty z hf o ho a u K hk
    have hi2 : 11 ≤ i ∧ i < 15 := by
      split at hf
      · assumption
      · cases hf
    rw [if_pos hi2] at hf
    cases hf
    by_cases c11 : i = 11
    · subst c11
      obtain rfl := Option.some.inj ho
      go_simp
      exact hk
    by_cases c12 : i = 12
    · subst c12
      obtain rfl := Option.some.inj ho
      go_simp
      exact hk
    by_cases c13 : i = 13
    · subst c13
      obtain rfl := Option.some.inj ho
      go_simp
      exact hk
    by_cases c14 : i = 14
    · subst c14
      obtain rfl := Option.some.inj ho
      go_simp
      exact hk
    omega
  · intro ρ u hF
    have e0 : ρ 0 = Tb.tv f := hF.val 0 (by omega) (by kernel_rfl) rfl
    have e1 : ρ 1 = Tb.tv (~~~f) := hF.val 1 (by omega) (by kernel_rfl) rfl
    have e2 : ρ 2 = Tb.tv f := hF.val 2 (by omega) (by kernel_rfl) rfl
    have e3 : ρ 3 = Tb.tv g := hF.val 3 (by omega) (by kernel_rfl) rfl
    have e4 : ρ 4 = Tb.tv (f &&& g) := hF.val 4 (by omega) (by kernel_rfl) rfl
    have e5 : ρ 5 = Tb.tv f := hF.val 5 (by omega) (by kernel_rfl) rfl
    have e6 : ρ 6 = Tb.tv g := hF.val 6 (by omega) (by kernel_rfl) rfl
    have e7 : ρ 7 = Tb.tv (f ||| g) := hF.val 7 (by omega) (by kernel_rfl) rfl
    have e8 : ρ 8 = Tb.tv f := hF.val 8 (by omega) (by kernel_rfl) rfl
    have e9 : ρ 9 = Tb.tv g := hF.val 9 (by omega) (by kernel_rfl) rfl
    have e10 : ρ 10 = Tb.tv (f ^^^ g) := hF.val 10 (by omega) (by kernel_rfl) rfl
    obtain ⟨p11, e11, hb11, z11⟩ := hF.ptr 11 24 _ (by omega) rfl rfl
    rw [← Tb.tcells_zero] at z11
    obtain ⟨p12, e12, hb12, z12⟩ := hF.ptr 12 24 _ (by omega) rfl rfl
    rw [← Tb.tcells_zero] at z12
    obtain ⟨p13, e13, hb13, z13⟩ := hF.ptr 13 24 _ (by omega) rfl rfl
    rw [← Tb.tcells_zero] at z13
    obtain ⟨p14, e14, hb14, z14⟩ := hF.ptr 14 24 _ (by omega) rfl rfl
    rw [← Tb.tcells_zero] at z14
    have d11_12 : p11 ≠ p12 := fun e => hF.dis 11 12 (by omega) (by omega) (by omega) rfl rfl rfl rfl (by rw [e11, e12, e])
    have d11_13 : p11 ≠ p13 := fun e => hF.dis 11 13 (by omega) (by omega) (by omega) rfl rfl rfl rfl (by rw [e11, e13, e])
    have d11_14 : p11 ≠ p14 := fun e => hF.dis 11 14 (by omega) (by omega) (by omega) rfl rfl rfl rfl (by rw [e11, e14, e])
    have d12_11 : p12 ≠ p11 := fun e => hF.dis 12 11 (by omega) (by omega) (by omega) rfl rfl rfl rfl (by rw [e12, e11, e])
    have d12_13 : p12 ≠ p13 := fun e => hF.dis 12 13 (by omega) (by omega) (by omega) rfl rfl rfl rfl (by rw [e12, e13, e])
    have d12_14 : p12 ≠ p14 := fun e => hF.dis 12 14 (by omega) (by omega) (by omega) rfl rfl rfl rfl (by rw [e12, e14, e])
    have d13_11 : p13 ≠ p11 := fun e => hF.dis 13 11 (by omega) (by omega) (by omega) rfl rfl rfl rfl (by rw [e13, e11, e])
    have d13_12 : p13 ≠ p12 := fun e => hF.dis 13 12 (by omega) (by omega) (by omega) rfl rfl rfl rfl (by rw [e13, e12, e])
    have d13_14 : p13 ≠ p14 := fun e => hF.dis 13 14 (by omega) (by omega) (by omega) rfl rfl rfl rfl (by rw [e13, e14, e])
    have d14_11 : p14 ≠ p11 := fun e => hF.dis 14 11 (by omega) (by omega) (by omega) rfl rfl rfl rfl (by rw [e14, e11, e])
    have d14_12 : p14 ≠ p12 := fun e => hF.dis 14 12 (by omega) (by omega) (by omega) rfl rfl rfl rfl (by rw [e14, e12, e])
    have d14_13 : p14 ≠ p13 := fun e => hF.dis 14 13 (by omega) (by omega) (by omega) rfl rfl rfl rfl (by rw [e14, e13, e])
    have l0 := hK.lt (k := 0) rfl
    have l1 := hK.lt (k := 1) rfl
    have l2 := hK.lt (k := 2) rfl
    have k0 := hF.s_
    have k1 := k0.add' (p := p11) (F := 0#256) z11 (by simp <;> omega)
    have k2 := k1.add' (p := p12) (F := 0#256) z12 (by simp <;> omega)
    have k3 := k2.add' (p := p13) (F := 0#256) z13 (by simp <;> omega)
    have k4 := k3.add' (p := p14) (F := 0#256) z14 (by simp <;> omega)
    have k5 := k4.store 3 ((~~~f)) (p := p11) (G := 0#256) rfl (by have := hK.below.size; omega)
    have k6 := k5.store 4 ((f &&& g)) (p := p12) (G := 0#256) rfl (by have := hK.below.size; omega)
    have k7 := k6.store 5 ((f ||| g)) (p := p13) (G := 0#256) rfl (by have := hK.below.size; omega)
    have k8 := k7.store 6 ((f ^^^ g)) (p := p14) (G := 0#256) rfl (by have := hK.below.size; omega)
    obtain ⟨⟨a110, a111, a112, a113⟩, b110, b111, b112, b113⟩ := tfacts z11
    obtain ⟨⟨a120, a121, a122, a123⟩, b120, b121, b122, b123⟩ := tfacts z12
    obtain ⟨⟨a130, a131, a132, a133⟩, b130, b131, b132, b133⟩ := tfacts z13
    obtain ⟨⟨a140, a141, a142, a143⟩, b140, b141, b142, b143⟩ := tfacts z14
    simp only [puts, dstOf, e0, e1, e2, e3, e4, e5, e6, e7, e8, e9, e10, e11, e12, e13, e14]
    go_wp2_with fail
    replace k8 : Keep w _ [(w.heap.size, f), ((w.heap.size + 1), g), ((w.heap.size + 1 + 1), h), (p11, (~~~f)), (p12, (f &&& g)), (p13, (f ||| g)), (p14, (f ^^^ g))] := k8
    clear hF
    refine region_float [4, 11, 18, 25, 36, 47, 54, 61, 70, 83, 96] 103 (fun i => ([Tb.tv (~~~f), Tb.tv (~~~(~~~f)), Tb.tv f, .bool true, .bool true, Tb.tv (f &&& g), Tb.tv g, Tb.tv f, Tb.tv (g &&& f), .bool true, .bool true, .bool true, Tb.tv (f ||| g), Tb.tv g, Tb.tv f, Tb.tv (g ||| f), .bool true, .bool true, .bool true, Tb.tv (f ^^^ g), Tb.tv g, Tb.tv f, Tb.tv (g ^^^ f), .bool true, .bool true, .bool true, Tb.tv (f &&& g), Tb.tv h, Tb.tv ((f &&& g) &&& h), Tb.tv f, Tb.tv g, Tb.tv h, Tb.tv (g &&& h), Tb.tv (f &&& (g &&& h)), .bool true, .bool true, .bool true, Tb.tv (f ||| g), Tb.tv h, Tb.tv ((f ||| g) ||| h), Tb.tv f, Tb.tv g, Tb.tv h, Tb.tv (g ||| h), Tb.tv (f ||| (g ||| h)), .bool true, .bool true, .bool true, Tb.tv f, Tb.tv (f ||| g), Tb.tv (f &&& (f ||| g)), Tb.tv f, .bool true, .bool true, .bool true, Tb.tv f, Tb.tv (f &&& g), Tb.tv (f ||| (f &&& g)), Tb.tv f, .bool true, .bool true, .bool true, Tb.tv (f &&& g), Tb.tv (~~~(f &&& g)), Tb.tv (~~~f), Tb.tv g, Tb.tv (~~~g), Tb.tv ((~~~f) ||| (~~~g)), .bool true, .bool true, .bool true, Tb.tv f, Tb.tv g, Tb.tv h, Tb.tv (g ||| h), Tb.tv (f &&& (g ||| h)), Tb.tv (f &&& g), Tb.tv f, Tb.tv h, Tb.tv (f &&& h), Tb.tv ((f &&& g) ||| (f &&& h)), .bool true, .bool true, .bool true, Tb.tv f, Tb.tv g, Tb.tv h, Tb.tv (g ^^^ h), Tb.tv (f &&& (g ^^^ h)), Tb.tv (f &&& g), Tb.tv f, Tb.tv h, Tb.tv (f &&& h), Tb.tv ((f &&& g) ^^^ (f &&& h)), .bool true, .bool true, .bool true, Tb.tv (f ^^^ g), Tb.tv g, Tb.tv ((f ^^^ g) ^^^ g), Tb.tv f, .bool true, .bool true] : List Value).getD i undef) (fun _ => none) (fun u => Keep w u [(w.heap.size, f), ((w.heap.size + 1), g), ((w.heap.size + 1 + 1), h), (p11, (~~~f)), (p12, (f &&& g)), (p13, (f ||| g)), (p14, (f ^^^ g))]) _ (by kernel_rfl) (by kernel_rfl) (by intro g hg; simp only [List.mem_cons, List.not_mem_nil, or_false] at hg; rcases hg with rfl | rfl | rfl | rfl | rfl | rfl | rfl | rfl | rfl | rfl | rfl <;> exact ⟨rfl, rfl⟩) k8.drew (Nat.le_refl _) (fun _ o h => h.alloc o) ?_ ?_ ?_
    · iterate 1 skip
      refine all_succ ?_ ?_
      rotate_left
      · intro hf oo ho act uu hS hB hd hold KK hcont
        obtain rfl := Option.some.inj ho
        exact wp_of_exec (exec_pick rfl (hd 96 120 (by kernel_rfl) rfl rfl) (hd 101 125 (by kernel_rfl) rfl rfl)) (hcont uu hS (Below.refl _ _))
      refine all_succ ?_ ?_
      rotate_left
      · intro hf oo ho act uu hS hB hd hold KK hcont
        obtain rfl := Option.some.inj ho
        exact wp_of_exec (exec_eqT rfl (hd 99 123 (by kernel_rfl) rfl rfl) (hd 100 124 (by kernel_rfl) rfl rfl) (by apply BitVec.eq_of_getLsbD_eq; intro i hi; (repeat (first | simp only [BitVec.getLsbD_and] | simp only [BitVec.getLsbD_or] | simp only [BitVec.getLsbD_xor] | simp only [BitVec.getLsbD_not, hi, decide_true, Bool.true_and])); cases f.getLsbD i <;> cases g.getLsbD i <;> cases h.getLsbD i <;> rfl)) (hcont uu hS (Below.refl _ _))
      refine all_succ ?_ ?_
      rotate_left
      · intro hf oo ho act uu hS hB hd hold KK hcont
        obtain rfl := Option.some.inj ho
        exact wp_of_exec (exec_load rfl (hold 3 (notDst (by kernel_rfl))) (hS.at_ 0 _ _ rfl)) (hcont uu hS (Below.refl _ _))
      refine all_succ ?_ ?_
      rotate_left
      · intro hf oo ho act uu hS hB hd hold KK hcont
        obtain rfl := Option.some.inj ho
        have h121 : act.tmps.getD 121 undef = Tb.tv (f ^^^ g) := (hd 97 121 (by kernel_rfl) rfl rfl)
        have h122 : act.tmps.getD 122 undef = Tb.tv g := (hd 98 122 (by kernel_rfl) rfl rfl)
        go_simp
        refine (xor_any (f ^^^ g) g _).mono ?_
        rintro e u' ⟨rfl, hb⟩
        exact hcont _ (hS.step hb) hb
      refine all_succ ?_ ?_
      rotate_left
      · intro hf oo ho act uu hS hB hd hold KK hcont
        obtain rfl := Option.some.inj ho
        exact wp_of_exec (exec_load rfl (hold 4 (notDst (by kernel_rfl))) (hS.at_ 1 _ _ rfl)) (hcont uu hS (Below.refl _ _))
      refine all_succ ?_ ?_
      rotate_left
      · intro hf oo ho act uu hS hB hd hold KK hcont
        obtain rfl := Option.some.inj ho
        exact wp_of_exec (exec_load rfl (hold 10 (notDst (by kernel_rfl))) (hS.at_ 6 _ _ rfl)) (hcont uu hS (Below.refl _ _))
      refine all_succ ?_ ?_
      rotate_left
      · intro hf oo ho act uu hS hB hd hold KK hcont
        obtain rfl := Option.some.inj ho
        exact wp_of_exec (exec_move rfl (hd 95 119 (by kernel_rfl) rfl rfl)) (hcont uu hS (Below.refl _ _))
      refine all_succ ?_ ?_
      rotate_left
      · intro hf oo ho act uu hS hB hd hold KK hcont
        obtain rfl := Option.some.inj ho
        exact wp_of_exec (exec_pick rfl (hd 83 107 (by kernel_rfl) rfl rfl) (hd 94 118 (by kernel_rfl) rfl rfl)) (hcont uu hS (Below.refl _ _))
      refine all_succ ?_ ?_
      rotate_left
      · intro hf oo ho act uu hS hB hd hold KK hcont
        obtain rfl := Option.some.inj ho
        exact wp_of_exec (exec_eqT rfl (hd 88 112 (by kernel_rfl) rfl rfl) (hd 93 117 (by kernel_rfl) rfl rfl) (by apply BitVec.eq_of_getLsbD_eq; intro i hi; (repeat (first | simp only [BitVec.getLsbD_and] | simp only [BitVec.getLsbD_or] | simp only [BitVec.getLsbD_xor] | simp only [BitVec.getLsbD_not, hi, decide_true, Bool.true_and])); cases f.getLsbD i <;> cases g.getLsbD i <;> cases h.getLsbD i <;> rfl)) (hcont uu hS (Below.refl _ _))
      refine all_succ ?_ ?_
      rotate_left
      · intro hf oo ho act uu hS hB hd hold KK hcont
        obtain rfl := Option.some.inj ho
        have h113 : act.tmps.getD 113 undef = Tb.tv (f &&& g) := (hd 89 113 (by kernel_rfl) rfl rfl)
        have h116 : act.tmps.getD 116 undef = Tb.tv (f &&& h) := (hd 92 116 (by kernel_rfl) rfl rfl)
        go_simp
        refine (xor_any (f &&& g) (f &&& h) _).mono ?_
        rintro e u' ⟨rfl, hb⟩
        exact hcont _ (hS.step hb) hb
      refine all_succ ?_ ?_
      rotate_left
      · intro hf oo ho act uu hS hB hd hold KK hcont
        obtain rfl := Option.some.inj ho
        have h114 : act.tmps.getD 114 undef = Tb.tv f := (hd 90 114 (by kernel_rfl) rfl rfl)
        have h115 : act.tmps.getD 115 undef = Tb.tv h := (hd 91 115 (by kernel_rfl) rfl rfl)
        go_simp
        refine (and_any f h _).mono ?_
        rintro e u' ⟨rfl, hb⟩
        exact hcont _ (hS.step hb) hb
      refine all_succ ?_ ?_
      rotate_left
      · intro hf oo ho act uu hS hB hd hold KK hcont
        obtain rfl := Option.some.inj ho
        exact wp_of_exec (exec_load rfl (hold 5 (notDst (by kernel_rfl))) (hS.at_ 2 _ _ rfl)) (hcont uu hS (Below.refl _ _))
      refine all_succ ?_ ?_
      rotate_left
      · intro hf oo ho act uu hS hB hd hold KK hcont
        obtain rfl := Option.some.inj ho
        exact wp_of_exec (exec_load rfl (hold 3 (notDst (by kernel_rfl))) (hS.at_ 0 _ _ rfl)) (hcont uu hS (Below.refl _ _))
      refine all_succ ?_ ?_
      rotate_left
      · intro hf oo ho act uu hS hB hd hold KK hcont
        obtain rfl := Option.some.inj ho
        exact wp_of_exec (exec_load rfl (hold 8 (notDst (by kernel_rfl))) (hS.at_ 4 _ _ rfl)) (hcont uu hS (Below.refl _ _))
      refine all_succ ?_ ?_
      rotate_left
      · intro hf oo ho act uu hS hB hd hold KK hcont
        obtain rfl := Option.some.inj ho
        have h108 : act.tmps.getD 108 undef = Tb.tv f := (hd 84 108 (by kernel_rfl) rfl rfl)
        have h111 : act.tmps.getD 111 undef = Tb.tv (g ^^^ h) := (hd 87 111 (by kernel_rfl) rfl rfl)
        go_simp
        refine (and_any f (g ^^^ h) _).mono ?_
        rintro e u' ⟨rfl, hb⟩
        exact hcont _ (hS.step hb) hb
      refine all_succ ?_ ?_
      rotate_left
      · intro hf oo ho act uu hS hB hd hold KK hcont
        obtain rfl := Option.some.inj ho
        have h109 : act.tmps.getD 109 undef = Tb.tv g := (hd 85 109 (by kernel_rfl) rfl rfl)
        have h110 : act.tmps.getD 110 undef = Tb.tv h := (hd 86 110 (by kernel_rfl) rfl rfl)
        go_simp
        refine (xor_any g h _).mono ?_
        rintro e u' ⟨rfl, hb⟩
        exact hcont _ (hS.step hb) hb
      refine all_succ ?_ ?_
      rotate_left
      · intro hf oo ho act uu hS hB hd hold KK hcont
        obtain rfl := Option.some.inj ho
        exact wp_of_exec (exec_load rfl (hold 5 (notDst (by kernel_rfl))) (hS.at_ 2 _ _ rfl)) (hcont uu hS (Below.refl _ _))
      refine all_succ ?_ ?_
      rotate_left
      · intro hf oo ho act uu hS hB hd hold KK hcont
        obtain rfl := Option.some.inj ho
        exact wp_of_exec (exec_load rfl (hold 4 (notDst (by kernel_rfl))) (hS.at_ 1 _ _ rfl)) (hcont uu hS (Below.refl _ _))
      refine all_succ ?_ ?_
      rotate_left
      · intro hf oo ho act uu hS hB hd hold KK hcont
        obtain rfl := Option.some.inj ho
        exact wp_of_exec (exec_load rfl (hold 3 (notDst (by kernel_rfl))) (hS.at_ 0 _ _ rfl)) (hcont uu hS (Below.refl _ _))
      refine all_succ ?_ ?_
      rotate_left
      · intro hf oo ho act uu hS hB hd hold KK hcont
        obtain rfl := Option.some.inj ho
        exact wp_of_exec (exec_move rfl (hd 82 106 (by kernel_rfl) rfl rfl)) (hcont uu hS (Below.refl _ _))
      refine all_succ ?_ ?_
      rotate_left
      · intro hf oo ho act uu hS hB hd hold KK hcont
        obtain rfl := Option.some.inj ho
        exact wp_of_exec (exec_pick rfl (hd 70 94 (by kernel_rfl) rfl rfl) (hd 81 105 (by kernel_rfl) rfl rfl)) (hcont uu hS (Below.refl _ _))
      refine all_succ ?_ ?_
      rotate_left
      · intro hf oo ho act uu hS hB hd hold KK hcont
        obtain rfl := Option.some.inj ho
        exact wp_of_exec (exec_eqT rfl (hd 75 99 (by kernel_rfl) rfl rfl) (hd 80 104 (by kernel_rfl) rfl rfl) (by apply BitVec.eq_of_getLsbD_eq; intro i hi; (repeat (first | simp only [BitVec.getLsbD_and] | simp only [BitVec.getLsbD_or] | simp only [BitVec.getLsbD_xor] | simp only [BitVec.getLsbD_not, hi, decide_true, Bool.true_and])); cases f.getLsbD i <;> cases g.getLsbD i <;> cases h.getLsbD i <;> rfl)) (hcont uu hS (Below.refl _ _))
      refine all_succ ?_ ?_
      rotate_left
      · intro hf oo ho act uu hS hB hd hold KK hcont
        obtain rfl := Option.some.inj ho
        have h100 : act.tmps.getD 100 undef = Tb.tv (f &&& g) := (hd 76 100 (by kernel_rfl) rfl rfl)
        have h103 : act.tmps.getD 103 undef = Tb.tv (f &&& h) := (hd 79 103 (by kernel_rfl) rfl rfl)
        go_simp
        refine (or_any (f &&& g) (f &&& h) _).mono ?_
        rintro e u' ⟨rfl, hb⟩
        exact hcont _ (hS.step hb) hb
      refine all_succ ?_ ?_
      rotate_left
      · intro hf oo ho act uu hS hB hd hold KK hcont
        obtain rfl := Option.some.inj ho
        have h101 : act.tmps.getD 101 undef = Tb.tv f := (hd 77 101 (by kernel_rfl) rfl rfl)
        have h102 : act.tmps.getD 102 undef = Tb.tv h := (hd 78 102 (by kernel_rfl) rfl rfl)
        go_simp
        refine (and_any f h _).mono ?_
        rintro e u' ⟨rfl, hb⟩
        exact hcont _ (hS.step hb) hb
      refine all_succ ?_ ?_
      rotate_left
      · intro hf oo ho act uu hS hB hd hold KK hcont
        obtain rfl := Option.some.inj ho
        exact wp_of_exec (exec_load rfl (hold 5 (notDst (by kernel_rfl))) (hS.at_ 2 _ _ rfl)) (hcont uu hS (Below.refl _ _))
      refine all_succ ?_ ?_
      rotate_left
      · intro hf oo ho act uu hS hB hd hold KK hcont
        obtain rfl := Option.some.inj ho
        exact wp_of_exec (exec_load rfl (hold 3 (notDst (by kernel_rfl))) (hS.at_ 0 _ _ rfl)) (hcont uu hS (Below.refl _ _))
      refine all_succ ?_ ?_
      rotate_left
      · intro hf oo ho act uu hS hB hd hold KK hcont
        obtain rfl := Option.some.inj ho
        exact wp_of_exec (exec_load rfl (hold 8 (notDst (by kernel_rfl))) (hS.at_ 4 _ _ rfl)) (hcont uu hS (Below.refl _ _))
      refine all_succ ?_ ?_
      rotate_left
      · intro hf oo ho act uu hS hB hd hold KK hcont
        obtain rfl := Option.some.inj ho
        have h95 : act.tmps.getD 95 undef = Tb.tv f := (hd 71 95 (by kernel_rfl) rfl rfl)
        have h98 : act.tmps.getD 98 undef = Tb.tv (g ||| h) := (hd 74 98 (by kernel_rfl) rfl rfl)
        go_simp
        refine (and_any f (g ||| h) _).mono ?_
        rintro e u' ⟨rfl, hb⟩
        exact hcont _ (hS.step hb) hb
      refine all_succ ?_ ?_
      rotate_left
      · intro hf oo ho act uu hS hB hd hold KK hcont
        obtain rfl := Option.some.inj ho
        have h96 : act.tmps.getD 96 undef = Tb.tv g := (hd 72 96 (by kernel_rfl) rfl rfl)
        have h97 : act.tmps.getD 97 undef = Tb.tv h := (hd 73 97 (by kernel_rfl) rfl rfl)
        go_simp
        refine (or_any g h _).mono ?_
        rintro e u' ⟨rfl, hb⟩
        exact hcont _ (hS.step hb) hb
      refine all_succ ?_ ?_
      rotate_left
      · intro hf oo ho act uu hS hB hd hold KK hcont
        obtain rfl := Option.some.inj ho
        exact wp_of_exec (exec_load rfl (hold 5 (notDst (by kernel_rfl))) (hS.at_ 2 _ _ rfl)) (hcont uu hS (Below.refl _ _))
      refine all_succ ?_ ?_
      rotate_left
      · intro hf oo ho act uu hS hB hd hold KK hcont
        obtain rfl := Option.some.inj ho
        exact wp_of_exec (exec_load rfl (hold 4 (notDst (by kernel_rfl))) (hS.at_ 1 _ _ rfl)) (hcont uu hS (Below.refl _ _))
      refine all_succ ?_ ?_
      rotate_left
      · intro hf oo ho act uu hS hB hd hold KK hcont
        obtain rfl := Option.some.inj ho
        exact wp_of_exec (exec_load rfl (hold 3 (notDst (by kernel_rfl))) (hS.at_ 0 _ _ rfl)) (hcont uu hS (Below.refl _ _))
      refine all_succ ?_ ?_
      rotate_left
      · intro hf oo ho act uu hS hB hd hold KK hcont
        obtain rfl := Option.some.inj ho
        exact wp_of_exec (exec_move rfl (hd 69 93 (by kernel_rfl) rfl rfl)) (hcont uu hS (Below.refl _ _))
      refine all_succ ?_ ?_
      rotate_left
      · intro hf oo ho act uu hS hB hd hold KK hcont
        obtain rfl := Option.some.inj ho
        exact wp_of_exec (exec_pick rfl (hd 61 85 (by kernel_rfl) rfl rfl) (hd 68 92 (by kernel_rfl) rfl rfl)) (hcont uu hS (Below.refl _ _))
      refine all_succ ?_ ?_
      rotate_left
      · intro hf oo ho act uu hS hB hd hold KK hcont
        obtain rfl := Option.some.inj ho
        exact wp_of_exec (exec_eqT rfl (hd 63 87 (by kernel_rfl) rfl rfl) (hd 67 91 (by kernel_rfl) rfl rfl) (by apply BitVec.eq_of_getLsbD_eq; intro i hi; (repeat (first | simp only [BitVec.getLsbD_and] | simp only [BitVec.getLsbD_or] | simp only [BitVec.getLsbD_xor] | simp only [BitVec.getLsbD_not, hi, decide_true, Bool.true_and])); cases f.getLsbD i <;> cases g.getLsbD i <;> cases h.getLsbD i <;> rfl)) (hcont uu hS (Below.refl _ _))
      refine all_succ ?_ ?_
      rotate_left
      · intro hf oo ho act uu hS hB hd hold KK hcont
        obtain rfl := Option.some.inj ho
        have h88 : act.tmps.getD 88 undef = Tb.tv (~~~f) := (hd 64 88 (by kernel_rfl) rfl rfl)
        have h90 : act.tmps.getD 90 undef = Tb.tv (~~~g) := (hd 66 90 (by kernel_rfl) rfl rfl)
        go_simp
        refine (or_any (~~~f) (~~~g) _).mono ?_
        rintro e u' ⟨rfl, hb⟩
        exact hcont _ (hS.step hb) hb
      refine all_succ ?_ ?_
      rotate_left
      · intro hf oo ho act uu hS hB hd hold KK hcont
        obtain rfl := Option.some.inj ho
        have h89 : act.tmps.getD 89 undef = Tb.tv g := (hd 65 89 (by kernel_rfl) rfl rfl)
        go_simp
        refine (not_any g _).mono ?_
        rintro e u' ⟨rfl, hb⟩
        exact hcont _ (hS.step hb) hb
      refine all_succ ?_ ?_
      rotate_left
      · intro hf oo ho act uu hS hB hd hold KK hcont
        obtain rfl := Option.some.inj ho
        exact wp_of_exec (exec_load rfl (hold 4 (notDst (by kernel_rfl))) (hS.at_ 1 _ _ rfl)) (hcont uu hS (Below.refl _ _))
      refine all_succ ?_ ?_
      rotate_left
      · intro hf oo ho act uu hS hB hd hold KK hcont
        obtain rfl := Option.some.inj ho
        exact wp_of_exec (exec_load rfl (hold 7 (notDst (by kernel_rfl))) (hS.at_ 3 _ _ rfl)) (hcont uu hS (Below.refl _ _))
      refine all_succ ?_ ?_
      rotate_left
      · intro hf oo ho act uu hS hB hd hold KK hcont
        obtain rfl := Option.some.inj ho
        have h86 : act.tmps.getD 86 undef = Tb.tv (f &&& g) := (hd 62 86 (by kernel_rfl) rfl rfl)
        go_simp
        refine (not_any (f &&& g) _).mono ?_
        rintro e u' ⟨rfl, hb⟩
        exact hcont _ (hS.step hb) hb
      refine all_succ ?_ ?_
      rotate_left
      · intro hf oo ho act uu hS hB hd hold KK hcont
        obtain rfl := Option.some.inj ho
        exact wp_of_exec (exec_load rfl (hold 8 (notDst (by kernel_rfl))) (hS.at_ 4 _ _ rfl)) (hcont uu hS (Below.refl _ _))
      refine all_succ ?_ ?_
      rotate_left
      · intro hf oo ho act uu hS hB hd hold KK hcont
        obtain rfl := Option.some.inj ho
        exact wp_of_exec (exec_move rfl (hd 60 84 (by kernel_rfl) rfl rfl)) (hcont uu hS (Below.refl _ _))
      refine all_succ ?_ ?_
      rotate_left
      · intro hf oo ho act uu hS hB hd hold KK hcont
        obtain rfl := Option.some.inj ho
        exact wp_of_exec (exec_pick rfl (hd 54 78 (by kernel_rfl) rfl rfl) (hd 59 83 (by kernel_rfl) rfl rfl)) (hcont uu hS (Below.refl _ _))
      refine all_succ ?_ ?_
      rotate_left
      · intro hf oo ho act uu hS hB hd hold KK hcont
        obtain rfl := Option.some.inj ho
        exact wp_of_exec (exec_eqT rfl (hd 57 81 (by kernel_rfl) rfl rfl) (hd 58 82 (by kernel_rfl) rfl rfl) (by apply BitVec.eq_of_getLsbD_eq; intro i hi; (repeat (first | simp only [BitVec.getLsbD_and] | simp only [BitVec.getLsbD_or] | simp only [BitVec.getLsbD_xor] | simp only [BitVec.getLsbD_not, hi, decide_true, Bool.true_and])); cases f.getLsbD i <;> cases g.getLsbD i <;> cases h.getLsbD i <;> rfl)) (hcont uu hS (Below.refl _ _))
      refine all_succ ?_ ?_
      rotate_left
      · intro hf oo ho act uu hS hB hd hold KK hcont
        obtain rfl := Option.some.inj ho
        exact wp_of_exec (exec_load rfl (hold 3 (notDst (by kernel_rfl))) (hS.at_ 0 _ _ rfl)) (hcont uu hS (Below.refl _ _))
      refine all_succ ?_ ?_
      rotate_left
      · intro hf oo ho act uu hS hB hd hold KK hcont
        obtain rfl := Option.some.inj ho
        have h79 : act.tmps.getD 79 undef = Tb.tv f := (hd 55 79 (by kernel_rfl) rfl rfl)
        have h80 : act.tmps.getD 80 undef = Tb.tv (f &&& g) := (hd 56 80 (by kernel_rfl) rfl rfl)
        go_simp
        refine (or_any f (f &&& g) _).mono ?_
        rintro e u' ⟨rfl, hb⟩
        exact hcont _ (hS.step hb) hb
      refine all_succ ?_ ?_
      rotate_left
      · intro hf oo ho act uu hS hB hd hold KK hcont
        obtain rfl := Option.some.inj ho
        exact wp_of_exec (exec_load rfl (hold 8 (notDst (by kernel_rfl))) (hS.at_ 4 _ _ rfl)) (hcont uu hS (Below.refl _ _))
      refine all_succ ?_ ?_
      rotate_left
      · intro hf oo ho act uu hS hB hd hold KK hcont
        obtain rfl := Option.some.inj ho
        exact wp_of_exec (exec_load rfl (hold 3 (notDst (by kernel_rfl))) (hS.at_ 0 _ _ rfl)) (hcont uu hS (Below.refl _ _))
      refine all_succ ?_ ?_
      rotate_left
      · intro hf oo ho act uu hS hB hd hold KK hcont
        obtain rfl := Option.some.inj ho
        exact wp_of_exec (exec_move rfl (hd 53 77 (by kernel_rfl) rfl rfl)) (hcont uu hS (Below.refl _ _))
      refine all_succ ?_ ?_
      rotate_left
      · intro hf oo ho act uu hS hB hd hold KK hcont
        obtain rfl := Option.some.inj ho
        exact wp_of_exec (exec_pick rfl (hd 47 71 (by kernel_rfl) rfl rfl) (hd 52 76 (by kernel_rfl) rfl rfl)) (hcont uu hS (Below.refl _ _))
      refine all_succ ?_ ?_
      rotate_left
      · intro hf oo ho act uu hS hB hd hold KK hcont
        obtain rfl := Option.some.inj ho
        exact wp_of_exec (exec_eqT rfl (hd 50 74 (by kernel_rfl) rfl rfl) (hd 51 75 (by kernel_rfl) rfl rfl) (by apply BitVec.eq_of_getLsbD_eq; intro i hi; (repeat (first | simp only [BitVec.getLsbD_and] | simp only [BitVec.getLsbD_or] | simp only [BitVec.getLsbD_xor] | simp only [BitVec.getLsbD_not, hi, decide_true, Bool.true_and])); cases f.getLsbD i <;> cases g.getLsbD i <;> cases h.getLsbD i <;> rfl)) (hcont uu hS (Below.refl _ _))
      refine all_succ ?_ ?_
      rotate_left
      · intro hf oo ho act uu hS hB hd hold KK hcont
        obtain rfl := Option.some.inj ho
        exact wp_of_exec (exec_load rfl (hold 3 (notDst (by kernel_rfl))) (hS.at_ 0 _ _ rfl)) (hcont uu hS (Below.refl _ _))
      refine all_succ ?_ ?_
      rotate_left
      · intro hf oo ho act uu hS hB hd hold KK hcont
        obtain rfl := Option.some.inj ho
        have h72 : act.tmps.getD 72 undef = Tb.tv f := (hd 48 72 (by kernel_rfl) rfl rfl)
        have h73 : act.tmps.getD 73 undef = Tb.tv (f ||| g) := (hd 49 73 (by kernel_rfl) rfl rfl)
        go_simp
        refine (and_any f (f ||| g) _).mono ?_
        rintro e u' ⟨rfl, hb⟩
        exact hcont _ (hS.step hb) hb
      refine all_succ ?_ ?_
      rotate_left
      · intro hf oo ho act uu hS hB hd hold KK hcont
        obtain rfl := Option.some.inj ho
        exact wp_of_exec (exec_load rfl (hold 9 (notDst (by kernel_rfl))) (hS.at_ 5 _ _ rfl)) (hcont uu hS (Below.refl _ _))
      refine all_succ ?_ ?_
      rotate_left
      · intro hf oo ho act uu hS hB hd hold KK hcont
        obtain rfl := Option.some.inj ho
        exact wp_of_exec (exec_load rfl (hold 3 (notDst (by kernel_rfl))) (hS.at_ 0 _ _ rfl)) (hcont uu hS (Below.refl _ _))
      refine all_succ ?_ ?_
      rotate_left
      · intro hf oo ho act uu hS hB hd hold KK hcont
        obtain rfl := Option.some.inj ho
        exact wp_of_exec (exec_move rfl (hd 46 70 (by kernel_rfl) rfl rfl)) (hcont uu hS (Below.refl _ _))
      refine all_succ ?_ ?_
      rotate_left
      · intro hf oo ho act uu hS hB hd hold KK hcont
        obtain rfl := Option.some.inj ho
        exact wp_of_exec (exec_pick rfl (hd 36 60 (by kernel_rfl) rfl rfl) (hd 45 69 (by kernel_rfl) rfl rfl)) (hcont uu hS (Below.refl _ _))
      refine all_succ ?_ ?_
      rotate_left
      · intro hf oo ho act uu hS hB hd hold KK hcont
        obtain rfl := Option.some.inj ho
        exact wp_of_exec (exec_eqT rfl (hd 39 63 (by kernel_rfl) rfl rfl) (hd 44 68 (by kernel_rfl) rfl rfl) (by apply BitVec.eq_of_getLsbD_eq; intro i hi; (repeat (first | simp only [BitVec.getLsbD_and] | simp only [BitVec.getLsbD_or] | simp only [BitVec.getLsbD_xor] | simp only [BitVec.getLsbD_not, hi, decide_true, Bool.true_and])); cases f.getLsbD i <;> cases g.getLsbD i <;> cases h.getLsbD i <;> rfl)) (hcont uu hS (Below.refl _ _))
      refine all_succ ?_ ?_
      rotate_left
      · intro hf oo ho act uu hS hB hd hold KK hcont
        obtain rfl := Option.some.inj ho
        have h64 : act.tmps.getD 64 undef = Tb.tv f := (hd 40 64 (by kernel_rfl) rfl rfl)
        have h67 : act.tmps.getD 67 undef = Tb.tv (g ||| h) := (hd 43 67 (by kernel_rfl) rfl rfl)
        go_simp
        refine (or_any f (g ||| h) _).mono ?_
        rintro e u' ⟨rfl, hb⟩
        exact hcont _ (hS.step hb) hb
      refine all_succ ?_ ?_
      rotate_left
      · intro hf oo ho act uu hS hB hd hold KK hcont
        obtain rfl := Option.some.inj ho
        have h65 : act.tmps.getD 65 undef = Tb.tv g := (hd 41 65 (by kernel_rfl) rfl rfl)
        have h66 : act.tmps.getD 66 undef = Tb.tv h := (hd 42 66 (by kernel_rfl) rfl rfl)
        go_simp
        refine (or_any g h _).mono ?_
        rintro e u' ⟨rfl, hb⟩
        exact hcont _ (hS.step hb) hb
      refine all_succ ?_ ?_
      rotate_left
      · intro hf oo ho act uu hS hB hd hold KK hcont
        obtain rfl := Option.some.inj ho
        exact wp_of_exec (exec_load rfl (hold 5 (notDst (by kernel_rfl))) (hS.at_ 2 _ _ rfl)) (hcont uu hS (Below.refl _ _))
      refine all_succ ?_ ?_
      rotate_left
      · intro hf oo ho act uu hS hB hd hold KK hcont
        obtain rfl := Option.some.inj ho
        exact wp_of_exec (exec_load rfl (hold 4 (notDst (by kernel_rfl))) (hS.at_ 1 _ _ rfl)) (hcont uu hS (Below.refl _ _))
      refine all_succ ?_ ?_
      rotate_left
      · intro hf oo ho act uu hS hB hd hold KK hcont
        obtain rfl := Option.some.inj ho
        exact wp_of_exec (exec_load rfl (hold 3 (notDst (by kernel_rfl))) (hS.at_ 0 _ _ rfl)) (hcont uu hS (Below.refl _ _))
      refine all_succ ?_ ?_
      rotate_left
      · intro hf oo ho act uu hS hB hd hold KK hcont
        obtain rfl := Option.some.inj ho
        have h61 : act.tmps.getD 61 undef = Tb.tv (f ||| g) := (hd 37 61 (by kernel_rfl) rfl rfl)
        have h62 : act.tmps.getD 62 undef = Tb.tv h := (hd 38 62 (by kernel_rfl) rfl rfl)
        go_simp
        refine (or_any (f ||| g) h _).mono ?_
        rintro e u' ⟨rfl, hb⟩
        exact hcont _ (hS.step hb) hb
      refine all_succ ?_ ?_
      rotate_left
      · intro hf oo ho act uu hS hB hd hold KK hcont
        obtain rfl := Option.some.inj ho
        exact wp_of_exec (exec_load rfl (hold 5 (notDst (by kernel_rfl))) (hS.at_ 2 _ _ rfl)) (hcont uu hS (Below.refl _ _))
      refine all_succ ?_ ?_
      rotate_left
      · intro hf oo ho act uu hS hB hd hold KK hcont
        obtain rfl := Option.some.inj ho
        exact wp_of_exec (exec_load rfl (hold 9 (notDst (by kernel_rfl))) (hS.at_ 5 _ _ rfl)) (hcont uu hS (Below.refl _ _))
      refine all_succ ?_ ?_
      rotate_left
      · intro hf oo ho act uu hS hB hd hold KK hcont
        obtain rfl := Option.some.inj ho
        exact wp_of_exec (exec_move rfl (hd 35 59 (by kernel_rfl) rfl rfl)) (hcont uu hS (Below.refl _ _))
      refine all_succ ?_ ?_
      rotate_left
      · intro hf oo ho act uu hS hB hd hold KK hcont
        obtain rfl := Option.some.inj ho
        exact wp_of_exec (exec_pick rfl (hd 25 49 (by kernel_rfl) rfl rfl) (hd 34 58 (by kernel_rfl) rfl rfl)) (hcont uu hS (Below.refl _ _))
      refine all_succ ?_ ?_
      rotate_left
      · intro hf oo ho act uu hS hB hd hold KK hcont
        obtain rfl := Option.some.inj ho
        exact wp_of_exec (exec_eqT rfl (hd 28 52 (by kernel_rfl) rfl rfl) (hd 33 57 (by kernel_rfl) rfl rfl) (by apply BitVec.eq_of_getLsbD_eq; intro i hi; (repeat (first | simp only [BitVec.getLsbD_and] | simp only [BitVec.getLsbD_or] | simp only [BitVec.getLsbD_xor] | simp only [BitVec.getLsbD_not, hi, decide_true, Bool.true_and])); cases f.getLsbD i <;> cases g.getLsbD i <;> cases h.getLsbD i <;> rfl)) (hcont uu hS (Below.refl _ _))
      refine all_succ ?_ ?_
      rotate_left
      · intro hf oo ho act uu hS hB hd hold KK hcont
        obtain rfl := Option.some.inj ho
        have h53 : act.tmps.getD 53 undef = Tb.tv f := (hd 29 53 (by kernel_rfl) rfl rfl)
        have h56 : act.tmps.getD 56 undef = Tb.tv (g &&& h) := (hd 32 56 (by kernel_rfl) rfl rfl)
        go_simp
        refine (and_any f (g &&& h) _).mono ?_
        rintro e u' ⟨rfl, hb⟩
        exact hcont _ (hS.step hb) hb
      refine all_succ ?_ ?_
      rotate_left
      · intro hf oo ho act uu hS hB hd hold KK hcont
        obtain rfl := Option.some.inj ho
        have h54 : act.tmps.getD 54 undef = Tb.tv g := (hd 30 54 (by kernel_rfl) rfl rfl)
        have h55 : act.tmps.getD 55 undef = Tb.tv h := (hd 31 55 (by kernel_rfl) rfl rfl)
        go_simp
        refine (and_any g h _).mono ?_
        rintro e u' ⟨rfl, hb⟩
        exact hcont _ (hS.step hb) hb
      refine all_succ ?_ ?_
      rotate_left
      · intro hf oo ho act uu hS hB hd hold KK hcont
        obtain rfl := Option.some.inj ho
        exact wp_of_exec (exec_load rfl (hold 5 (notDst (by kernel_rfl))) (hS.at_ 2 _ _ rfl)) (hcont uu hS (Below.refl _ _))
      refine all_succ ?_ ?_
      rotate_left
      · intro hf oo ho act uu hS hB hd hold KK hcont
        obtain rfl := Option.some.inj ho
        exact wp_of_exec (exec_load rfl (hold 4 (notDst (by kernel_rfl))) (hS.at_ 1 _ _ rfl)) (hcont uu hS (Below.refl _ _))
      refine all_succ ?_ ?_
      rotate_left
      · intro hf oo ho act uu hS hB hd hold KK hcont
        obtain rfl := Option.some.inj ho
        exact wp_of_exec (exec_load rfl (hold 3 (notDst (by kernel_rfl))) (hS.at_ 0 _ _ rfl)) (hcont uu hS (Below.refl _ _))
      refine all_succ ?_ ?_
      rotate_left
      · intro hf oo ho act uu hS hB hd hold KK hcont
        obtain rfl := Option.some.inj ho
        have h50 : act.tmps.getD 50 undef = Tb.tv (f &&& g) := (hd 26 50 (by kernel_rfl) rfl rfl)
        have h51 : act.tmps.getD 51 undef = Tb.tv h := (hd 27 51 (by kernel_rfl) rfl rfl)
        go_simp
        refine (and_any (f &&& g) h _).mono ?_
        rintro e u' ⟨rfl, hb⟩
        exact hcont _ (hS.step hb) hb
      refine all_succ ?_ ?_
      rotate_left
      · intro hf oo ho act uu hS hB hd hold KK hcont
        obtain rfl := Option.some.inj ho
        exact wp_of_exec (exec_load rfl (hold 5 (notDst (by kernel_rfl))) (hS.at_ 2 _ _ rfl)) (hcont uu hS (Below.refl _ _))
      refine all_succ ?_ ?_
      rotate_left
      · intro hf oo ho act uu hS hB hd hold KK hcont
        obtain rfl := Option.some.inj ho
        exact wp_of_exec (exec_load rfl (hold 8 (notDst (by kernel_rfl))) (hS.at_ 4 _ _ rfl)) (hcont uu hS (Below.refl _ _))
      refine all_succ ?_ ?_
      rotate_left
      · intro hf oo ho act uu hS hB hd hold KK hcont
        obtain rfl := Option.some.inj ho
        exact wp_of_exec (exec_move rfl (hd 24 48 (by kernel_rfl) rfl rfl)) (hcont uu hS (Below.refl _ _))
      refine all_succ ?_ ?_
      rotate_left
      · intro hf oo ho act uu hS hB hd hold KK hcont
        obtain rfl := Option.some.inj ho
        exact wp_of_exec (exec_pick rfl (hd 18 42 (by kernel_rfl) rfl rfl) (hd 23 47 (by kernel_rfl) rfl rfl)) (hcont uu hS (Below.refl _ _))
      refine all_succ ?_ ?_
      rotate_left
      · intro hf oo ho act uu hS hB hd hold KK hcont
        obtain rfl := Option.some.inj ho
        exact wp_of_exec (exec_eqT rfl (hd 19 43 (by kernel_rfl) rfl rfl) (hd 22 46 (by kernel_rfl) rfl rfl) (by apply BitVec.eq_of_getLsbD_eq; intro i hi; (repeat (first | simp only [BitVec.getLsbD_and] | simp only [BitVec.getLsbD_or] | simp only [BitVec.getLsbD_xor] | simp only [BitVec.getLsbD_not, hi, decide_true, Bool.true_and])); cases f.getLsbD i <;> cases g.getLsbD i <;> cases h.getLsbD i <;> rfl)) (hcont uu hS (Below.refl _ _))
      refine all_succ ?_ ?_
      rotate_left
      · intro hf oo ho act uu hS hB hd hold KK hcont
        obtain rfl := Option.some.inj ho
        have h44 : act.tmps.getD 44 undef = Tb.tv g := (hd 20 44 (by kernel_rfl) rfl rfl)
        have h45 : act.tmps.getD 45 undef = Tb.tv f := (hd 21 45 (by kernel_rfl) rfl rfl)
        go_simp
        refine (xor_any g f _).mono ?_
        rintro e u' ⟨rfl, hb⟩
        exact hcont _ (hS.step hb) hb
      refine all_succ ?_ ?_
      rotate_left
      · intro hf oo ho act uu hS hB hd hold KK hcont
        obtain rfl := Option.some.inj ho
        exact wp_of_exec (exec_load rfl (hold 3 (notDst (by kernel_rfl))) (hS.at_ 0 _ _ rfl)) (hcont uu hS (Below.refl _ _))
      refine all_succ ?_ ?_
      rotate_left
      · intro hf oo ho act uu hS hB hd hold KK hcont
        obtain rfl := Option.some.inj ho
        exact wp_of_exec (exec_load rfl (hold 4 (notDst (by kernel_rfl))) (hS.at_ 1 _ _ rfl)) (hcont uu hS (Below.refl _ _))
      refine all_succ ?_ ?_
      rotate_left
      · intro hf oo ho act uu hS hB hd hold KK hcont
        obtain rfl := Option.some.inj ho
        exact wp_of_exec (exec_load rfl (hold 10 (notDst (by kernel_rfl))) (hS.at_ 6 _ _ rfl)) (hcont uu hS (Below.refl _ _))
      refine all_succ ?_ ?_
      rotate_left
      · intro hf oo ho act uu hS hB hd hold KK hcont
        obtain rfl := Option.some.inj ho
        exact wp_of_exec (exec_move rfl (hd 17 41 (by kernel_rfl) rfl rfl)) (hcont uu hS (Below.refl _ _))
      refine all_succ ?_ ?_
      rotate_left
      · intro hf oo ho act uu hS hB hd hold KK hcont
        obtain rfl := Option.some.inj ho
        exact wp_of_exec (exec_pick rfl (hd 11 35 (by kernel_rfl) rfl rfl) (hd 16 40 (by kernel_rfl) rfl rfl)) (hcont uu hS (Below.refl _ _))
      refine all_succ ?_ ?_
      rotate_left
      · intro hf oo ho act uu hS hB hd hold KK hcont
        obtain rfl := Option.some.inj ho
        exact wp_of_exec (exec_eqT rfl (hd 12 36 (by kernel_rfl) rfl rfl) (hd 15 39 (by kernel_rfl) rfl rfl) (by apply BitVec.eq_of_getLsbD_eq; intro i hi; (repeat (first | simp only [BitVec.getLsbD_and] | simp only [BitVec.getLsbD_or] | simp only [BitVec.getLsbD_xor] | simp only [BitVec.getLsbD_not, hi, decide_true, Bool.true_and])); cases f.getLsbD i <;> cases g.getLsbD i <;> cases h.getLsbD i <;> rfl)) (hcont uu hS (Below.refl _ _))
      refine all_succ ?_ ?_
      rotate_left
      · intro hf oo ho act uu hS hB hd hold KK hcont
        obtain rfl := Option.some.inj ho
        have h37 : act.tmps.getD 37 undef = Tb.tv g := (hd 13 37 (by kernel_rfl) rfl rfl)
        have h38 : act.tmps.getD 38 undef = Tb.tv f := (hd 14 38 (by kernel_rfl) rfl rfl)
        go_simp
        refine (or_any g f _).mono ?_
        rintro e u' ⟨rfl, hb⟩
        exact hcont _ (hS.step hb) hb
      refine all_succ ?_ ?_
      rotate_left
      · intro hf oo ho act uu hS hB hd hold KK hcont
        obtain rfl := Option.some.inj ho
        exact wp_of_exec (exec_load rfl (hold 3 (notDst (by kernel_rfl))) (hS.at_ 0 _ _ rfl)) (hcont uu hS (Below.refl _ _))
      refine all_succ ?_ ?_
      rotate_left
      · intro hf oo ho act uu hS hB hd hold KK hcont
        obtain rfl := Option.some.inj ho
        exact wp_of_exec (exec_load rfl (hold 4 (notDst (by kernel_rfl))) (hS.at_ 1 _ _ rfl)) (hcont uu hS (Below.refl _ _))
      refine all_succ ?_ ?_
      rotate_left
      · intro hf oo ho act uu hS hB hd hold KK hcont
        obtain rfl := Option.some.inj ho
        exact wp_of_exec (exec_load rfl (hold 9 (notDst (by kernel_rfl))) (hS.at_ 5 _ _ rfl)) (hcont uu hS (Below.refl _ _))
      refine all_succ ?_ ?_
      rotate_left
      · intro hf oo ho act uu hS hB hd hold KK hcont
        obtain rfl := Option.some.inj ho
        exact wp_of_exec (exec_move rfl (hd 10 34 (by kernel_rfl) rfl rfl)) (hcont uu hS (Below.refl _ _))
      refine all_succ ?_ ?_
      rotate_left
      · intro hf oo ho act uu hS hB hd hold KK hcont
        obtain rfl := Option.some.inj ho
        exact wp_of_exec (exec_pick rfl (hd 4 28 (by kernel_rfl) rfl rfl) (hd 9 33 (by kernel_rfl) rfl rfl)) (hcont uu hS (Below.refl _ _))
      refine all_succ ?_ ?_
      rotate_left
      · intro hf oo ho act uu hS hB hd hold KK hcont
        obtain rfl := Option.some.inj ho
        exact wp_of_exec (exec_eqT rfl (hd 5 29 (by kernel_rfl) rfl rfl) (hd 8 32 (by kernel_rfl) rfl rfl) (by apply BitVec.eq_of_getLsbD_eq; intro i hi; (repeat (first | simp only [BitVec.getLsbD_and] | simp only [BitVec.getLsbD_or] | simp only [BitVec.getLsbD_xor] | simp only [BitVec.getLsbD_not, hi, decide_true, Bool.true_and])); cases f.getLsbD i <;> cases g.getLsbD i <;> cases h.getLsbD i <;> rfl)) (hcont uu hS (Below.refl _ _))
      refine all_succ ?_ ?_
      rotate_left
      · intro hf oo ho act uu hS hB hd hold KK hcont
        obtain rfl := Option.some.inj ho
        have h30 : act.tmps.getD 30 undef = Tb.tv g := (hd 6 30 (by kernel_rfl) rfl rfl)
        have h31 : act.tmps.getD 31 undef = Tb.tv f := (hd 7 31 (by kernel_rfl) rfl rfl)
        go_simp
        refine (and_any g f _).mono ?_
        rintro e u' ⟨rfl, hb⟩
        exact hcont _ (hS.step hb) hb
      refine all_succ ?_ ?_
      rotate_left
      · intro hf oo ho act uu hS hB hd hold KK hcont
        obtain rfl := Option.some.inj ho
        exact wp_of_exec (exec_load rfl (hold 3 (notDst (by kernel_rfl))) (hS.at_ 0 _ _ rfl)) (hcont uu hS (Below.refl _ _))
      refine all_succ ?_ ?_
      rotate_left
      · intro hf oo ho act uu hS hB hd hold KK hcont
        obtain rfl := Option.some.inj ho
        exact wp_of_exec (exec_load rfl (hold 4 (notDst (by kernel_rfl))) (hS.at_ 1 _ _ rfl)) (hcont uu hS (Below.refl _ _))
      refine all_succ ?_ ?_
      rotate_left
      · intro hf oo ho act uu hS hB hd hold KK hcont
        obtain rfl := Option.some.inj ho
        exact wp_of_exec (exec_load rfl (hold 8 (notDst (by kernel_rfl))) (hS.at_ 4 _ _ rfl)) (hcont uu hS (Below.refl _ _))
      refine all_succ ?_ ?_
      rotate_left
      · intro hf oo ho act uu hS hB hd hold KK hcont
        obtain rfl := Option.some.inj ho
        exact wp_of_exec (exec_move rfl (hd 3 27 (by kernel_rfl) rfl rfl)) (hcont uu hS (Below.refl _ _))
      refine all_succ ?_ ?_
      rotate_left
      · intro hf oo ho act uu hS hB hd hold KK hcont
        obtain rfl := Option.some.inj ho
        exact wp_of_exec (exec_eqT rfl (hd 1 25 (by kernel_rfl) rfl rfl) (hd 2 26 (by kernel_rfl) rfl rfl) (by apply BitVec.eq_of_getLsbD_eq; intro i hi; (repeat (first | simp only [BitVec.getLsbD_and] | simp only [BitVec.getLsbD_or] | simp only [BitVec.getLsbD_xor] | simp only [BitVec.getLsbD_not, hi, decide_true, Bool.true_and])); cases f.getLsbD i <;> cases g.getLsbD i <;> cases h.getLsbD i <;> rfl)) (hcont uu hS (Below.refl _ _))
      refine all_succ ?_ ?_
      rotate_left
      · intro hf oo ho act uu hS hB hd hold KK hcont
        obtain rfl := Option.some.inj ho
        exact wp_of_exec (exec_load rfl (hold 3 (notDst (by kernel_rfl))) (hS.at_ 0 _ _ rfl)) (hcont uu hS (Below.refl _ _))
      refine all_succ ?_ ?_
      rotate_left
      · intro hf oo ho act uu hS hB hd hold KK hcont
        obtain rfl := Option.some.inj ho
        have h24 : act.tmps.getD 24 undef = Tb.tv (~~~f) := (hd 0 24 (by kernel_rfl) rfl rfl)
        go_simp
        refine (not_any (~~~f) _).mono ?_
        rintro e u' ⟨rfl, hb⟩
        exact hcont _ (hS.step hb) hb
      refine all_succ ?_ ?_
      rotate_left
      · intro hf oo ho act uu hS hB hd hold KK hcont
        obtain rfl := Option.some.inj ho
        exact wp_of_exec (exec_load rfl (hold 7 (notDst (by kernel_rfl))) (hS.at_ 3 _ _ rfl)) (hcont uu hS (Below.refl _ _))
      exact all_zero
    · intro i hi ty z hf; cases hf
    · intro ρ u hF
      have e0 : ρ 0 = Tb.tv (~~~f) := hF.val 0 (by omega) (by kernel_rfl) rfl
      have e1 : ρ 1 = Tb.tv (~~~(~~~f)) := hF.val 1 (by omega) (by kernel_rfl) rfl
      have e2 : ρ 2 = Tb.tv f := hF.val 2 (by omega) (by kernel_rfl) rfl
      have e3 : ρ 3 = .bool true := hF.val 3 (by omega) (by kernel_rfl) rfl
      have e4 : ρ 4 = .bool true := hF.val 4 (by omega) (by kernel_rfl) rfl
      have e5 : ρ 5 = Tb.tv (f &&& g) := hF.val 5 (by omega) (by kernel_rfl) rfl
      have e6 : ρ 6 = Tb.tv g := hF.val 6 (by omega) (by kernel_rfl) rfl
      have e7 : ρ 7 = Tb.tv f := hF.val 7 (by omega) (by kernel_rfl) rfl
      have e8 : ρ 8 = Tb.tv (g &&& f) := hF.val 8 (by omega) (by kernel_rfl) rfl
      have e9 : ρ 9 = .bool true := hF.val 9 (by omega) (by kernel_rfl) rfl
      have e10 : ρ 10 = .bool true := hF.val 10 (by omega) (by kernel_rfl) rfl
      have e11 : ρ 11 = .bool true := hF.val 11 (by omega) (by kernel_rfl) rfl
      have e12 : ρ 12 = Tb.tv (f ||| g) := hF.val 12 (by omega) (by kernel_rfl) rfl
      have e13 : ρ 13 = Tb.tv g := hF.val 13 (by omega) (by kernel_rfl) rfl
      have e14 : ρ 14 = Tb.tv f := hF.val 14 (by omega) (by kernel_rfl) rfl
      have e15 : ρ 15 = Tb.tv (g ||| f) := hF.val 15 (by omega) (by kernel_rfl) rfl
      have e16 : ρ 16 = .bool true := hF.val 16 (by omega) (by kernel_rfl) rfl
      have e17 : ρ 17 = .bool true := hF.val 17 (by omega) (by kernel_rfl) rfl
      have e18 : ρ 18 = .bool true := hF.val 18 (by omega) (by kernel_rfl) rfl
      have e19 : ρ 19 = Tb.tv (f ^^^ g) := hF.val 19 (by omega) (by kernel_rfl) rfl
      have e20 : ρ 20 = Tb.tv g := hF.val 20 (by omega) (by kernel_rfl) rfl
      have e21 : ρ 21 = Tb.tv f := hF.val 21 (by omega) (by kernel_rfl) rfl
      have e22 : ρ 22 = Tb.tv (g ^^^ f) := hF.val 22 (by omega) (by kernel_rfl) rfl
      have e23 : ρ 23 = .bool true := hF.val 23 (by omega) (by kernel_rfl) rfl
      have e24 : ρ 24 = .bool true := hF.val 24 (by omega) (by kernel_rfl) rfl
      have e25 : ρ 25 = .bool true := hF.val 25 (by omega) (by kernel_rfl) rfl
      have e26 : ρ 26 = Tb.tv (f &&& g) := hF.val 26 (by omega) (by kernel_rfl) rfl
      have e27 : ρ 27 = Tb.tv h := hF.val 27 (by omega) (by kernel_rfl) rfl
      have e28 : ρ 28 = Tb.tv ((f &&& g) &&& h) := hF.val 28 (by omega) (by kernel_rfl) rfl
      have e29 : ρ 29 = Tb.tv f := hF.val 29 (by omega) (by kernel_rfl) rfl
      have e30 : ρ 30 = Tb.tv g := hF.val 30 (by omega) (by kernel_rfl) rfl
      have e31 : ρ 31 = Tb.tv h := hF.val 31 (by omega) (by kernel_rfl) rfl
      have e32 : ρ 32 = Tb.tv (g &&& h) := hF.val 32 (by omega) (by kernel_rfl) rfl
      have e33 : ρ 33 = Tb.tv (f &&& (g &&& h)) := hF.val 33 (by omega) (by kernel_rfl) rfl
      have e34 : ρ 34 = .bool true := hF.val 34 (by omega) (by kernel_rfl) rfl
      have e35 : ρ 35 = .bool true := hF.val 35 (by omega) (by kernel_rfl) rfl
      have e36 : ρ 36 = .bool true := hF.val 36 (by omega) (by kernel_rfl) rfl
      have e37 : ρ 37 = Tb.tv (f ||| g) := hF.val 37 (by omega) (by kernel_rfl) rfl
      have e38 : ρ 38 = Tb.tv h := hF.val 38 (by omega) (by kernel_rfl) rfl
      have e39 : ρ 39 = Tb.tv ((f ||| g) ||| h) := hF.val 39 (by omega) (by kernel_rfl) rfl
      have e40 : ρ 40 = Tb.tv f := hF.val 40 (by omega) (by kernel_rfl) rfl
      have e41 : ρ 41 = Tb.tv g := hF.val 41 (by omega) (by kernel_rfl) rfl
      have e42 : ρ 42 = Tb.tv h := hF.val 42 (by omega) (by kernel_rfl) rfl
      have e43 : ρ 43 = Tb.tv (g ||| h) := hF.val 43 (by omega) (by kernel_rfl) rfl
      have e44 : ρ 44 = Tb.tv (f ||| (g ||| h)) := hF.val 44 (by omega) (by kernel_rfl) rfl
      have e45 : ρ 45 = .bool true := hF.val 45 (by omega) (by kernel_rfl) rfl
      have e46 : ρ 46 = .bool true := hF.val 46 (by omega) (by kernel_rfl) rfl
      have e47 : ρ 47 = .bool true := hF.val 47 (by omega) (by kernel_rfl) rfl
      have e48 : ρ 48 = Tb.tv f := hF.val 48 (by omega) (by kernel_rfl) rfl
      have e49 : ρ 49 = Tb.tv (f ||| g) := hF.val 49 (by omega) (by kernel_rfl) rfl
      have e50 : ρ 50 = Tb.tv (f &&& (f ||| g)) := hF.val 50 (by omega) (by kernel_rfl) rfl
      have e51 : ρ 51 = Tb.tv f := hF.val 51 (by omega) (by kernel_rfl) rfl
      have e52 : ρ 52 = .bool true := hF.val 52 (by omega) (by kernel_rfl) rfl
      have e53 : ρ 53 = .bool true := hF.val 53 (by omega) (by kernel_rfl) rfl
      have e54 : ρ 54 = .bool true := hF.val 54 (by omega) (by kernel_rfl) rfl
      have e55 : ρ 55 = Tb.tv f := hF.val 55 (by omega) (by kernel_rfl) rfl
      have e56 : ρ 56 = Tb.tv (f &&& g) := hF.val 56 (by omega) (by kernel_rfl) rfl
      have e57 : ρ 57 = Tb.tv (f ||| (f &&& g)) := hF.val 57 (by omega) (by kernel_rfl) rfl
      have e58 : ρ 58 = Tb.tv f := hF.val 58 (by omega) (by kernel_rfl) rfl
      have e59 : ρ 59 = .bool true := hF.val 59 (by omega) (by kernel_rfl) rfl
      have e60 : ρ 60 = .bool true := hF.val 60 (by omega) (by kernel_rfl) rfl
      have e61 : ρ 61 = .bool true := hF.val 61 (by omega) (by kernel_rfl) rfl
      have e62 : ρ 62 = Tb.tv (f &&& g) := hF.val 62 (by omega) (by kernel_rfl) rfl
      have e63 : ρ 63 = Tb.tv (~~~(f &&& g)) := hF.val 63 (by omega) (by kernel_rfl) rfl
      have e64 : ρ 64 = Tb.tv (~~~f) := hF.val 64 (by omega) (by kernel_rfl) rfl
      have e65 : ρ 65 = Tb.tv g := hF.val 65 (by omega) (by kernel_rfl) rfl
      have e66 : ρ 66 = Tb.tv (~~~g) := hF.val 66 (by omega) (by kernel_rfl) rfl
      have e67 : ρ 67 = Tb.tv ((~~~f) ||| (~~~g)) := hF.val 67 (by omega) (by kernel_rfl) rfl
      have e68 : ρ 68 = .bool true := hF.val 68 (by omega) (by kernel_rfl) rfl
      have e69 : ρ 69 = .bool true := hF.val 69 (by omega) (by kernel_rfl) rfl
      have e70 : ρ 70 = .bool true := hF.val 70 (by omega) (by kernel_rfl) rfl
      have e71 : ρ 71 = Tb.tv f := hF.val 71 (by omega) (by kernel_rfl) rfl
      have e72 : ρ 72 = Tb.tv g := hF.val 72 (by omega) (by kernel_rfl) rfl
      have e73 : ρ 73 = Tb.tv h := hF.val 73 (by omega) (by kernel_rfl) rfl
      have e74 : ρ 74 = Tb.tv (g ||| h) := hF.val 74 (by omega) (by kernel_rfl) rfl
      have e75 : ρ 75 = Tb.tv (f &&& (g ||| h)) := hF.val 75 (by omega) (by kernel_rfl) rfl
      have e76 : ρ 76 = Tb.tv (f &&& g) := hF.val 76 (by omega) (by kernel_rfl) rfl
      have e77 : ρ 77 = Tb.tv f := hF.val 77 (by omega) (by kernel_rfl) rfl
      have e78 : ρ 78 = Tb.tv h := hF.val 78 (by omega) (by kernel_rfl) rfl
      have e79 : ρ 79 = Tb.tv (f &&& h) := hF.val 79 (by omega) (by kernel_rfl) rfl
      have e80 : ρ 80 = Tb.tv ((f &&& g) ||| (f &&& h)) := hF.val 80 (by omega) (by kernel_rfl) rfl
      have e81 : ρ 81 = .bool true := hF.val 81 (by omega) (by kernel_rfl) rfl
      have e82 : ρ 82 = .bool true := hF.val 82 (by omega) (by kernel_rfl) rfl
      have e83 : ρ 83 = .bool true := hF.val 83 (by omega) (by kernel_rfl) rfl
      have e84 : ρ 84 = Tb.tv f := hF.val 84 (by omega) (by kernel_rfl) rfl
      have e85 : ρ 85 = Tb.tv g := hF.val 85 (by omega) (by kernel_rfl) rfl
      have e86 : ρ 86 = Tb.tv h := hF.val 86 (by omega) (by kernel_rfl) rfl
      have e87 : ρ 87 = Tb.tv (g ^^^ h) := hF.val 87 (by omega) (by kernel_rfl) rfl
      have e88 : ρ 88 = Tb.tv (f &&& (g ^^^ h)) := hF.val 88 (by omega) (by kernel_rfl) rfl
      have e89 : ρ 89 = Tb.tv (f &&& g) := hF.val 89 (by omega) (by kernel_rfl) rfl
      have e90 : ρ 90 = Tb.tv f := hF.val 90 (by omega) (by kernel_rfl) rfl
      have e91 : ρ 91 = Tb.tv h := hF.val 91 (by omega) (by kernel_rfl) rfl
      have e92 : ρ 92 = Tb.tv (f &&& h) := hF.val 92 (by omega) (by kernel_rfl) rfl
      have e93 : ρ 93 = Tb.tv ((f &&& g) ^^^ (f &&& h)) := hF.val 93 (by omega) (by kernel_rfl) rfl
      have e94 : ρ 94 = .bool true := hF.val 94 (by omega) (by kernel_rfl) rfl
      have e95 : ρ 95 = .bool true := hF.val 95 (by omega) (by kernel_rfl) rfl
      have e96 : ρ 96 = .bool true := hF.val 96 (by omega) (by kernel_rfl) rfl
      have e97 : ρ 97 = Tb.tv (f ^^^ g) := hF.val 97 (by omega) (by kernel_rfl) rfl
      have e98 : ρ 98 = Tb.tv g := hF.val 98 (by omega) (by kernel_rfl) rfl
      have e99 : ρ 99 = Tb.tv ((f ^^^ g) ^^^ g) := hF.val 99 (by omega) (by kernel_rfl) rfl
      have e100 : ρ 100 = Tb.tv f := hF.val 100 (by omega) (by kernel_rfl) rfl
      have e101 : ρ 101 = .bool true := hF.val 101 (by omega) (by kernel_rfl) rfl
      have e102 : ρ 102 = .bool true := hF.val 102 (by omega) (by kernel_rfl) rfl
      have k0 := hF.s_
      simp only [puts, dstOf, e0, e1, e2, e3, e4, e5, e6, e7, e8, e9, e10, e11, e12, e13, e14, e15, e16, e17, e18, e19, e20, e21, e22, e23, e24, e25, e26, e27, e28, e29, e30, e31, e32, e33, e34, e35, e36, e37, e38, e39, e40, e41, e42, e43, e44, e45, e46, e47, e48, e49, e50, e51, e52, e53, e54, e55, e56, e57, e58, e59, e60, e61, e62, e63, e64, e65, e66, e67, e68, e69, e70, e71, e72, e73, e74, e75, e76, e77, e78, e79, e80, e81, e82, e83, e84, e85, e86, e87, e88, e89, e90, e91, e92, e93, e94, e95, e96, e97, e98, e99, e100, e101, e102]
      go_wp2_with fail
      go_ret
      exact ⟨rfl, k0.below⟩
end Go.Proofs.YtfkefgelceaimaaDoor
