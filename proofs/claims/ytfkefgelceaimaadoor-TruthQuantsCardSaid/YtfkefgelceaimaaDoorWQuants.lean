/-
  The walk of the law TruthQuants.
-/
import Derived.Test.YtfkefgelceaimaaDoorLaw2
namespace Go.Proofs.YtfkefgelceaimaaDoor
set_option linter.unusedVariables false
open Go.RowKit

set_option maxRecDepth 100000 in
set_option maxHeartbeats 4000000 in
theorem quants_walk (f : Tb.T) (a b v : Nat) (ha : a < 256) (hb : b < 256) (hv : v < 256) (w : World) (hT : TabAt w) (hG : 0 < w.heap.size) :
    Calls Tryd.prog 7 #[Tb.tv f, .int .u8 (a : Int), .int .u8 (b : Int), .int .u8 (v : Int)] w fun e w' => e = .returned (.bool true) ∧ Below w.heap.size w w' := by
  have hK := (Keep.nil w).new f
  have hT3 : TabAt (w.alloc (.cells (Tb.tcells f) 24)) := hT.keep hK.below hG
  have hKn := known3_any _ hT3 (by simp)
  go_enter Tryd.func7, Tryd.ntmps7
  go_wp2_with fail
  refine hKn.mono ?_
  rintro e w5 ⟨rfl, b5⟩
  replace hK : Keep w w5 _ := hK.step b5
  simp at hK
  go_wp2_with fail
  -- quants
  refine region_float [] 13 (fun i => ([Tb.tv f, .int .u8 ((a : Nat) : Int), Tb.tv (Tb.halves (fun F G => F ||| G) f a), Tb.tv f, .int .u8 ((a : Nat) : Int), Tb.tv (Tb.halves (fun F G => F &&& G) f a), Tb.tv f, .int .u8 ((a : Nat) : Int), .int .u8 ((v : Nat) : Int), Tb.tv (Tb.restrict f a v), undef, undef, undef] : List Value).getD i undef) (fun i => if 10 ≤ i ∧ i < 13 then some (24, #[.int .u64 0, .int .u64 0, .int .u64 0, .int .u64 0]) else none) (fun u => Keep w u [(w.heap.size, f)]) w5.heap.size (by kernel_rfl) (by kernel_rfl) (by simp) hK.drew (Nat.le_refl _) (fun _ o h => h.alloc o) ?_ ?_ ?_
  · iterate 1 skip
    refine all_succ ?_ ?_
    rotate_left
    · intro hf; cases hf
    refine all_succ ?_ ?_
    rotate_left
    · intro hf; cases hf
    refine all_succ ?_ ?_
    rotate_left
    · intro hf; cases hf
    refine all_succ ?_ ?_
    rotate_left
    · intro hf oo ho act uu hS hB hd hold KK hcont
      obtain rfl := Option.some.inj ho
      have h20 : act.tmps.getD 20 undef = Tb.tv f := (hd 6 20 (by kernel_rfl) rfl rfl)
      have h21 : act.tmps.getD 21 undef = .int .u8 ((a : Nat) : Int) := (hd 7 21 (by kernel_rfl) rfl rfl)
      have h22 : act.tmps.getD 22 undef = .int .u8 ((v : Nat) : Int) := (hd 8 22 (by kernel_rfl) rfl rfl)
      go_simp
      refine (restrict_any f a v _ ha hv).mono ?_
      rintro e u' ⟨rfl, hb⟩
      exact hcont _ (hS.step hb) hb
    refine all_succ ?_ ?_
    rotate_left
    · intro hf oo ho act uu hS hB hd hold KK hcont
      obtain rfl := Option.some.inj ho
      exact wp_of_exec (exec_move rfl (hold 3 (notDst (by kernel_rfl)))) (hcont uu hS (Below.refl _ _))
    refine all_succ ?_ ?_
    rotate_left
    · intro hf oo ho act uu hS hB hd hold KK hcont
      obtain rfl := Option.some.inj ho
      exact wp_of_exec (exec_move rfl (hold 1 (notDst (by kernel_rfl)))) (hcont uu hS (Below.refl _ _))
    refine all_succ ?_ ?_
    rotate_left
    · intro hf oo ho act uu hS hB hd hold KK hcont
      obtain rfl := Option.some.inj ho
      exact wp_of_exec (exec_load rfl (hold 4 (notDst (by kernel_rfl))) (hS.at_ 0 _ _ rfl)) (hcont uu hS (Below.refl _ _))
    refine all_succ ?_ ?_
    rotate_left
    · intro hf oo ho act uu hS hB hd hold KK hcont
      obtain rfl := Option.some.inj ho
      have h17 : act.tmps.getD 17 undef = Tb.tv f := (hd 3 17 (by kernel_rfl) rfl rfl)
      have h18 : act.tmps.getD 18 undef = .int .u8 ((a : Nat) : Int) := (hd 4 18 (by kernel_rfl) rfl rfl)
      go_simp
      refine (forall_any f a _ ha).mono ?_
      rintro e u' ⟨rfl, hb⟩
      exact hcont _ (hS.step hb) hb
    refine all_succ ?_ ?_
    rotate_left
    · intro hf oo ho act uu hS hB hd hold KK hcont
      obtain rfl := Option.some.inj ho
      exact wp_of_exec (exec_move rfl (hold 1 (notDst (by kernel_rfl)))) (hcont uu hS (Below.refl _ _))
    refine all_succ ?_ ?_
    rotate_left
    · intro hf oo ho act uu hS hB hd hold KK hcont
      obtain rfl := Option.some.inj ho
      exact wp_of_exec (exec_load rfl (hold 4 (notDst (by kernel_rfl))) (hS.at_ 0 _ _ rfl)) (hcont uu hS (Below.refl _ _))
    refine all_succ ?_ ?_
    rotate_left
    · intro hf oo ho act uu hS hB hd hold KK hcont
      obtain rfl := Option.some.inj ho
      have h14 : act.tmps.getD 14 undef = Tb.tv f := (hd 0 14 (by kernel_rfl) rfl rfl)
      have h15 : act.tmps.getD 15 undef = .int .u8 ((a : Nat) : Int) := (hd 1 15 (by kernel_rfl) rfl rfl)
      go_simp
      refine (exists_any f a _ ha).mono ?_
      rintro e u' ⟨rfl, hb⟩
      exact hcont _ (hS.step hb) hb
    refine all_succ ?_ ?_
    rotate_left
    · intro hf oo ho act uu hS hB hd hold KK hcont
      obtain rfl := Option.some.inj ho
      exact wp_of_exec (exec_move rfl (hold 1 (notDst (by kernel_rfl)))) (hcont uu hS (Below.refl _ _))
    refine all_succ ?_ ?_
    rotate_left
    · intro hf oo ho act uu hS hB hd hold KK hcont
      obtain rfl := Option.some.inj ho
      exact wp_of_exec (exec_load rfl (hold 4 (notDst (by kernel_rfl))) (hS.at_ 0 _ _ rfl)) (hcont uu hS (Below.refl _ _))
    exact all_zero
  · intro i hi ty z hf o ho a u K hk
    have hi2 : 10 ≤ i ∧ i < 13 := by
      split at hf
      · assumption
      · cases hf
    rw [if_pos hi2] at hf
    cases hf
    by_cases c10 : i = 10
    · subst c10
      obtain rfl := Option.some.inj ho
      go_simp
      exact hk
    by_cases c11 : i = 11
    · subst c11
      obtain rfl := Option.some.inj ho
      go_simp
      exact hk
    by_cases c12 : i = 12
    · subst c12
      obtain rfl := Option.some.inj ho
      go_simp
      exact hk
    omega
  · intro ρ u hF
    have e0 : ρ 0 = Tb.tv f := hF.val 0 (by omega) (by kernel_rfl) rfl
    have e1 : ρ 1 = .int .u8 ((a : Nat) : Int) := hF.val 1 (by omega) (by kernel_rfl) rfl
    have e2 : ρ 2 = Tb.tv (Tb.halves (fun F G => F ||| G) f a) := hF.val 2 (by omega) (by kernel_rfl) rfl
    have e3 : ρ 3 = Tb.tv f := hF.val 3 (by omega) (by kernel_rfl) rfl
    have e4 : ρ 4 = .int .u8 ((a : Nat) : Int) := hF.val 4 (by omega) (by kernel_rfl) rfl
    have e5 : ρ 5 = Tb.tv (Tb.halves (fun F G => F &&& G) f a) := hF.val 5 (by omega) (by kernel_rfl) rfl
    have e6 : ρ 6 = Tb.tv f := hF.val 6 (by omega) (by kernel_rfl) rfl
    have e7 : ρ 7 = .int .u8 ((a : Nat) : Int) := hF.val 7 (by omega) (by kernel_rfl) rfl
    have e8 : ρ 8 = .int .u8 ((v : Nat) : Int) := hF.val 8 (by omega) (by kernel_rfl) rfl
    have e9 : ρ 9 = Tb.tv (Tb.restrict f a v) := hF.val 9 (by omega) (by kernel_rfl) rfl
    obtain ⟨p10, e10, hb10, z10⟩ := hF.ptr 10 24 _ (by omega) rfl rfl
    rw [← Tb.tcells_zero] at z10
    obtain ⟨p11, e11, hb11, z11⟩ := hF.ptr 11 24 _ (by omega) rfl rfl
    rw [← Tb.tcells_zero] at z11
    obtain ⟨p12, e12, hb12, z12⟩ := hF.ptr 12 24 _ (by omega) rfl rfl
    rw [← Tb.tcells_zero] at z12
    have d10_11 : p10 ≠ p11 := fun e => hF.dis 10 11 (by omega) (by omega) (by omega) rfl rfl rfl rfl (by rw [e10, e11, e])
    have d10_12 : p10 ≠ p12 := fun e => hF.dis 10 12 (by omega) (by omega) (by omega) rfl rfl rfl rfl (by rw [e10, e12, e])
    have d11_10 : p11 ≠ p10 := fun e => hF.dis 11 10 (by omega) (by omega) (by omega) rfl rfl rfl rfl (by rw [e11, e10, e])
    have d11_12 : p11 ≠ p12 := fun e => hF.dis 11 12 (by omega) (by omega) (by omega) rfl rfl rfl rfl (by rw [e11, e12, e])
    have d12_10 : p12 ≠ p10 := fun e => hF.dis 12 10 (by omega) (by omega) (by omega) rfl rfl rfl rfl (by rw [e12, e10, e])
    have d12_11 : p12 ≠ p11 := fun e => hF.dis 12 11 (by omega) (by omega) (by omega) rfl rfl rfl rfl (by rw [e12, e11, e])
    have l0 := hK.lt (k := 0) rfl
    have k0 := hF.s_
    have k1 := k0.add' (p := p10) (F := 0#256) z10 (by simp <;> omega)
    have k2 := k1.add' (p := p11) (F := 0#256) z11 (by simp <;> omega)
    have k3 := k2.add' (p := p12) (F := 0#256) z12 (by simp <;> omega)
    have k4 := k3.store 1 ((Tb.halves (fun F G => F ||| G) f a)) (p := p10) (G := 0#256) rfl (by have := hK.below.size; omega)
    have k5 := k4.store 2 ((Tb.halves (fun F G => F &&& G) f a)) (p := p11) (G := 0#256) rfl (by have := hK.below.size; omega)
    have k6 := k5.store 3 ((Tb.restrict f a v)) (p := p12) (G := 0#256) rfl (by have := hK.below.size; omega)
    obtain ⟨⟨a100, a101, a102, a103⟩, b100, b101, b102, b103⟩ := tfacts z10
    obtain ⟨⟨a110, a111, a112, a113⟩, b110, b111, b112, b113⟩ := tfacts z11
    obtain ⟨⟨a120, a121, a122, a123⟩, b120, b121, b122, b123⟩ := tfacts z12
    simp only [puts, dstOf, e0, e1, e2, e3, e4, e5, e6, e7, e8, e9, e10, e11, e12]
    go_wp2_with fail
    replace k6 : Keep w _ [(w.heap.size, f), (p10, (Tb.halves (fun F G => F ||| G) f a)), (p11, (Tb.halves (fun F G => F &&& G) f a)), (p12, (Tb.restrict f a v))] := k6
    clear hF
    refine region_float [9, 20, 27, 34, 41, 48, 55, 62, 69] 84 (fun i => ([Tb.tv (Tb.halves (fun F G => F ||| G) f a), .int .u8 ((b : Nat) : Int), Tb.tv (Tb.halves (fun F G => F ||| G) (Tb.halves (fun F G => F ||| G) f a) b), Tb.tv f, .int .u8 ((a : Nat) : Int), .int .u8 ((b : Nat) : Int), .int .u8 (((a ||| b) : Nat) : Int), Tb.tv (Tb.halves (fun F G => F ||| G) f (a ||| b)), .bool true, .bool true, Tb.tv (Tb.halves (fun F G => F &&& G) f a), .int .u8 ((b : Nat) : Int), Tb.tv (Tb.halves (fun F G => F &&& G) (Tb.halves (fun F G => F &&& G) f a) b), Tb.tv f, .int .u8 ((a : Nat) : Int), .int .u8 ((b : Nat) : Int), .int .u8 (((a ||| b) : Nat) : Int), Tb.tv (Tb.halves (fun F G => F &&& G) f (a ||| b)), .bool true, .bool true, .bool true, Tb.tv f, Tb.tv (Tb.halves (fun F G => F ||| G) f a), Tb.tv (f ||| (Tb.halves (fun F G => F ||| G) f a)), Tb.tv (Tb.halves (fun F G => F ||| G) f a), .bool true, .bool true, .bool true, Tb.tv f, Tb.tv (Tb.halves (fun F G => F &&& G) f a), Tb.tv (f &&& (Tb.halves (fun F G => F &&& G) f a)), Tb.tv (Tb.halves (fun F G => F &&& G) f a), .bool true, .bool true, .bool true, Tb.tv (Tb.halves (fun F G => F ||| G) f a), .int .u8 (((Tb.support (Tb.halves (fun F G => F ||| G) f a)) : Nat) : Int), .int .u8 ((a : Nat) : Int), .int .u8 ((((Tb.support (Tb.halves (fun F G => F ||| G) f a)) &&& a) : Nat) : Int), .bool true, .bool true, .bool true, Tb.tv (Tb.halves (fun F G => F &&& G) f a), .int .u8 (((Tb.support (Tb.halves (fun F G => F &&& G) f a)) : Nat) : Int), .int .u8 ((a : Nat) : Int), .int .u8 ((((Tb.support (Tb.halves (fun F G => F &&& G) f a)) &&& a) : Nat) : Int), .bool true, .bool true, .bool true, Tb.tv (Tb.restrict f a v), .int .u8 (((Tb.support (Tb.restrict f a v)) : Nat) : Int), .int .u8 ((a : Nat) : Int), .int .u8 ((((Tb.support (Tb.restrict f a v)) &&& a) : Nat) : Int), .bool true, .bool true, .bool true, Tb.tv (Tb.restrict f a v), Tb.tv (Tb.halves (fun F G => F ||| G) f a), Tb.tv ((Tb.restrict f a v) &&& (Tb.halves (fun F G => F ||| G) f a)), Tb.tv (Tb.restrict f a v), .bool true, .bool true, .bool true, Tb.tv (Tb.restrict f a v), Tb.tv (Tb.halves (fun F G => F &&& G) f a), Tb.tv ((Tb.restrict f a v) ||| (Tb.halves (fun F G => F &&& G) f a)), Tb.tv (Tb.restrict f a v), .bool true, .bool true, .bool true, Tb.tv (Tb.restrict f a v), .int .u8 ((b : Nat) : Int), .int .u8 ((a : Nat) : Int), .int .u8 (((b &&& (255 - a)) : Nat) : Int), .int .u8 ((v : Nat) : Int), Tb.tv (Tb.restrict (Tb.restrict f a v) (b &&& (255 - a)) v), Tb.tv f, .int .u8 ((a : Nat) : Int), .int .u8 ((b : Nat) : Int), .int .u8 (((a ||| b) : Nat) : Int), .int .u8 ((v : Nat) : Int), Tb.tv (Tb.restrict f (a ||| b) v), .bool true, .bool true] : List Value).getD i undef) (fun _ => none) (fun u => Keep w u [(w.heap.size, f), (p10, (Tb.halves (fun F G => F ||| G) f a)), (p11, (Tb.halves (fun F G => F &&& G) f a)), (p12, (Tb.restrict f a v))]) _ (by kernel_rfl) (by kernel_rfl) (by intro g hg; simp only [List.mem_cons, List.not_mem_nil, or_false] at hg; rcases hg with rfl | rfl | rfl | rfl | rfl | rfl | rfl | rfl | rfl <;> exact ⟨rfl, rfl⟩) k6.drew (Nat.le_refl _) (fun _ o h => h.alloc o) ?_ ?_ ?_
    · iterate 1 skip
      refine all_succ ?_ ?_
      rotate_left
      · intro hf oo ho act uu hS hB hd hold KK hcont
        obtain rfl := Option.some.inj ho
        exact wp_of_exec (exec_pick rfl (hd 69 93 (by kernel_rfl) rfl rfl) (hd 82 106 (by kernel_rfl) rfl rfl)) (hcont uu hS (Below.refl _ _))
      refine all_succ ?_ ?_
      rotate_left
      · intro hf oo ho act uu hS hB hd hold KK hcont
        obtain rfl := Option.some.inj ho
        exact wp_of_exec (exec_eqT rfl (hd 75 99 (by kernel_rfl) rfl rfl) (hd 81 105 (by kernel_rfl) rfl rfl) (Tb.rst_rst f a b v ha hb hv)) (hcont uu hS (Below.refl _ _))
      refine all_succ ?_ ?_
      rotate_left
      · intro hf oo ho act uu hS hB hd hold KK hcont
        obtain rfl := Option.some.inj ho
        have h100 : act.tmps.getD 100 undef = Tb.tv f := (hd 76 100 (by kernel_rfl) rfl rfl)
        have h103 : act.tmps.getD 103 undef = .int .u8 (((a ||| b) : Nat) : Int) := (hd 79 103 (by kernel_rfl) rfl rfl)
        have h104 : act.tmps.getD 104 undef = .int .u8 ((v : Nat) : Int) := (hd 80 104 (by kernel_rfl) rfl rfl)
        go_simp
        refine (restrict_any f (a ||| b) v _ (Tb.or_lt ha hb) hv).mono ?_
        rintro e u' ⟨rfl, hb⟩
        exact hcont _ (hS.step hb) hb
      refine all_succ ?_ ?_
      rotate_left
      · intro hf oo ho act uu hS hB hd hold KK hcont
        obtain rfl := Option.some.inj ho
        exact wp_of_exec (exec_move rfl (hold 3 (notDst (by kernel_rfl)))) (hcont uu hS (Below.refl _ _))
      refine all_succ ?_ ?_
      rotate_left
      · intro hf oo ho act uu hS hB hd hold KK hcont
        obtain rfl := Option.some.inj ho
        have h1 : act.eval ((Operand.tmp 101)) = .int .u8 ((a : Nat) : Int) := (hd 77 101 (by kernel_rfl) rfl rfl)
        have h2 : act.eval ((Operand.tmp 102)) = .int .u8 ((b : Nat) : Int) := (hd 78 102 (by kernel_rfl) rfl rfl)
        have h3 : (binOp BinOp.or 5 (.int .u8 ((a : Nat) : Int)) (.int .u8 ((b : Nat) : Int))).run Tryd.prog uu = .ok (.int .u8 (((a ||| b) : Nat) : Int)) uu := (bin_or8 ha hb _ _)
        exact wp_of_exec (exec_bin rfl h1 h2 (guard_int _ _) h3) (hcont uu hS (Below.refl _ _))
      refine all_succ ?_ ?_
      rotate_left
      · intro hf oo ho act uu hS hB hd hold KK hcont
        obtain rfl := Option.some.inj ho
        exact wp_of_exec (exec_move rfl (hold 2 (notDst (by kernel_rfl)))) (hcont uu hS (Below.refl _ _))
      refine all_succ ?_ ?_
      rotate_left
      · intro hf oo ho act uu hS hB hd hold KK hcont
        obtain rfl := Option.some.inj ho
        exact wp_of_exec (exec_move rfl (hold 1 (notDst (by kernel_rfl)))) (hcont uu hS (Below.refl _ _))
      refine all_succ ?_ ?_
      rotate_left
      · intro hf oo ho act uu hS hB hd hold KK hcont
        obtain rfl := Option.some.inj ho
        exact wp_of_exec (exec_load rfl (hold 4 (notDst (by kernel_rfl))) (hS.at_ 0 _ _ rfl)) (hcont uu hS (Below.refl _ _))
      refine all_succ ?_ ?_
      rotate_left
      · intro hf oo ho act uu hS hB hd hold KK hcont
        obtain rfl := Option.some.inj ho
        have h94 : act.tmps.getD 94 undef = Tb.tv (Tb.restrict f a v) := (hd 70 94 (by kernel_rfl) rfl rfl)
        have h97 : act.tmps.getD 97 undef = .int .u8 (((b &&& (255 - a)) : Nat) : Int) := (hd 73 97 (by kernel_rfl) rfl rfl)
        have h98 : act.tmps.getD 98 undef = .int .u8 ((v : Nat) : Int) := (hd 74 98 (by kernel_rfl) rfl rfl)
        go_simp
        refine (restrict_any (Tb.restrict f a v) (b &&& (255 - a)) v _ (Tb.andN_lt hb) hv).mono ?_
        rintro e u' ⟨rfl, hb⟩
        exact hcont _ (hS.step hb) hb
      refine all_succ ?_ ?_
      rotate_left
      · intro hf oo ho act uu hS hB hd hold KK hcont
        obtain rfl := Option.some.inj ho
        exact wp_of_exec (exec_move rfl (hold 3 (notDst (by kernel_rfl)))) (hcont uu hS (Below.refl _ _))
      refine all_succ ?_ ?_
      rotate_left
      · intro hf oo ho act uu hS hB hd hold KK hcont
        obtain rfl := Option.some.inj ho
        have h1 : act.eval ((Operand.tmp 95)) = .int .u8 ((b : Nat) : Int) := (hd 71 95 (by kernel_rfl) rfl rfl)
        have h2 : act.eval ((Operand.tmp 96)) = .int .u8 ((a : Nat) : Int) := (hd 72 96 (by kernel_rfl) rfl rfl)
        have h3 : (binOp BinOp.andNot 5 (.int .u8 ((b : Nat) : Int)) (.int .u8 ((a : Nat) : Int))).run Tryd.prog uu = .ok (.int .u8 (((b &&& (255 - a)) : Nat) : Int)) uu := (bin_andNot8 hb ha _ _)
        exact wp_of_exec (exec_bin rfl h1 h2 (guard_int _ _) h3) (hcont uu hS (Below.refl _ _))
      refine all_succ ?_ ?_
      rotate_left
      · intro hf oo ho act uu hS hB hd hold KK hcont
        obtain rfl := Option.some.inj ho
        exact wp_of_exec (exec_move rfl (hold 1 (notDst (by kernel_rfl)))) (hcont uu hS (Below.refl _ _))
      refine all_succ ?_ ?_
      rotate_left
      · intro hf oo ho act uu hS hB hd hold KK hcont
        obtain rfl := Option.some.inj ho
        exact wp_of_exec (exec_move rfl (hold 2 (notDst (by kernel_rfl)))) (hcont uu hS (Below.refl _ _))
      refine all_succ ?_ ?_
      rotate_left
      · intro hf oo ho act uu hS hB hd hold KK hcont
        obtain rfl := Option.some.inj ho
        exact wp_of_exec (exec_load rfl (hold 11 (notDst (by kernel_rfl))) (hS.at_ 3 _ _ rfl)) (hcont uu hS (Below.refl _ _))
      refine all_succ ?_ ?_
      rotate_left
      · intro hf oo ho act uu hS hB hd hold KK hcont
        obtain rfl := Option.some.inj ho
        exact wp_of_exec (exec_move rfl (hd 68 92 (by kernel_rfl) rfl rfl)) (hcont uu hS (Below.refl _ _))
      refine all_succ ?_ ?_
      rotate_left
      · intro hf oo ho act uu hS hB hd hold KK hcont
        obtain rfl := Option.some.inj ho
        exact wp_of_exec (exec_pick rfl (hd 62 86 (by kernel_rfl) rfl rfl) (hd 67 91 (by kernel_rfl) rfl rfl)) (hcont uu hS (Below.refl _ _))
      refine all_succ ?_ ?_
      rotate_left
      · intro hf oo ho act uu hS hB hd hold KK hcont
        obtain rfl := Option.some.inj ho
        exact wp_of_exec (exec_eqT rfl (hd 65 89 (by kernel_rfl) rfl rfl) (hd 66 90 (by kernel_rfl) rfl rfl) (Tb.rst_all f a v ha hv)) (hcont uu hS (Below.refl _ _))
      refine all_succ ?_ ?_
      rotate_left
      · intro hf oo ho act uu hS hB hd hold KK hcont
        obtain rfl := Option.some.inj ho
        exact wp_of_exec (exec_load rfl (hold 11 (notDst (by kernel_rfl))) (hS.at_ 3 _ _ rfl)) (hcont uu hS (Below.refl _ _))
      refine all_succ ?_ ?_
      rotate_left
      · intro hf oo ho act uu hS hB hd hold KK hcont
        obtain rfl := Option.some.inj ho
        have h87 : act.tmps.getD 87 undef = Tb.tv (Tb.restrict f a v) := (hd 63 87 (by kernel_rfl) rfl rfl)
        have h88 : act.tmps.getD 88 undef = Tb.tv (Tb.halves (fun F G => F &&& G) f a) := (hd 64 88 (by kernel_rfl) rfl rfl)
        go_simp
        refine (or_any (Tb.restrict f a v) (Tb.halves (fun F G => F &&& G) f a) _).mono ?_
        rintro e u' ⟨rfl, hb⟩
        exact hcont _ (hS.step hb) hb
      refine all_succ ?_ ?_
      rotate_left
      · intro hf oo ho act uu hS hB hd hold KK hcont
        obtain rfl := Option.some.inj ho
        exact wp_of_exec (exec_load rfl (hold 10 (notDst (by kernel_rfl))) (hS.at_ 2 _ _ rfl)) (hcont uu hS (Below.refl _ _))
      refine all_succ ?_ ?_
      rotate_left
      · intro hf oo ho act uu hS hB hd hold KK hcont
        obtain rfl := Option.some.inj ho
        exact wp_of_exec (exec_load rfl (hold 11 (notDst (by kernel_rfl))) (hS.at_ 3 _ _ rfl)) (hcont uu hS (Below.refl _ _))
      refine all_succ ?_ ?_
      rotate_left
      · intro hf oo ho act uu hS hB hd hold KK hcont
        obtain rfl := Option.some.inj ho
        exact wp_of_exec (exec_move rfl (hd 61 85 (by kernel_rfl) rfl rfl)) (hcont uu hS (Below.refl _ _))
      refine all_succ ?_ ?_
      rotate_left
      · intro hf oo ho act uu hS hB hd hold KK hcont
        obtain rfl := Option.some.inj ho
        exact wp_of_exec (exec_pick rfl (hd 55 79 (by kernel_rfl) rfl rfl) (hd 60 84 (by kernel_rfl) rfl rfl)) (hcont uu hS (Below.refl _ _))
      refine all_succ ?_ ?_
      rotate_left
      · intro hf oo ho act uu hS hB hd hold KK hcont
        obtain rfl := Option.some.inj ho
        exact wp_of_exec (exec_eqT rfl (hd 58 82 (by kernel_rfl) rfl rfl) (hd 59 83 (by kernel_rfl) rfl rfl) (Tb.rst_exs f a v ha hv)) (hcont uu hS (Below.refl _ _))
      refine all_succ ?_ ?_
      rotate_left
      · intro hf oo ho act uu hS hB hd hold KK hcont
        obtain rfl := Option.some.inj ho
        exact wp_of_exec (exec_load rfl (hold 11 (notDst (by kernel_rfl))) (hS.at_ 3 _ _ rfl)) (hcont uu hS (Below.refl _ _))
      refine all_succ ?_ ?_
      rotate_left
      · intro hf oo ho act uu hS hB hd hold KK hcont
        obtain rfl := Option.some.inj ho
        have h80 : act.tmps.getD 80 undef = Tb.tv (Tb.restrict f a v) := (hd 56 80 (by kernel_rfl) rfl rfl)
        have h81 : act.tmps.getD 81 undef = Tb.tv (Tb.halves (fun F G => F ||| G) f a) := (hd 57 81 (by kernel_rfl) rfl rfl)
        go_simp
        refine (and_any (Tb.restrict f a v) (Tb.halves (fun F G => F ||| G) f a) _).mono ?_
        rintro e u' ⟨rfl, hb⟩
        exact hcont _ (hS.step hb) hb
      refine all_succ ?_ ?_
      rotate_left
      · intro hf oo ho act uu hS hB hd hold KK hcont
        obtain rfl := Option.some.inj ho
        exact wp_of_exec (exec_load rfl (hold 9 (notDst (by kernel_rfl))) (hS.at_ 1 _ _ rfl)) (hcont uu hS (Below.refl _ _))
      refine all_succ ?_ ?_
      rotate_left
      · intro hf oo ho act uu hS hB hd hold KK hcont
        obtain rfl := Option.some.inj ho
        exact wp_of_exec (exec_load rfl (hold 11 (notDst (by kernel_rfl))) (hS.at_ 3 _ _ rfl)) (hcont uu hS (Below.refl _ _))
      refine all_succ ?_ ?_
      rotate_left
      · intro hf oo ho act uu hS hB hd hold KK hcont
        obtain rfl := Option.some.inj ho
        exact wp_of_exec (exec_move rfl (hd 54 78 (by kernel_rfl) rfl rfl)) (hcont uu hS (Below.refl _ _))
      refine all_succ ?_ ?_
      rotate_left
      · intro hf oo ho act uu hS hB hd hold KK hcont
        obtain rfl := Option.some.inj ho
        exact wp_of_exec (exec_pick rfl (hd 48 72 (by kernel_rfl) rfl rfl) (hd 53 77 (by kernel_rfl) rfl rfl)) (hcont uu hS (Below.refl _ _))
      refine all_succ ?_ ?_
      rotate_left
      · intro hf oo ho act uu hS hB hd hold KK hcont
        obtain rfl := Option.some.inj ho
        have h1 : act.eval ((Operand.tmp 76)) = .int .u8 ((((Tb.support (Tb.restrict f a v)) &&& a) : Nat) : Int) := (hd 52 76 (by kernel_rfl) rfl rfl)
        have h2 : act.eval ((Operand.const (Value.int IntKind.u8 0))) = .int .u8 ((0 : Nat) : Int) := rfl
        have h3 : (binOp BinOp.eql 5 (.int .u8 ((((Tb.support (Tb.restrict f a v)) &&& a) : Nat) : Int)) (.int .u8 ((0 : Nat) : Int))).run Tryd.prog uu = .ok (.bool true) uu := (bin_eqN1 (Tb.sup_indep _ _ (Tb.indep_rst f a v ha hv)) _ _)
        exact wp_of_exec (exec_bin rfl h1 h2 (guard_int _ _) h3) (hcont uu hS (Below.refl _ _))
      refine all_succ ?_ ?_
      rotate_left
      · intro hf oo ho act uu hS hB hd hold KK hcont
        obtain rfl := Option.some.inj ho
        have h1 : act.eval ((Operand.tmp 74)) = .int .u8 (((Tb.support (Tb.restrict f a v)) : Nat) : Int) := (hd 50 74 (by kernel_rfl) rfl rfl)
        have h2 : act.eval ((Operand.tmp 75)) = .int .u8 ((a : Nat) : Int) := (hd 51 75 (by kernel_rfl) rfl rfl)
        have h3 : (binOp BinOp.and 5 (.int .u8 (((Tb.support (Tb.restrict f a v)) : Nat) : Int)) (.int .u8 ((a : Nat) : Int))).run Tryd.prog uu = .ok (.int .u8 ((((Tb.support (Tb.restrict f a v)) &&& a) : Nat) : Int)) uu := (bin_and8 (Tb.support_lt _) ha _ _)
        exact wp_of_exec (exec_bin rfl h1 h2 (guard_int _ _) h3) (hcont uu hS (Below.refl _ _))
      refine all_succ ?_ ?_
      rotate_left
      · intro hf oo ho act uu hS hB hd hold KK hcont
        obtain rfl := Option.some.inj ho
        exact wp_of_exec (exec_move rfl (hold 1 (notDst (by kernel_rfl)))) (hcont uu hS (Below.refl _ _))
      refine all_succ ?_ ?_
      rotate_left
      · intro hf oo ho act uu hS hB hd hold KK hcont
        obtain rfl := Option.some.inj ho
        have h73 : act.tmps.getD 73 undef = Tb.tv (Tb.restrict f a v) := (hd 49 73 (by kernel_rfl) rfl rfl)
        go_simp
        refine (support_any (Tb.restrict f a v) _).mono ?_
        rintro e u' ⟨rfl, hb⟩
        exact hcont _ (hS.step hb) hb
      refine all_succ ?_ ?_
      rotate_left
      · intro hf oo ho act uu hS hB hd hold KK hcont
        obtain rfl := Option.some.inj ho
        exact wp_of_exec (exec_load rfl (hold 11 (notDst (by kernel_rfl))) (hS.at_ 3 _ _ rfl)) (hcont uu hS (Below.refl _ _))
      refine all_succ ?_ ?_
      rotate_left
      · intro hf oo ho act uu hS hB hd hold KK hcont
        obtain rfl := Option.some.inj ho
        exact wp_of_exec (exec_move rfl (hd 47 71 (by kernel_rfl) rfl rfl)) (hcont uu hS (Below.refl _ _))
      refine all_succ ?_ ?_
      rotate_left
      · intro hf oo ho act uu hS hB hd hold KK hcont
        obtain rfl := Option.some.inj ho
        exact wp_of_exec (exec_pick rfl (hd 41 65 (by kernel_rfl) rfl rfl) (hd 46 70 (by kernel_rfl) rfl rfl)) (hcont uu hS (Below.refl _ _))
      refine all_succ ?_ ?_
      rotate_left
      · intro hf oo ho act uu hS hB hd hold KK hcont
        obtain rfl := Option.some.inj ho
        have h1 : act.eval ((Operand.tmp 69)) = .int .u8 ((((Tb.support (Tb.halves (fun F G => F &&& G) f a)) &&& a) : Nat) : Int) := (hd 45 69 (by kernel_rfl) rfl rfl)
        have h2 : act.eval ((Operand.const (Value.int IntKind.u8 0))) = .int .u8 ((0 : Nat) : Int) := rfl
        have h3 : (binOp BinOp.eql 5 (.int .u8 ((((Tb.support (Tb.halves (fun F G => F &&& G) f a)) &&& a) : Nat) : Int)) (.int .u8 ((0 : Nat) : Int))).run Tryd.prog uu = .ok (.bool true) uu := (bin_eqN1 (Tb.sup_indep _ _ (Tb.indep_all f a)) _ _)
        exact wp_of_exec (exec_bin rfl h1 h2 (guard_int _ _) h3) (hcont uu hS (Below.refl _ _))
      refine all_succ ?_ ?_
      rotate_left
      · intro hf oo ho act uu hS hB hd hold KK hcont
        obtain rfl := Option.some.inj ho
        have h1 : act.eval ((Operand.tmp 67)) = .int .u8 (((Tb.support (Tb.halves (fun F G => F &&& G) f a)) : Nat) : Int) := (hd 43 67 (by kernel_rfl) rfl rfl)
        have h2 : act.eval ((Operand.tmp 68)) = .int .u8 ((a : Nat) : Int) := (hd 44 68 (by kernel_rfl) rfl rfl)
        have h3 : (binOp BinOp.and 5 (.int .u8 (((Tb.support (Tb.halves (fun F G => F &&& G) f a)) : Nat) : Int)) (.int .u8 ((a : Nat) : Int))).run Tryd.prog uu = .ok (.int .u8 ((((Tb.support (Tb.halves (fun F G => F &&& G) f a)) &&& a) : Nat) : Int)) uu := (bin_and8 (Tb.support_lt _) ha _ _)
        exact wp_of_exec (exec_bin rfl h1 h2 (guard_int _ _) h3) (hcont uu hS (Below.refl _ _))
      refine all_succ ?_ ?_
      rotate_left
      · intro hf oo ho act uu hS hB hd hold KK hcont
        obtain rfl := Option.some.inj ho
        exact wp_of_exec (exec_move rfl (hold 1 (notDst (by kernel_rfl)))) (hcont uu hS (Below.refl _ _))
      refine all_succ ?_ ?_
      rotate_left
      · intro hf oo ho act uu hS hB hd hold KK hcont
        obtain rfl := Option.some.inj ho
        have h66 : act.tmps.getD 66 undef = Tb.tv (Tb.halves (fun F G => F &&& G) f a) := (hd 42 66 (by kernel_rfl) rfl rfl)
        go_simp
        refine (support_any (Tb.halves (fun F G => F &&& G) f a) _).mono ?_
        rintro e u' ⟨rfl, hb⟩
        exact hcont _ (hS.step hb) hb
      refine all_succ ?_ ?_
      rotate_left
      · intro hf oo ho act uu hS hB hd hold KK hcont
        obtain rfl := Option.some.inj ho
        exact wp_of_exec (exec_load rfl (hold 10 (notDst (by kernel_rfl))) (hS.at_ 2 _ _ rfl)) (hcont uu hS (Below.refl _ _))
      refine all_succ ?_ ?_
      rotate_left
      · intro hf oo ho act uu hS hB hd hold KK hcont
        obtain rfl := Option.some.inj ho
        exact wp_of_exec (exec_move rfl (hd 40 64 (by kernel_rfl) rfl rfl)) (hcont uu hS (Below.refl _ _))
      refine all_succ ?_ ?_
      rotate_left
      · intro hf oo ho act uu hS hB hd hold KK hcont
        obtain rfl := Option.some.inj ho
        exact wp_of_exec (exec_pick rfl (hd 34 58 (by kernel_rfl) rfl rfl) (hd 39 63 (by kernel_rfl) rfl rfl)) (hcont uu hS (Below.refl _ _))
      refine all_succ ?_ ?_
      rotate_left
      · intro hf oo ho act uu hS hB hd hold KK hcont
        obtain rfl := Option.some.inj ho
        have h1 : act.eval ((Operand.tmp 62)) = .int .u8 ((((Tb.support (Tb.halves (fun F G => F ||| G) f a)) &&& a) : Nat) : Int) := (hd 38 62 (by kernel_rfl) rfl rfl)
        have h2 : act.eval ((Operand.const (Value.int IntKind.u8 0))) = .int .u8 ((0 : Nat) : Int) := rfl
        have h3 : (binOp BinOp.eql 5 (.int .u8 ((((Tb.support (Tb.halves (fun F G => F ||| G) f a)) &&& a) : Nat) : Int)) (.int .u8 ((0 : Nat) : Int))).run Tryd.prog uu = .ok (.bool true) uu := (bin_eqN1 (Tb.sup_indep _ _ (Tb.indep_exs f a)) _ _)
        exact wp_of_exec (exec_bin rfl h1 h2 (guard_int _ _) h3) (hcont uu hS (Below.refl _ _))
      refine all_succ ?_ ?_
      rotate_left
      · intro hf oo ho act uu hS hB hd hold KK hcont
        obtain rfl := Option.some.inj ho
        have h1 : act.eval ((Operand.tmp 60)) = .int .u8 (((Tb.support (Tb.halves (fun F G => F ||| G) f a)) : Nat) : Int) := (hd 36 60 (by kernel_rfl) rfl rfl)
        have h2 : act.eval ((Operand.tmp 61)) = .int .u8 ((a : Nat) : Int) := (hd 37 61 (by kernel_rfl) rfl rfl)
        have h3 : (binOp BinOp.and 5 (.int .u8 (((Tb.support (Tb.halves (fun F G => F ||| G) f a)) : Nat) : Int)) (.int .u8 ((a : Nat) : Int))).run Tryd.prog uu = .ok (.int .u8 ((((Tb.support (Tb.halves (fun F G => F ||| G) f a)) &&& a) : Nat) : Int)) uu := (bin_and8 (Tb.support_lt _) ha _ _)
        exact wp_of_exec (exec_bin rfl h1 h2 (guard_int _ _) h3) (hcont uu hS (Below.refl _ _))
      refine all_succ ?_ ?_
      rotate_left
      · intro hf oo ho act uu hS hB hd hold KK hcont
        obtain rfl := Option.some.inj ho
        exact wp_of_exec (exec_move rfl (hold 1 (notDst (by kernel_rfl)))) (hcont uu hS (Below.refl _ _))
      refine all_succ ?_ ?_
      rotate_left
      · intro hf oo ho act uu hS hB hd hold KK hcont
        obtain rfl := Option.some.inj ho
        have h59 : act.tmps.getD 59 undef = Tb.tv (Tb.halves (fun F G => F ||| G) f a) := (hd 35 59 (by kernel_rfl) rfl rfl)
        go_simp
        refine (support_any (Tb.halves (fun F G => F ||| G) f a) _).mono ?_
        rintro e u' ⟨rfl, hb⟩
        exact hcont _ (hS.step hb) hb
      refine all_succ ?_ ?_
      rotate_left
      · intro hf oo ho act uu hS hB hd hold KK hcont
        obtain rfl := Option.some.inj ho
        exact wp_of_exec (exec_load rfl (hold 9 (notDst (by kernel_rfl))) (hS.at_ 1 _ _ rfl)) (hcont uu hS (Below.refl _ _))
      refine all_succ ?_ ?_
      rotate_left
      · intro hf oo ho act uu hS hB hd hold KK hcont
        obtain rfl := Option.some.inj ho
        exact wp_of_exec (exec_move rfl (hd 33 57 (by kernel_rfl) rfl rfl)) (hcont uu hS (Below.refl _ _))
      refine all_succ ?_ ?_
      rotate_left
      · intro hf oo ho act uu hS hB hd hold KK hcont
        obtain rfl := Option.some.inj ho
        exact wp_of_exec (exec_pick rfl (hd 27 51 (by kernel_rfl) rfl rfl) (hd 32 56 (by kernel_rfl) rfl rfl)) (hcont uu hS (Below.refl _ _))
      refine all_succ ?_ ?_
      rotate_left
      · intro hf oo ho act uu hS hB hd hold KK hcont
        obtain rfl := Option.some.inj ho
        exact wp_of_exec (exec_eqT rfl (hd 30 54 (by kernel_rfl) rfl rfl) (hd 31 55 (by kernel_rfl) rfl rfl) (Tb.and_all f a)) (hcont uu hS (Below.refl _ _))
      refine all_succ ?_ ?_
      rotate_left
      · intro hf oo ho act uu hS hB hd hold KK hcont
        obtain rfl := Option.some.inj ho
        exact wp_of_exec (exec_load rfl (hold 10 (notDst (by kernel_rfl))) (hS.at_ 2 _ _ rfl)) (hcont uu hS (Below.refl _ _))
      refine all_succ ?_ ?_
      rotate_left
      · intro hf oo ho act uu hS hB hd hold KK hcont
        obtain rfl := Option.some.inj ho
        have h52 : act.tmps.getD 52 undef = Tb.tv f := (hd 28 52 (by kernel_rfl) rfl rfl)
        have h53 : act.tmps.getD 53 undef = Tb.tv (Tb.halves (fun F G => F &&& G) f a) := (hd 29 53 (by kernel_rfl) rfl rfl)
        go_simp
        refine (and_any f (Tb.halves (fun F G => F &&& G) f a) _).mono ?_
        rintro e u' ⟨rfl, hb⟩
        exact hcont _ (hS.step hb) hb
      refine all_succ ?_ ?_
      rotate_left
      · intro hf oo ho act uu hS hB hd hold KK hcont
        obtain rfl := Option.some.inj ho
        exact wp_of_exec (exec_load rfl (hold 10 (notDst (by kernel_rfl))) (hS.at_ 2 _ _ rfl)) (hcont uu hS (Below.refl _ _))
      refine all_succ ?_ ?_
      rotate_left
      · intro hf oo ho act uu hS hB hd hold KK hcont
        obtain rfl := Option.some.inj ho
        exact wp_of_exec (exec_load rfl (hold 4 (notDst (by kernel_rfl))) (hS.at_ 0 _ _ rfl)) (hcont uu hS (Below.refl _ _))
      refine all_succ ?_ ?_
      rotate_left
      · intro hf oo ho act uu hS hB hd hold KK hcont
        obtain rfl := Option.some.inj ho
        exact wp_of_exec (exec_move rfl (hd 26 50 (by kernel_rfl) rfl rfl)) (hcont uu hS (Below.refl _ _))
      refine all_succ ?_ ?_
      rotate_left
      · intro hf oo ho act uu hS hB hd hold KK hcont
        obtain rfl := Option.some.inj ho
        exact wp_of_exec (exec_pick rfl (hd 20 44 (by kernel_rfl) rfl rfl) (hd 25 49 (by kernel_rfl) rfl rfl)) (hcont uu hS (Below.refl _ _))
      refine all_succ ?_ ?_
      rotate_left
      · intro hf oo ho act uu hS hB hd hold KK hcont
        obtain rfl := Option.some.inj ho
        exact wp_of_exec (exec_eqT rfl (hd 23 47 (by kernel_rfl) rfl rfl) (hd 24 48 (by kernel_rfl) rfl rfl) (Tb.or_exs f a)) (hcont uu hS (Below.refl _ _))
      refine all_succ ?_ ?_
      rotate_left
      · intro hf oo ho act uu hS hB hd hold KK hcont
        obtain rfl := Option.some.inj ho
        exact wp_of_exec (exec_load rfl (hold 9 (notDst (by kernel_rfl))) (hS.at_ 1 _ _ rfl)) (hcont uu hS (Below.refl _ _))
      refine all_succ ?_ ?_
      rotate_left
      · intro hf oo ho act uu hS hB hd hold KK hcont
        obtain rfl := Option.some.inj ho
        have h45 : act.tmps.getD 45 undef = Tb.tv f := (hd 21 45 (by kernel_rfl) rfl rfl)
        have h46 : act.tmps.getD 46 undef = Tb.tv (Tb.halves (fun F G => F ||| G) f a) := (hd 22 46 (by kernel_rfl) rfl rfl)
        go_simp
        refine (or_any f (Tb.halves (fun F G => F ||| G) f a) _).mono ?_
        rintro e u' ⟨rfl, hb⟩
        exact hcont _ (hS.step hb) hb
      refine all_succ ?_ ?_
      rotate_left
      · intro hf oo ho act uu hS hB hd hold KK hcont
        obtain rfl := Option.some.inj ho
        exact wp_of_exec (exec_load rfl (hold 9 (notDst (by kernel_rfl))) (hS.at_ 1 _ _ rfl)) (hcont uu hS (Below.refl _ _))
      refine all_succ ?_ ?_
      rotate_left
      · intro hf oo ho act uu hS hB hd hold KK hcont
        obtain rfl := Option.some.inj ho
        exact wp_of_exec (exec_load rfl (hold 4 (notDst (by kernel_rfl))) (hS.at_ 0 _ _ rfl)) (hcont uu hS (Below.refl _ _))
      refine all_succ ?_ ?_
      rotate_left
      · intro hf oo ho act uu hS hB hd hold KK hcont
        obtain rfl := Option.some.inj ho
        exact wp_of_exec (exec_move rfl (hd 19 43 (by kernel_rfl) rfl rfl)) (hcont uu hS (Below.refl _ _))
      refine all_succ ?_ ?_
      rotate_left
      · intro hf oo ho act uu hS hB hd hold KK hcont
        obtain rfl := Option.some.inj ho
        exact wp_of_exec (exec_pick rfl (hd 9 33 (by kernel_rfl) rfl rfl) (hd 18 42 (by kernel_rfl) rfl rfl)) (hcont uu hS (Below.refl _ _))
      refine all_succ ?_ ?_
      rotate_left
      · intro hf oo ho act uu hS hB hd hold KK hcont
        obtain rfl := Option.some.inj ho
        exact wp_of_exec (exec_eqT rfl (hd 12 36 (by kernel_rfl) rfl rfl) (hd 17 41 (by kernel_rfl) rfl rfl) (Tb.all_all f a b ha)) (hcont uu hS (Below.refl _ _))
      refine all_succ ?_ ?_
      rotate_left
      · intro hf oo ho act uu hS hB hd hold KK hcont
        obtain rfl := Option.some.inj ho
        have h37 : act.tmps.getD 37 undef = Tb.tv f := (hd 13 37 (by kernel_rfl) rfl rfl)
        have h40 : act.tmps.getD 40 undef = .int .u8 (((a ||| b) : Nat) : Int) := (hd 16 40 (by kernel_rfl) rfl rfl)
        go_simp
        refine (forall_any f (a ||| b) _ (Tb.or_lt ha hb)).mono ?_
        rintro e u' ⟨rfl, hb⟩
        exact hcont _ (hS.step hb) hb
      refine all_succ ?_ ?_
      rotate_left
      · intro hf oo ho act uu hS hB hd hold KK hcont
        obtain rfl := Option.some.inj ho
        have h1 : act.eval ((Operand.tmp 38)) = .int .u8 ((a : Nat) : Int) := (hd 14 38 (by kernel_rfl) rfl rfl)
        have h2 : act.eval ((Operand.tmp 39)) = .int .u8 ((b : Nat) : Int) := (hd 15 39 (by kernel_rfl) rfl rfl)
        have h3 : (binOp BinOp.or 5 (.int .u8 ((a : Nat) : Int)) (.int .u8 ((b : Nat) : Int))).run Tryd.prog uu = .ok (.int .u8 (((a ||| b) : Nat) : Int)) uu := (bin_or8 ha hb _ _)
        exact wp_of_exec (exec_bin rfl h1 h2 (guard_int _ _) h3) (hcont uu hS (Below.refl _ _))
      refine all_succ ?_ ?_
      rotate_left
      · intro hf oo ho act uu hS hB hd hold KK hcont
        obtain rfl := Option.some.inj ho
        exact wp_of_exec (exec_move rfl (hold 2 (notDst (by kernel_rfl)))) (hcont uu hS (Below.refl _ _))
      refine all_succ ?_ ?_
      rotate_left
      · intro hf oo ho act uu hS hB hd hold KK hcont
        obtain rfl := Option.some.inj ho
        exact wp_of_exec (exec_move rfl (hold 1 (notDst (by kernel_rfl)))) (hcont uu hS (Below.refl _ _))
      refine all_succ ?_ ?_
      rotate_left
      · intro hf oo ho act uu hS hB hd hold KK hcont
        obtain rfl := Option.some.inj ho
        exact wp_of_exec (exec_load rfl (hold 4 (notDst (by kernel_rfl))) (hS.at_ 0 _ _ rfl)) (hcont uu hS (Below.refl _ _))
      refine all_succ ?_ ?_
      rotate_left
      · intro hf oo ho act uu hS hB hd hold KK hcont
        obtain rfl := Option.some.inj ho
        have h34 : act.tmps.getD 34 undef = Tb.tv (Tb.halves (fun F G => F &&& G) f a) := (hd 10 34 (by kernel_rfl) rfl rfl)
        have h35 : act.tmps.getD 35 undef = .int .u8 ((b : Nat) : Int) := (hd 11 35 (by kernel_rfl) rfl rfl)
        go_simp
        refine (forall_any (Tb.halves (fun F G => F &&& G) f a) b _ hb).mono ?_
        rintro e u' ⟨rfl, hb⟩
        exact hcont _ (hS.step hb) hb
      refine all_succ ?_ ?_
      rotate_left
      · intro hf oo ho act uu hS hB hd hold KK hcont
        obtain rfl := Option.some.inj ho
        exact wp_of_exec (exec_move rfl (hold 2 (notDst (by kernel_rfl)))) (hcont uu hS (Below.refl _ _))
      refine all_succ ?_ ?_
      rotate_left
      · intro hf oo ho act uu hS hB hd hold KK hcont
        obtain rfl := Option.some.inj ho
        exact wp_of_exec (exec_load rfl (hold 10 (notDst (by kernel_rfl))) (hS.at_ 2 _ _ rfl)) (hcont uu hS (Below.refl _ _))
      refine all_succ ?_ ?_
      rotate_left
      · intro hf oo ho act uu hS hB hd hold KK hcont
        obtain rfl := Option.some.inj ho
        exact wp_of_exec (exec_move rfl (hd 8 32 (by kernel_rfl) rfl rfl)) (hcont uu hS (Below.refl _ _))
      refine all_succ ?_ ?_
      rotate_left
      · intro hf oo ho act uu hS hB hd hold KK hcont
        obtain rfl := Option.some.inj ho
        exact wp_of_exec (exec_eqT rfl (hd 2 26 (by kernel_rfl) rfl rfl) (hd 7 31 (by kernel_rfl) rfl rfl) (Tb.exs_exs f a b ha)) (hcont uu hS (Below.refl _ _))
      refine all_succ ?_ ?_
      rotate_left
      · intro hf oo ho act uu hS hB hd hold KK hcont
        obtain rfl := Option.some.inj ho
        have h27 : act.tmps.getD 27 undef = Tb.tv f := (hd 3 27 (by kernel_rfl) rfl rfl)
        have h30 : act.tmps.getD 30 undef = .int .u8 (((a ||| b) : Nat) : Int) := (hd 6 30 (by kernel_rfl) rfl rfl)
        go_simp
        refine (exists_any f (a ||| b) _ (Tb.or_lt ha hb)).mono ?_
        rintro e u' ⟨rfl, hb⟩
        exact hcont _ (hS.step hb) hb
      refine all_succ ?_ ?_
      rotate_left
      · intro hf oo ho act uu hS hB hd hold KK hcont
        obtain rfl := Option.some.inj ho
        have h1 : act.eval ((Operand.tmp 28)) = .int .u8 ((a : Nat) : Int) := (hd 4 28 (by kernel_rfl) rfl rfl)
        have h2 : act.eval ((Operand.tmp 29)) = .int .u8 ((b : Nat) : Int) := (hd 5 29 (by kernel_rfl) rfl rfl)
        have h3 : (binOp BinOp.or 5 (.int .u8 ((a : Nat) : Int)) (.int .u8 ((b : Nat) : Int))).run Tryd.prog uu = .ok (.int .u8 (((a ||| b) : Nat) : Int)) uu := (bin_or8 ha hb _ _)
        exact wp_of_exec (exec_bin rfl h1 h2 (guard_int _ _) h3) (hcont uu hS (Below.refl _ _))
      refine all_succ ?_ ?_
      rotate_left
      · intro hf oo ho act uu hS hB hd hold KK hcont
        obtain rfl := Option.some.inj ho
        exact wp_of_exec (exec_move rfl (hold 2 (notDst (by kernel_rfl)))) (hcont uu hS (Below.refl _ _))
      refine all_succ ?_ ?_
      rotate_left
      · intro hf oo ho act uu hS hB hd hold KK hcont
        obtain rfl := Option.some.inj ho
        exact wp_of_exec (exec_move rfl (hold 1 (notDst (by kernel_rfl)))) (hcont uu hS (Below.refl _ _))
      refine all_succ ?_ ?_
      rotate_left
      · intro hf oo ho act uu hS hB hd hold KK hcont
        obtain rfl := Option.some.inj ho
        exact wp_of_exec (exec_load rfl (hold 4 (notDst (by kernel_rfl))) (hS.at_ 0 _ _ rfl)) (hcont uu hS (Below.refl _ _))
      refine all_succ ?_ ?_
      rotate_left
      · intro hf oo ho act uu hS hB hd hold KK hcont
        obtain rfl := Option.some.inj ho
        have h24 : act.tmps.getD 24 undef = Tb.tv (Tb.halves (fun F G => F ||| G) f a) := (hd 0 24 (by kernel_rfl) rfl rfl)
        have h25 : act.tmps.getD 25 undef = .int .u8 ((b : Nat) : Int) := (hd 1 25 (by kernel_rfl) rfl rfl)
        go_simp
        refine (exists_any (Tb.halves (fun F G => F ||| G) f a) b _ hb).mono ?_
        rintro e u' ⟨rfl, hb⟩
        exact hcont _ (hS.step hb) hb
      refine all_succ ?_ ?_
      rotate_left
      · intro hf oo ho act uu hS hB hd hold KK hcont
        obtain rfl := Option.some.inj ho
        exact wp_of_exec (exec_move rfl (hold 2 (notDst (by kernel_rfl)))) (hcont uu hS (Below.refl _ _))
      refine all_succ ?_ ?_
      rotate_left
      · intro hf oo ho act uu hS hB hd hold KK hcont
        obtain rfl := Option.some.inj ho
        exact wp_of_exec (exec_load rfl (hold 9 (notDst (by kernel_rfl))) (hS.at_ 1 _ _ rfl)) (hcont uu hS (Below.refl _ _))
      exact all_zero
    · intro i hi ty z hf; cases hf
    · intro ρ u hF
      have e0 : ρ 0 = Tb.tv (Tb.halves (fun F G => F ||| G) f a) := hF.val 0 (by omega) (by kernel_rfl) rfl
      have e1 : ρ 1 = .int .u8 ((b : Nat) : Int) := hF.val 1 (by omega) (by kernel_rfl) rfl
      have e2 : ρ 2 = Tb.tv (Tb.halves (fun F G => F ||| G) (Tb.halves (fun F G => F ||| G) f a) b) := hF.val 2 (by omega) (by kernel_rfl) rfl
      have e3 : ρ 3 = Tb.tv f := hF.val 3 (by omega) (by kernel_rfl) rfl
      have e4 : ρ 4 = .int .u8 ((a : Nat) : Int) := hF.val 4 (by omega) (by kernel_rfl) rfl
      have e5 : ρ 5 = .int .u8 ((b : Nat) : Int) := hF.val 5 (by omega) (by kernel_rfl) rfl
      have e6 : ρ 6 = .int .u8 (((a ||| b) : Nat) : Int) := hF.val 6 (by omega) (by kernel_rfl) rfl
      have e7 : ρ 7 = Tb.tv (Tb.halves (fun F G => F ||| G) f (a ||| b)) := hF.val 7 (by omega) (by kernel_rfl) rfl
      have e8 : ρ 8 = .bool true := hF.val 8 (by omega) (by kernel_rfl) rfl
      have e9 : ρ 9 = .bool true := hF.val 9 (by omega) (by kernel_rfl) rfl
      have e10 : ρ 10 = Tb.tv (Tb.halves (fun F G => F &&& G) f a) := hF.val 10 (by omega) (by kernel_rfl) rfl
      have e11 : ρ 11 = .int .u8 ((b : Nat) : Int) := hF.val 11 (by omega) (by kernel_rfl) rfl
      have e12 : ρ 12 = Tb.tv (Tb.halves (fun F G => F &&& G) (Tb.halves (fun F G => F &&& G) f a) b) := hF.val 12 (by omega) (by kernel_rfl) rfl
      have e13 : ρ 13 = Tb.tv f := hF.val 13 (by omega) (by kernel_rfl) rfl
      have e14 : ρ 14 = .int .u8 ((a : Nat) : Int) := hF.val 14 (by omega) (by kernel_rfl) rfl
      have e15 : ρ 15 = .int .u8 ((b : Nat) : Int) := hF.val 15 (by omega) (by kernel_rfl) rfl
      have e16 : ρ 16 = .int .u8 (((a ||| b) : Nat) : Int) := hF.val 16 (by omega) (by kernel_rfl) rfl
      have e17 : ρ 17 = Tb.tv (Tb.halves (fun F G => F &&& G) f (a ||| b)) := hF.val 17 (by omega) (by kernel_rfl) rfl
      have e18 : ρ 18 = .bool true := hF.val 18 (by omega) (by kernel_rfl) rfl
      have e19 : ρ 19 = .bool true := hF.val 19 (by omega) (by kernel_rfl) rfl
      have e20 : ρ 20 = .bool true := hF.val 20 (by omega) (by kernel_rfl) rfl
      have e21 : ρ 21 = Tb.tv f := hF.val 21 (by omega) (by kernel_rfl) rfl
      have e22 : ρ 22 = Tb.tv (Tb.halves (fun F G => F ||| G) f a) := hF.val 22 (by omega) (by kernel_rfl) rfl
      have e23 : ρ 23 = Tb.tv (f ||| (Tb.halves (fun F G => F ||| G) f a)) := hF.val 23 (by omega) (by kernel_rfl) rfl
      have e24 : ρ 24 = Tb.tv (Tb.halves (fun F G => F ||| G) f a) := hF.val 24 (by omega) (by kernel_rfl) rfl
      have e25 : ρ 25 = .bool true := hF.val 25 (by omega) (by kernel_rfl) rfl
      have e26 : ρ 26 = .bool true := hF.val 26 (by omega) (by kernel_rfl) rfl
      have e27 : ρ 27 = .bool true := hF.val 27 (by omega) (by kernel_rfl) rfl
      have e28 : ρ 28 = Tb.tv f := hF.val 28 (by omega) (by kernel_rfl) rfl
      have e29 : ρ 29 = Tb.tv (Tb.halves (fun F G => F &&& G) f a) := hF.val 29 (by omega) (by kernel_rfl) rfl
      have e30 : ρ 30 = Tb.tv (f &&& (Tb.halves (fun F G => F &&& G) f a)) := hF.val 30 (by omega) (by kernel_rfl) rfl
      have e31 : ρ 31 = Tb.tv (Tb.halves (fun F G => F &&& G) f a) := hF.val 31 (by omega) (by kernel_rfl) rfl
      have e32 : ρ 32 = .bool true := hF.val 32 (by omega) (by kernel_rfl) rfl
      have e33 : ρ 33 = .bool true := hF.val 33 (by omega) (by kernel_rfl) rfl
      have e34 : ρ 34 = .bool true := hF.val 34 (by omega) (by kernel_rfl) rfl
      have e35 : ρ 35 = Tb.tv (Tb.halves (fun F G => F ||| G) f a) := hF.val 35 (by omega) (by kernel_rfl) rfl
      have e36 : ρ 36 = .int .u8 (((Tb.support (Tb.halves (fun F G => F ||| G) f a)) : Nat) : Int) := hF.val 36 (by omega) (by kernel_rfl) rfl
      have e37 : ρ 37 = .int .u8 ((a : Nat) : Int) := hF.val 37 (by omega) (by kernel_rfl) rfl
      have e38 : ρ 38 = .int .u8 ((((Tb.support (Tb.halves (fun F G => F ||| G) f a)) &&& a) : Nat) : Int) := hF.val 38 (by omega) (by kernel_rfl) rfl
      have e39 : ρ 39 = .bool true := hF.val 39 (by omega) (by kernel_rfl) rfl
      have e40 : ρ 40 = .bool true := hF.val 40 (by omega) (by kernel_rfl) rfl
      have e41 : ρ 41 = .bool true := hF.val 41 (by omega) (by kernel_rfl) rfl
      have e42 : ρ 42 = Tb.tv (Tb.halves (fun F G => F &&& G) f a) := hF.val 42 (by omega) (by kernel_rfl) rfl
      have e43 : ρ 43 = .int .u8 (((Tb.support (Tb.halves (fun F G => F &&& G) f a)) : Nat) : Int) := hF.val 43 (by omega) (by kernel_rfl) rfl
      have e44 : ρ 44 = .int .u8 ((a : Nat) : Int) := hF.val 44 (by omega) (by kernel_rfl) rfl
      have e45 : ρ 45 = .int .u8 ((((Tb.support (Tb.halves (fun F G => F &&& G) f a)) &&& a) : Nat) : Int) := hF.val 45 (by omega) (by kernel_rfl) rfl
      have e46 : ρ 46 = .bool true := hF.val 46 (by omega) (by kernel_rfl) rfl
      have e47 : ρ 47 = .bool true := hF.val 47 (by omega) (by kernel_rfl) rfl
      have e48 : ρ 48 = .bool true := hF.val 48 (by omega) (by kernel_rfl) rfl
      have e49 : ρ 49 = Tb.tv (Tb.restrict f a v) := hF.val 49 (by omega) (by kernel_rfl) rfl
      have e50 : ρ 50 = .int .u8 (((Tb.support (Tb.restrict f a v)) : Nat) : Int) := hF.val 50 (by omega) (by kernel_rfl) rfl
      have e51 : ρ 51 = .int .u8 ((a : Nat) : Int) := hF.val 51 (by omega) (by kernel_rfl) rfl
      have e52 : ρ 52 = .int .u8 ((((Tb.support (Tb.restrict f a v)) &&& a) : Nat) : Int) := hF.val 52 (by omega) (by kernel_rfl) rfl
      have e53 : ρ 53 = .bool true := hF.val 53 (by omega) (by kernel_rfl) rfl
      have e54 : ρ 54 = .bool true := hF.val 54 (by omega) (by kernel_rfl) rfl
      have e55 : ρ 55 = .bool true := hF.val 55 (by omega) (by kernel_rfl) rfl
      have e56 : ρ 56 = Tb.tv (Tb.restrict f a v) := hF.val 56 (by omega) (by kernel_rfl) rfl
      have e57 : ρ 57 = Tb.tv (Tb.halves (fun F G => F ||| G) f a) := hF.val 57 (by omega) (by kernel_rfl) rfl
      have e58 : ρ 58 = Tb.tv ((Tb.restrict f a v) &&& (Tb.halves (fun F G => F ||| G) f a)) := hF.val 58 (by omega) (by kernel_rfl) rfl
      have e59 : ρ 59 = Tb.tv (Tb.restrict f a v) := hF.val 59 (by omega) (by kernel_rfl) rfl
      have e60 : ρ 60 = .bool true := hF.val 60 (by omega) (by kernel_rfl) rfl
      have e61 : ρ 61 = .bool true := hF.val 61 (by omega) (by kernel_rfl) rfl
      have e62 : ρ 62 = .bool true := hF.val 62 (by omega) (by kernel_rfl) rfl
      have e63 : ρ 63 = Tb.tv (Tb.restrict f a v) := hF.val 63 (by omega) (by kernel_rfl) rfl
      have e64 : ρ 64 = Tb.tv (Tb.halves (fun F G => F &&& G) f a) := hF.val 64 (by omega) (by kernel_rfl) rfl
      have e65 : ρ 65 = Tb.tv ((Tb.restrict f a v) ||| (Tb.halves (fun F G => F &&& G) f a)) := hF.val 65 (by omega) (by kernel_rfl) rfl
      have e66 : ρ 66 = Tb.tv (Tb.restrict f a v) := hF.val 66 (by omega) (by kernel_rfl) rfl
      have e67 : ρ 67 = .bool true := hF.val 67 (by omega) (by kernel_rfl) rfl
      have e68 : ρ 68 = .bool true := hF.val 68 (by omega) (by kernel_rfl) rfl
      have e69 : ρ 69 = .bool true := hF.val 69 (by omega) (by kernel_rfl) rfl
      have e70 : ρ 70 = Tb.tv (Tb.restrict f a v) := hF.val 70 (by omega) (by kernel_rfl) rfl
      have e71 : ρ 71 = .int .u8 ((b : Nat) : Int) := hF.val 71 (by omega) (by kernel_rfl) rfl
      have e72 : ρ 72 = .int .u8 ((a : Nat) : Int) := hF.val 72 (by omega) (by kernel_rfl) rfl
      have e73 : ρ 73 = .int .u8 (((b &&& (255 - a)) : Nat) : Int) := hF.val 73 (by omega) (by kernel_rfl) rfl
      have e74 : ρ 74 = .int .u8 ((v : Nat) : Int) := hF.val 74 (by omega) (by kernel_rfl) rfl
      have e75 : ρ 75 = Tb.tv (Tb.restrict (Tb.restrict f a v) (b &&& (255 - a)) v) := hF.val 75 (by omega) (by kernel_rfl) rfl
      have e76 : ρ 76 = Tb.tv f := hF.val 76 (by omega) (by kernel_rfl) rfl
      have e77 : ρ 77 = .int .u8 ((a : Nat) : Int) := hF.val 77 (by omega) (by kernel_rfl) rfl
      have e78 : ρ 78 = .int .u8 ((b : Nat) : Int) := hF.val 78 (by omega) (by kernel_rfl) rfl
      have e79 : ρ 79 = .int .u8 (((a ||| b) : Nat) : Int) := hF.val 79 (by omega) (by kernel_rfl) rfl
      have e80 : ρ 80 = .int .u8 ((v : Nat) : Int) := hF.val 80 (by omega) (by kernel_rfl) rfl
      have e81 : ρ 81 = Tb.tv (Tb.restrict f (a ||| b) v) := hF.val 81 (by omega) (by kernel_rfl) rfl
      have e82 : ρ 82 = .bool true := hF.val 82 (by omega) (by kernel_rfl) rfl
      have e83 : ρ 83 = .bool true := hF.val 83 (by omega) (by kernel_rfl) rfl
      have k0 := hF.s_
      simp only [puts, dstOf, e0, e1, e2, e3, e4, e5, e6, e7, e8, e9, e10, e11, e12, e13, e14, e15, e16, e17, e18, e19, e20, e21, e22, e23, e24, e25, e26, e27, e28, e29, e30, e31, e32, e33, e34, e35, e36, e37, e38, e39, e40, e41, e42, e43, e44, e45, e46, e47, e48, e49, e50, e51, e52, e53, e54, e55, e56, e57, e58, e59, e60, e61, e62, e63, e64, e65, e66, e67, e68, e69, e70, e71, e72, e73, e74, e75, e76, e77, e78, e79, e80, e81, e82, e83]
      go_wp2_with fail
      go_ret
      exact ⟨rfl, k0.below⟩
end Go.Proofs.YtfkefgelceaimaaDoor
