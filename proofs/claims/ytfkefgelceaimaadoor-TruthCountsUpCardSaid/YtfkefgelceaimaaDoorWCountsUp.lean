/-
  The walk of the law TruthCountsUp.
-/
import Derived.Test.YtfkefgelceaimaaDoorLaw2
import Derived.Test.YtfkefgelceaimaaDoorCntPlain
namespace Go.Proofs.YtfkefgelceaimaaDoor
set_option linter.unusedVariables false
open Go.RowKit

set_option maxRecDepth 100000 in
set_option maxHeartbeats 20000000 in
theorem countsUp_walk (f g : Tb.T) (v k : Nat) (hv : v < 256) (hk : k < 8) (hvk : v % 8 = k) (w : World) (hT : TabAt w) (hG : 0 < w.heap.size) :
    Calls Tryd.prog 4 #[Tb.tv f, Tb.tv g, .int .u8 (v : Int)] w fun e w' => e = .returned (.bool true) ∧ Below w.heap.size w w' := by
  have hK := ((Keep.nil w).new f).new g
  have hT3 : TabAt ((w.alloc (.cells (Tb.tcells f) 24)).alloc (.cells (Tb.tcells g) 24)) := hT.keep hK.below hG
  have hKn := known3_any _ hT3 (by simp)
  go_enter Tryd.func4, Tryd.ntmps4
  go_wp2_with fail
  refine hKn.mono ?_
  rintro e w5 ⟨rfl, b5⟩
  replace hK : Keep w w5 _ := hK.step b5
  simp at hK
  have h8 : (v : Int) % 8 = (k : Int) := by omega
  go_wp2_with fail
  -- countsup
  refine region_float [] 12 (fun i => ([Tb.tv f, .int .i64 ((k : Nat) : Int), Tb.tv (Tb.var ((k : Nat) : Int)), Tb.tv (f &&& (Tb.var ((k : Nat) : Int))), .int .i64 (((Tb.cnt (f &&& (Tb.var ((k : Nat) : Int)))) : Nat) : Int), Tb.tv f, .int .i64 ((k : Nat) : Int), Tb.tv (Tb.var ((k : Nat) : Int)), Tb.tv (~~~(Tb.var ((k : Nat) : Int))), Tb.tv (f &&& (~~~(Tb.var ((k : Nat) : Int)))), .int .i64 (((Tb.cnt (f &&& (~~~(Tb.var ((k : Nat) : Int))))) : Nat) : Int), .int .i64 ((((Tb.cnt (f &&& (Tb.var ((k : Nat) : Int)))) + (Tb.cnt (f &&& (~~~(Tb.var ((k : Nat) : Int)))))) : Nat) : Int)] : List Value).getD i undef) (fun _ => none) (fun u => Keep w u [(w.heap.size, f), ((w.heap.size + 1), g)]) _ (by kernel_rfl) (by kernel_rfl) (by simp) hK.drew (Nat.le_refl _) (fun _ o h => h.alloc o) ?_ ?_ ?_
  · iterate 1 skip
    refine all_succ ?_ ?_
    rotate_left
    · intro hf oo ho act uu hS hB hd hold KK hcont
      obtain rfl := Option.some.inj ho
      have h1 : act.eval ((Operand.tmp 18)) = .int .i64 (((Tb.cnt (f &&& (Tb.var ((k : Nat) : Int)))) : Nat) : Int) := (hd 4 18 (by kernel_rfl) rfl rfl)
      have h2 : act.eval ((Operand.tmp 24)) = .int .i64 (((Tb.cnt (f &&& (~~~(Tb.var ((k : Nat) : Int))))) : Nat) : Int) := (hd 10 24 (by kernel_rfl) rfl rfl)
      have h3 : (binOp BinOp.add 3 (.int .i64 (((Tb.cnt (f &&& (Tb.var ((k : Nat) : Int)))) : Nat) : Int)) (.int .i64 (((Tb.cnt (f &&& (~~~(Tb.var ((k : Nat) : Int))))) : Nat) : Int))).run Tryd.prog uu = .ok (.int .i64 ((((Tb.cnt (f &&& (Tb.var ((k : Nat) : Int)))) + (Tb.cnt (f &&& (~~~(Tb.var ((k : Nat) : Int)))))) : Nat) : Int)) uu := (bin_add64 (Nat.lt_of_le_of_lt (Tb.cnt_le _) (by decide)) (Nat.lt_of_le_of_lt (Tb.cnt_le _) (by decide)) _ _)
      exact wp_of_exec (exec_bin rfl h1 h2 (guard_int _ _) h3) (hcont uu hS (Below.refl _ _))
    refine all_succ ?_ ?_
    rotate_left
    · intro hf oo ho act uu hS hB hd hold KK hcont
      obtain rfl := Option.some.inj ho
      have h23 : act.tmps.getD 23 undef = Tb.tv (f &&& (~~~(Tb.var ((k : Nat) : Int)))) := (hd 9 23 (by kernel_rfl) rfl rfl)
      go_simp
      refine (count_any (f &&& (~~~(Tb.var ((k : Nat) : Int)))) _).mono ?_
      rintro e u' ⟨rfl, hb⟩
      exact hcont _ (hS.step hb) hb
    refine all_succ ?_ ?_
    rotate_left
    · intro hf oo ho act uu hS hB hd hold KK hcont
      obtain rfl := Option.some.inj ho
      have h19 : act.tmps.getD 19 undef = Tb.tv f := (hd 5 19 (by kernel_rfl) rfl rfl)
      have h22 : act.tmps.getD 22 undef = Tb.tv (~~~(Tb.var ((k : Nat) : Int))) := (hd 8 22 (by kernel_rfl) rfl rfl)
      go_simp
      refine (and_any f (~~~(Tb.var ((k : Nat) : Int))) _).mono ?_
      rintro e u' ⟨rfl, hb⟩
      exact hcont _ (hS.step hb) hb
    refine all_succ ?_ ?_
    rotate_left
    · intro hf oo ho act uu hS hB hd hold KK hcont
      obtain rfl := Option.some.inj ho
      have h21 : act.tmps.getD 21 undef = Tb.tv (Tb.var ((k : Nat) : Int)) := (hd 7 21 (by kernel_rfl) rfl rfl)
      go_simp
      refine (not_any (Tb.var ((k : Nat) : Int)) _).mono ?_
      rintro e u' ⟨rfl, hb⟩
      exact hcont _ (hS.step hb) hb
    refine all_succ ?_ ?_
    rotate_left
    · intro hf oo ho act uu hS hB hd hold KK hcont
      obtain rfl := Option.some.inj ho
      have h20 : act.tmps.getD 20 undef = .int .i64 ((k : Nat) : Int) := (hd 6 20 (by kernel_rfl) rfl rfl)
      go_simp
      refine (var_any ((k : Nat) : Int) _).mono ?_
      rintro e u' ⟨rfl, hb⟩
      exact hcont _ (hS.step hb) hb
    refine all_succ ?_ ?_
    rotate_left
    · intro hf oo ho act uu hS hB hd hold KK hcont
      obtain rfl := Option.some.inj ho
      exact wp_of_exec (exec_move rfl (hold 7 (notDst (by kernel_rfl)))) (hcont uu hS (Below.refl _ _))
    refine all_succ ?_ ?_
    rotate_left
    · intro hf oo ho act uu hS hB hd hold KK hcont
      obtain rfl := Option.some.inj ho
      exact wp_of_exec (exec_load rfl (hold 3 (notDst (by kernel_rfl))) (hS.at_ 0 _ _ rfl)) (hcont uu hS (Below.refl _ _))
    refine all_succ ?_ ?_
    rotate_left
    · intro hf oo ho act uu hS hB hd hold KK hcont
      obtain rfl := Option.some.inj ho
      have h17 : act.tmps.getD 17 undef = Tb.tv (f &&& (Tb.var ((k : Nat) : Int))) := (hd 3 17 (by kernel_rfl) rfl rfl)
      go_simp
      refine (count_any (f &&& (Tb.var ((k : Nat) : Int))) _).mono ?_
      rintro e u' ⟨rfl, hb⟩
      exact hcont _ (hS.step hb) hb
    refine all_succ ?_ ?_
    rotate_left
    · intro hf oo ho act uu hS hB hd hold KK hcont
      obtain rfl := Option.some.inj ho
      have h14 : act.tmps.getD 14 undef = Tb.tv f := (hd 0 14 (by kernel_rfl) rfl rfl)
      have h16 : act.tmps.getD 16 undef = Tb.tv (Tb.var ((k : Nat) : Int)) := (hd 2 16 (by kernel_rfl) rfl rfl)
      go_simp
      refine (and_any f (Tb.var ((k : Nat) : Int)) _).mono ?_
      rintro e u' ⟨rfl, hb⟩
      exact hcont _ (hS.step hb) hb
    refine all_succ ?_ ?_
    rotate_left
    · intro hf oo ho act uu hS hB hd hold KK hcont
      obtain rfl := Option.some.inj ho
      have h15 : act.tmps.getD 15 undef = .int .i64 ((k : Nat) : Int) := (hd 1 15 (by kernel_rfl) rfl rfl)
      go_simp
      refine (var_any ((k : Nat) : Int) _).mono ?_
      rintro e u' ⟨rfl, hb⟩
      exact hcont _ (hS.step hb) hb
    refine all_succ ?_ ?_
    rotate_left
    · intro hf oo ho act uu hS hB hd hold KK hcont
      obtain rfl := Option.some.inj ho
      exact wp_of_exec (exec_move rfl (hold 7 (notDst (by kernel_rfl)))) (hcont uu hS (Below.refl _ _))
    refine all_succ ?_ ?_
    rotate_left
    · intro hf oo ho act uu hS hB hd hold KK hcont
      obtain rfl := Option.some.inj ho
      exact wp_of_exec (exec_load rfl (hold 3 (notDst (by kernel_rfl))) (hS.at_ 0 _ _ rfl)) (hcont uu hS (Below.refl _ _))
    exact all_zero
  · intro i hi ty z hf; cases hf
  · intro ρ u hF
    have e0 : ρ 0 = Tb.tv f := hF.val 0 (by omega) (by kernel_rfl) rfl
    have e1 : ρ 1 = .int .i64 ((k : Nat) : Int) := hF.val 1 (by omega) (by kernel_rfl) rfl
    have e2 : ρ 2 = Tb.tv (Tb.var ((k : Nat) : Int)) := hF.val 2 (by omega) (by kernel_rfl) rfl
    have e3 : ρ 3 = Tb.tv (f &&& (Tb.var ((k : Nat) : Int))) := hF.val 3 (by omega) (by kernel_rfl) rfl
    have e4 : ρ 4 = .int .i64 (((Tb.cnt (f &&& (Tb.var ((k : Nat) : Int)))) : Nat) : Int) := hF.val 4 (by omega) (by kernel_rfl) rfl
    have e5 : ρ 5 = Tb.tv f := hF.val 5 (by omega) (by kernel_rfl) rfl
    have e6 : ρ 6 = .int .i64 ((k : Nat) : Int) := hF.val 6 (by omega) (by kernel_rfl) rfl
    have e7 : ρ 7 = Tb.tv (Tb.var ((k : Nat) : Int)) := hF.val 7 (by omega) (by kernel_rfl) rfl
    have e8 : ρ 8 = Tb.tv (~~~(Tb.var ((k : Nat) : Int))) := hF.val 8 (by omega) (by kernel_rfl) rfl
    have e9 : ρ 9 = Tb.tv (f &&& (~~~(Tb.var ((k : Nat) : Int)))) := hF.val 9 (by omega) (by kernel_rfl) rfl
    have e10 : ρ 10 = .int .i64 (((Tb.cnt (f &&& (~~~(Tb.var ((k : Nat) : Int))))) : Nat) : Int) := hF.val 10 (by omega) (by kernel_rfl) rfl
    have e11 : ρ 11 = .int .i64 ((((Tb.cnt (f &&& (Tb.var ((k : Nat) : Int)))) + (Tb.cnt (f &&& (~~~(Tb.var ((k : Nat) : Int)))))) : Nat) : Int) := hF.val 11 (by omega) (by kernel_rfl) rfl
    have k0 := hF.s_
    simp only [puts, dstOf, e0, e1, e2, e3, e4, e5, e6, e7, e8, e9, e10, e11]
    go_wp2_with fail
    replace k0 : Keep w _ [(w.heap.size, f), ((w.heap.size + 1), g)] := k0
    clear hF
    refine region_float [7, 24, 30, 43] 59 (fun i => ([Tb.tv f, .int .i64 (((Tb.cnt f) : Nat) : Int), Tb.tv f, Tb.tv (~~~f), .int .i64 (((Tb.cnt (~~~f)) : Nat) : Int), .int .i64 ((((Tb.cnt f) + (Tb.cnt (~~~f))) : Nat) : Int), .bool true, .bool true, Tb.tv f, Tb.tv g, Tb.tv (f &&& g), .int .i64 (((Tb.cnt (f &&& g)) : Nat) : Int), Tb.tv f, Tb.tv g, Tb.tv (f ||| g), .int .i64 (((Tb.cnt (f ||| g)) : Nat) : Int), .int .i64 ((((Tb.cnt (f &&& g)) + (Tb.cnt (f ||| g))) : Nat) : Int), Tb.tv f, .int .i64 (((Tb.cnt f) : Nat) : Int), Tb.tv g, .int .i64 (((Tb.cnt g) : Nat) : Int), .int .i64 ((((Tb.cnt f) + (Tb.cnt g)) : Nat) : Int), .bool true, .bool true, .bool true, .int .i64 ((((Tb.cnt (f &&& (Tb.var ((k : Nat) : Int)))) + (Tb.cnt (f &&& (~~~(Tb.var ((k : Nat) : Int)))))) : Nat) : Int), Tb.tv f, .int .i64 (((Tb.cnt f) : Nat) : Int), .bool true, .bool true, .bool true, Tb.tv f, .int .i64 ((k : Nat) : Int), Tb.tv (Tb.fix f ((k : Nat) : Int) true), .int .i64 (((Tb.cnt (Tb.fix f ((k : Nat) : Int) true)) : Nat) : Int), Tb.tv f, .int .i64 ((k : Nat) : Int), Tb.tv (Tb.var ((k : Nat) : Int)), Tb.tv (f &&& (Tb.var ((k : Nat) : Int))), .int .i64 (((Tb.cnt (f &&& (Tb.var ((k : Nat) : Int)))) : Nat) : Int), .int .i64 (((2 * (Tb.cnt (f &&& (Tb.var ((k : Nat) : Int))))) : Nat) : Int), .bool true, .bool true, .bool true, Tb.tv f, .int .u8 (((Tb.support f) : Nat) : Int), .int .i64 ((k : Nat) : Int), .int .u8 ((((Tb.support f) / 2 ^ k) : Nat) : Int), .int .u8 (((((Tb.support f) / 2 ^ k) &&& 1) : Nat) : Int), .bool (decide ((((Tb.support f) / 2 ^ k) &&& 1) = 1)), Tb.tv f, .int .i64 ((k : Nat) : Int), Tb.tv (Tb.fix f ((k : Nat) : Int) true), Tb.tv f, .int .i64 ((k : Nat) : Int), Tb.tv (Tb.fix f ((k : Nat) : Int) false), .bool (decide ((Tb.fix f ((k : Nat) : Int) true) ≠ (Tb.fix f ((k : Nat) : Int) false))), .bool true, .bool true] : List Value).getD i undef) (fun _ => none) (fun u => Keep w u [(w.heap.size, f), ((w.heap.size + 1), g)]) _ (by kernel_rfl) (by kernel_rfl) (by intro g hg; simp only [List.mem_cons, List.not_mem_nil, or_false] at hg; rcases hg with rfl | rfl | rfl | rfl <;> exact ⟨rfl, rfl⟩) k0.drew (Nat.le_refl _) (fun _ o h => h.alloc o) ?_ ?_ ?_
    · iterate 1 skip
      refine all_succ ?_ ?_
      rotate_left
      · intro hf oo ho act uu hS hB hd hold KK hcont
        obtain rfl := Option.some.inj ho
        exact wp_of_exec (exec_pick rfl (hd 43 69 (by kernel_rfl) rfl rfl) (hd 57 83 (by kernel_rfl) rfl rfl)) (hcont uu hS (Below.refl _ _))
      refine all_succ ?_ ?_
      rotate_left
      · intro hf oo ho act uu hS hB hd hold KK hcont
        obtain rfl := Option.some.inj ho
        have h1 : act.eval ((Operand.tmp 75)) = .bool (decide ((((Tb.support f) / 2 ^ k) &&& 1) = 1)) := (hd 49 75 (by kernel_rfl) rfl rfl)
        have h2 : act.eval ((Operand.tmp 82)) = .bool (decide ((Tb.fix f ((k : Nat) : Int) true) ≠ (Tb.fix f ((k : Nat) : Int) false))) := (hd 56 82 (by kernel_rfl) rfl rfl)
        have h3 : (binOp BinOp.eql 4 (.bool (decide ((((Tb.support f) / 2 ^ k) &&& 1) = 1))) (.bool (decide ((Tb.fix f ((k : Nat) : Int) true) ≠ (Tb.fix f ((k : Nat) : Int) false))))).run Tryd.prog uu = .ok (.bool true) uu := (bin_eqB1 (Tb.sup_fix f k hk) _)
        exact wp_of_exec (exec_bin rfl h1 h2 (guard_bool _ _) h3) (hcont uu hS (Below.refl _ _))
      refine all_succ ?_ ?_
      rotate_left
      · intro hf oo ho act uu hS hB hd hold KK hcont
        obtain rfl := Option.some.inj ho
        exact wp_of_exec (exec_neT rfl (hd 52 78 (by kernel_rfl) rfl rfl) (hd 55 81 (by kernel_rfl) rfl rfl)) (hcont uu hS (Below.refl _ _))
      refine all_succ ?_ ?_
      rotate_left
      · intro hf oo ho act uu hS hB hd hold KK hcont
        obtain rfl := Option.some.inj ho
        have h79 : act.tmps.getD 79 undef = Tb.tv f := (hd 53 79 (by kernel_rfl) rfl rfl)
        have h80 : act.tmps.getD 80 undef = .int .i64 ((k : Nat) : Int) := (hd 54 80 (by kernel_rfl) rfl rfl)
        go_simp
        refine (fix_any f ((k : Nat) : Int) false _).mono ?_
        rintro e u' ⟨rfl, hb⟩
        exact hcont _ (hS.step hb) hb
      refine all_succ ?_ ?_
      rotate_left
      · intro hf oo ho act uu hS hB hd hold KK hcont
        obtain rfl := Option.some.inj ho
        exact wp_of_exec (exec_move rfl (hold 7 (notDst (by kernel_rfl)))) (hcont uu hS (Below.refl _ _))
      refine all_succ ?_ ?_
      rotate_left
      · intro hf oo ho act uu hS hB hd hold KK hcont
        obtain rfl := Option.some.inj ho
        exact wp_of_exec (exec_load rfl (hold 3 (notDst (by kernel_rfl))) (hS.at_ 0 _ _ rfl)) (hcont uu hS (Below.refl _ _))
      refine all_succ ?_ ?_
      rotate_left
      · intro hf oo ho act uu hS hB hd hold KK hcont
        obtain rfl := Option.some.inj ho
        have h76 : act.tmps.getD 76 undef = Tb.tv f := (hd 50 76 (by kernel_rfl) rfl rfl)
        have h77 : act.tmps.getD 77 undef = .int .i64 ((k : Nat) : Int) := (hd 51 77 (by kernel_rfl) rfl rfl)
        go_simp
        refine (fix_any f ((k : Nat) : Int) true _).mono ?_
        rintro e u' ⟨rfl, hb⟩
        exact hcont _ (hS.step hb) hb
      refine all_succ ?_ ?_
      rotate_left
      · intro hf oo ho act uu hS hB hd hold KK hcont
        obtain rfl := Option.some.inj ho
        exact wp_of_exec (exec_move rfl (hold 7 (notDst (by kernel_rfl)))) (hcont uu hS (Below.refl _ _))
      refine all_succ ?_ ?_
      rotate_left
      · intro hf oo ho act uu hS hB hd hold KK hcont
        obtain rfl := Option.some.inj ho
        exact wp_of_exec (exec_load rfl (hold 3 (notDst (by kernel_rfl))) (hS.at_ 0 _ _ rfl)) (hcont uu hS (Below.refl _ _))
      refine all_succ ?_ ?_
      rotate_left
      · intro hf oo ho act uu hS hB hd hold KK hcont
        obtain rfl := Option.some.inj ho
        have h1 : act.eval ((Operand.tmp 74)) = .int .u8 (((((Tb.support f) / 2 ^ k) &&& 1) : Nat) : Int) := (hd 48 74 (by kernel_rfl) rfl rfl)
        have h2 : act.eval ((Operand.const (Value.int IntKind.u8 1))) = .int .u8 ((1 : Nat) : Int) := rfl
        have h3 : (binOp BinOp.eql 5 (.int .u8 (((((Tb.support f) / 2 ^ k) &&& 1) : Nat) : Int)) (.int .u8 ((1 : Nat) : Int))).run Tryd.prog uu = .ok (.bool (decide ((((Tb.support f) / 2 ^ k) &&& 1) = 1))) uu := (bin_eqN _ _)
        exact wp_of_exec (exec_bin rfl h1 h2 (guard_int _ _) h3) (hcont uu hS (Below.refl _ _))
      refine all_succ ?_ ?_
      rotate_left
      · intro hf oo ho act uu hS hB hd hold KK hcont
        obtain rfl := Option.some.inj ho
        have h1 : act.eval ((Operand.tmp 73)) = .int .u8 ((((Tb.support f) / 2 ^ k) : Nat) : Int) := (hd 47 73 (by kernel_rfl) rfl rfl)
        have h2 : act.eval ((Operand.const (Value.int IntKind.u8 1))) = .int .u8 ((1 : Nat) : Int) := rfl
        have h3 : (binOp BinOp.and 5 (.int .u8 ((((Tb.support f) / 2 ^ k) : Nat) : Int)) (.int .u8 ((1 : Nat) : Int))).run Tryd.prog uu = .ok (.int .u8 (((((Tb.support f) / 2 ^ k) &&& 1) : Nat) : Int)) uu := (bin_and8 (Nat.lt_of_le_of_lt (Nat.div_le_self _ _) (Tb.support_lt _)) (by decide) _ _)
        exact wp_of_exec (exec_bin rfl h1 h2 (guard_int _ _) h3) (hcont uu hS (Below.refl _ _))
      refine all_succ ?_ ?_
      rotate_left
      · intro hf oo ho act uu hS hB hd hold KK hcont
        obtain rfl := Option.some.inj ho
        have h1 : act.eval ((Operand.tmp 71)) = .int .u8 (((Tb.support f) : Nat) : Int) := (hd 45 71 (by kernel_rfl) rfl rfl)
        have h2 : act.eval ((Operand.tmp 72)) = .int .i64 ((k : Nat) : Int) := (hd 46 72 (by kernel_rfl) rfl rfl)
        have h3 : (binOp BinOp.shr 5 (.int .u8 (((Tb.support f) : Nat) : Int)) (.int .i64 ((k : Nat) : Int))).run Tryd.prog uu = .ok (.int .u8 ((((Tb.support f) / 2 ^ k) : Nat) : Int)) uu := (bin_shr8 (Tb.support_lt _) hk _ _)
        exact wp_of_exec (exec_bin rfl h1 h2 (guard_int _ _) h3) (hcont uu hS (Below.refl _ _))
      refine all_succ ?_ ?_
      rotate_left
      · intro hf oo ho act uu hS hB hd hold KK hcont
        obtain rfl := Option.some.inj ho
        exact wp_of_exec (exec_move rfl (hold 7 (notDst (by kernel_rfl)))) (hcont uu hS (Below.refl _ _))
      refine all_succ ?_ ?_
      rotate_left
      · intro hf oo ho act uu hS hB hd hold KK hcont
        obtain rfl := Option.some.inj ho
        have h70 : act.tmps.getD 70 undef = Tb.tv f := (hd 44 70 (by kernel_rfl) rfl rfl)
        go_simp
        refine (support_any f _).mono ?_
        rintro e u' ⟨rfl, hb⟩
        exact hcont _ (hS.step hb) hb
      refine all_succ ?_ ?_
      rotate_left
      · intro hf oo ho act uu hS hB hd hold KK hcont
        obtain rfl := Option.some.inj ho
        exact wp_of_exec (exec_load rfl (hold 3 (notDst (by kernel_rfl))) (hS.at_ 0 _ _ rfl)) (hcont uu hS (Below.refl _ _))
      refine all_succ ?_ ?_
      rotate_left
      · intro hf oo ho act uu hS hB hd hold KK hcont
        obtain rfl := Option.some.inj ho
        exact wp_of_exec (exec_move rfl (hd 42 68 (by kernel_rfl) rfl rfl)) (hcont uu hS (Below.refl _ _))
      refine all_succ ?_ ?_
      rotate_left
      · intro hf oo ho act uu hS hB hd hold KK hcont
        obtain rfl := Option.some.inj ho
        exact wp_of_exec (exec_pick rfl (hd 30 56 (by kernel_rfl) rfl rfl) (hd 41 67 (by kernel_rfl) rfl rfl)) (hcont uu hS (Below.refl _ _))
      refine all_succ ?_ ?_
      rotate_left
      · intro hf oo ho act uu hS hB hd hold KK hcont
        obtain rfl := Option.some.inj ho
        have h1 : act.eval ((Operand.tmp 60)) = .int .i64 (((Tb.cnt (Tb.fix f ((k : Nat) : Int) true)) : Nat) : Int) := (hd 34 60 (by kernel_rfl) rfl rfl)
        have h2 : act.eval ((Operand.tmp 66)) = .int .i64 (((2 * (Tb.cnt (f &&& (Tb.var ((k : Nat) : Int))))) : Nat) : Int) := (hd 40 66 (by kernel_rfl) rfl rfl)
        have h3 : (binOp BinOp.eql 3 (.int .i64 (((Tb.cnt (Tb.fix f ((k : Nat) : Int) true)) : Nat) : Int)) (.int .i64 (((2 * (Tb.cnt (f &&& (Tb.var ((k : Nat) : Int))))) : Nat) : Int))).run Tryd.prog uu = .ok (.bool true) uu := (bin_eqN1 (Tb.cnt_fix f k hk) _ _)
        exact wp_of_exec (exec_bin rfl h1 h2 (guard_int _ _) h3) (hcont uu hS (Below.refl _ _))
      refine all_succ ?_ ?_
      rotate_left
      · intro hf oo ho act uu hS hB hd hold KK hcont
        obtain rfl := Option.some.inj ho
        have h1 : act.eval ((Operand.const (Value.int IntKind.i64 2))) = .int .i64 ((2 : Nat) : Int) := rfl
        have h2 : act.eval ((Operand.tmp 65)) = .int .i64 (((Tb.cnt (f &&& (Tb.var ((k : Nat) : Int)))) : Nat) : Int) := (hd 39 65 (by kernel_rfl) rfl rfl)
        have h3 : (binOp BinOp.mul 3 (.int .i64 ((2 : Nat) : Int)) (.int .i64 (((Tb.cnt (f &&& (Tb.var ((k : Nat) : Int)))) : Nat) : Int))).run Tryd.prog uu = .ok (.int .i64 (((2 * (Tb.cnt (f &&& (Tb.var ((k : Nat) : Int))))) : Nat) : Int)) uu := (bin_mul64 (by decide) (Nat.lt_of_le_of_lt (Tb.cnt_le _) (by decide)) _ _)
        exact wp_of_exec (exec_bin rfl h1 h2 (guard_int _ _) h3) (hcont uu hS (Below.refl _ _))
      refine all_succ ?_ ?_
      rotate_left
      · intro hf oo ho act uu hS hB hd hold KK hcont
        obtain rfl := Option.some.inj ho
        have h64 : act.tmps.getD 64 undef = Tb.tv (f &&& (Tb.var ((k : Nat) : Int))) := (hd 38 64 (by kernel_rfl) rfl rfl)
        go_simp
        refine (count_any (f &&& (Tb.var ((k : Nat) : Int))) _).mono ?_
        rintro e u' ⟨rfl, hb⟩
        exact hcont _ (hS.step hb) hb
      refine all_succ ?_ ?_
      rotate_left
      · intro hf oo ho act uu hS hB hd hold KK hcont
        obtain rfl := Option.some.inj ho
        have h61 : act.tmps.getD 61 undef = Tb.tv f := (hd 35 61 (by kernel_rfl) rfl rfl)
        have h63 : act.tmps.getD 63 undef = Tb.tv (Tb.var ((k : Nat) : Int)) := (hd 37 63 (by kernel_rfl) rfl rfl)
        go_simp
        refine (and_any f (Tb.var ((k : Nat) : Int)) _).mono ?_
        rintro e u' ⟨rfl, hb⟩
        exact hcont _ (hS.step hb) hb
      refine all_succ ?_ ?_
      rotate_left
      · intro hf oo ho act uu hS hB hd hold KK hcont
        obtain rfl := Option.some.inj ho
        have h62 : act.tmps.getD 62 undef = .int .i64 ((k : Nat) : Int) := (hd 36 62 (by kernel_rfl) rfl rfl)
        go_simp
        refine (var_any ((k : Nat) : Int) _).mono ?_
        rintro e u' ⟨rfl, hb⟩
        exact hcont _ (hS.step hb) hb
      refine all_succ ?_ ?_
      rotate_left
      · intro hf oo ho act uu hS hB hd hold KK hcont
        obtain rfl := Option.some.inj ho
        exact wp_of_exec (exec_move rfl (hold 7 (notDst (by kernel_rfl)))) (hcont uu hS (Below.refl _ _))
      refine all_succ ?_ ?_
      rotate_left
      · intro hf oo ho act uu hS hB hd hold KK hcont
        obtain rfl := Option.some.inj ho
        exact wp_of_exec (exec_load rfl (hold 3 (notDst (by kernel_rfl))) (hS.at_ 0 _ _ rfl)) (hcont uu hS (Below.refl _ _))
      refine all_succ ?_ ?_
      rotate_left
      · intro hf oo ho act uu hS hB hd hold KK hcont
        obtain rfl := Option.some.inj ho
        have h59 : act.tmps.getD 59 undef = Tb.tv (Tb.fix f ((k : Nat) : Int) true) := (hd 33 59 (by kernel_rfl) rfl rfl)
        go_simp
        refine (count_any (Tb.fix f ((k : Nat) : Int) true) _).mono ?_
        rintro e u' ⟨rfl, hb⟩
        exact hcont _ (hS.step hb) hb
      refine all_succ ?_ ?_
      rotate_left
      · intro hf oo ho act uu hS hB hd hold KK hcont
        obtain rfl := Option.some.inj ho
        have h57 : act.tmps.getD 57 undef = Tb.tv f := (hd 31 57 (by kernel_rfl) rfl rfl)
        have h58 : act.tmps.getD 58 undef = .int .i64 ((k : Nat) : Int) := (hd 32 58 (by kernel_rfl) rfl rfl)
        go_simp
        refine (fix_any f ((k : Nat) : Int) true _).mono ?_
        rintro e u' ⟨rfl, hb⟩
        exact hcont _ (hS.step hb) hb
      refine all_succ ?_ ?_
      rotate_left
      · intro hf oo ho act uu hS hB hd hold KK hcont
        obtain rfl := Option.some.inj ho
        exact wp_of_exec (exec_move rfl (hold 7 (notDst (by kernel_rfl)))) (hcont uu hS (Below.refl _ _))
      refine all_succ ?_ ?_
      rotate_left
      · intro hf oo ho act uu hS hB hd hold KK hcont
        obtain rfl := Option.some.inj ho
        exact wp_of_exec (exec_load rfl (hold 3 (notDst (by kernel_rfl))) (hS.at_ 0 _ _ rfl)) (hcont uu hS (Below.refl _ _))
      refine all_succ ?_ ?_
      rotate_left
      · intro hf oo ho act uu hS hB hd hold KK hcont
        obtain rfl := Option.some.inj ho
        exact wp_of_exec (exec_move rfl (hd 29 55 (by kernel_rfl) rfl rfl)) (hcont uu hS (Below.refl _ _))
      refine all_succ ?_ ?_
      rotate_left
      · intro hf oo ho act uu hS hB hd hold KK hcont
        obtain rfl := Option.some.inj ho
        exact wp_of_exec (exec_pick rfl (hd 24 50 (by kernel_rfl) rfl rfl) (hd 28 54 (by kernel_rfl) rfl rfl)) (hcont uu hS (Below.refl _ _))
      refine all_succ ?_ ?_
      rotate_left
      · intro hf oo ho act uu hS hB hd hold KK hcont
        obtain rfl := Option.some.inj ho
        have h1 : act.eval ((Operand.tmp 51)) = .int .i64 ((((Tb.cnt (f &&& (Tb.var ((k : Nat) : Int)))) + (Tb.cnt (f &&& (~~~(Tb.var ((k : Nat) : Int)))))) : Nat) : Int) := (hd 25 51 (by kernel_rfl) rfl rfl)
        have h2 : act.eval ((Operand.tmp 53)) = .int .i64 (((Tb.cnt f) : Nat) : Int) := (hd 27 53 (by kernel_rfl) rfl rfl)
        have h3 : (binOp BinOp.eql 3 (.int .i64 ((((Tb.cnt (f &&& (Tb.var ((k : Nat) : Int)))) + (Tb.cnt (f &&& (~~~(Tb.var ((k : Nat) : Int)))))) : Nat) : Int)) (.int .i64 (((Tb.cnt f) : Nat) : Int))).run Tryd.prog uu = .ok (.bool true) uu := (bin_eqN1 (Tb.cnt_half f (Tb.var ((k : Nat) : Int))) _ _)
        exact wp_of_exec (exec_bin rfl h1 h2 (guard_int _ _) h3) (hcont uu hS (Below.refl _ _))
      refine all_succ ?_ ?_
      rotate_left
      · intro hf oo ho act uu hS hB hd hold KK hcont
        obtain rfl := Option.some.inj ho
        have h52 : act.tmps.getD 52 undef = Tb.tv f := (hd 26 52 (by kernel_rfl) rfl rfl)
        go_simp
        refine (count_any f _).mono ?_
        rintro e u' ⟨rfl, hb⟩
        exact hcont _ (hS.step hb) hb
      refine all_succ ?_ ?_
      rotate_left
      · intro hf oo ho act uu hS hB hd hold KK hcont
        obtain rfl := Option.some.inj ho
        exact wp_of_exec (exec_load rfl (hold 3 (notDst (by kernel_rfl))) (hS.at_ 0 _ _ rfl)) (hcont uu hS (Below.refl _ _))
      refine all_succ ?_ ?_
      rotate_left
      · intro hf oo ho act uu hS hB hd hold KK hcont
        obtain rfl := Option.some.inj ho
        exact wp_of_exec (exec_move rfl (hold 8 (notDst (by kernel_rfl)))) (hcont uu hS (Below.refl _ _))
      refine all_succ ?_ ?_
      rotate_left
      · intro hf oo ho act uu hS hB hd hold KK hcont
        obtain rfl := Option.some.inj ho
        exact wp_of_exec (exec_move rfl (hd 23 49 (by kernel_rfl) rfl rfl)) (hcont uu hS (Below.refl _ _))
      refine all_succ ?_ ?_
      rotate_left
      · intro hf oo ho act uu hS hB hd hold KK hcont
        obtain rfl := Option.some.inj ho
        exact wp_of_exec (exec_pick rfl (hd 7 33 (by kernel_rfl) rfl rfl) (hd 22 48 (by kernel_rfl) rfl rfl)) (hcont uu hS (Below.refl _ _))
      refine all_succ ?_ ?_
      rotate_left
      · intro hf oo ho act uu hS hB hd hold KK hcont
        obtain rfl := Option.some.inj ho
        have h1 : act.eval ((Operand.tmp 42)) = .int .i64 ((((Tb.cnt (f &&& g)) + (Tb.cnt (f ||| g))) : Nat) : Int) := (hd 16 42 (by kernel_rfl) rfl rfl)
        have h2 : act.eval ((Operand.tmp 47)) = .int .i64 ((((Tb.cnt f) + (Tb.cnt g)) : Nat) : Int) := (hd 21 47 (by kernel_rfl) rfl rfl)
        have h3 : (binOp BinOp.eql 3 (.int .i64 ((((Tb.cnt (f &&& g)) + (Tb.cnt (f ||| g))) : Nat) : Int)) (.int .i64 ((((Tb.cnt f) + (Tb.cnt g)) : Nat) : Int))).run Tryd.prog uu = .ok (.bool true) uu := (bin_eqN1 (Tb.cnt_two f g) _ _)
        exact wp_of_exec (exec_bin rfl h1 h2 (guard_int _ _) h3) (hcont uu hS (Below.refl _ _))
      refine all_succ ?_ ?_
      rotate_left
      · intro hf oo ho act uu hS hB hd hold KK hcont
        obtain rfl := Option.some.inj ho
        have h1 : act.eval ((Operand.tmp 44)) = .int .i64 (((Tb.cnt f) : Nat) : Int) := (hd 18 44 (by kernel_rfl) rfl rfl)
        have h2 : act.eval ((Operand.tmp 46)) = .int .i64 (((Tb.cnt g) : Nat) : Int) := (hd 20 46 (by kernel_rfl) rfl rfl)
        have h3 : (binOp BinOp.add 3 (.int .i64 (((Tb.cnt f) : Nat) : Int)) (.int .i64 (((Tb.cnt g) : Nat) : Int))).run Tryd.prog uu = .ok (.int .i64 ((((Tb.cnt f) + (Tb.cnt g)) : Nat) : Int)) uu := (bin_add64 (Nat.lt_of_le_of_lt (Tb.cnt_le _) (by decide)) (Nat.lt_of_le_of_lt (Tb.cnt_le _) (by decide)) _ _)
        exact wp_of_exec (exec_bin rfl h1 h2 (guard_int _ _) h3) (hcont uu hS (Below.refl _ _))
      refine all_succ ?_ ?_
      rotate_left
      · intro hf oo ho act uu hS hB hd hold KK hcont
        obtain rfl := Option.some.inj ho
        have h45 : act.tmps.getD 45 undef = Tb.tv g := (hd 19 45 (by kernel_rfl) rfl rfl)
        go_simp
        refine (count_any g _).mono ?_
        rintro e u' ⟨rfl, hb⟩
        exact hcont _ (hS.step hb) hb
      refine all_succ ?_ ?_
      rotate_left
      · intro hf oo ho act uu hS hB hd hold KK hcont
        obtain rfl := Option.some.inj ho
        exact wp_of_exec (exec_load rfl (hold 4 (notDst (by kernel_rfl))) (hS.at_ 1 _ _ rfl)) (hcont uu hS (Below.refl _ _))
      refine all_succ ?_ ?_
      rotate_left
      · intro hf oo ho act uu hS hB hd hold KK hcont
        obtain rfl := Option.some.inj ho
        have h43 : act.tmps.getD 43 undef = Tb.tv f := (hd 17 43 (by kernel_rfl) rfl rfl)
        go_simp
        refine (count_any f _).mono ?_
        rintro e u' ⟨rfl, hb⟩
        exact hcont _ (hS.step hb) hb
      refine all_succ ?_ ?_
      rotate_left
      · intro hf oo ho act uu hS hB hd hold KK hcont
        obtain rfl := Option.some.inj ho
        exact wp_of_exec (exec_load rfl (hold 3 (notDst (by kernel_rfl))) (hS.at_ 0 _ _ rfl)) (hcont uu hS (Below.refl _ _))
      refine all_succ ?_ ?_
      rotate_left
      · intro hf oo ho act uu hS hB hd hold KK hcont
        obtain rfl := Option.some.inj ho
        have h1 : act.eval ((Operand.tmp 37)) = .int .i64 (((Tb.cnt (f &&& g)) : Nat) : Int) := (hd 11 37 (by kernel_rfl) rfl rfl)
        have h2 : act.eval ((Operand.tmp 41)) = .int .i64 (((Tb.cnt (f ||| g)) : Nat) : Int) := (hd 15 41 (by kernel_rfl) rfl rfl)
        have h3 : (binOp BinOp.add 3 (.int .i64 (((Tb.cnt (f &&& g)) : Nat) : Int)) (.int .i64 (((Tb.cnt (f ||| g)) : Nat) : Int))).run Tryd.prog uu = .ok (.int .i64 ((((Tb.cnt (f &&& g)) + (Tb.cnt (f ||| g))) : Nat) : Int)) uu := (bin_add64 (Nat.lt_of_le_of_lt (Tb.cnt_le _) (by decide)) (Nat.lt_of_le_of_lt (Tb.cnt_le _) (by decide)) _ _)
        exact wp_of_exec (exec_bin rfl h1 h2 (guard_int _ _) h3) (hcont uu hS (Below.refl _ _))
      refine all_succ ?_ ?_
      rotate_left
      · intro hf oo ho act uu hS hB hd hold KK hcont
        obtain rfl := Option.some.inj ho
        have h40 : act.tmps.getD 40 undef = Tb.tv (f ||| g) := (hd 14 40 (by kernel_rfl) rfl rfl)
        go_simp
        refine (count_any (f ||| g) _).mono ?_
        rintro e u' ⟨rfl, hb⟩
        exact hcont _ (hS.step hb) hb
      refine all_succ ?_ ?_
      rotate_left
      · intro hf oo ho act uu hS hB hd hold KK hcont
        obtain rfl := Option.some.inj ho
        have h38 : act.tmps.getD 38 undef = Tb.tv f := (hd 12 38 (by kernel_rfl) rfl rfl)
        have h39 : act.tmps.getD 39 undef = Tb.tv g := (hd 13 39 (by kernel_rfl) rfl rfl)
        go_simp
        refine (or_any f g _).mono ?_
        rintro e u' ⟨rfl, hb⟩
        exact hcont _ (hS.step hb) hb
      refine all_succ ?_ ?_
      rotate_left
      · intro hf oo ho act uu hS hB hd hold KK hcont
        obtain rfl := Option.some.inj ho
        exact wp_of_exec (exec_load rfl (hold 4 (notDst (by kernel_rfl))) (hS.at_ 1 _ _ rfl)) (hcont uu hS (Below.refl _ _))
      refine all_succ ?_ ?_
      rotate_left
      · intro hf oo ho act uu hS hB hd hold KK hcont
        obtain rfl := Option.some.inj ho
        exact wp_of_exec (exec_load rfl (hold 3 (notDst (by kernel_rfl))) (hS.at_ 0 _ _ rfl)) (hcont uu hS (Below.refl _ _))
      refine all_succ ?_ ?_
      rotate_left
      · intro hf oo ho act uu hS hB hd hold KK hcont
        obtain rfl := Option.some.inj ho
        have h36 : act.tmps.getD 36 undef = Tb.tv (f &&& g) := (hd 10 36 (by kernel_rfl) rfl rfl)
        go_simp
        refine (count_any (f &&& g) _).mono ?_
        rintro e u' ⟨rfl, hb⟩
        exact hcont _ (hS.step hb) hb
      refine all_succ ?_ ?_
      rotate_left
      · intro hf oo ho act uu hS hB hd hold KK hcont
        obtain rfl := Option.some.inj ho
        have h34 : act.tmps.getD 34 undef = Tb.tv f := (hd 8 34 (by kernel_rfl) rfl rfl)
        have h35 : act.tmps.getD 35 undef = Tb.tv g := (hd 9 35 (by kernel_rfl) rfl rfl)
        go_simp
        refine (and_any f g _).mono ?_
        rintro e u' ⟨rfl, hb⟩
        exact hcont _ (hS.step hb) hb
      refine all_succ ?_ ?_
      rotate_left
      · intro hf oo ho act uu hS hB hd hold KK hcont
        obtain rfl := Option.some.inj ho
        exact wp_of_exec (exec_load rfl (hold 4 (notDst (by kernel_rfl))) (hS.at_ 1 _ _ rfl)) (hcont uu hS (Below.refl _ _))
      refine all_succ ?_ ?_
      rotate_left
      · intro hf oo ho act uu hS hB hd hold KK hcont
        obtain rfl := Option.some.inj ho
        exact wp_of_exec (exec_load rfl (hold 3 (notDst (by kernel_rfl))) (hS.at_ 0 _ _ rfl)) (hcont uu hS (Below.refl _ _))
      refine all_succ ?_ ?_
      rotate_left
      · intro hf oo ho act uu hS hB hd hold KK hcont
        obtain rfl := Option.some.inj ho
        exact wp_of_exec (exec_move rfl (hd 6 32 (by kernel_rfl) rfl rfl)) (hcont uu hS (Below.refl _ _))
      refine all_succ ?_ ?_
      rotate_left
      · intro hf oo ho act uu hS hB hd hold KK hcont
        obtain rfl := Option.some.inj ho
        have h1 : act.eval ((Operand.tmp 31)) = .int .i64 ((((Tb.cnt f) + (Tb.cnt (~~~f))) : Nat) : Int) := (hd 5 31 (by kernel_rfl) rfl rfl)
        have h2 : act.eval ((Operand.const (Value.int IntKind.i64 256))) = .int .i64 ((256 : Nat) : Int) := rfl
        have h3 : (binOp BinOp.eql 3 (.int .i64 ((((Tb.cnt f) + (Tb.cnt (~~~f))) : Nat) : Int)) (.int .i64 ((256 : Nat) : Int))).run Tryd.prog uu = .ok (.bool true) uu := (bin_eqN1 (Tb.cnt_not f) _ _)
        exact wp_of_exec (exec_bin rfl h1 h2 (guard_int _ _) h3) (hcont uu hS (Below.refl _ _))
      refine all_succ ?_ ?_
      rotate_left
      · intro hf oo ho act uu hS hB hd hold KK hcont
        obtain rfl := Option.some.inj ho
        have h1 : act.eval ((Operand.tmp 27)) = .int .i64 (((Tb.cnt f) : Nat) : Int) := (hd 1 27 (by kernel_rfl) rfl rfl)
        have h2 : act.eval ((Operand.tmp 30)) = .int .i64 (((Tb.cnt (~~~f)) : Nat) : Int) := (hd 4 30 (by kernel_rfl) rfl rfl)
        have h3 : (binOp BinOp.add 3 (.int .i64 (((Tb.cnt f) : Nat) : Int)) (.int .i64 (((Tb.cnt (~~~f)) : Nat) : Int))).run Tryd.prog uu = .ok (.int .i64 ((((Tb.cnt f) + (Tb.cnt (~~~f))) : Nat) : Int)) uu := (bin_add64 (Nat.lt_of_le_of_lt (Tb.cnt_le _) (by decide)) (Nat.lt_of_le_of_lt (Tb.cnt_le _) (by decide)) _ _)
        exact wp_of_exec (exec_bin rfl h1 h2 (guard_int _ _) h3) (hcont uu hS (Below.refl _ _))
      refine all_succ ?_ ?_
      rotate_left
      · intro hf oo ho act uu hS hB hd hold KK hcont
        obtain rfl := Option.some.inj ho
        have h29 : act.tmps.getD 29 undef = Tb.tv (~~~f) := (hd 3 29 (by kernel_rfl) rfl rfl)
        go_simp
        refine (count_any (~~~f) _).mono ?_
        rintro e u' ⟨rfl, hb⟩
        exact hcont _ (hS.step hb) hb
      refine all_succ ?_ ?_
      rotate_left
      · intro hf oo ho act uu hS hB hd hold KK hcont
        obtain rfl := Option.some.inj ho
        have h28 : act.tmps.getD 28 undef = Tb.tv f := (hd 2 28 (by kernel_rfl) rfl rfl)
        go_simp
        refine (not_any f _).mono ?_
        rintro e u' ⟨rfl, hb⟩
        exact hcont _ (hS.step hb) hb
      refine all_succ ?_ ?_
      rotate_left
      · intro hf oo ho act uu hS hB hd hold KK hcont
        obtain rfl := Option.some.inj ho
        exact wp_of_exec (exec_load rfl (hold 3 (notDst (by kernel_rfl))) (hS.at_ 0 _ _ rfl)) (hcont uu hS (Below.refl _ _))
      refine all_succ ?_ ?_
      rotate_left
      · intro hf oo ho act uu hS hB hd hold KK hcont
        obtain rfl := Option.some.inj ho
        have h26 : act.tmps.getD 26 undef = Tb.tv f := (hd 0 26 (by kernel_rfl) rfl rfl)
        go_simp
        refine (count_any f _).mono ?_
        rintro e u' ⟨rfl, hb⟩
        exact hcont _ (hS.step hb) hb
      refine all_succ ?_ ?_
      rotate_left
      · intro hf oo ho act uu hS hB hd hold KK hcont
        obtain rfl := Option.some.inj ho
        exact wp_of_exec (exec_load rfl (hold 3 (notDst (by kernel_rfl))) (hS.at_ 0 _ _ rfl)) (hcont uu hS (Below.refl _ _))
      exact all_zero
    · intro i hi ty z hf; cases hf
    · intro ρ u hF
      have e0 : ρ 0 = Tb.tv f := hF.val 0 (by omega) (by kernel_rfl) rfl
      have e1 : ρ 1 = .int .i64 (((Tb.cnt f) : Nat) : Int) := hF.val 1 (by omega) (by kernel_rfl) rfl
      have e2 : ρ 2 = Tb.tv f := hF.val 2 (by omega) (by kernel_rfl) rfl
      have e3 : ρ 3 = Tb.tv (~~~f) := hF.val 3 (by omega) (by kernel_rfl) rfl
      have e4 : ρ 4 = .int .i64 (((Tb.cnt (~~~f)) : Nat) : Int) := hF.val 4 (by omega) (by kernel_rfl) rfl
      have e5 : ρ 5 = .int .i64 ((((Tb.cnt f) + (Tb.cnt (~~~f))) : Nat) : Int) := hF.val 5 (by omega) (by kernel_rfl) rfl
      have e6 : ρ 6 = .bool true := hF.val 6 (by omega) (by kernel_rfl) rfl
      have e7 : ρ 7 = .bool true := hF.val 7 (by omega) (by kernel_rfl) rfl
      have e8 : ρ 8 = Tb.tv f := hF.val 8 (by omega) (by kernel_rfl) rfl
      have e9 : ρ 9 = Tb.tv g := hF.val 9 (by omega) (by kernel_rfl) rfl
      have e10 : ρ 10 = Tb.tv (f &&& g) := hF.val 10 (by omega) (by kernel_rfl) rfl
      have e11 : ρ 11 = .int .i64 (((Tb.cnt (f &&& g)) : Nat) : Int) := hF.val 11 (by omega) (by kernel_rfl) rfl
      have e12 : ρ 12 = Tb.tv f := hF.val 12 (by omega) (by kernel_rfl) rfl
      have e13 : ρ 13 = Tb.tv g := hF.val 13 (by omega) (by kernel_rfl) rfl
      have e14 : ρ 14 = Tb.tv (f ||| g) := hF.val 14 (by omega) (by kernel_rfl) rfl
      have e15 : ρ 15 = .int .i64 (((Tb.cnt (f ||| g)) : Nat) : Int) := hF.val 15 (by omega) (by kernel_rfl) rfl
      have e16 : ρ 16 = .int .i64 ((((Tb.cnt (f &&& g)) + (Tb.cnt (f ||| g))) : Nat) : Int) := hF.val 16 (by omega) (by kernel_rfl) rfl
      have e17 : ρ 17 = Tb.tv f := hF.val 17 (by omega) (by kernel_rfl) rfl
      have e18 : ρ 18 = .int .i64 (((Tb.cnt f) : Nat) : Int) := hF.val 18 (by omega) (by kernel_rfl) rfl
      have e19 : ρ 19 = Tb.tv g := hF.val 19 (by omega) (by kernel_rfl) rfl
      have e20 : ρ 20 = .int .i64 (((Tb.cnt g) : Nat) : Int) := hF.val 20 (by omega) (by kernel_rfl) rfl
      have e21 : ρ 21 = .int .i64 ((((Tb.cnt f) + (Tb.cnt g)) : Nat) : Int) := hF.val 21 (by omega) (by kernel_rfl) rfl
      have e22 : ρ 22 = .bool true := hF.val 22 (by omega) (by kernel_rfl) rfl
      have e23 : ρ 23 = .bool true := hF.val 23 (by omega) (by kernel_rfl) rfl
      have e24 : ρ 24 = .bool true := hF.val 24 (by omega) (by kernel_rfl) rfl
      have e25 : ρ 25 = .int .i64 ((((Tb.cnt (f &&& (Tb.var ((k : Nat) : Int)))) + (Tb.cnt (f &&& (~~~(Tb.var ((k : Nat) : Int)))))) : Nat) : Int) := hF.val 25 (by omega) (by kernel_rfl) rfl
      have e26 : ρ 26 = Tb.tv f := hF.val 26 (by omega) (by kernel_rfl) rfl
      have e27 : ρ 27 = .int .i64 (((Tb.cnt f) : Nat) : Int) := hF.val 27 (by omega) (by kernel_rfl) rfl
      have e28 : ρ 28 = .bool true := hF.val 28 (by omega) (by kernel_rfl) rfl
      have e29 : ρ 29 = .bool true := hF.val 29 (by omega) (by kernel_rfl) rfl
      have e30 : ρ 30 = .bool true := hF.val 30 (by omega) (by kernel_rfl) rfl
      have e31 : ρ 31 = Tb.tv f := hF.val 31 (by omega) (by kernel_rfl) rfl
      have e32 : ρ 32 = .int .i64 ((k : Nat) : Int) := hF.val 32 (by omega) (by kernel_rfl) rfl
      have e33 : ρ 33 = Tb.tv (Tb.fix f ((k : Nat) : Int) true) := hF.val 33 (by omega) (by kernel_rfl) rfl
      have e34 : ρ 34 = .int .i64 (((Tb.cnt (Tb.fix f ((k : Nat) : Int) true)) : Nat) : Int) := hF.val 34 (by omega) (by kernel_rfl) rfl
      have e35 : ρ 35 = Tb.tv f := hF.val 35 (by omega) (by kernel_rfl) rfl
      have e36 : ρ 36 = .int .i64 ((k : Nat) : Int) := hF.val 36 (by omega) (by kernel_rfl) rfl
      have e37 : ρ 37 = Tb.tv (Tb.var ((k : Nat) : Int)) := hF.val 37 (by omega) (by kernel_rfl) rfl
      have e38 : ρ 38 = Tb.tv (f &&& (Tb.var ((k : Nat) : Int))) := hF.val 38 (by omega) (by kernel_rfl) rfl
      have e39 : ρ 39 = .int .i64 (((Tb.cnt (f &&& (Tb.var ((k : Nat) : Int)))) : Nat) : Int) := hF.val 39 (by omega) (by kernel_rfl) rfl
      have e40 : ρ 40 = .int .i64 (((2 * (Tb.cnt (f &&& (Tb.var ((k : Nat) : Int))))) : Nat) : Int) := hF.val 40 (by omega) (by kernel_rfl) rfl
      have e41 : ρ 41 = .bool true := hF.val 41 (by omega) (by kernel_rfl) rfl
      have e42 : ρ 42 = .bool true := hF.val 42 (by omega) (by kernel_rfl) rfl
      have e43 : ρ 43 = .bool true := hF.val 43 (by omega) (by kernel_rfl) rfl
      have e44 : ρ 44 = Tb.tv f := hF.val 44 (by omega) (by kernel_rfl) rfl
      have e45 : ρ 45 = .int .u8 (((Tb.support f) : Nat) : Int) := hF.val 45 (by omega) (by kernel_rfl) rfl
      have e46 : ρ 46 = .int .i64 ((k : Nat) : Int) := hF.val 46 (by omega) (by kernel_rfl) rfl
      have e47 : ρ 47 = .int .u8 ((((Tb.support f) / 2 ^ k) : Nat) : Int) := hF.val 47 (by omega) (by kernel_rfl) rfl
      have e48 : ρ 48 = .int .u8 (((((Tb.support f) / 2 ^ k) &&& 1) : Nat) : Int) := hF.val 48 (by omega) (by kernel_rfl) rfl
      have e49 : ρ 49 = .bool (decide ((((Tb.support f) / 2 ^ k) &&& 1) = 1)) := hF.val 49 (by omega) (by kernel_rfl) rfl
      have e50 : ρ 50 = Tb.tv f := hF.val 50 (by omega) (by kernel_rfl) rfl
      have e51 : ρ 51 = .int .i64 ((k : Nat) : Int) := hF.val 51 (by omega) (by kernel_rfl) rfl
      have e52 : ρ 52 = Tb.tv (Tb.fix f ((k : Nat) : Int) true) := hF.val 52 (by omega) (by kernel_rfl) rfl
      have e53 : ρ 53 = Tb.tv f := hF.val 53 (by omega) (by kernel_rfl) rfl
      have e54 : ρ 54 = .int .i64 ((k : Nat) : Int) := hF.val 54 (by omega) (by kernel_rfl) rfl
      have e55 : ρ 55 = Tb.tv (Tb.fix f ((k : Nat) : Int) false) := hF.val 55 (by omega) (by kernel_rfl) rfl
      have e56 : ρ 56 = .bool (decide ((Tb.fix f ((k : Nat) : Int) true) ≠ (Tb.fix f ((k : Nat) : Int) false))) := hF.val 56 (by omega) (by kernel_rfl) rfl
      have e57 : ρ 57 = .bool true := hF.val 57 (by omega) (by kernel_rfl) rfl
      have e58 : ρ 58 = .bool true := hF.val 58 (by omega) (by kernel_rfl) rfl
      have k0 := hF.s_
      simp only [puts, dstOf, e0, e1, e2, e3, e4, e5, e6, e7, e8, e9, e10, e11, e12, e13, e14, e15, e16, e17, e18, e19, e20, e21, e22, e23, e24, e25, e26, e27, e28, e29, e30, e31, e32, e33, e34, e35, e36, e37, e38, e39, e40, e41, e42, e43, e44, e45, e46, e47, e48, e49, e50, e51, e52, e53, e54, e55, e56, e57, e58]
      go_wp2_with fail
      go_ret
      exact ⟨rfl, k0.below⟩
end Go.Proofs.YtfkefgelceaimaaDoor
