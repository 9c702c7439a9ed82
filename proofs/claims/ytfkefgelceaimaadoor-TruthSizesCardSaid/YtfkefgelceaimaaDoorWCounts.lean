/-
  The walk of the law TruthCounts.
-/
import Derived.Test.YtfkefgelceaimaaDoorRefJ
namespace Go.Proofs.YtfkefgelceaimaaDoor
set_option linter.unusedVariables false
open Go.RowKit
theorem IntsVal.shape {w : World} {v : Value} {vs : List Int} (h : IntsVal w v vs) : ∃ p cap, v = .slice p vs.length cap := by
  rcases h with ⟨rfl, rfl⟩ | ⟨g, off, cap, rfl, _⟩
  · exact ⟨none, 0, rfl⟩
  · exact ⟨_, cap, rfl⟩
theorem IntsVal.below {w w' : World} {v : Value} {vs : List Int} (h : IntsVal w v vs) (hb : Below w.heap.size w w') : IntsVal w' v vs := by
  rcases h with ⟨rfl, rfl⟩ | ⟨g, off, cap, rfl, h1, hc⟩
  · exact .inl ⟨rfl, rfl⟩
  · exact .inr ⟨g, off, cap, rfl, h1, fun j x hj => by rw [hb.cell (block_lt_of_cell (hc j x hj))]; exact hc j x hj⟩

theorem sizeIs_size (fs : List Tb.T) (vs : List Int) : SizeIs fs vs (Tb.size fs vs) := by
  unfold Tb.size
  exact ⟨⟨_, Tb.nodup_dedup, rfl, fun F => by rw [Tb.mem_dedup, List.mem_filter, List.mem_flatMap]; simp only [Tb.mem_cofs, Bool.and_eq_true, decide_eq_true_eq]⟩⟩
set_option maxRecDepth 100000 in
set_option maxHeartbeats 8000000 in
theorem counts_walk (f : Tb.T) (fs : List Tb.T) (p : Option Addr) (capl : Nat) (vv : Value) (vs : List Int) (w : World) (hF : TabsAt w p fs) (hp : IntsVal w vv vs) (hT : TabAt w) (hG : 0 < w.heap.size) :
    Calls Tryd.prog 3 #[Tb.tv f, .slice p fs.length capl, vv] w fun e w' => e = .returned (.bool true) ∧ Below w.heap.size w w' := by
  obtain ⟨pv, capv, rfl⟩ := hp.shape
  have hK := (Keep.nil w).new f
  simp only [List.nil_append] at hK
  have hT3 : TabAt (w.alloc (.cells (Tb.tcells f) 24)) := hT.keep hK.below hG
  have hKn := known3_any _ hT3 (by simp)
  by_cases h4 : fs.length > 4
  · have q1 : (fs.length : Int) > 4 := by omega
    go_enter Tryd.func3, Tryd.ntmps3
    go_wp2_with fail
    refine hKn.mono ?_
    rintro e w5 ⟨rfl, b5⟩
    have hb := (hK.step b5).below
    clear hK hKn b5
    go_wp2_with fail
    go_ret
    exact ⟨rfl, hb⟩
  · have q1 : ¬ (fs.length : Int) > 4 := by omega
    by_cases h10 : vs.length > 10
    · have q2 : (vs.length : Int) > 10 := by omega
      go_enter Tryd.func3, Tryd.ntmps3
      go_wp2_with fail
      refine hKn.mono ?_
      rintro e w5 ⟨rfl, b5⟩
      have hb := (hK.step b5).below
      clear hK hKn b5
      go_wp2_with fail
      go_ret
      exact ⟨rfl, hb⟩
    · have q2 : ¬ (vs.length : Int) > 10 := by omega
      have HO := Bx.mk (fun w hT hG => one_any f w hT hG)
      have HR := Bx.mk (fun w => rone_any f w)
      go_enter Tryd.func3, Tryd.ntmps3
      go_wp2_with fail
      refine hKn.mono ?_
      rintro e w5 ⟨rfl, b5⟩
      replace hK := hK.step b5
      clear hKn b5
      obtain ⟨⟨a0, a1, a2, a3⟩, c0, c1, c2, c3⟩ := tfacts (hK.at_ 0 _ _ rfl)
      go_wp2_with fail
      refine (HO.out _ (hT.keep hK.below hG) (by have := hK.below.size; omega)).mono ?_
      rintro e w6 ⟨rfl, b6⟩
      replace hK := hK.step b6
      clear b6 a0 a1 a2 a3 c0 c1 c2 c3
      obtain ⟨⟨a0, a1, a2, a3⟩, c0, c1, c2, c3⟩ := tfacts (hK.at_ 0 _ _ rfl)
      go_wp2_with fail
      refine (HR.out _).mono ?_
      rintro e w7 ⟨rfl, b7⟩
      replace hK := hK.step b7
      clear b7 a0 a1 a2 a3 c0 c1 c2 c3
      have hn := sizeIs_size fs vs
      generalize Tb.size fs vs = n at hn
      generalize hx : (((Tb.one f).getD 0 : Nat)) = x
      generalize hi : (Tb.one f).isSome = is
      go_upto_region 7 with fail
      -- truth.Size
      -- spinneyref3.Size
      -- counts
      refine region_float [5, 12, 17, 22] 31 (fun i => ([Tb.tv f, .int .i64 (((Tb.cnt f) : Nat) : Int), Tb.tv f, .int .i64 (((Tb.cnt f) : Nat) : Int), .bool true, .bool true, Tb.tv f, .int .u8 (((Tb.support f) : Nat) : Int), Tb.tv f, .int .u8 (((Tb.support f) : Nat) : Int), .bool true, .bool true, .bool true, .int .u8 ((x : Nat) : Int), .int .u8 ((x : Nat) : Int), .bool true, .bool true, .bool true, .bool is, .bool is, .bool true, .bool true, .bool true, (.slice p fs.length capl), (.slice pv vs.length capv), .int .i64 ((n : Nat) : Int), (.slice p fs.length capl), (.slice pv vs.length capv), .int .i64 ((n : Nat) : Int), .bool true, .bool true] : List Value).getD i undef) (fun _ => none) (fun u => Keep w u [(w.heap.size, f)]) _ (by kernel_rfl) (by kernel_rfl) (by intro g hg; simp only [List.mem_cons, List.not_mem_nil, or_false] at hg; rcases hg with rfl | rfl | rfl | rfl <;> exact ⟨rfl, rfl⟩) hK.drew (Nat.le_refl _) (fun _ o h => h.alloc o) ?_ ?_ ?_
      · iterate 1 skip
        refine all_succ ?_ ?_
        rotate_left
        · intro hf oo hoper act uu hS hB hd hold KK hcont
          obtain rfl := Option.some.inj hoper
          exact wp_of_exec (exec_pick rfl (hd 22 53 (by kernel_rfl) rfl rfl) (hd 29 60 (by kernel_rfl) rfl rfl)) (hcont uu hS (Below.refl _ _))
        refine all_succ ?_ ?_
        rotate_left
        · intro hf oo hoper act uu hS hB hd hold KK hcont
          obtain rfl := Option.some.inj hoper
          have h1 : act.eval ((Operand.tmp 56)) = .int .i64 ((n : Nat) : Int) := (hd 25 56 (by kernel_rfl) rfl rfl)
          have h2 : act.eval ((Operand.tmp 59)) = .int .i64 ((n : Nat) : Int) := (hd 28 59 (by kernel_rfl) rfl rfl)
          have h3 : (binOp BinOp.eql 3 (.int .i64 ((n : Nat) : Int)) (.int .i64 ((n : Nat) : Int))).run Tryd.prog uu = .ok (.bool true) uu := (bin_eqN1 rfl _ _)
          exact wp_of_exec (exec_bin rfl h1 h2 (guard_int _ _) h3) (hcont uu hS (Below.refl _ _))
        refine all_succ ?_ ?_
        rotate_left
        · intro hf oo hoper act uu hS hB hd hold KK hcont
          obtain rfl := Option.some.inj hoper
          have h57 : act.tmps.getD 57 undef = (.slice p fs.length capl) := (hd 26 57 (by kernel_rfl) rfl rfl)
          have h58 : act.tmps.getD 58 undef = (.slice pv vs.length capv) := (hd 27 58 (by kernel_rfl) rfl rfl)
          go_simp
          refine (rsize_same fs p capl (.slice pv vs.length capv) vs _ n hn (hF.below hS.below) (by omega) (hp.below hS.below)).mono ?_
          rintro e u' ⟨rfl, hb⟩
          exact hcont _ (hS.step hb) hb
        refine all_succ ?_ ?_
        rotate_left
        · intro hf oo hoper act uu hS hB hd hold KK hcont
          obtain rfl := Option.some.inj hoper
          exact wp_of_exec (exec_move rfl (hold 2 (notDst (by kernel_rfl)))) (hcont uu hS (Below.refl _ _))
        refine all_succ ?_ ?_
        rotate_left
        · intro hf oo hoper act uu hS hB hd hold KK hcont
          obtain rfl := Option.some.inj hoper
          exact wp_of_exec (exec_move rfl (hold 1 (notDst (by kernel_rfl)))) (hcont uu hS (Below.refl _ _))
        refine all_succ ?_ ?_
        rotate_left
        · intro hf oo hoper act uu hS hB hd hold KK hcont
          obtain rfl := Option.some.inj hoper
          have h54 : act.tmps.getD 54 undef = (.slice p fs.length capl) := (hd 23 54 (by kernel_rfl) rfl rfl)
          have h55 : act.tmps.getD 55 undef = (.slice pv vs.length capv) := (hd 24 55 (by kernel_rfl) rfl rfl)
          go_simp
          refine (size_same fs p capl (.slice pv vs.length capv) vs _ n hn (hF.below hS.below) (by omega) (hp.below hS.below)).mono ?_
          rintro e u' ⟨rfl, hb⟩
          exact hcont _ (hS.step hb) hb
        refine all_succ ?_ ?_
        rotate_left
        · intro hf oo hoper act uu hS hB hd hold KK hcont
          obtain rfl := Option.some.inj hoper
          exact wp_of_exec (exec_move rfl (hold 2 (notDst (by kernel_rfl)))) (hcont uu hS (Below.refl _ _))
        refine all_succ ?_ ?_
        rotate_left
        · intro hf oo hoper act uu hS hB hd hold KK hcont
          obtain rfl := Option.some.inj hoper
          exact wp_of_exec (exec_move rfl (hold 1 (notDst (by kernel_rfl)))) (hcont uu hS (Below.refl _ _))
        refine all_succ ?_ ?_
        rotate_left
        · intro hf oo hoper act uu hS hB hd hold KK hcont
          obtain rfl := Option.some.inj hoper
          exact wp_of_exec (exec_move rfl (hd 21 52 (by kernel_rfl) rfl rfl)) (hcont uu hS (Below.refl _ _))
        refine all_succ ?_ ?_
        rotate_left
        · intro hf oo hoper act uu hS hB hd hold KK hcont
          obtain rfl := Option.some.inj hoper
          exact wp_of_exec (exec_pick rfl (hd 17 48 (by kernel_rfl) rfl rfl) (hd 20 51 (by kernel_rfl) rfl rfl)) (hcont uu hS (Below.refl _ _))
        refine all_succ ?_ ?_
        rotate_left
        · intro hf oo hoper act uu hS hB hd hold KK hcont
          obtain rfl := Option.some.inj hoper
          have h1 : act.eval ((Operand.tmp 49)) = .bool is := (hd 18 49 (by kernel_rfl) rfl rfl)
          have h2 : act.eval ((Operand.tmp 50)) = .bool is := (hd 19 50 (by kernel_rfl) rfl rfl)
          have h3 : (binOp BinOp.eql 4 (.bool is) (.bool is)).run Tryd.prog uu = .ok (.bool true) uu := (bin_eqB1 rfl _)
          exact wp_of_exec (exec_bin rfl h1 h2 (guard_bool _ _) h3) (hcont uu hS (Below.refl _ _))
        refine all_succ ?_ ?_
        rotate_left
        · intro hf oo hoper act uu hS hB hd hold KK hcont
          obtain rfl := Option.some.inj hoper
          exact wp_of_exec (exec_move rfl (hold 10 (notDst (by kernel_rfl)))) (hcont uu hS (Below.refl _ _))
        refine all_succ ?_ ?_
        rotate_left
        · intro hf oo hoper act uu hS hB hd hold KK hcont
          obtain rfl := Option.some.inj hoper
          exact wp_of_exec (exec_move rfl (hold 8 (notDst (by kernel_rfl)))) (hcont uu hS (Below.refl _ _))
        refine all_succ ?_ ?_
        rotate_left
        · intro hf oo hoper act uu hS hB hd hold KK hcont
          obtain rfl := Option.some.inj hoper
          exact wp_of_exec (exec_move rfl (hd 16 47 (by kernel_rfl) rfl rfl)) (hcont uu hS (Below.refl _ _))
        refine all_succ ?_ ?_
        rotate_left
        · intro hf oo hoper act uu hS hB hd hold KK hcont
          obtain rfl := Option.some.inj hoper
          exact wp_of_exec (exec_pick rfl (hd 12 43 (by kernel_rfl) rfl rfl) (hd 15 46 (by kernel_rfl) rfl rfl)) (hcont uu hS (Below.refl _ _))
        refine all_succ ?_ ?_
        rotate_left
        · intro hf oo hoper act uu hS hB hd hold KK hcont
          obtain rfl := Option.some.inj hoper
          have h1 : act.eval ((Operand.tmp 44)) = .int .u8 ((x : Nat) : Int) := (hd 13 44 (by kernel_rfl) rfl rfl)
          have h2 : act.eval ((Operand.tmp 45)) = .int .u8 ((x : Nat) : Int) := (hd 14 45 (by kernel_rfl) rfl rfl)
          have h3 : (binOp BinOp.eql 5 (.int .u8 ((x : Nat) : Int)) (.int .u8 ((x : Nat) : Int))).run Tryd.prog uu = .ok (.bool true) uu := (bin_eqN1 rfl _ _)
          exact wp_of_exec (exec_bin rfl h1 h2 (guard_int _ _) h3) (hcont uu hS (Below.refl _ _))
        refine all_succ ?_ ?_
        rotate_left
        · intro hf oo hoper act uu hS hB hd hold KK hcont
          obtain rfl := Option.some.inj hoper
          exact wp_of_exec (exec_move rfl (hold 9 (notDst (by kernel_rfl)))) (hcont uu hS (Below.refl _ _))
        refine all_succ ?_ ?_
        rotate_left
        · intro hf oo hoper act uu hS hB hd hold KK hcont
          obtain rfl := Option.some.inj hoper
          exact wp_of_exec (exec_move rfl (hold 7 (notDst (by kernel_rfl)))) (hcont uu hS (Below.refl _ _))
        refine all_succ ?_ ?_
        rotate_left
        · intro hf oo hoper act uu hS hB hd hold KK hcont
          obtain rfl := Option.some.inj hoper
          exact wp_of_exec (exec_move rfl (hd 11 42 (by kernel_rfl) rfl rfl)) (hcont uu hS (Below.refl _ _))
        refine all_succ ?_ ?_
        rotate_left
        · intro hf oo hoper act uu hS hB hd hold KK hcont
          obtain rfl := Option.some.inj hoper
          exact wp_of_exec (exec_pick rfl (hd 5 36 (by kernel_rfl) rfl rfl) (hd 10 41 (by kernel_rfl) rfl rfl)) (hcont uu hS (Below.refl _ _))
        refine all_succ ?_ ?_
        rotate_left
        · intro hf oo hoper act uu hS hB hd hold KK hcont
          obtain rfl := Option.some.inj hoper
          have h1 : act.eval ((Operand.tmp 38)) = .int .u8 (((Tb.support f) : Nat) : Int) := (hd 7 38 (by kernel_rfl) rfl rfl)
          have h2 : act.eval ((Operand.tmp 40)) = .int .u8 (((Tb.support f) : Nat) : Int) := (hd 9 40 (by kernel_rfl) rfl rfl)
          have h3 : (binOp BinOp.eql 5 (.int .u8 (((Tb.support f) : Nat) : Int)) (.int .u8 (((Tb.support f) : Nat) : Int))).run Tryd.prog uu = .ok (.bool true) uu := (bin_eqN1 rfl _ _)
          exact wp_of_exec (exec_bin rfl h1 h2 (guard_int _ _) h3) (hcont uu hS (Below.refl _ _))
        refine all_succ ?_ ?_
        rotate_left
        · intro hf oo hoper act uu hS hB hd hold KK hcont
          obtain rfl := Option.some.inj hoper
          have h39 : act.tmps.getD 39 undef = Tb.tv f := (hd 8 39 (by kernel_rfl) rfl rfl)
          go_simp
          refine (rsupport_any f _).mono ?_
          rintro e u' ⟨rfl, hb⟩
          exact hcont _ (hS.step hb) hb
        refine all_succ ?_ ?_
        rotate_left
        · intro hf oo hoper act uu hS hB hd hold KK hcont
          obtain rfl := Option.some.inj hoper
          exact wp_of_exec (exec_load rfl (hold 3 (notDst (by kernel_rfl))) (hS.at_ 0 _ _ rfl)) (hcont uu hS (Below.refl _ _))
        refine all_succ ?_ ?_
        rotate_left
        · intro hf oo hoper act uu hS hB hd hold KK hcont
          obtain rfl := Option.some.inj hoper
          have h37 : act.tmps.getD 37 undef = Tb.tv f := (hd 6 37 (by kernel_rfl) rfl rfl)
          go_simp
          refine (support_any f _).mono ?_
          rintro e u' ⟨rfl, hb⟩
          exact hcont _ (hS.step hb) hb
        refine all_succ ?_ ?_
        rotate_left
        · intro hf oo hoper act uu hS hB hd hold KK hcont
          obtain rfl := Option.some.inj hoper
          exact wp_of_exec (exec_load rfl (hold 3 (notDst (by kernel_rfl))) (hS.at_ 0 _ _ rfl)) (hcont uu hS (Below.refl _ _))
        refine all_succ ?_ ?_
        rotate_left
        · intro hf oo hoper act uu hS hB hd hold KK hcont
          obtain rfl := Option.some.inj hoper
          exact wp_of_exec (exec_move rfl (hd 4 35 (by kernel_rfl) rfl rfl)) (hcont uu hS (Below.refl _ _))
        refine all_succ ?_ ?_
        rotate_left
        · intro hf oo hoper act uu hS hB hd hold KK hcont
          obtain rfl := Option.some.inj hoper
          have h1 : act.eval ((Operand.tmp 32)) = .int .i64 (((Tb.cnt f) : Nat) : Int) := (hd 1 32 (by kernel_rfl) rfl rfl)
          have h2 : act.eval ((Operand.tmp 34)) = .int .i64 (((Tb.cnt f) : Nat) : Int) := (hd 3 34 (by kernel_rfl) rfl rfl)
          have h3 : (binOp BinOp.eql 3 (.int .i64 (((Tb.cnt f) : Nat) : Int)) (.int .i64 (((Tb.cnt f) : Nat) : Int))).run Tryd.prog uu = .ok (.bool true) uu := (bin_eqN1 rfl _ _)
          exact wp_of_exec (exec_bin rfl h1 h2 (guard_int _ _) h3) (hcont uu hS (Below.refl _ _))
        refine all_succ ?_ ?_
        rotate_left
        · intro hf oo hoper act uu hS hB hd hold KK hcont
          obtain rfl := Option.some.inj hoper
          have h33 : act.tmps.getD 33 undef = Tb.tv f := (hd 2 33 (by kernel_rfl) rfl rfl)
          go_simp
          refine (rcount_any f _).mono ?_
          rintro e u' ⟨rfl, hb⟩
          exact hcont _ (hS.step hb) hb
        refine all_succ ?_ ?_
        rotate_left
        · intro hf oo hoper act uu hS hB hd hold KK hcont
          obtain rfl := Option.some.inj hoper
          exact wp_of_exec (exec_load rfl (hold 3 (notDst (by kernel_rfl))) (hS.at_ 0 _ _ rfl)) (hcont uu hS (Below.refl _ _))
        refine all_succ ?_ ?_
        rotate_left
        · intro hf oo hoper act uu hS hB hd hold KK hcont
          obtain rfl := Option.some.inj hoper
          have h31 : act.tmps.getD 31 undef = Tb.tv f := (hd 0 31 (by kernel_rfl) rfl rfl)
          go_simp
          refine (count_any f _).mono ?_
          rintro e u' ⟨rfl, hb⟩
          exact hcont _ (hS.step hb) hb
        refine all_succ ?_ ?_
        rotate_left
        · intro hf oo hoper act uu hS hB hd hold KK hcont
          obtain rfl := Option.some.inj hoper
          exact wp_of_exec (exec_load rfl (hold 3 (notDst (by kernel_rfl))) (hS.at_ 0 _ _ rfl)) (hcont uu hS (Below.refl _ _))
        exact all_zero
      · intro i hi ty z hf; cases hf
      · intro ρ u hF
        have e0 : ρ 0 = Tb.tv f := hF.val 0 (by omega) (by kernel_rfl) rfl
        have e1 : ρ 1 = .int .i64 (((Tb.cnt f) : Nat) : Int) := hF.val 1 (by omega) (by kernel_rfl) rfl
        have e2 : ρ 2 = Tb.tv f := hF.val 2 (by omega) (by kernel_rfl) rfl
        have e3 : ρ 3 = .int .i64 (((Tb.cnt f) : Nat) : Int) := hF.val 3 (by omega) (by kernel_rfl) rfl
        have e4 : ρ 4 = .bool true := hF.val 4 (by omega) (by kernel_rfl) rfl
        have e5 : ρ 5 = .bool true := hF.val 5 (by omega) (by kernel_rfl) rfl
        have e6 : ρ 6 = Tb.tv f := hF.val 6 (by omega) (by kernel_rfl) rfl
        have e7 : ρ 7 = .int .u8 (((Tb.support f) : Nat) : Int) := hF.val 7 (by omega) (by kernel_rfl) rfl
        have e8 : ρ 8 = Tb.tv f := hF.val 8 (by omega) (by kernel_rfl) rfl
        have e9 : ρ 9 = .int .u8 (((Tb.support f) : Nat) : Int) := hF.val 9 (by omega) (by kernel_rfl) rfl
        have e10 : ρ 10 = .bool true := hF.val 10 (by omega) (by kernel_rfl) rfl
        have e11 : ρ 11 = .bool true := hF.val 11 (by omega) (by kernel_rfl) rfl
        have e12 : ρ 12 = .bool true := hF.val 12 (by omega) (by kernel_rfl) rfl
        have e13 : ρ 13 = .int .u8 ((x : Nat) : Int) := hF.val 13 (by omega) (by kernel_rfl) rfl
        have e14 : ρ 14 = .int .u8 ((x : Nat) : Int) := hF.val 14 (by omega) (by kernel_rfl) rfl
        have e15 : ρ 15 = .bool true := hF.val 15 (by omega) (by kernel_rfl) rfl
        have e16 : ρ 16 = .bool true := hF.val 16 (by omega) (by kernel_rfl) rfl
        have e17 : ρ 17 = .bool true := hF.val 17 (by omega) (by kernel_rfl) rfl
        have e18 : ρ 18 = .bool is := hF.val 18 (by omega) (by kernel_rfl) rfl
        have e19 : ρ 19 = .bool is := hF.val 19 (by omega) (by kernel_rfl) rfl
        have e20 : ρ 20 = .bool true := hF.val 20 (by omega) (by kernel_rfl) rfl
        have e21 : ρ 21 = .bool true := hF.val 21 (by omega) (by kernel_rfl) rfl
        have e22 : ρ 22 = .bool true := hF.val 22 (by omega) (by kernel_rfl) rfl
        have e23 : ρ 23 = (.slice p fs.length capl) := hF.val 23 (by omega) (by kernel_rfl) rfl
        have e24 : ρ 24 = (.slice pv vs.length capv) := hF.val 24 (by omega) (by kernel_rfl) rfl
        have e25 : ρ 25 = .int .i64 ((n : Nat) : Int) := hF.val 25 (by omega) (by kernel_rfl) rfl
        have e26 : ρ 26 = (.slice p fs.length capl) := hF.val 26 (by omega) (by kernel_rfl) rfl
        have e27 : ρ 27 = (.slice pv vs.length capv) := hF.val 27 (by omega) (by kernel_rfl) rfl
        have e28 : ρ 28 = .int .i64 ((n : Nat) : Int) := hF.val 28 (by omega) (by kernel_rfl) rfl
        have e29 : ρ 29 = .bool true := hF.val 29 (by omega) (by kernel_rfl) rfl
        have e30 : ρ 30 = .bool true := hF.val 30 (by omega) (by kernel_rfl) rfl
        have k0 := hF.s_
        simp only [puts, dstOf, e0, e1, e2, e3, e4, e5, e6, e7, e8, e9, e10, e11, e12, e13, e14, e15, e16, e17, e18, e19, e20, e21, e22, e23, e24, e25, e26, e27, e28, e29, e30]
        go_wp2_with fail
        go_ret
        exact ⟨rfl, k0.below⟩
end Go.Proofs.YtfkefgelceaimaaDoor
