/-
  The walk of the law TruthTells.
-/
import Derived.Test.YtfkefgelceaimaaDoorRefG
namespace Go.Proofs.YtfkefgelceaimaaDoor
set_option linter.unusedVariables false
open Go.RowKit

set_option maxRecDepth 100000 in
set_option maxHeartbeats 20000000 in
theorem tells_walk (f g h : Tb.T) (v : Int) (b : Bool) (m z x : Nat) (hm : m < 256) (hz : z < 256) (hx : x < 256) (w : World) (hT : TabAt w) (hG : 0 < w.heap.size) :
    Calls Tryd.prog 11 #[Tb.tv f, Tb.tv g, Tb.tv h, .int .i64 v, .bool b, .int .u8 (m : Int), .int .u8 (z : Int), .int .u8 (x : Int)] w fun e w' => e = .returned (.bool true) ∧ Below w.heap.size w w' := by
  have hK := (((Keep.nil w).new f).new g).new h
  have hT3 : TabAt (((w.alloc (.cells (Tb.tcells f) 24)).alloc (.cells (Tb.tcells g) 24)).alloc (.cells (Tb.tcells h) 24)) := hT.keep hK.below hG
  have hKn := known3_any _ hT3 (by simp)
  go_enter Tryd.func11, Tryd.ntmps11
  go_wp2_with fail
  refine hKn.mono ?_
  rintro e w5 ⟨rfl, b5⟩
  replace hK : Keep w w5 _ := hK.step b5
  simp at hK
  clear hKn b5 hT3 hT hG
  go_wp2_with fail
  -- tells
  refine region_float [5, 12, 19, 28, 37, 46, 57] 66 (fun i => ([.bool b, Tb.tv (Tb.cst b), .bool b, Tb.tv (Tb.cst b), .bool true, .bool true, .int .i64 v, Tb.tv (Tb.var v), .int .i64 v, Tb.tv (Tb.var v), .bool true, .bool true, .bool true, Tb.tv f, Tb.tv (~~~f), Tb.tv f, Tb.tv (~~~f), .bool true, .bool true, .bool true, Tb.tv f, Tb.tv g, Tb.tv (f &&& g), Tb.tv f, Tb.tv g, Tb.tv (f &&& g), .bool true, .bool true, .bool true, Tb.tv f, Tb.tv g, Tb.tv (f ||| g), Tb.tv f, Tb.tv g, Tb.tv (f ||| g), .bool true, .bool true, .bool true, Tb.tv f, Tb.tv g, Tb.tv (f ^^^ g), Tb.tv f, Tb.tv g, Tb.tv (f ^^^ g), .bool true, .bool true, .bool true, Tb.tv f, Tb.tv g, Tb.tv h, Tb.tv ((f &&& g) ||| (~~~f &&& h)), Tb.tv f, Tb.tv g, Tb.tv h, Tb.tv ((f &&& g) ||| (~~~f &&& h)), .bool true, .bool true, .bool true, Tb.tv f, .int .u8 ((x : Nat) : Int), .bool (f.getLsbD x), Tb.tv f, .int .u8 ((x : Nat) : Int), .bool (f.getLsbD x), .bool true, .bool true] : List Value).getD i undef) (fun _ => none) (fun u => Keep w u [(w.heap.size, f), ((w.heap.size + 1), g), ((w.heap.size + 1 + 1), h)]) _ (by kernel_rfl) (by kernel_rfl) (by intro g hg; simp only [List.mem_cons, List.not_mem_nil, or_false] at hg; rcases hg with rfl | rfl | rfl | rfl | rfl | rfl | rfl <;> exact ⟨rfl, rfl⟩) hK.drew (Nat.le_refl _) (fun _ o h => h.alloc o) ?_ ?_ ?_
  · iterate 1 skip
    refine all_succ ?_ ?_
    rotate_left
    · intro hf oo ho act uu hS hB hd hold KK hcont
      obtain rfl := Option.some.inj ho
      exact wp_of_exec (exec_pick rfl (hd 57 77 (by kernel_rfl) rfl rfl) (hd 64 84 (by kernel_rfl) rfl rfl)) (hcont uu hS (Below.refl _ _))
    refine all_succ ?_ ?_
    rotate_left
    · intro hf oo ho act uu hS hB hd hold KK hcont
      obtain rfl := Option.some.inj ho
      have h1 : act.eval ((Operand.tmp 80)) = .bool (f.getLsbD x) := (hd 60 80 (by kernel_rfl) rfl rfl)
      have h2 : act.eval ((Operand.tmp 83)) = .bool (f.getLsbD x) := (hd 63 83 (by kernel_rfl) rfl rfl)
      have h3 : (binOp BinOp.eql 4 (.bool (f.getLsbD x)) (.bool (f.getLsbD x))).run Tryd.prog uu = .ok (.bool true) uu := (bin_eqB1 rfl _)
      exact wp_of_exec (exec_bin rfl h1 h2 (guard_bool _ _) h3) (hcont uu hS (Below.refl _ _))
    refine all_succ ?_ ?_
    rotate_left
    · intro hf oo ho act uu hS hB hd hold KK hcont
      obtain rfl := Option.some.inj ho
      have h81 : act.tmps.getD 81 undef = Tb.tv f := (hd 61 81 (by kernel_rfl) rfl rfl)
      have h82 : act.tmps.getD 82 undef = .int .u8 ((x : Nat) : Int) := (hd 62 82 (by kernel_rfl) rfl rfl)
      go_simp
      refine (reval_any f x _ hx).mono ?_
      rintro e u' ⟨rfl, hb⟩
      exact hcont _ (hS.step hb) hb
    refine all_succ ?_ ?_
    rotate_left
    · intro hf oo ho act uu hS hB hd hold KK hcont
      obtain rfl := Option.some.inj ho
      exact wp_of_exec (exec_move rfl (hold 7 (notDst (by kernel_rfl)))) (hcont uu hS (Below.refl _ _))
    refine all_succ ?_ ?_
    rotate_left
    · intro hf oo ho act uu hS hB hd hold KK hcont
      obtain rfl := Option.some.inj ho
      exact wp_of_exec (exec_load rfl (hold 8 (notDst (by kernel_rfl))) (hS.at_ 0 _ _ rfl)) (hcont uu hS (Below.refl _ _))
    refine all_succ ?_ ?_
    rotate_left
    · intro hf oo ho act uu hS hB hd hold KK hcont
      obtain rfl := Option.some.inj ho
      have h78 : act.tmps.getD 78 undef = Tb.tv f := (hd 58 78 (by kernel_rfl) rfl rfl)
      have h79 : act.tmps.getD 79 undef = .int .u8 ((x : Nat) : Int) := (hd 59 79 (by kernel_rfl) rfl rfl)
      go_simp
      refine (eval_any f x _ hx).mono ?_
      rintro e u' ⟨rfl, hb⟩
      exact hcont _ (hS.step hb) hb
    refine all_succ ?_ ?_
    rotate_left
    · intro hf oo ho act uu hS hB hd hold KK hcont
      obtain rfl := Option.some.inj ho
      exact wp_of_exec (exec_move rfl (hold 7 (notDst (by kernel_rfl)))) (hcont uu hS (Below.refl _ _))
    refine all_succ ?_ ?_
    rotate_left
    · intro hf oo ho act uu hS hB hd hold KK hcont
      obtain rfl := Option.some.inj ho
      exact wp_of_exec (exec_load rfl (hold 8 (notDst (by kernel_rfl))) (hS.at_ 0 _ _ rfl)) (hcont uu hS (Below.refl _ _))
    refine all_succ ?_ ?_
    rotate_left
    · intro hf oo ho act uu hS hB hd hold KK hcont
      obtain rfl := Option.some.inj ho
      exact wp_of_exec (exec_move rfl (hd 56 76 (by kernel_rfl) rfl rfl)) (hcont uu hS (Below.refl _ _))
    refine all_succ ?_ ?_
    rotate_left
    · intro hf oo ho act uu hS hB hd hold KK hcont
      obtain rfl := Option.some.inj ho
      exact wp_of_exec (exec_pick rfl (hd 46 66 (by kernel_rfl) rfl rfl) (hd 55 75 (by kernel_rfl) rfl rfl)) (hcont uu hS (Below.refl _ _))
    refine all_succ ?_ ?_
    rotate_left
    · intro hf oo ho act uu hS hB hd hold KK hcont
      obtain rfl := Option.some.inj ho
      exact wp_of_exec (exec_eqT rfl (hd 50 70 (by kernel_rfl) rfl rfl) (hd 54 74 (by kernel_rfl) rfl rfl) rfl) (hcont uu hS (Below.refl _ _))
    refine all_succ ?_ ?_
    rotate_left
    · intro hf oo ho act uu hS hB hd hold KK hcont
      obtain rfl := Option.some.inj ho
      have h71 : act.tmps.getD 71 undef = Tb.tv f := (hd 51 71 (by kernel_rfl) rfl rfl)
      have h72 : act.tmps.getD 72 undef = Tb.tv g := (hd 52 72 (by kernel_rfl) rfl rfl)
      have h73 : act.tmps.getD 73 undef = Tb.tv h := (hd 53 73 (by kernel_rfl) rfl rfl)
      go_simp
      refine (rite_any f g h _).mono ?_
      rintro e u' ⟨rfl, hb⟩
      exact hcont _ (hS.step hb) hb
    refine all_succ ?_ ?_
    rotate_left
    · intro hf oo ho act uu hS hB hd hold KK hcont
      obtain rfl := Option.some.inj ho
      exact wp_of_exec (exec_load rfl (hold 10 (notDst (by kernel_rfl))) (hS.at_ 2 _ _ rfl)) (hcont uu hS (Below.refl _ _))
    refine all_succ ?_ ?_
    rotate_left
    · intro hf oo ho act uu hS hB hd hold KK hcont
      obtain rfl := Option.some.inj ho
      exact wp_of_exec (exec_load rfl (hold 9 (notDst (by kernel_rfl))) (hS.at_ 1 _ _ rfl)) (hcont uu hS (Below.refl _ _))
    refine all_succ ?_ ?_
    rotate_left
    · intro hf oo ho act uu hS hB hd hold KK hcont
      obtain rfl := Option.some.inj ho
      exact wp_of_exec (exec_load rfl (hold 8 (notDst (by kernel_rfl))) (hS.at_ 0 _ _ rfl)) (hcont uu hS (Below.refl _ _))
    refine all_succ ?_ ?_
    rotate_left
    · intro hf oo ho act uu hS hB hd hold KK hcont
      obtain rfl := Option.some.inj ho
      have h67 : act.tmps.getD 67 undef = Tb.tv f := (hd 47 67 (by kernel_rfl) rfl rfl)
      have h68 : act.tmps.getD 68 undef = Tb.tv g := (hd 48 68 (by kernel_rfl) rfl rfl)
      have h69 : act.tmps.getD 69 undef = Tb.tv h := (hd 49 69 (by kernel_rfl) rfl rfl)
      go_simp
      refine (ite_any f g h _).mono ?_
      rintro e u' ⟨rfl, hb⟩
      exact hcont _ (hS.step hb) hb
    refine all_succ ?_ ?_
    rotate_left
    · intro hf oo ho act uu hS hB hd hold KK hcont
      obtain rfl := Option.some.inj ho
      exact wp_of_exec (exec_load rfl (hold 10 (notDst (by kernel_rfl))) (hS.at_ 2 _ _ rfl)) (hcont uu hS (Below.refl _ _))
    refine all_succ ?_ ?_
    rotate_left
    · intro hf oo ho act uu hS hB hd hold KK hcont
      obtain rfl := Option.some.inj ho
      exact wp_of_exec (exec_load rfl (hold 9 (notDst (by kernel_rfl))) (hS.at_ 1 _ _ rfl)) (hcont uu hS (Below.refl _ _))
    refine all_succ ?_ ?_
    rotate_left
    · intro hf oo ho act uu hS hB hd hold KK hcont
      obtain rfl := Option.some.inj ho
      exact wp_of_exec (exec_load rfl (hold 8 (notDst (by kernel_rfl))) (hS.at_ 0 _ _ rfl)) (hcont uu hS (Below.refl _ _))
    refine all_succ ?_ ?_
    rotate_left
    · intro hf oo ho act uu hS hB hd hold KK hcont
      obtain rfl := Option.some.inj ho
      exact wp_of_exec (exec_move rfl (hd 45 65 (by kernel_rfl) rfl rfl)) (hcont uu hS (Below.refl _ _))
    refine all_succ ?_ ?_
    rotate_left
    · intro hf oo ho act uu hS hB hd hold KK hcont
      obtain rfl := Option.some.inj ho
      exact wp_of_exec (exec_pick rfl (hd 37 57 (by kernel_rfl) rfl rfl) (hd 44 64 (by kernel_rfl) rfl rfl)) (hcont uu hS (Below.refl _ _))
    refine all_succ ?_ ?_
    rotate_left
    · intro hf oo ho act uu hS hB hd hold KK hcont
      obtain rfl := Option.some.inj ho
      exact wp_of_exec (exec_eqT rfl (hd 40 60 (by kernel_rfl) rfl rfl) (hd 43 63 (by kernel_rfl) rfl rfl) rfl) (hcont uu hS (Below.refl _ _))
    refine all_succ ?_ ?_
    rotate_left
    · intro hf oo ho act uu hS hB hd hold KK hcont
      obtain rfl := Option.some.inj ho
      have h61 : act.tmps.getD 61 undef = Tb.tv f := (hd 41 61 (by kernel_rfl) rfl rfl)
      have h62 : act.tmps.getD 62 undef = Tb.tv g := (hd 42 62 (by kernel_rfl) rfl rfl)
      go_simp
      refine (rxor_any f g _).mono ?_
      rintro e u' ⟨rfl, hb⟩
      exact hcont _ (hS.step hb) hb
    refine all_succ ?_ ?_
    rotate_left
    · intro hf oo ho act uu hS hB hd hold KK hcont
      obtain rfl := Option.some.inj ho
      exact wp_of_exec (exec_load rfl (hold 9 (notDst (by kernel_rfl))) (hS.at_ 1 _ _ rfl)) (hcont uu hS (Below.refl _ _))
    refine all_succ ?_ ?_
    rotate_left
    · intro hf oo ho act uu hS hB hd hold KK hcont
      obtain rfl := Option.some.inj ho
      exact wp_of_exec (exec_load rfl (hold 8 (notDst (by kernel_rfl))) (hS.at_ 0 _ _ rfl)) (hcont uu hS (Below.refl _ _))
    refine all_succ ?_ ?_
    rotate_left
    · intro hf oo ho act uu hS hB hd hold KK hcont
      obtain rfl := Option.some.inj ho
      have h58 : act.tmps.getD 58 undef = Tb.tv f := (hd 38 58 (by kernel_rfl) rfl rfl)
      have h59 : act.tmps.getD 59 undef = Tb.tv g := (hd 39 59 (by kernel_rfl) rfl rfl)
      go_simp
      refine (xor_any f g _).mono ?_
      rintro e u' ⟨rfl, hb⟩
      exact hcont _ (hS.step hb) hb
    refine all_succ ?_ ?_
    rotate_left
    · intro hf oo ho act uu hS hB hd hold KK hcont
      obtain rfl := Option.some.inj ho
      exact wp_of_exec (exec_load rfl (hold 9 (notDst (by kernel_rfl))) (hS.at_ 1 _ _ rfl)) (hcont uu hS (Below.refl _ _))
    refine all_succ ?_ ?_
    rotate_left
    · intro hf oo ho act uu hS hB hd hold KK hcont
      obtain rfl := Option.some.inj ho
      exact wp_of_exec (exec_load rfl (hold 8 (notDst (by kernel_rfl))) (hS.at_ 0 _ _ rfl)) (hcont uu hS (Below.refl _ _))
    refine all_succ ?_ ?_
    rotate_left
    · intro hf oo ho act uu hS hB hd hold KK hcont
      obtain rfl := Option.some.inj ho
      exact wp_of_exec (exec_move rfl (hd 36 56 (by kernel_rfl) rfl rfl)) (hcont uu hS (Below.refl _ _))
    refine all_succ ?_ ?_
    rotate_left
    · intro hf oo ho act uu hS hB hd hold KK hcont
      obtain rfl := Option.some.inj ho
      exact wp_of_exec (exec_pick rfl (hd 28 48 (by kernel_rfl) rfl rfl) (hd 35 55 (by kernel_rfl) rfl rfl)) (hcont uu hS (Below.refl _ _))
    refine all_succ ?_ ?_
    rotate_left
    · intro hf oo ho act uu hS hB hd hold KK hcont
      obtain rfl := Option.some.inj ho
      exact wp_of_exec (exec_eqT rfl (hd 31 51 (by kernel_rfl) rfl rfl) (hd 34 54 (by kernel_rfl) rfl rfl) rfl) (hcont uu hS (Below.refl _ _))
    refine all_succ ?_ ?_
    rotate_left
    · intro hf oo ho act uu hS hB hd hold KK hcont
      obtain rfl := Option.some.inj ho
      have h52 : act.tmps.getD 52 undef = Tb.tv f := (hd 32 52 (by kernel_rfl) rfl rfl)
      have h53 : act.tmps.getD 53 undef = Tb.tv g := (hd 33 53 (by kernel_rfl) rfl rfl)
      go_simp
      refine (ror_any f g _).mono ?_
      rintro e u' ⟨rfl, hb⟩
      exact hcont _ (hS.step hb) hb
    refine all_succ ?_ ?_
    rotate_left
    · intro hf oo ho act uu hS hB hd hold KK hcont
      obtain rfl := Option.some.inj ho
      exact wp_of_exec (exec_load rfl (hold 9 (notDst (by kernel_rfl))) (hS.at_ 1 _ _ rfl)) (hcont uu hS (Below.refl _ _))
    refine all_succ ?_ ?_
    rotate_left
    · intro hf oo ho act uu hS hB hd hold KK hcont
      obtain rfl := Option.some.inj ho
      exact wp_of_exec (exec_load rfl (hold 8 (notDst (by kernel_rfl))) (hS.at_ 0 _ _ rfl)) (hcont uu hS (Below.refl _ _))
    refine all_succ ?_ ?_
    rotate_left
    · intro hf oo ho act uu hS hB hd hold KK hcont
      obtain rfl := Option.some.inj ho
      have h49 : act.tmps.getD 49 undef = Tb.tv f := (hd 29 49 (by kernel_rfl) rfl rfl)
      have h50 : act.tmps.getD 50 undef = Tb.tv g := (hd 30 50 (by kernel_rfl) rfl rfl)
      go_simp
      refine (or_any f g _).mono ?_
      rintro e u' ⟨rfl, hb⟩
      exact hcont _ (hS.step hb) hb
    refine all_succ ?_ ?_
    rotate_left
    · intro hf oo ho act uu hS hB hd hold KK hcont
      obtain rfl := Option.some.inj ho
      exact wp_of_exec (exec_load rfl (hold 9 (notDst (by kernel_rfl))) (hS.at_ 1 _ _ rfl)) (hcont uu hS (Below.refl _ _))
    refine all_succ ?_ ?_
    rotate_left
    · intro hf oo ho act uu hS hB hd hold KK hcont
      obtain rfl := Option.some.inj ho
      exact wp_of_exec (exec_load rfl (hold 8 (notDst (by kernel_rfl))) (hS.at_ 0 _ _ rfl)) (hcont uu hS (Below.refl _ _))
    refine all_succ ?_ ?_
    rotate_left
    · intro hf oo ho act uu hS hB hd hold KK hcont
      obtain rfl := Option.some.inj ho
      exact wp_of_exec (exec_move rfl (hd 27 47 (by kernel_rfl) rfl rfl)) (hcont uu hS (Below.refl _ _))
    refine all_succ ?_ ?_
    rotate_left
    · intro hf oo ho act uu hS hB hd hold KK hcont
      obtain rfl := Option.some.inj ho
      exact wp_of_exec (exec_pick rfl (hd 19 39 (by kernel_rfl) rfl rfl) (hd 26 46 (by kernel_rfl) rfl rfl)) (hcont uu hS (Below.refl _ _))
    refine all_succ ?_ ?_
    rotate_left
    · intro hf oo ho act uu hS hB hd hold KK hcont
      obtain rfl := Option.some.inj ho
      exact wp_of_exec (exec_eqT rfl (hd 22 42 (by kernel_rfl) rfl rfl) (hd 25 45 (by kernel_rfl) rfl rfl) rfl) (hcont uu hS (Below.refl _ _))
    refine all_succ ?_ ?_
    rotate_left
    · intro hf oo ho act uu hS hB hd hold KK hcont
      obtain rfl := Option.some.inj ho
      have h43 : act.tmps.getD 43 undef = Tb.tv f := (hd 23 43 (by kernel_rfl) rfl rfl)
      have h44 : act.tmps.getD 44 undef = Tb.tv g := (hd 24 44 (by kernel_rfl) rfl rfl)
      go_simp
      refine (rand_any f g _).mono ?_
      rintro e u' ⟨rfl, hb⟩
      exact hcont _ (hS.step hb) hb
    refine all_succ ?_ ?_
    rotate_left
    · intro hf oo ho act uu hS hB hd hold KK hcont
      obtain rfl := Option.some.inj ho
      exact wp_of_exec (exec_load rfl (hold 9 (notDst (by kernel_rfl))) (hS.at_ 1 _ _ rfl)) (hcont uu hS (Below.refl _ _))
    refine all_succ ?_ ?_
    rotate_left
    · intro hf oo ho act uu hS hB hd hold KK hcont
      obtain rfl := Option.some.inj ho
      exact wp_of_exec (exec_load rfl (hold 8 (notDst (by kernel_rfl))) (hS.at_ 0 _ _ rfl)) (hcont uu hS (Below.refl _ _))
    refine all_succ ?_ ?_
    rotate_left
    · intro hf oo ho act uu hS hB hd hold KK hcont
      obtain rfl := Option.some.inj ho
      have h40 : act.tmps.getD 40 undef = Tb.tv f := (hd 20 40 (by kernel_rfl) rfl rfl)
      have h41 : act.tmps.getD 41 undef = Tb.tv g := (hd 21 41 (by kernel_rfl) rfl rfl)
      go_simp
      refine (and_any f g _).mono ?_
      rintro e u' ⟨rfl, hb⟩
      exact hcont _ (hS.step hb) hb
    refine all_succ ?_ ?_
    rotate_left
    · intro hf oo ho act uu hS hB hd hold KK hcont
      obtain rfl := Option.some.inj ho
      exact wp_of_exec (exec_load rfl (hold 9 (notDst (by kernel_rfl))) (hS.at_ 1 _ _ rfl)) (hcont uu hS (Below.refl _ _))
    refine all_succ ?_ ?_
    rotate_left
    · intro hf oo ho act uu hS hB hd hold KK hcont
      obtain rfl := Option.some.inj ho
      exact wp_of_exec (exec_load rfl (hold 8 (notDst (by kernel_rfl))) (hS.at_ 0 _ _ rfl)) (hcont uu hS (Below.refl _ _))
    refine all_succ ?_ ?_
    rotate_left
    · intro hf oo ho act uu hS hB hd hold KK hcont
      obtain rfl := Option.some.inj ho
      exact wp_of_exec (exec_move rfl (hd 18 38 (by kernel_rfl) rfl rfl)) (hcont uu hS (Below.refl _ _))
    refine all_succ ?_ ?_
    rotate_left
    · intro hf oo ho act uu hS hB hd hold KK hcont
      obtain rfl := Option.some.inj ho
      exact wp_of_exec (exec_pick rfl (hd 12 32 (by kernel_rfl) rfl rfl) (hd 17 37 (by kernel_rfl) rfl rfl)) (hcont uu hS (Below.refl _ _))
    refine all_succ ?_ ?_
    rotate_left
    · intro hf oo ho act uu hS hB hd hold KK hcont
      obtain rfl := Option.some.inj ho
      exact wp_of_exec (exec_eqT rfl (hd 14 34 (by kernel_rfl) rfl rfl) (hd 16 36 (by kernel_rfl) rfl rfl) rfl) (hcont uu hS (Below.refl _ _))
    refine all_succ ?_ ?_
    rotate_left
    · intro hf oo ho act uu hS hB hd hold KK hcont
      obtain rfl := Option.some.inj ho
      have h35 : act.tmps.getD 35 undef = Tb.tv f := (hd 15 35 (by kernel_rfl) rfl rfl)
      go_simp
      refine (rnot_any f _).mono ?_
      rintro e u' ⟨rfl, hb⟩
      exact hcont _ (hS.step hb) hb
    refine all_succ ?_ ?_
    rotate_left
    · intro hf oo ho act uu hS hB hd hold KK hcont
      obtain rfl := Option.some.inj ho
      exact wp_of_exec (exec_load rfl (hold 8 (notDst (by kernel_rfl))) (hS.at_ 0 _ _ rfl)) (hcont uu hS (Below.refl _ _))
    refine all_succ ?_ ?_
    rotate_left
    · intro hf oo ho act uu hS hB hd hold KK hcont
      obtain rfl := Option.some.inj ho
      have h33 : act.tmps.getD 33 undef = Tb.tv f := (hd 13 33 (by kernel_rfl) rfl rfl)
      go_simp
      refine (not_any f _).mono ?_
      rintro e u' ⟨rfl, hb⟩
      exact hcont _ (hS.step hb) hb
    refine all_succ ?_ ?_
    rotate_left
    · intro hf oo ho act uu hS hB hd hold KK hcont
      obtain rfl := Option.some.inj ho
      exact wp_of_exec (exec_load rfl (hold 8 (notDst (by kernel_rfl))) (hS.at_ 0 _ _ rfl)) (hcont uu hS (Below.refl _ _))
    refine all_succ ?_ ?_
    rotate_left
    · intro hf oo ho act uu hS hB hd hold KK hcont
      obtain rfl := Option.some.inj ho
      exact wp_of_exec (exec_move rfl (hd 11 31 (by kernel_rfl) rfl rfl)) (hcont uu hS (Below.refl _ _))
    refine all_succ ?_ ?_
    rotate_left
    · intro hf oo ho act uu hS hB hd hold KK hcont
      obtain rfl := Option.some.inj ho
      exact wp_of_exec (exec_pick rfl (hd 5 25 (by kernel_rfl) rfl rfl) (hd 10 30 (by kernel_rfl) rfl rfl)) (hcont uu hS (Below.refl _ _))
    refine all_succ ?_ ?_
    rotate_left
    · intro hf oo ho act uu hS hB hd hold KK hcont
      obtain rfl := Option.some.inj ho
      exact wp_of_exec (exec_eqT rfl (hd 7 27 (by kernel_rfl) rfl rfl) (hd 9 29 (by kernel_rfl) rfl rfl) rfl) (hcont uu hS (Below.refl _ _))
    refine all_succ ?_ ?_
    rotate_left
    · intro hf oo ho act uu hS hB hd hold KK hcont
      obtain rfl := Option.some.inj ho
      have h28 : act.tmps.getD 28 undef = .int .i64 v := (hd 8 28 (by kernel_rfl) rfl rfl)
      go_simp
      refine (rvar_any v _).mono ?_
      rintro e u' ⟨rfl, hb⟩
      exact hcont _ (hS.step hb) hb
    refine all_succ ?_ ?_
    rotate_left
    · intro hf oo ho act uu hS hB hd hold KK hcont
      obtain rfl := Option.some.inj ho
      exact wp_of_exec (exec_move rfl (hold 3 (notDst (by kernel_rfl)))) (hcont uu hS (Below.refl _ _))
    refine all_succ ?_ ?_
    rotate_left
    · intro hf oo ho act uu hS hB hd hold KK hcont
      obtain rfl := Option.some.inj ho
      have h26 : act.tmps.getD 26 undef = .int .i64 v := (hd 6 26 (by kernel_rfl) rfl rfl)
      go_simp
      refine (var_any v _).mono ?_
      rintro e u' ⟨rfl, hb⟩
      exact hcont _ (hS.step hb) hb
    refine all_succ ?_ ?_
    rotate_left
    · intro hf oo ho act uu hS hB hd hold KK hcont
      obtain rfl := Option.some.inj ho
      exact wp_of_exec (exec_move rfl (hold 3 (notDst (by kernel_rfl)))) (hcont uu hS (Below.refl _ _))
    refine all_succ ?_ ?_
    rotate_left
    · intro hf oo ho act uu hS hB hd hold KK hcont
      obtain rfl := Option.some.inj ho
      exact wp_of_exec (exec_move rfl (hd 4 24 (by kernel_rfl) rfl rfl)) (hcont uu hS (Below.refl _ _))
    refine all_succ ?_ ?_
    rotate_left
    · intro hf oo ho act uu hS hB hd hold KK hcont
      obtain rfl := Option.some.inj ho
      exact wp_of_exec (exec_eqT rfl (hd 1 21 (by kernel_rfl) rfl rfl) (hd 3 23 (by kernel_rfl) rfl rfl) rfl) (hcont uu hS (Below.refl _ _))
    refine all_succ ?_ ?_
    rotate_left
    · intro hf oo ho act uu hS hB hd hold KK hcont
      obtain rfl := Option.some.inj ho
      have h22 : act.tmps.getD 22 undef = .bool b := (hd 2 22 (by kernel_rfl) rfl rfl)
      go_simp
      refine (rconst_any b _).mono ?_
      rintro e u' ⟨rfl, hb⟩
      exact hcont _ (hS.step hb) hb
    refine all_succ ?_ ?_
    rotate_left
    · intro hf oo ho act uu hS hB hd hold KK hcont
      obtain rfl := Option.some.inj ho
      exact wp_of_exec (exec_move rfl (hold 4 (notDst (by kernel_rfl)))) (hcont uu hS (Below.refl _ _))
    refine all_succ ?_ ?_
    rotate_left
    · intro hf oo ho act uu hS hB hd hold KK hcont
      obtain rfl := Option.some.inj ho
      have h20 : act.tmps.getD 20 undef = .bool b := (hd 0 20 (by kernel_rfl) rfl rfl)
      go_simp
      refine (const_any b _).mono ?_
      rintro e u' ⟨rfl, hb⟩
      exact hcont _ (hS.step hb) hb
    refine all_succ ?_ ?_
    rotate_left
    · intro hf oo ho act uu hS hB hd hold KK hcont
      obtain rfl := Option.some.inj ho
      exact wp_of_exec (exec_move rfl (hold 4 (notDst (by kernel_rfl)))) (hcont uu hS (Below.refl _ _))
    exact all_zero
  · intro i hi ty z hf; cases hf
  · intro ρ u hF
    have e0 : ρ 0 = .bool b := hF.val 0 (by omega) (by kernel_rfl) rfl
    have e1 : ρ 1 = Tb.tv (Tb.cst b) := hF.val 1 (by omega) (by kernel_rfl) rfl
    have e2 : ρ 2 = .bool b := hF.val 2 (by omega) (by kernel_rfl) rfl
    have e3 : ρ 3 = Tb.tv (Tb.cst b) := hF.val 3 (by omega) (by kernel_rfl) rfl
    have e4 : ρ 4 = .bool true := hF.val 4 (by omega) (by kernel_rfl) rfl
    have e5 : ρ 5 = .bool true := hF.val 5 (by omega) (by kernel_rfl) rfl
    have e6 : ρ 6 = .int .i64 v := hF.val 6 (by omega) (by kernel_rfl) rfl
    have e7 : ρ 7 = Tb.tv (Tb.var v) := hF.val 7 (by omega) (by kernel_rfl) rfl
    have e8 : ρ 8 = .int .i64 v := hF.val 8 (by omega) (by kernel_rfl) rfl
    have e9 : ρ 9 = Tb.tv (Tb.var v) := hF.val 9 (by omega) (by kernel_rfl) rfl
    have e10 : ρ 10 = .bool true := hF.val 10 (by omega) (by kernel_rfl) rfl
    have e11 : ρ 11 = .bool true := hF.val 11 (by omega) (by kernel_rfl) rfl
    have e12 : ρ 12 = .bool true := hF.val 12 (by omega) (by kernel_rfl) rfl
    have e13 : ρ 13 = Tb.tv f := hF.val 13 (by omega) (by kernel_rfl) rfl
    have e14 : ρ 14 = Tb.tv (~~~f) := hF.val 14 (by omega) (by kernel_rfl) rfl
    have e15 : ρ 15 = Tb.tv f := hF.val 15 (by omega) (by kernel_rfl) rfl
    have e16 : ρ 16 = Tb.tv (~~~f) := hF.val 16 (by omega) (by kernel_rfl) rfl
    have e17 : ρ 17 = .bool true := hF.val 17 (by omega) (by kernel_rfl) rfl
    have e18 : ρ 18 = .bool true := hF.val 18 (by omega) (by kernel_rfl) rfl
    have e19 : ρ 19 = .bool true := hF.val 19 (by omega) (by kernel_rfl) rfl
    have e20 : ρ 20 = Tb.tv f := hF.val 20 (by omega) (by kernel_rfl) rfl
    have e21 : ρ 21 = Tb.tv g := hF.val 21 (by omega) (by kernel_rfl) rfl
    have e22 : ρ 22 = Tb.tv (f &&& g) := hF.val 22 (by omega) (by kernel_rfl) rfl
    have e23 : ρ 23 = Tb.tv f := hF.val 23 (by omega) (by kernel_rfl) rfl
    have e24 : ρ 24 = Tb.tv g := hF.val 24 (by omega) (by kernel_rfl) rfl
    have e25 : ρ 25 = Tb.tv (f &&& g) := hF.val 25 (by omega) (by kernel_rfl) rfl
    have e26 : ρ 26 = .bool true := hF.val 26 (by omega) (by kernel_rfl) rfl
    have e27 : ρ 27 = .bool true := hF.val 27 (by omega) (by kernel_rfl) rfl
    have e28 : ρ 28 = .bool true := hF.val 28 (by omega) (by kernel_rfl) rfl
    have e29 : ρ 29 = Tb.tv f := hF.val 29 (by omega) (by kernel_rfl) rfl
    have e30 : ρ 30 = Tb.tv g := hF.val 30 (by omega) (by kernel_rfl) rfl
    have e31 : ρ 31 = Tb.tv (f ||| g) := hF.val 31 (by omega) (by kernel_rfl) rfl
    have e32 : ρ 32 = Tb.tv f := hF.val 32 (by omega) (by kernel_rfl) rfl
    have e33 : ρ 33 = Tb.tv g := hF.val 33 (by omega) (by kernel_rfl) rfl
    have e34 : ρ 34 = Tb.tv (f ||| g) := hF.val 34 (by omega) (by kernel_rfl) rfl
    have e35 : ρ 35 = .bool true := hF.val 35 (by omega) (by kernel_rfl) rfl
    have e36 : ρ 36 = .bool true := hF.val 36 (by omega) (by kernel_rfl) rfl
    have e37 : ρ 37 = .bool true := hF.val 37 (by omega) (by kernel_rfl) rfl
    have e38 : ρ 38 = Tb.tv f := hF.val 38 (by omega) (by kernel_rfl) rfl
    have e39 : ρ 39 = Tb.tv g := hF.val 39 (by omega) (by kernel_rfl) rfl
    have e40 : ρ 40 = Tb.tv (f ^^^ g) := hF.val 40 (by omega) (by kernel_rfl) rfl
    have e41 : ρ 41 = Tb.tv f := hF.val 41 (by omega) (by kernel_rfl) rfl
    have e42 : ρ 42 = Tb.tv g := hF.val 42 (by omega) (by kernel_rfl) rfl
    have e43 : ρ 43 = Tb.tv (f ^^^ g) := hF.val 43 (by omega) (by kernel_rfl) rfl
    have e44 : ρ 44 = .bool true := hF.val 44 (by omega) (by kernel_rfl) rfl
    have e45 : ρ 45 = .bool true := hF.val 45 (by omega) (by kernel_rfl) rfl
    have e46 : ρ 46 = .bool true := hF.val 46 (by omega) (by kernel_rfl) rfl
    have e47 : ρ 47 = Tb.tv f := hF.val 47 (by omega) (by kernel_rfl) rfl
    have e48 : ρ 48 = Tb.tv g := hF.val 48 (by omega) (by kernel_rfl) rfl
    have e49 : ρ 49 = Tb.tv h := hF.val 49 (by omega) (by kernel_rfl) rfl
    have e50 : ρ 50 = Tb.tv ((f &&& g) ||| (~~~f &&& h)) := hF.val 50 (by omega) (by kernel_rfl) rfl
    have e51 : ρ 51 = Tb.tv f := hF.val 51 (by omega) (by kernel_rfl) rfl
    have e52 : ρ 52 = Tb.tv g := hF.val 52 (by omega) (by kernel_rfl) rfl
    have e53 : ρ 53 = Tb.tv h := hF.val 53 (by omega) (by kernel_rfl) rfl
    have e54 : ρ 54 = Tb.tv ((f &&& g) ||| (~~~f &&& h)) := hF.val 54 (by omega) (by kernel_rfl) rfl
    have e55 : ρ 55 = .bool true := hF.val 55 (by omega) (by kernel_rfl) rfl
    have e56 : ρ 56 = .bool true := hF.val 56 (by omega) (by kernel_rfl) rfl
    have e57 : ρ 57 = .bool true := hF.val 57 (by omega) (by kernel_rfl) rfl
    have e58 : ρ 58 = Tb.tv f := hF.val 58 (by omega) (by kernel_rfl) rfl
    have e59 : ρ 59 = .int .u8 ((x : Nat) : Int) := hF.val 59 (by omega) (by kernel_rfl) rfl
    have e60 : ρ 60 = .bool (f.getLsbD x) := hF.val 60 (by omega) (by kernel_rfl) rfl
    have e61 : ρ 61 = Tb.tv f := hF.val 61 (by omega) (by kernel_rfl) rfl
    have e62 : ρ 62 = .int .u8 ((x : Nat) : Int) := hF.val 62 (by omega) (by kernel_rfl) rfl
    have e63 : ρ 63 = .bool (f.getLsbD x) := hF.val 63 (by omega) (by kernel_rfl) rfl
    have e64 : ρ 64 = .bool true := hF.val 64 (by omega) (by kernel_rfl) rfl
    have e65 : ρ 65 = .bool true := hF.val 65 (by omega) (by kernel_rfl) rfl
    have k0 := hF.s_
    simp only [puts, dstOf, e0, e1, e2, e3, e4, e5, e6, e7, e8, e9, e10, e11, e12, e13, e14, e15, e16, e17, e18, e19, e20, e21, e22, e23, e24, e25, e26, e27, e28, e29, e30, e31, e32, e33, e34, e35, e36, e37, e38, e39, e40, e41, e42, e43, e44, e45, e46, e47, e48, e49, e50, e51, e52, e53, e54, e55, e56, e57, e58, e59, e60, e61, e62, e63, e64, e65]
    go_wp2_with fail
    replace k0 : Keep w _ [(w.heap.size, f), ((w.heap.size + 1), g), ((w.heap.size + 1 + 1), h)] := k0
    clear hF
    refine region_float [1, 12, 21, 30, 41, 52, 61] 70 (fun i => ([.bool true, .bool true, Tb.tv f, .int .i64 v, .bool b, Tb.tv (Tb.fix f v b), Tb.tv f, .int .i64 v, .bool b, Tb.tv (Tb.fix f v b), .bool true, .bool true, .bool true, Tb.tv f, .int .u8 ((m : Nat) : Int), Tb.tv (Tb.halves (fun F G => F ||| G) f m), Tb.tv f, .int .u8 ((m : Nat) : Int), Tb.tv (Tb.halves (fun F G => F ||| G) f m), .bool true, .bool true, .bool true, Tb.tv f, .int .u8 ((m : Nat) : Int), Tb.tv (Tb.halves (fun F G => F &&& G) f m), Tb.tv f, .int .u8 ((m : Nat) : Int), Tb.tv (Tb.halves (fun F G => F &&& G) f m), .bool true, .bool true, .bool true, Tb.tv f, .int .u8 ((m : Nat) : Int), .int .u8 ((z : Nat) : Int), Tb.tv (Tb.restrict f m z), Tb.tv f, .int .u8 ((m : Nat) : Int), .int .u8 ((z : Nat) : Int), Tb.tv (Tb.restrict f m z), .bool true, .bool true, .bool true, Tb.tv f, .int .i64 v, Tb.tv g, Tb.tv ((g &&& Tb.fix f v true) ||| (~~~g &&& Tb.fix f v false)), Tb.tv f, .int .i64 v, Tb.tv g, Tb.tv ((g &&& Tb.fix f v true) ||| (~~~g &&& Tb.fix f v false)), .bool true, .bool true, .bool true, Tb.tv f, Tb.tv g, Tb.tv (Tb.next f g), Tb.tv f, Tb.tv g, Tb.tv (Tb.next f g), .bool true, .bool true, .bool true, Tb.tv f, Tb.tv g, Tb.tv (Tb.prev f g), Tb.tv f, Tb.tv g, Tb.tv (Tb.prev f g), .bool true, .bool true] : List Value).getD i undef) (fun _ => none) (fun u => Keep w u [(w.heap.size, f), ((w.heap.size + 1), g), ((w.heap.size + 1 + 1), h)]) _ (by kernel_rfl) (by kernel_rfl) (by intro g hg; simp only [List.mem_cons, List.not_mem_nil, or_false] at hg; rcases hg with rfl | rfl | rfl | rfl | rfl | rfl | rfl <;> exact ⟨rfl, rfl⟩) k0.drew (Nat.le_refl _) (fun _ o h => h.alloc o) ?_ ?_ ?_
    · iterate 1 skip
      refine all_succ ?_ ?_
      rotate_left
      · intro hf oo ho act uu hS hB hd hold KK hcont
        obtain rfl := Option.some.inj ho
        exact wp_of_exec (exec_pick rfl (hd 61 147 (by kernel_rfl) rfl rfl) (hd 68 154 (by kernel_rfl) rfl rfl)) (hcont uu hS (Below.refl _ _))
      refine all_succ ?_ ?_
      rotate_left
      · intro hf oo ho act uu hS hB hd hold KK hcont
        obtain rfl := Option.some.inj ho
        exact wp_of_exec (exec_eqT rfl (hd 64 150 (by kernel_rfl) rfl rfl) (hd 67 153 (by kernel_rfl) rfl rfl) rfl) (hcont uu hS (Below.refl _ _))
      refine all_succ ?_ ?_
      rotate_left
      · intro hf oo ho act uu hS hB hd hold KK hcont
        obtain rfl := Option.some.inj ho
        have h151 : act.tmps.getD 151 undef = Tb.tv f := (hd 65 151 (by kernel_rfl) rfl rfl)
        have h152 : act.tmps.getD 152 undef = Tb.tv g := (hd 66 152 (by kernel_rfl) rfl rfl)
        go_simp
        refine (rprev_any f g _).mono ?_
        rintro e u' ⟨rfl, hb⟩
        exact hcont _ (hS.step hb) hb
      refine all_succ ?_ ?_
      rotate_left
      · intro hf oo ho act uu hS hB hd hold KK hcont
        obtain rfl := Option.some.inj ho
        exact wp_of_exec (exec_load rfl (hold 9 (notDst (by kernel_rfl))) (hS.at_ 1 _ _ rfl)) (hcont uu hS (Below.refl _ _))
      refine all_succ ?_ ?_
      rotate_left
      · intro hf oo ho act uu hS hB hd hold KK hcont
        obtain rfl := Option.some.inj ho
        exact wp_of_exec (exec_load rfl (hold 8 (notDst (by kernel_rfl))) (hS.at_ 0 _ _ rfl)) (hcont uu hS (Below.refl _ _))
      refine all_succ ?_ ?_
      rotate_left
      · intro hf oo ho act uu hS hB hd hold KK hcont
        obtain rfl := Option.some.inj ho
        have h148 : act.tmps.getD 148 undef = Tb.tv f := (hd 62 148 (by kernel_rfl) rfl rfl)
        have h149 : act.tmps.getD 149 undef = Tb.tv g := (hd 63 149 (by kernel_rfl) rfl rfl)
        go_simp
        refine (prev_any f g _).mono ?_
        rintro e u' ⟨rfl, hb⟩
        exact hcont _ (hS.step hb) hb
      refine all_succ ?_ ?_
      rotate_left
      · intro hf oo ho act uu hS hB hd hold KK hcont
        obtain rfl := Option.some.inj ho
        exact wp_of_exec (exec_load rfl (hold 9 (notDst (by kernel_rfl))) (hS.at_ 1 _ _ rfl)) (hcont uu hS (Below.refl _ _))
      refine all_succ ?_ ?_
      rotate_left
      · intro hf oo ho act uu hS hB hd hold KK hcont
        obtain rfl := Option.some.inj ho
        exact wp_of_exec (exec_load rfl (hold 8 (notDst (by kernel_rfl))) (hS.at_ 0 _ _ rfl)) (hcont uu hS (Below.refl _ _))
      refine all_succ ?_ ?_
      rotate_left
      · intro hf oo ho act uu hS hB hd hold KK hcont
        obtain rfl := Option.some.inj ho
        exact wp_of_exec (exec_move rfl (hd 60 146 (by kernel_rfl) rfl rfl)) (hcont uu hS (Below.refl _ _))
      refine all_succ ?_ ?_
      rotate_left
      · intro hf oo ho act uu hS hB hd hold KK hcont
        obtain rfl := Option.some.inj ho
        exact wp_of_exec (exec_pick rfl (hd 52 138 (by kernel_rfl) rfl rfl) (hd 59 145 (by kernel_rfl) rfl rfl)) (hcont uu hS (Below.refl _ _))
      refine all_succ ?_ ?_
      rotate_left
      · intro hf oo ho act uu hS hB hd hold KK hcont
        obtain rfl := Option.some.inj ho
        exact wp_of_exec (exec_eqT rfl (hd 55 141 (by kernel_rfl) rfl rfl) (hd 58 144 (by kernel_rfl) rfl rfl) rfl) (hcont uu hS (Below.refl _ _))
      refine all_succ ?_ ?_
      rotate_left
      · intro hf oo ho act uu hS hB hd hold KK hcont
        obtain rfl := Option.some.inj ho
        have h142 : act.tmps.getD 142 undef = Tb.tv f := (hd 56 142 (by kernel_rfl) rfl rfl)
        have h143 : act.tmps.getD 143 undef = Tb.tv g := (hd 57 143 (by kernel_rfl) rfl rfl)
        go_simp
        refine (rnext_any f g _).mono ?_
        rintro e u' ⟨rfl, hb⟩
        exact hcont _ (hS.step hb) hb
      refine all_succ ?_ ?_
      rotate_left
      · intro hf oo ho act uu hS hB hd hold KK hcont
        obtain rfl := Option.some.inj ho
        exact wp_of_exec (exec_load rfl (hold 9 (notDst (by kernel_rfl))) (hS.at_ 1 _ _ rfl)) (hcont uu hS (Below.refl _ _))
      refine all_succ ?_ ?_
      rotate_left
      · intro hf oo ho act uu hS hB hd hold KK hcont
        obtain rfl := Option.some.inj ho
        exact wp_of_exec (exec_load rfl (hold 8 (notDst (by kernel_rfl))) (hS.at_ 0 _ _ rfl)) (hcont uu hS (Below.refl _ _))
      refine all_succ ?_ ?_
      rotate_left
      · intro hf oo ho act uu hS hB hd hold KK hcont
        obtain rfl := Option.some.inj ho
        have h139 : act.tmps.getD 139 undef = Tb.tv f := (hd 53 139 (by kernel_rfl) rfl rfl)
        have h140 : act.tmps.getD 140 undef = Tb.tv g := (hd 54 140 (by kernel_rfl) rfl rfl)
        go_simp
        refine (next_any f g _).mono ?_
        rintro e u' ⟨rfl, hb⟩
        exact hcont _ (hS.step hb) hb
      refine all_succ ?_ ?_
      rotate_left
      · intro hf oo ho act uu hS hB hd hold KK hcont
        obtain rfl := Option.some.inj ho
        exact wp_of_exec (exec_load rfl (hold 9 (notDst (by kernel_rfl))) (hS.at_ 1 _ _ rfl)) (hcont uu hS (Below.refl _ _))
      refine all_succ ?_ ?_
      rotate_left
      · intro hf oo ho act uu hS hB hd hold KK hcont
        obtain rfl := Option.some.inj ho
        exact wp_of_exec (exec_load rfl (hold 8 (notDst (by kernel_rfl))) (hS.at_ 0 _ _ rfl)) (hcont uu hS (Below.refl _ _))
      refine all_succ ?_ ?_
      rotate_left
      · intro hf oo ho act uu hS hB hd hold KK hcont
        obtain rfl := Option.some.inj ho
        exact wp_of_exec (exec_move rfl (hd 51 137 (by kernel_rfl) rfl rfl)) (hcont uu hS (Below.refl _ _))
      refine all_succ ?_ ?_
      rotate_left
      · intro hf oo ho act uu hS hB hd hold KK hcont
        obtain rfl := Option.some.inj ho
        exact wp_of_exec (exec_pick rfl (hd 41 127 (by kernel_rfl) rfl rfl) (hd 50 136 (by kernel_rfl) rfl rfl)) (hcont uu hS (Below.refl _ _))
      refine all_succ ?_ ?_
      rotate_left
      · intro hf oo ho act uu hS hB hd hold KK hcont
        obtain rfl := Option.some.inj ho
        exact wp_of_exec (exec_eqT rfl (hd 45 131 (by kernel_rfl) rfl rfl) (hd 49 135 (by kernel_rfl) rfl rfl) rfl) (hcont uu hS (Below.refl _ _))
      refine all_succ ?_ ?_
      rotate_left
      · intro hf oo ho act uu hS hB hd hold KK hcont
        obtain rfl := Option.some.inj ho
        have h132 : act.tmps.getD 132 undef = Tb.tv f := (hd 46 132 (by kernel_rfl) rfl rfl)
        have h133 : act.tmps.getD 133 undef = .int .i64 v := (hd 47 133 (by kernel_rfl) rfl rfl)
        have h134 : act.tmps.getD 134 undef = Tb.tv g := (hd 48 134 (by kernel_rfl) rfl rfl)
        go_simp
        refine (rcompose_any f v g _).mono ?_
        rintro e u' ⟨rfl, hb⟩
        exact hcont _ (hS.step hb) hb
      refine all_succ ?_ ?_
      rotate_left
      · intro hf oo ho act uu hS hB hd hold KK hcont
        obtain rfl := Option.some.inj ho
        exact wp_of_exec (exec_load rfl (hold 9 (notDst (by kernel_rfl))) (hS.at_ 1 _ _ rfl)) (hcont uu hS (Below.refl _ _))
      refine all_succ ?_ ?_
      rotate_left
      · intro hf oo ho act uu hS hB hd hold KK hcont
        obtain rfl := Option.some.inj ho
        exact wp_of_exec (exec_move rfl (hold 3 (notDst (by kernel_rfl)))) (hcont uu hS (Below.refl _ _))
      refine all_succ ?_ ?_
      rotate_left
      · intro hf oo ho act uu hS hB hd hold KK hcont
        obtain rfl := Option.some.inj ho
        exact wp_of_exec (exec_load rfl (hold 8 (notDst (by kernel_rfl))) (hS.at_ 0 _ _ rfl)) (hcont uu hS (Below.refl _ _))
      refine all_succ ?_ ?_
      rotate_left
      · intro hf oo ho act uu hS hB hd hold KK hcont
        obtain rfl := Option.some.inj ho
        have h128 : act.tmps.getD 128 undef = Tb.tv f := (hd 42 128 (by kernel_rfl) rfl rfl)
        have h129 : act.tmps.getD 129 undef = .int .i64 v := (hd 43 129 (by kernel_rfl) rfl rfl)
        have h130 : act.tmps.getD 130 undef = Tb.tv g := (hd 44 130 (by kernel_rfl) rfl rfl)
        go_simp
        refine (compose_any f v g _).mono ?_
        rintro e u' ⟨rfl, hb⟩
        exact hcont _ (hS.step hb) hb
      refine all_succ ?_ ?_
      rotate_left
      · intro hf oo ho act uu hS hB hd hold KK hcont
        obtain rfl := Option.some.inj ho
        exact wp_of_exec (exec_load rfl (hold 9 (notDst (by kernel_rfl))) (hS.at_ 1 _ _ rfl)) (hcont uu hS (Below.refl _ _))
      refine all_succ ?_ ?_
      rotate_left
      · intro hf oo ho act uu hS hB hd hold KK hcont
        obtain rfl := Option.some.inj ho
        exact wp_of_exec (exec_move rfl (hold 3 (notDst (by kernel_rfl)))) (hcont uu hS (Below.refl _ _))
      refine all_succ ?_ ?_
      rotate_left
      · intro hf oo ho act uu hS hB hd hold KK hcont
        obtain rfl := Option.some.inj ho
        exact wp_of_exec (exec_load rfl (hold 8 (notDst (by kernel_rfl))) (hS.at_ 0 _ _ rfl)) (hcont uu hS (Below.refl _ _))
      refine all_succ ?_ ?_
      rotate_left
      · intro hf oo ho act uu hS hB hd hold KK hcont
        obtain rfl := Option.some.inj ho
        exact wp_of_exec (exec_move rfl (hd 40 126 (by kernel_rfl) rfl rfl)) (hcont uu hS (Below.refl _ _))
      refine all_succ ?_ ?_
      rotate_left
      · intro hf oo ho act uu hS hB hd hold KK hcont
        obtain rfl := Option.some.inj ho
        exact wp_of_exec (exec_pick rfl (hd 30 116 (by kernel_rfl) rfl rfl) (hd 39 125 (by kernel_rfl) rfl rfl)) (hcont uu hS (Below.refl _ _))
      refine all_succ ?_ ?_
      rotate_left
      · intro hf oo ho act uu hS hB hd hold KK hcont
        obtain rfl := Option.some.inj ho
        exact wp_of_exec (exec_eqT rfl (hd 34 120 (by kernel_rfl) rfl rfl) (hd 38 124 (by kernel_rfl) rfl rfl) rfl) (hcont uu hS (Below.refl _ _))
      refine all_succ ?_ ?_
      rotate_left
      · intro hf oo ho act uu hS hB hd hold KK hcont
        obtain rfl := Option.some.inj ho
        have h121 : act.tmps.getD 121 undef = Tb.tv f := (hd 35 121 (by kernel_rfl) rfl rfl)
        have h122 : act.tmps.getD 122 undef = .int .u8 ((m : Nat) : Int) := (hd 36 122 (by kernel_rfl) rfl rfl)
        have h123 : act.tmps.getD 123 undef = .int .u8 ((z : Nat) : Int) := (hd 37 123 (by kernel_rfl) rfl rfl)
        go_simp
        refine (rrestrict_any f m z _ hm hz).mono ?_
        rintro e u' ⟨rfl, hb⟩
        exact hcont _ (hS.step hb) hb
      refine all_succ ?_ ?_
      rotate_left
      · intro hf oo ho act uu hS hB hd hold KK hcont
        obtain rfl := Option.some.inj ho
        exact wp_of_exec (exec_move rfl (hold 6 (notDst (by kernel_rfl)))) (hcont uu hS (Below.refl _ _))
      refine all_succ ?_ ?_
      rotate_left
      · intro hf oo ho act uu hS hB hd hold KK hcont
        obtain rfl := Option.some.inj ho
        exact wp_of_exec (exec_move rfl (hold 5 (notDst (by kernel_rfl)))) (hcont uu hS (Below.refl _ _))
      refine all_succ ?_ ?_
      rotate_left
      · intro hf oo ho act uu hS hB hd hold KK hcont
        obtain rfl := Option.some.inj ho
        exact wp_of_exec (exec_load rfl (hold 8 (notDst (by kernel_rfl))) (hS.at_ 0 _ _ rfl)) (hcont uu hS (Below.refl _ _))
      refine all_succ ?_ ?_
      rotate_left
      · intro hf oo ho act uu hS hB hd hold KK hcont
        obtain rfl := Option.some.inj ho
        have h117 : act.tmps.getD 117 undef = Tb.tv f := (hd 31 117 (by kernel_rfl) rfl rfl)
        have h118 : act.tmps.getD 118 undef = .int .u8 ((m : Nat) : Int) := (hd 32 118 (by kernel_rfl) rfl rfl)
        have h119 : act.tmps.getD 119 undef = .int .u8 ((z : Nat) : Int) := (hd 33 119 (by kernel_rfl) rfl rfl)
        go_simp
        refine (restrict_any f m z _ hm hz).mono ?_
        rintro e u' ⟨rfl, hb⟩
        exact hcont _ (hS.step hb) hb
      refine all_succ ?_ ?_
      rotate_left
      · intro hf oo ho act uu hS hB hd hold KK hcont
        obtain rfl := Option.some.inj ho
        exact wp_of_exec (exec_move rfl (hold 6 (notDst (by kernel_rfl)))) (hcont uu hS (Below.refl _ _))
      refine all_succ ?_ ?_
      rotate_left
      · intro hf oo ho act uu hS hB hd hold KK hcont
        obtain rfl := Option.some.inj ho
        exact wp_of_exec (exec_move rfl (hold 5 (notDst (by kernel_rfl)))) (hcont uu hS (Below.refl _ _))
      refine all_succ ?_ ?_
      rotate_left
      · intro hf oo ho act uu hS hB hd hold KK hcont
        obtain rfl := Option.some.inj ho
        exact wp_of_exec (exec_load rfl (hold 8 (notDst (by kernel_rfl))) (hS.at_ 0 _ _ rfl)) (hcont uu hS (Below.refl _ _))
      refine all_succ ?_ ?_
      rotate_left
      · intro hf oo ho act uu hS hB hd hold KK hcont
        obtain rfl := Option.some.inj ho
        exact wp_of_exec (exec_move rfl (hd 29 115 (by kernel_rfl) rfl rfl)) (hcont uu hS (Below.refl _ _))
      refine all_succ ?_ ?_
      rotate_left
      · intro hf oo ho act uu hS hB hd hold KK hcont
        obtain rfl := Option.some.inj ho
        exact wp_of_exec (exec_pick rfl (hd 21 107 (by kernel_rfl) rfl rfl) (hd 28 114 (by kernel_rfl) rfl rfl)) (hcont uu hS (Below.refl _ _))
      refine all_succ ?_ ?_
      rotate_left
      · intro hf oo ho act uu hS hB hd hold KK hcont
        obtain rfl := Option.some.inj ho
        exact wp_of_exec (exec_eqT rfl (hd 24 110 (by kernel_rfl) rfl rfl) (hd 27 113 (by kernel_rfl) rfl rfl) rfl) (hcont uu hS (Below.refl _ _))
      refine all_succ ?_ ?_
      rotate_left
      · intro hf oo ho act uu hS hB hd hold KK hcont
        obtain rfl := Option.some.inj ho
        have h111 : act.tmps.getD 111 undef = Tb.tv f := (hd 25 111 (by kernel_rfl) rfl rfl)
        have h112 : act.tmps.getD 112 undef = .int .u8 ((m : Nat) : Int) := (hd 26 112 (by kernel_rfl) rfl rfl)
        go_simp
        refine (rforall_any f m _ hm).mono ?_
        rintro e u' ⟨rfl, hb⟩
        exact hcont _ (hS.step hb) hb
      refine all_succ ?_ ?_
      rotate_left
      · intro hf oo ho act uu hS hB hd hold KK hcont
        obtain rfl := Option.some.inj ho
        exact wp_of_exec (exec_move rfl (hold 5 (notDst (by kernel_rfl)))) (hcont uu hS (Below.refl _ _))
      refine all_succ ?_ ?_
      rotate_left
      · intro hf oo ho act uu hS hB hd hold KK hcont
        obtain rfl := Option.some.inj ho
        exact wp_of_exec (exec_load rfl (hold 8 (notDst (by kernel_rfl))) (hS.at_ 0 _ _ rfl)) (hcont uu hS (Below.refl _ _))
      refine all_succ ?_ ?_
      rotate_left
      · intro hf oo ho act uu hS hB hd hold KK hcont
        obtain rfl := Option.some.inj ho
        have h108 : act.tmps.getD 108 undef = Tb.tv f := (hd 22 108 (by kernel_rfl) rfl rfl)
        have h109 : act.tmps.getD 109 undef = .int .u8 ((m : Nat) : Int) := (hd 23 109 (by kernel_rfl) rfl rfl)
        go_simp
        refine (forall_any f m _ hm).mono ?_
        rintro e u' ⟨rfl, hb⟩
        exact hcont _ (hS.step hb) hb
      refine all_succ ?_ ?_
      rotate_left
      · intro hf oo ho act uu hS hB hd hold KK hcont
        obtain rfl := Option.some.inj ho
        exact wp_of_exec (exec_move rfl (hold 5 (notDst (by kernel_rfl)))) (hcont uu hS (Below.refl _ _))
      refine all_succ ?_ ?_
      rotate_left
      · intro hf oo ho act uu hS hB hd hold KK hcont
        obtain rfl := Option.some.inj ho
        exact wp_of_exec (exec_load rfl (hold 8 (notDst (by kernel_rfl))) (hS.at_ 0 _ _ rfl)) (hcont uu hS (Below.refl _ _))
      refine all_succ ?_ ?_
      rotate_left
      · intro hf oo ho act uu hS hB hd hold KK hcont
        obtain rfl := Option.some.inj ho
        exact wp_of_exec (exec_move rfl (hd 20 106 (by kernel_rfl) rfl rfl)) (hcont uu hS (Below.refl _ _))
      refine all_succ ?_ ?_
      rotate_left
      · intro hf oo ho act uu hS hB hd hold KK hcont
        obtain rfl := Option.some.inj ho
        exact wp_of_exec (exec_pick rfl (hd 12 98 (by kernel_rfl) rfl rfl) (hd 19 105 (by kernel_rfl) rfl rfl)) (hcont uu hS (Below.refl _ _))
      refine all_succ ?_ ?_
      rotate_left
      · intro hf oo ho act uu hS hB hd hold KK hcont
        obtain rfl := Option.some.inj ho
        exact wp_of_exec (exec_eqT rfl (hd 15 101 (by kernel_rfl) rfl rfl) (hd 18 104 (by kernel_rfl) rfl rfl) rfl) (hcont uu hS (Below.refl _ _))
      refine all_succ ?_ ?_
      rotate_left
      · intro hf oo ho act uu hS hB hd hold KK hcont
        obtain rfl := Option.some.inj ho
        have h102 : act.tmps.getD 102 undef = Tb.tv f := (hd 16 102 (by kernel_rfl) rfl rfl)
        have h103 : act.tmps.getD 103 undef = .int .u8 ((m : Nat) : Int) := (hd 17 103 (by kernel_rfl) rfl rfl)
        go_simp
        refine (rexists_any f m _ hm).mono ?_
        rintro e u' ⟨rfl, hb⟩
        exact hcont _ (hS.step hb) hb
      refine all_succ ?_ ?_
      rotate_left
      · intro hf oo ho act uu hS hB hd hold KK hcont
        obtain rfl := Option.some.inj ho
        exact wp_of_exec (exec_move rfl (hold 5 (notDst (by kernel_rfl)))) (hcont uu hS (Below.refl _ _))
      refine all_succ ?_ ?_
      rotate_left
      · intro hf oo ho act uu hS hB hd hold KK hcont
        obtain rfl := Option.some.inj ho
        exact wp_of_exec (exec_load rfl (hold 8 (notDst (by kernel_rfl))) (hS.at_ 0 _ _ rfl)) (hcont uu hS (Below.refl _ _))
      refine all_succ ?_ ?_
      rotate_left
      · intro hf oo ho act uu hS hB hd hold KK hcont
        obtain rfl := Option.some.inj ho
        have h99 : act.tmps.getD 99 undef = Tb.tv f := (hd 13 99 (by kernel_rfl) rfl rfl)
        have h100 : act.tmps.getD 100 undef = .int .u8 ((m : Nat) : Int) := (hd 14 100 (by kernel_rfl) rfl rfl)
        go_simp
        refine (exists_any f m _ hm).mono ?_
        rintro e u' ⟨rfl, hb⟩
        exact hcont _ (hS.step hb) hb
      refine all_succ ?_ ?_
      rotate_left
      · intro hf oo ho act uu hS hB hd hold KK hcont
        obtain rfl := Option.some.inj ho
        exact wp_of_exec (exec_move rfl (hold 5 (notDst (by kernel_rfl)))) (hcont uu hS (Below.refl _ _))
      refine all_succ ?_ ?_
      rotate_left
      · intro hf oo ho act uu hS hB hd hold KK hcont
        obtain rfl := Option.some.inj ho
        exact wp_of_exec (exec_load rfl (hold 8 (notDst (by kernel_rfl))) (hS.at_ 0 _ _ rfl)) (hcont uu hS (Below.refl _ _))
      refine all_succ ?_ ?_
      rotate_left
      · intro hf oo ho act uu hS hB hd hold KK hcont
        obtain rfl := Option.some.inj ho
        exact wp_of_exec (exec_move rfl (hd 11 97 (by kernel_rfl) rfl rfl)) (hcont uu hS (Below.refl _ _))
      refine all_succ ?_ ?_
      rotate_left
      · intro hf oo ho act uu hS hB hd hold KK hcont
        obtain rfl := Option.some.inj ho
        exact wp_of_exec (exec_pick rfl (hd 1 87 (by kernel_rfl) rfl rfl) (hd 10 96 (by kernel_rfl) rfl rfl)) (hcont uu hS (Below.refl _ _))
      refine all_succ ?_ ?_
      rotate_left
      · intro hf oo ho act uu hS hB hd hold KK hcont
        obtain rfl := Option.some.inj ho
        exact wp_of_exec (exec_eqT rfl (hd 5 91 (by kernel_rfl) rfl rfl) (hd 9 95 (by kernel_rfl) rfl rfl) rfl) (hcont uu hS (Below.refl _ _))
      refine all_succ ?_ ?_
      rotate_left
      · intro hf oo ho act uu hS hB hd hold KK hcont
        obtain rfl := Option.some.inj ho
        have h92 : act.tmps.getD 92 undef = Tb.tv f := (hd 6 92 (by kernel_rfl) rfl rfl)
        have h93 : act.tmps.getD 93 undef = .int .i64 v := (hd 7 93 (by kernel_rfl) rfl rfl)
        have h94 : act.tmps.getD 94 undef = .bool b := (hd 8 94 (by kernel_rfl) rfl rfl)
        go_simp
        refine (rfix_any f v b _).mono ?_
        rintro e u' ⟨rfl, hb⟩
        exact hcont _ (hS.step hb) hb
      refine all_succ ?_ ?_
      rotate_left
      · intro hf oo ho act uu hS hB hd hold KK hcont
        obtain rfl := Option.some.inj ho
        exact wp_of_exec (exec_move rfl (hold 4 (notDst (by kernel_rfl)))) (hcont uu hS (Below.refl _ _))
      refine all_succ ?_ ?_
      rotate_left
      · intro hf oo ho act uu hS hB hd hold KK hcont
        obtain rfl := Option.some.inj ho
        exact wp_of_exec (exec_move rfl (hold 3 (notDst (by kernel_rfl)))) (hcont uu hS (Below.refl _ _))
      refine all_succ ?_ ?_
      rotate_left
      · intro hf oo ho act uu hS hB hd hold KK hcont
        obtain rfl := Option.some.inj ho
        exact wp_of_exec (exec_load rfl (hold 8 (notDst (by kernel_rfl))) (hS.at_ 0 _ _ rfl)) (hcont uu hS (Below.refl _ _))
      refine all_succ ?_ ?_
      rotate_left
      · intro hf oo ho act uu hS hB hd hold KK hcont
        obtain rfl := Option.some.inj ho
        have h88 : act.tmps.getD 88 undef = Tb.tv f := (hd 2 88 (by kernel_rfl) rfl rfl)
        have h89 : act.tmps.getD 89 undef = .int .i64 v := (hd 3 89 (by kernel_rfl) rfl rfl)
        have h90 : act.tmps.getD 90 undef = .bool b := (hd 4 90 (by kernel_rfl) rfl rfl)
        go_simp
        refine (fix_any f v b _).mono ?_
        rintro e u' ⟨rfl, hb⟩
        exact hcont _ (hS.step hb) hb
      refine all_succ ?_ ?_
      rotate_left
      · intro hf oo ho act uu hS hB hd hold KK hcont
        obtain rfl := Option.some.inj ho
        exact wp_of_exec (exec_move rfl (hold 4 (notDst (by kernel_rfl)))) (hcont uu hS (Below.refl _ _))
      refine all_succ ?_ ?_
      rotate_left
      · intro hf oo ho act uu hS hB hd hold KK hcont
        obtain rfl := Option.some.inj ho
        exact wp_of_exec (exec_move rfl (hold 3 (notDst (by kernel_rfl)))) (hcont uu hS (Below.refl _ _))
      refine all_succ ?_ ?_
      rotate_left
      · intro hf oo ho act uu hS hB hd hold KK hcont
        obtain rfl := Option.some.inj ho
        exact wp_of_exec (exec_load rfl (hold 8 (notDst (by kernel_rfl))) (hS.at_ 0 _ _ rfl)) (hcont uu hS (Below.refl _ _))
      refine all_succ ?_ ?_
      rotate_left
      · intro hf oo ho act uu hS hB hd hold KK hcont
        obtain rfl := Option.some.inj ho
        exact wp_of_exec (exec_move rfl (hd 0 86 (by kernel_rfl) rfl rfl)) (hcont uu hS (Below.refl _ _))
      refine all_succ ?_ ?_
      rotate_left
      · intro hf oo ho act uu hS hB hd hold KK hcont
        obtain rfl := Option.some.inj ho
        exact wp_of_exec (exec_move rfl (hold 17 (notDst (by kernel_rfl)))) (hcont uu hS (Below.refl _ _))
      exact all_zero
    · intro i hi ty z hf; cases hf
    · intro ρ u hF
      have e0 : ρ 0 = .bool true := hF.val 0 (by omega) (by kernel_rfl) rfl
      have e1 : ρ 1 = .bool true := hF.val 1 (by omega) (by kernel_rfl) rfl
      have e2 : ρ 2 = Tb.tv f := hF.val 2 (by omega) (by kernel_rfl) rfl
      have e3 : ρ 3 = .int .i64 v := hF.val 3 (by omega) (by kernel_rfl) rfl
      have e4 : ρ 4 = .bool b := hF.val 4 (by omega) (by kernel_rfl) rfl
      have e5 : ρ 5 = Tb.tv (Tb.fix f v b) := hF.val 5 (by omega) (by kernel_rfl) rfl
      have e6 : ρ 6 = Tb.tv f := hF.val 6 (by omega) (by kernel_rfl) rfl
      have e7 : ρ 7 = .int .i64 v := hF.val 7 (by omega) (by kernel_rfl) rfl
      have e8 : ρ 8 = .bool b := hF.val 8 (by omega) (by kernel_rfl) rfl
      have e9 : ρ 9 = Tb.tv (Tb.fix f v b) := hF.val 9 (by omega) (by kernel_rfl) rfl
      have e10 : ρ 10 = .bool true := hF.val 10 (by omega) (by kernel_rfl) rfl
      have e11 : ρ 11 = .bool true := hF.val 11 (by omega) (by kernel_rfl) rfl
      have e12 : ρ 12 = .bool true := hF.val 12 (by omega) (by kernel_rfl) rfl
      have e13 : ρ 13 = Tb.tv f := hF.val 13 (by omega) (by kernel_rfl) rfl
      have e14 : ρ 14 = .int .u8 ((m : Nat) : Int) := hF.val 14 (by omega) (by kernel_rfl) rfl
      have e15 : ρ 15 = Tb.tv (Tb.halves (fun F G => F ||| G) f m) := hF.val 15 (by omega) (by kernel_rfl) rfl
      have e16 : ρ 16 = Tb.tv f := hF.val 16 (by omega) (by kernel_rfl) rfl
      have e17 : ρ 17 = .int .u8 ((m : Nat) : Int) := hF.val 17 (by omega) (by kernel_rfl) rfl
      have e18 : ρ 18 = Tb.tv (Tb.halves (fun F G => F ||| G) f m) := hF.val 18 (by omega) (by kernel_rfl) rfl
      have e19 : ρ 19 = .bool true := hF.val 19 (by omega) (by kernel_rfl) rfl
      have e20 : ρ 20 = .bool true := hF.val 20 (by omega) (by kernel_rfl) rfl
      have e21 : ρ 21 = .bool true := hF.val 21 (by omega) (by kernel_rfl) rfl
      have e22 : ρ 22 = Tb.tv f := hF.val 22 (by omega) (by kernel_rfl) rfl
      have e23 : ρ 23 = .int .u8 ((m : Nat) : Int) := hF.val 23 (by omega) (by kernel_rfl) rfl
      have e24 : ρ 24 = Tb.tv (Tb.halves (fun F G => F &&& G) f m) := hF.val 24 (by omega) (by kernel_rfl) rfl
      have e25 : ρ 25 = Tb.tv f := hF.val 25 (by omega) (by kernel_rfl) rfl
      have e26 : ρ 26 = .int .u8 ((m : Nat) : Int) := hF.val 26 (by omega) (by kernel_rfl) rfl
      have e27 : ρ 27 = Tb.tv (Tb.halves (fun F G => F &&& G) f m) := hF.val 27 (by omega) (by kernel_rfl) rfl
      have e28 : ρ 28 = .bool true := hF.val 28 (by omega) (by kernel_rfl) rfl
      have e29 : ρ 29 = .bool true := hF.val 29 (by omega) (by kernel_rfl) rfl
      have e30 : ρ 30 = .bool true := hF.val 30 (by omega) (by kernel_rfl) rfl
      have e31 : ρ 31 = Tb.tv f := hF.val 31 (by omega) (by kernel_rfl) rfl
      have e32 : ρ 32 = .int .u8 ((m : Nat) : Int) := hF.val 32 (by omega) (by kernel_rfl) rfl
      have e33 : ρ 33 = .int .u8 ((z : Nat) : Int) := hF.val 33 (by omega) (by kernel_rfl) rfl
      have e34 : ρ 34 = Tb.tv (Tb.restrict f m z) := hF.val 34 (by omega) (by kernel_rfl) rfl
      have e35 : ρ 35 = Tb.tv f := hF.val 35 (by omega) (by kernel_rfl) rfl
      have e36 : ρ 36 = .int .u8 ((m : Nat) : Int) := hF.val 36 (by omega) (by kernel_rfl) rfl
      have e37 : ρ 37 = .int .u8 ((z : Nat) : Int) := hF.val 37 (by omega) (by kernel_rfl) rfl
      have e38 : ρ 38 = Tb.tv (Tb.restrict f m z) := hF.val 38 (by omega) (by kernel_rfl) rfl
      have e39 : ρ 39 = .bool true := hF.val 39 (by omega) (by kernel_rfl) rfl
      have e40 : ρ 40 = .bool true := hF.val 40 (by omega) (by kernel_rfl) rfl
      have e41 : ρ 41 = .bool true := hF.val 41 (by omega) (by kernel_rfl) rfl
      have e42 : ρ 42 = Tb.tv f := hF.val 42 (by omega) (by kernel_rfl) rfl
      have e43 : ρ 43 = .int .i64 v := hF.val 43 (by omega) (by kernel_rfl) rfl
      have e44 : ρ 44 = Tb.tv g := hF.val 44 (by omega) (by kernel_rfl) rfl
      have e45 : ρ 45 = Tb.tv ((g &&& Tb.fix f v true) ||| (~~~g &&& Tb.fix f v false)) := hF.val 45 (by omega) (by kernel_rfl) rfl
      have e46 : ρ 46 = Tb.tv f := hF.val 46 (by omega) (by kernel_rfl) rfl
      have e47 : ρ 47 = .int .i64 v := hF.val 47 (by omega) (by kernel_rfl) rfl
      have e48 : ρ 48 = Tb.tv g := hF.val 48 (by omega) (by kernel_rfl) rfl
      have e49 : ρ 49 = Tb.tv ((g &&& Tb.fix f v true) ||| (~~~g &&& Tb.fix f v false)) := hF.val 49 (by omega) (by kernel_rfl) rfl
      have e50 : ρ 50 = .bool true := hF.val 50 (by omega) (by kernel_rfl) rfl
      have e51 : ρ 51 = .bool true := hF.val 51 (by omega) (by kernel_rfl) rfl
      have e52 : ρ 52 = .bool true := hF.val 52 (by omega) (by kernel_rfl) rfl
      have e53 : ρ 53 = Tb.tv f := hF.val 53 (by omega) (by kernel_rfl) rfl
      have e54 : ρ 54 = Tb.tv g := hF.val 54 (by omega) (by kernel_rfl) rfl
      have e55 : ρ 55 = Tb.tv (Tb.next f g) := hF.val 55 (by omega) (by kernel_rfl) rfl
      have e56 : ρ 56 = Tb.tv f := hF.val 56 (by omega) (by kernel_rfl) rfl
      have e57 : ρ 57 = Tb.tv g := hF.val 57 (by omega) (by kernel_rfl) rfl
      have e58 : ρ 58 = Tb.tv (Tb.next f g) := hF.val 58 (by omega) (by kernel_rfl) rfl
      have e59 : ρ 59 = .bool true := hF.val 59 (by omega) (by kernel_rfl) rfl
      have e60 : ρ 60 = .bool true := hF.val 60 (by omega) (by kernel_rfl) rfl
      have e61 : ρ 61 = .bool true := hF.val 61 (by omega) (by kernel_rfl) rfl
      have e62 : ρ 62 = Tb.tv f := hF.val 62 (by omega) (by kernel_rfl) rfl
      have e63 : ρ 63 = Tb.tv g := hF.val 63 (by omega) (by kernel_rfl) rfl
      have e64 : ρ 64 = Tb.tv (Tb.prev f g) := hF.val 64 (by omega) (by kernel_rfl) rfl
      have e65 : ρ 65 = Tb.tv f := hF.val 65 (by omega) (by kernel_rfl) rfl
      have e66 : ρ 66 = Tb.tv g := hF.val 66 (by omega) (by kernel_rfl) rfl
      have e67 : ρ 67 = Tb.tv (Tb.prev f g) := hF.val 67 (by omega) (by kernel_rfl) rfl
      have e68 : ρ 68 = .bool true := hF.val 68 (by omega) (by kernel_rfl) rfl
      have e69 : ρ 69 = .bool true := hF.val 69 (by omega) (by kernel_rfl) rfl
      have k0 := hF.s_
      simp only [puts, dstOf, e0, e1, e2, e3, e4, e5, e6, e7, e8, e9, e10, e11, e12, e13, e14, e15, e16, e17, e18, e19, e20, e21, e22, e23, e24, e25, e26, e27, e28, e29, e30, e31, e32, e33, e34, e35, e36, e37, e38, e39, e40, e41, e42, e43, e44, e45, e46, e47, e48, e49, e50, e51, e52, e53, e54, e55, e56, e57, e58, e59, e60, e61, e62, e63, e64, e65, e66, e67, e68, e69]
      go_wp2_with fail
      go_ret
      exact ⟨rfl, k0.below⟩
end Go.Proofs.YtfkefgelceaimaaDoor
