/-
  The walk of the law TruthPoints.
-/
import Derived.Test.YtfkefgelceaimaaDoorLaw2
import Derived.Test.YtfkefgelceaimaaDoorFloat2
import Derived.Test.YtfkefgelceaimaaDoorPointPlain
import Derived.Deep.DeepCutAuto
namespace Go.Proofs.YtfkefgelceaimaaDoor
set_option linter.unusedVariables false
open Go.RowKit

set_option maxRecDepth 100000 in
set_option maxHeartbeats 20000000 in
theorem points_walk (f g h : Tb.T) (v k x : Nat) (hv : v < 256) (hk : k < 8) (hvk : v % 8 = k) (hx : x < 256) (w : World) (hT : TabAt w) (hG : 0 < w.heap.size) :
    Calls Tryd.prog 8 #[Tb.tv f, Tb.tv g, Tb.tv h, .int .u8 (v : Int), .int .u8 (x : Int)] w fun e w' => e = .returned (.bool true) ∧ Below w.heap.size w w' := by
  have hK := (((Keep.nil w).new f).new g).new h
  have hT3 : TabAt (((w.alloc (.cells (Tb.tcells f) 24)).alloc (.cells (Tb.tcells g) 24)).alloc (.cells (Tb.tcells h) 24)) := hT.keep hK.below hG
  have hKn := known3_any _ hT3 (by simp)
  go_enter Tryd.func8, Tryd.ntmps8
  go_wp2_with fail
  refine hKn.mono ?_
  rintro e w5 ⟨rfl, b5⟩
  replace hK : Keep w w5 _ := hK.step b5
  simp at hK
  have h8 : (v : Int) % 8 = (k : Int) := by omega
  go_wp2_with fail
  -- points
  refine region_float [] 11 (fun i => ([Tb.tv f, .int .u8 ((x : Nat) : Int), .bool (f.getLsbD x), Tb.tv g, .int .u8 ((x : Nat) : Int), .bool (g.getLsbD x), Tb.tv h, .int .u8 ((x : Nat) : Int), .bool (h.getLsbD x), .bool (f.getLsbD x), .bool (g.getLsbD x)] : List Value).getD i undef) (fun _ => none) (fun u => Keep w u [(w.heap.size, f), ((w.heap.size + 1), g), ((w.heap.size + 1 + 1), h)]) _ (by kernel_rfl) (by kernel_rfl) (by simp) hK.drew (Nat.le_refl _) (fun _ o h => h.alloc o) ?_ ?_ ?_
  · iterate 1 skip
    refine all_succ ?_ ?_
    rotate_left
    · intro hf oo ho act uu hS hB hd hold KK hcont
      obtain rfl := Option.some.inj ho
      exact wp_of_exec (exec_assign rfl (hd 5 28 (by kernel_rfl) rfl rfl)) (hcont uu hS (Below.refl _ _))
    refine all_succ ?_ ?_
    rotate_left
    · intro hf oo ho act uu hS hB hd hold KK hcont
      obtain rfl := Option.some.inj ho
      exact wp_of_exec (exec_assign rfl (hd 2 25 (by kernel_rfl) rfl rfl)) (hcont uu hS (Below.refl _ _))
    refine all_succ ?_ ?_
    rotate_left
    · intro hf oo ho act uu hS hB hd hold KK hcont
      obtain rfl := Option.some.inj ho
      have h29 : act.tmps.getD 29 undef = Tb.tv h := (hd 6 29 (by kernel_rfl) rfl rfl)
      have h30 : act.tmps.getD 30 undef = .int .u8 ((x : Nat) : Int) := (hd 7 30 (by kernel_rfl) rfl rfl)
      go_simp
      refine (eval_any h x _ hx).mono ?_
      rintro e u' ⟨rfl, hb⟩
      exact hcont _ (hS.step hb) hb
    refine all_succ ?_ ?_
    rotate_left
    · intro hf oo ho act uu hS hB hd hold KK hcont
      obtain rfl := Option.some.inj ho
      exact wp_of_exec (exec_move rfl (hold 4 (notDst (by kernel_rfl)))) (hcont uu hS (Below.refl _ _))
    refine all_succ ?_ ?_
    rotate_left
    · intro hf oo ho act uu hS hB hd hold KK hcont
      obtain rfl := Option.some.inj ho
      exact wp_of_exec (exec_load rfl (hold 7 (notDst (by kernel_rfl))) (hS.at_ 2 _ _ rfl)) (hcont uu hS (Below.refl _ _))
    refine all_succ ?_ ?_
    rotate_left
    · intro hf oo ho act uu hS hB hd hold KK hcont
      obtain rfl := Option.some.inj ho
      have h26 : act.tmps.getD 26 undef = Tb.tv g := (hd 3 26 (by kernel_rfl) rfl rfl)
      have h27 : act.tmps.getD 27 undef = .int .u8 ((x : Nat) : Int) := (hd 4 27 (by kernel_rfl) rfl rfl)
      go_simp
      refine (eval_any g x _ hx).mono ?_
      rintro e u' ⟨rfl, hb⟩
      exact hcont _ (hS.step hb) hb
    refine all_succ ?_ ?_
    rotate_left
    · intro hf oo ho act uu hS hB hd hold KK hcont
      obtain rfl := Option.some.inj ho
      exact wp_of_exec (exec_move rfl (hold 4 (notDst (by kernel_rfl)))) (hcont uu hS (Below.refl _ _))
    refine all_succ ?_ ?_
    rotate_left
    · intro hf oo ho act uu hS hB hd hold KK hcont
      obtain rfl := Option.some.inj ho
      exact wp_of_exec (exec_load rfl (hold 6 (notDst (by kernel_rfl))) (hS.at_ 1 _ _ rfl)) (hcont uu hS (Below.refl _ _))
    refine all_succ ?_ ?_
    rotate_left
    · intro hf oo ho act uu hS hB hd hold KK hcont
      obtain rfl := Option.some.inj ho
      have h23 : act.tmps.getD 23 undef = Tb.tv f := (hd 0 23 (by kernel_rfl) rfl rfl)
      have h24 : act.tmps.getD 24 undef = .int .u8 ((x : Nat) : Int) := (hd 1 24 (by kernel_rfl) rfl rfl)
      go_simp
      refine (eval_any f x _ hx).mono ?_
      rintro e u' ⟨rfl, hb⟩
      exact hcont _ (hS.step hb) hb
    refine all_succ ?_ ?_
    rotate_left
    · intro hf oo ho act uu hS hB hd hold KK hcont
      obtain rfl := Option.some.inj ho
      exact wp_of_exec (exec_move rfl (hold 4 (notDst (by kernel_rfl)))) (hcont uu hS (Below.refl _ _))
    refine all_succ ?_ ?_
    rotate_left
    · intro hf oo ho act uu hS hB hd hold KK hcont
      obtain rfl := Option.some.inj ho
      exact wp_of_exec (exec_load rfl (hold 5 (notDst (by kernel_rfl))) (hS.at_ 0 _ _ rfl)) (hcont uu hS (Below.refl _ _))
    exact all_zero
  · intro i hi ty z hf; cases hf
  · intro ρ u hF
    have e0 : ρ 0 = Tb.tv f := hF.val 0 (by omega) (by kernel_rfl) rfl
    have e1 : ρ 1 = .int .u8 ((x : Nat) : Int) := hF.val 1 (by omega) (by kernel_rfl) rfl
    have e2 : ρ 2 = .bool (f.getLsbD x) := hF.val 2 (by omega) (by kernel_rfl) rfl
    have e3 : ρ 3 = Tb.tv g := hF.val 3 (by omega) (by kernel_rfl) rfl
    have e4 : ρ 4 = .int .u8 ((x : Nat) : Int) := hF.val 4 (by omega) (by kernel_rfl) rfl
    have e5 : ρ 5 = .bool (g.getLsbD x) := hF.val 5 (by omega) (by kernel_rfl) rfl
    have e6 : ρ 6 = Tb.tv h := hF.val 6 (by omega) (by kernel_rfl) rfl
    have e7 : ρ 7 = .int .u8 ((x : Nat) : Int) := hF.val 7 (by omega) (by kernel_rfl) rfl
    have e8 : ρ 8 = .bool (h.getLsbD x) := hF.val 8 (by omega) (by kernel_rfl) rfl
    have e9 : ρ 9 = .bool (f.getLsbD x) := hF.val 9 (by omega) (by kernel_rfl) rfl
    have e10 : ρ 10 = .bool (g.getLsbD x) := hF.val 10 (by omega) (by kernel_rfl) rfl
    have k0 := hF.s_
    simp only [puts, dstOf, e0, e1, e2, e3, e4, e5, e6, e7, e8, e9, e10]
    replace k0 : Keep w _ [(w.heap.size, f), ((w.heap.size + 1), g), ((w.heap.size + 1 + 1), h)] := k0
    clear hF e0 e1 e3 e4 e6 e7
    clear e2 e5 e8 e9 e10
    clear ρ
    generalize ha : f.getLsbD x = a
    generalize hb : g.getLsbD x = b
    generalize hc : h.getLsbD x = c
    obtain ⟨⟨f0, f1, f2, f3⟩, z0, z1, z2, z3⟩ := tfacts (k0.at_ 0 _ _ rfl)
    have H1 := Bx.mk (Tb.wth_or x hx k hk)
    have H2 := Bx.mk (Tb.wth_andNot x hx k hk)
    have l1 := Bx.mk (Tb.wth_lt x hx k hk true)
    have l2 := Bx.mk (Tb.wth_lt x hx k hk false)
    go_upto_region 6 with fail
    rw [show bits .or .u8 (x : Int) ((2 : Int) ^ k % 256) = (Tb.wth x k true : Int) from (by rw [← H1.out, IntKind.wrap_u8]), show bits .andNot .u8 (x : Int) ((2 : Int) ^ k % 256) = (Tb.wth x k false : Int) from (by rw [← H2.out, IntKind.wrap_u8])]
    generalize (2 : Int) ^ k % 256 = pw
    go_wp2_with fail
    refine (eval_any f (Tb.wth x k false) _ l2.out).mono ?_
    rintro e w6 ⟨rfl, b6⟩
    replace k0 := k0.step b6
    clear f0 f1 f2 f3 z0 z1 z2 z3
    go_upto_if 43 with fail
    go_cut [13, 17] (fun t s w' => t = .bool b ∧ s = .bool (if b then f.getLsbD (Tb.wth x k true) else f.getLsbD (Tb.wth x k false)) ∧ Keep w w' [(w.heap.size, f), ((w.heap.size + 1), g), ((w.heap.size + 1 + 1), h)])
    case first =>
      cases hbb : b
      · go_wp2_with fail
        go_meet
        case rel => exact ⟨by rw [hbb], by rw [hbb]; rfl, k0⟩
      · obtain ⟨⟨f0, f1, f2, f3⟩, z0, z1, z2, z3⟩ := tfacts (k0.at_ 0 _ _ rfl)
        go_wp2_with fail
        refine (eval_any f (Tb.wth x k true) _ l1.out).mono ?_
        rintro e w7 ⟨rfl, b7⟩
        go_wp2_with fail
        go_meet
        case rel => exact ⟨by rw [hbb], by rw [hbb]; rfl, k0.step b7⟩
    case rest =>
      obtain ⟨rfl, rfl, k1⟩ := hcut
      generalize hd : (if b then f.getLsbD (Tb.wth x k true) else f.getLsbD (Tb.wth x k false)) = d
      have Hd := Bx.mk hd
      clear hd
      go_upto_if 48 with fail
      go_cut [12, 18] (fun t s w' => t = .bool a ∧ s = .bool (if a then b else c) ∧ Keep w w' [(w.heap.size, f), ((w.heap.size + 1), g), ((w.heap.size + 1 + 1), h)])
      case first =>
        cases haa : a
        · go_wp2_with fail
          go_meet
          case rel => exact ⟨by rw [haa], by rw [haa]; rfl, k1⟩
        · go_wp2_with fail
          go_meet
          case rel => exact ⟨by rw [haa], by rw [haa]; rfl, k1⟩
      case rest =>
        obtain ⟨rfl, rfl, k2⟩ := hcut
        generalize hi : (if a then b else c) = it
        go_upto_region 12 with fail
        -- points
        refine region_float2 [7, 14, 19, 26, 31, 42, 52, 64, 76, 87] 100 (fun i => ([Tb.tv f, Tb.tv (~~~f), .int .u8 ((x : Nat) : Int), .bool ((~~~f).getLsbD x), .bool a, .bool (!a), .bool true, .bool true, Tb.tv f, Tb.tv g, Tb.tv (f &&& g), .int .u8 ((x : Nat) : Int), .bool ((f &&& g).getLsbD x), .bool a, .bool a, (bif a then .bool b else undef), .bool (a && b), .bool true, .bool true, .bool true, Tb.tv f, Tb.tv g, Tb.tv (f ||| g), .int .u8 ((x : Nat) : Int), .bool ((f ||| g).getLsbD x), .bool a, .bool a, (bif a then undef else .bool b), .bool (a || b), .bool true, .bool true, .bool true, Tb.tv f, Tb.tv g, Tb.tv (f ^^^ g), .int .u8 ((x : Nat) : Int), .bool ((f ^^^ g).getLsbD x), .bool a, .bool b, .bool (!(a == b)), .bool true, .bool true, .bool true, Tb.tv f, Tb.tv g, Tb.tv h, Tb.tv ((f &&& g) ||| (~~~f &&& h)), .int .u8 ((x : Nat) : Int), .bool (((f &&& g) ||| (~~~f &&& h)).getLsbD x), .bool it, .bool true, .bool true, .bool true, Tb.tv f, .int .u8 ((k : Nat) : Int), .int .i64 ((k : Nat) : Int), Tb.tv (Tb.fix f ((k : Nat) : Int) true), .int .u8 ((x : Nat) : Int), .bool ((Tb.fix f ((k : Nat) : Int) true).getLsbD x), Tb.tv f, .int .u8 (((Tb.wth x k true) : Nat) : Int), .bool (f.getLsbD (Tb.wth x k true)), .bool true, .bool true, .bool true, Tb.tv f, .int .u8 ((k : Nat) : Int), .int .i64 ((k : Nat) : Int), Tb.tv (Tb.fix f ((k : Nat) : Int) false), .int .u8 ((x : Nat) : Int), .bool ((Tb.fix f ((k : Nat) : Int) false).getLsbD x), Tb.tv f, .int .u8 (((Tb.wth x k false) : Nat) : Int), .bool (f.getLsbD (Tb.wth x k false)), .bool true, .bool true, .bool true, Tb.tv f, .int .u8 ((k : Nat) : Int), .int .i64 ((k : Nat) : Int), Tb.tv g, Tb.tv ((g &&& Tb.fix f ((k : Nat) : Int) true) ||| (~~~g &&& Tb.fix f ((k : Nat) : Int) false)), .int .u8 ((x : Nat) : Int), .bool (((g &&& Tb.fix f ((k : Nat) : Int) true) ||| (~~~g &&& Tb.fix f ((k : Nat) : Int) false)).getLsbD x), .bool d, .bool true, .bool true, .bool true, .int .u8 ((k : Nat) : Int), .int .i64 ((k : Nat) : Int), Tb.tv (Tb.var ((k : Nat) : Int)), .int .u8 ((x : Nat) : Int), .bool ((Tb.var ((k : Nat) : Int)).getLsbD x), .int .u8 ((x : Nat) : Int), .int .u8 ((k : Nat) : Int), .int .u8 (((x / 2 ^ k) : Nat) : Int), .int .u8 ((((x / 2 ^ k) &&& 1) : Nat) : Int), .bool (decide (((x / 2 ^ k) &&& 1) = 1)), .bool true, .bool true] : List Value).getD i undef) (fun _ => none) (fun u => Keep w u [(w.heap.size, f), ((w.heap.size + 1), g), ((w.heap.size + 1 + 1), h)]) _ (by kernel_rfl) (by kernel_rfl) (by intro g hg; simp only [List.mem_cons, List.not_mem_nil, or_false] at hg; rcases hg with rfl | rfl | rfl | rfl | rfl | rfl | rfl | rfl | rfl | rfl <;> exact ⟨rfl, _, rfl⟩) k2.drew (Nat.le_refl _) (fun _ o h => h.alloc o) ?_ ?_ ?_
        · iterate 1 skip
          refine all_succ ?_ ?_
          rotate_left
          · intro hf oo ho
            obtain rfl := Option.some.inj ho
            refine .inr ⟨(fun g b h => by cases h), ?_⟩
            intro act uu hS hB hd hold KK hcont
            exact wp_of_exec (exec_pick rfl (hd 87 137 (by kernel_rfl) rfl rfl) (hd 98 148 (by kernel_rfl) rfl rfl)) (hcont uu hS (Below.refl _ _))
          refine all_succ ?_ ?_
          rotate_left
          · intro hf oo ho
            obtain rfl := Option.some.inj ho
            refine .inr ⟨(fun g b h => by cases h; rfl), ?_⟩
            intro act uu hS hB hd hold KK hcont
            have h1 : act.eval ((Operand.tmp 142)) = .bool ((Tb.var ((k : Nat) : Int)).getLsbD x) := (hd 92 142 (by kernel_rfl) rfl rfl)
            have h2 : act.eval ((Operand.tmp 147)) = .bool (decide (((x / 2 ^ k) &&& 1) = 1)) := (hd 97 147 (by kernel_rfl) rfl rfl)
            have h3 : (binOp BinOp.eql 4 (.bool ((Tb.var ((k : Nat) : Int)).getLsbD x)) (.bool (decide (((x / 2 ^ k) &&& 1) = 1)))).run Tryd.prog uu = .ok (.bool true) uu := (bin_eqB1 (Tb.pt_var hx hk) _)
            exact wp_of_exec (exec_bin rfl h1 h2 (guard_bool _ _) h3) (hcont uu hS (Below.refl _ _))
          refine all_succ ?_ ?_
          rotate_left
          · intro hf oo ho
            obtain rfl := Option.some.inj ho
            refine .inr ⟨(fun g b h => by cases h; rfl), ?_⟩
            intro act uu hS hB hd hold KK hcont
            have h1 : act.eval ((Operand.tmp 146)) = .int .u8 ((((x / 2 ^ k) &&& 1) : Nat) : Int) := (hd 96 146 (by kernel_rfl) rfl rfl)
            have h2 : act.eval ((Operand.const (Value.int IntKind.u8 1))) = .int .u8 ((1 : Nat) : Int) := rfl
            have h3 : (binOp BinOp.eql 5 (.int .u8 ((((x / 2 ^ k) &&& 1) : Nat) : Int)) (.int .u8 ((1 : Nat) : Int))).run Tryd.prog uu = .ok (.bool (decide (((x / 2 ^ k) &&& 1) = 1))) uu := (bin_eqN _ _)
            exact wp_of_exec (exec_bin rfl h1 h2 (guard_int _ _) h3) (hcont uu hS (Below.refl _ _))
          refine all_succ ?_ ?_
          rotate_left
          · intro hf oo ho
            obtain rfl := Option.some.inj ho
            refine .inr ⟨(fun g b h => by cases h; rfl), ?_⟩
            intro act uu hS hB hd hold KK hcont
            have h1 : act.eval ((Operand.tmp 145)) = .int .u8 (((x / 2 ^ k) : Nat) : Int) := (hd 95 145 (by kernel_rfl) rfl rfl)
            have h2 : act.eval ((Operand.const (Value.int IntKind.u8 1))) = .int .u8 ((1 : Nat) : Int) := rfl
            have h3 : (binOp BinOp.and 5 (.int .u8 (((x / 2 ^ k) : Nat) : Int)) (.int .u8 ((1 : Nat) : Int))).run Tryd.prog uu = .ok (.int .u8 ((((x / 2 ^ k) &&& 1) : Nat) : Int)) uu := (bin_and8 (Nat.lt_of_le_of_lt (Nat.div_le_self _ _) hx) (by decide) _ _)
            exact wp_of_exec (exec_bin rfl h1 h2 (guard_int _ _) h3) (hcont uu hS (Below.refl _ _))
          refine all_succ ?_ ?_
          rotate_left
          · intro hf oo ho
            obtain rfl := Option.some.inj ho
            refine .inr ⟨(fun g b h => by cases h; rfl), ?_⟩
            intro act uu hS hB hd hold KK hcont
            have h1 : act.eval ((Operand.tmp 143)) = .int .u8 ((x : Nat) : Int) := (hd 93 143 (by kernel_rfl) rfl rfl)
            have h2 : act.eval ((Operand.tmp 144)) = .int .u8 ((k : Nat) : Int) := (hd 94 144 (by kernel_rfl) rfl rfl)
            have h3 : (binOp BinOp.shr 5 (.int .u8 ((x : Nat) : Int)) (.int .u8 ((k : Nat) : Int))).run Tryd.prog uu = .ok (.int .u8 (((x / 2 ^ k) : Nat) : Int)) uu := (bin_shr8 hx hk _ _)
            exact wp_of_exec (exec_bin rfl h1 h2 (guard_int _ _) h3) (hcont uu hS (Below.refl _ _))
          refine all_succ ?_ ?_
          rotate_left
          · intro hf oo ho
            obtain rfl := Option.some.inj ho
            refine .inr ⟨(fun g b h => by cases h; rfl), ?_⟩
            intro act uu hS hB hd hold KK hcont
            exact wp_of_exec (exec_move rfl (hold 11 (notDst (by kernel_rfl)))) (hcont uu hS (Below.refl _ _))
          refine all_succ ?_ ?_
          rotate_left
          · intro hf oo ho
            obtain rfl := Option.some.inj ho
            refine .inr ⟨(fun g b h => by cases h; rfl), ?_⟩
            intro act uu hS hB hd hold KK hcont
            exact wp_of_exec (exec_move rfl (hold 4 (notDst (by kernel_rfl)))) (hcont uu hS (Below.refl _ _))
          refine all_succ ?_ ?_
          rotate_left
          · intro hf oo ho
            obtain rfl := Option.some.inj ho
            refine .inr ⟨(fun g b h => by cases h; rfl), ?_⟩
            intro act uu hS hB hd hold KK hcont
            have h140 : act.tmps.getD 140 undef = Tb.tv (Tb.var ((k : Nat) : Int)) := (hd 90 140 (by kernel_rfl) rfl rfl)
            have h141 : act.tmps.getD 141 undef = .int .u8 ((x : Nat) : Int) := (hd 91 141 (by kernel_rfl) rfl rfl)
            go_simp
            refine (eval_any (Tb.var ((k : Nat) : Int)) x _ hx).mono ?_
            rintro e u' ⟨rfl, hb⟩
            exact hcont _ (hS.step hb) hb
          refine all_succ ?_ ?_
          rotate_left
          · intro hf oo ho
            obtain rfl := Option.some.inj ho
            refine .inr ⟨(fun g b h => by cases h; rfl), ?_⟩
            intro act uu hS hB hd hold KK hcont
            exact wp_of_exec (exec_move rfl (hold 4 (notDst (by kernel_rfl)))) (hcont uu hS (Below.refl _ _))
          refine all_succ ?_ ?_
          rotate_left
          · intro hf oo ho
            obtain rfl := Option.some.inj ho
            refine .inr ⟨(fun g b h => by cases h; rfl), ?_⟩
            intro act uu hS hB hd hold KK hcont
            have h139 : act.tmps.getD 139 undef = .int .i64 ((k : Nat) : Int) := (hd 89 139 (by kernel_rfl) rfl rfl)
            go_simp
            refine (var_any ((k : Nat) : Int) _).mono ?_
            rintro e u' ⟨rfl, hb⟩
            exact hcont _ (hS.step hb) hb
          refine all_succ ?_ ?_
          rotate_left
          · intro hf oo ho
            obtain rfl := Option.some.inj ho
            refine .inr ⟨(fun g b h => by cases h; rfl), ?_⟩
            intro act uu hS hB hd hold KK hcont
            exact wp_of_exec (exec_conv rfl (hd 88 138 (by kernel_rfl) rfl rfl) (Nat.lt_of_lt_of_le hk (by decide))) (hcont uu hS (Below.refl _ _))
          refine all_succ ?_ ?_
          rotate_left
          · intro hf oo ho
            obtain rfl := Option.some.inj ho
            refine .inr ⟨(fun g b h => by cases h; rfl), ?_⟩
            intro act uu hS hB hd hold KK hcont
            exact wp_of_exec (exec_move rfl (hold 11 (notDst (by kernel_rfl)))) (hcont uu hS (Below.refl _ _))
          refine all_succ ?_ ?_
          rotate_left
          · intro hf oo ho
            obtain rfl := Option.some.inj ho
            refine .inr ⟨(fun g b h => by cases h), ?_⟩
            intro act uu hS hB hd hold KK hcont
            exact wp_of_exec (exec_move rfl (hd 86 136 (by kernel_rfl) rfl rfl)) (hcont uu hS (Below.refl _ _))
          refine all_succ ?_ ?_
          rotate_left
          · intro hf oo ho
            obtain rfl := Option.some.inj ho
            refine .inr ⟨(fun g b h => by cases h), ?_⟩
            intro act uu hS hB hd hold KK hcont
            exact wp_of_exec (exec_pick rfl (hd 76 126 (by kernel_rfl) rfl rfl) (hd 85 135 (by kernel_rfl) rfl rfl)) (hcont uu hS (Below.refl _ _))
          refine all_succ ?_ ?_
          rotate_left
          · intro hf oo ho
            obtain rfl := Option.some.inj ho
            refine .inr ⟨(fun g b h => by cases h; rfl), ?_⟩
            intro act uu hS hB hd hold KK hcont
            have h1 : act.eval ((Operand.tmp 133)) = .bool (((g &&& Tb.fix f ((k : Nat) : Int) true) ||| (~~~g &&& Tb.fix f ((k : Nat) : Int) false)).getLsbD x) := (hd 83 133 (by kernel_rfl) rfl rfl)
            have h2 : act.eval ((Operand.tmp 134)) = .bool d := (hd 84 134 (by kernel_rfl) rfl rfl)
            have h3 : (binOp BinOp.eql 4 (.bool (((g &&& Tb.fix f ((k : Nat) : Int) true) ||| (~~~g &&& Tb.fix f ((k : Nat) : Int) false)).getLsbD x)) (.bool d)).run Tryd.prog uu = .ok (.bool true) uu := (bin_eqB1 ((Tb.pt_compose hx hk hb).trans Hd.out) _)
            exact wp_of_exec (exec_bin rfl h1 h2 (guard_bool _ _) h3) (hcont uu hS (Below.refl _ _))
          refine all_succ ?_ ?_
          rotate_left
          · intro hf oo ho
            obtain rfl := Option.some.inj ho
            refine .inr ⟨(fun g b h => by cases h; rfl), ?_⟩
            intro act uu hS hB hd hold KK hcont
            exact wp_of_exec (exec_move rfl (hold 17 (notDst (by kernel_rfl)))) (hcont uu hS (Below.refl _ _))
          refine all_succ ?_ ?_
          rotate_left
          · intro hf oo ho
            obtain rfl := Option.some.inj ho
            refine .inr ⟨(fun g b h => by cases h; rfl), ?_⟩
            intro act uu hS hB hd hold KK hcont
            have h131 : act.tmps.getD 131 undef = Tb.tv ((g &&& Tb.fix f ((k : Nat) : Int) true) ||| (~~~g &&& Tb.fix f ((k : Nat) : Int) false)) := (hd 81 131 (by kernel_rfl) rfl rfl)
            have h132 : act.tmps.getD 132 undef = .int .u8 ((x : Nat) : Int) := (hd 82 132 (by kernel_rfl) rfl rfl)
            go_simp
            refine (eval_any ((g &&& Tb.fix f ((k : Nat) : Int) true) ||| (~~~g &&& Tb.fix f ((k : Nat) : Int) false)) x _ hx).mono ?_
            rintro e u' ⟨rfl, hb⟩
            exact hcont _ (hS.step hb) hb
          refine all_succ ?_ ?_
          rotate_left
          · intro hf oo ho
            obtain rfl := Option.some.inj ho
            refine .inr ⟨(fun g b h => by cases h; rfl), ?_⟩
            intro act uu hS hB hd hold KK hcont
            exact wp_of_exec (exec_move rfl (hold 4 (notDst (by kernel_rfl)))) (hcont uu hS (Below.refl _ _))
          refine all_succ ?_ ?_
          rotate_left
          · intro hf oo ho
            obtain rfl := Option.some.inj ho
            refine .inr ⟨(fun g b h => by cases h; rfl), ?_⟩
            intro act uu hS hB hd hold KK hcont
            have h127 : act.tmps.getD 127 undef = Tb.tv f := (hd 77 127 (by kernel_rfl) rfl rfl)
            have h129 : act.tmps.getD 129 undef = .int .i64 ((k : Nat) : Int) := (hd 79 129 (by kernel_rfl) rfl rfl)
            have h130 : act.tmps.getD 130 undef = Tb.tv g := (hd 80 130 (by kernel_rfl) rfl rfl)
            go_simp
            refine (compose_any f ((k : Nat) : Int) g _).mono ?_
            rintro e u' ⟨rfl, hb⟩
            exact hcont _ (hS.step hb) hb
          refine all_succ ?_ ?_
          rotate_left
          · intro hf oo ho
            obtain rfl := Option.some.inj ho
            refine .inr ⟨(fun g b h => by cases h; rfl), ?_⟩
            intro act uu hS hB hd hold KK hcont
            exact wp_of_exec (exec_load rfl (hold 6 (notDst (by kernel_rfl))) (hS.at_ 1 _ _ rfl)) (hcont uu hS (Below.refl _ _))
          refine all_succ ?_ ?_
          rotate_left
          · intro hf oo ho
            obtain rfl := Option.some.inj ho
            refine .inr ⟨(fun g b h => by cases h; rfl), ?_⟩
            intro act uu hS hB hd hold KK hcont
            exact wp_of_exec (exec_conv rfl (hd 78 128 (by kernel_rfl) rfl rfl) (Nat.lt_of_lt_of_le hk (by decide))) (hcont uu hS (Below.refl _ _))
          refine all_succ ?_ ?_
          rotate_left
          · intro hf oo ho
            obtain rfl := Option.some.inj ho
            refine .inr ⟨(fun g b h => by cases h; rfl), ?_⟩
            intro act uu hS hB hd hold KK hcont
            exact wp_of_exec (exec_move rfl (hold 11 (notDst (by kernel_rfl)))) (hcont uu hS (Below.refl _ _))
          refine all_succ ?_ ?_
          rotate_left
          · intro hf oo ho
            obtain rfl := Option.some.inj ho
            refine .inr ⟨(fun g b h => by cases h; rfl), ?_⟩
            intro act uu hS hB hd hold KK hcont
            exact wp_of_exec (exec_load rfl (hold 5 (notDst (by kernel_rfl))) (hS.at_ 0 _ _ rfl)) (hcont uu hS (Below.refl _ _))
          refine all_succ ?_ ?_
          rotate_left
          · intro hf oo ho
            obtain rfl := Option.some.inj ho
            refine .inr ⟨(fun g b h => by cases h), ?_⟩
            intro act uu hS hB hd hold KK hcont
            exact wp_of_exec (exec_move rfl (hd 75 125 (by kernel_rfl) rfl rfl)) (hcont uu hS (Below.refl _ _))
          refine all_succ ?_ ?_
          rotate_left
          · intro hf oo ho
            obtain rfl := Option.some.inj ho
            refine .inr ⟨(fun g b h => by cases h), ?_⟩
            intro act uu hS hB hd hold KK hcont
            exact wp_of_exec (exec_pick rfl (hd 64 114 (by kernel_rfl) rfl rfl) (hd 74 124 (by kernel_rfl) rfl rfl)) (hcont uu hS (Below.refl _ _))
          refine all_succ ?_ ?_
          rotate_left
          · intro hf oo ho
            obtain rfl := Option.some.inj ho
            refine .inr ⟨(fun g b h => by cases h; rfl), ?_⟩
            intro act uu hS hB hd hold KK hcont
            have h1 : act.eval ((Operand.tmp 120)) = .bool ((Tb.fix f ((k : Nat) : Int) false).getLsbD x) := (hd 70 120 (by kernel_rfl) rfl rfl)
            have h2 : act.eval ((Operand.tmp 123)) = .bool (f.getLsbD (Tb.wth x k false)) := (hd 73 123 (by kernel_rfl) rfl rfl)
            have h3 : (binOp BinOp.eql 4 (.bool ((Tb.fix f ((k : Nat) : Int) false).getLsbD x)) (.bool (f.getLsbD (Tb.wth x k false)))).run Tryd.prog uu = .ok (.bool true) uu := (bin_eqB1 (Tb.pt_fix hx hk) _)
            exact wp_of_exec (exec_bin rfl h1 h2 (guard_bool _ _) h3) (hcont uu hS (Below.refl _ _))
          refine all_succ ?_ ?_
          rotate_left
          · intro hf oo ho
            obtain rfl := Option.some.inj ho
            refine .inr ⟨(fun g b h => by cases h; rfl), ?_⟩
            intro act uu hS hB hd hold KK hcont
            have h121 : act.tmps.getD 121 undef = Tb.tv f := (hd 71 121 (by kernel_rfl) rfl rfl)
            have h122 : act.tmps.getD 122 undef = .int .u8 (((Tb.wth x k false) : Nat) : Int) := (hd 72 122 (by kernel_rfl) rfl rfl)
            go_simp
            refine (eval_any f (Tb.wth x k false) _ l2.out).mono ?_
            rintro e u' ⟨rfl, hb⟩
            exact hcont _ (hS.step hb) hb
          refine all_succ ?_ ?_
          rotate_left
          · intro hf oo ho
            obtain rfl := Option.some.inj ho
            refine .inr ⟨(fun g b h => by cases h; rfl), ?_⟩
            intro act uu hS hB hd hold KK hcont
            exact wp_of_exec (exec_move rfl (hold 16 (notDst (by kernel_rfl)))) (hcont uu hS (Below.refl _ _))
          refine all_succ ?_ ?_
          rotate_left
          · intro hf oo ho
            obtain rfl := Option.some.inj ho
            refine .inr ⟨(fun g b h => by cases h; rfl), ?_⟩
            intro act uu hS hB hd hold KK hcont
            exact wp_of_exec (exec_load rfl (hold 5 (notDst (by kernel_rfl))) (hS.at_ 0 _ _ rfl)) (hcont uu hS (Below.refl _ _))
          refine all_succ ?_ ?_
          rotate_left
          · intro hf oo ho
            obtain rfl := Option.some.inj ho
            refine .inr ⟨(fun g b h => by cases h; rfl), ?_⟩
            intro act uu hS hB hd hold KK hcont
            have h118 : act.tmps.getD 118 undef = Tb.tv (Tb.fix f ((k : Nat) : Int) false) := (hd 68 118 (by kernel_rfl) rfl rfl)
            have h119 : act.tmps.getD 119 undef = .int .u8 ((x : Nat) : Int) := (hd 69 119 (by kernel_rfl) rfl rfl)
            go_simp
            refine (eval_any (Tb.fix f ((k : Nat) : Int) false) x _ hx).mono ?_
            rintro e u' ⟨rfl, hb⟩
            exact hcont _ (hS.step hb) hb
          refine all_succ ?_ ?_
          rotate_left
          · intro hf oo ho
            obtain rfl := Option.some.inj ho
            refine .inr ⟨(fun g b h => by cases h; rfl), ?_⟩
            intro act uu hS hB hd hold KK hcont
            exact wp_of_exec (exec_move rfl (hold 4 (notDst (by kernel_rfl)))) (hcont uu hS (Below.refl _ _))
          refine all_succ ?_ ?_
          rotate_left
          · intro hf oo ho
            obtain rfl := Option.some.inj ho
            refine .inr ⟨(fun g b h => by cases h; rfl), ?_⟩
            intro act uu hS hB hd hold KK hcont
            have h115 : act.tmps.getD 115 undef = Tb.tv f := (hd 65 115 (by kernel_rfl) rfl rfl)
            have h117 : act.tmps.getD 117 undef = .int .i64 ((k : Nat) : Int) := (hd 67 117 (by kernel_rfl) rfl rfl)
            go_simp
            refine (fix_any f ((k : Nat) : Int) false _).mono ?_
            rintro e u' ⟨rfl, hb⟩
            exact hcont _ (hS.step hb) hb
          refine all_succ ?_ ?_
          rotate_left
          · intro hf oo ho
            obtain rfl := Option.some.inj ho
            refine .inr ⟨(fun g b h => by cases h; rfl), ?_⟩
            intro act uu hS hB hd hold KK hcont
            exact wp_of_exec (exec_conv rfl (hd 66 116 (by kernel_rfl) rfl rfl) (Nat.lt_of_lt_of_le hk (by decide))) (hcont uu hS (Below.refl _ _))
          refine all_succ ?_ ?_
          rotate_left
          · intro hf oo ho
            obtain rfl := Option.some.inj ho
            refine .inr ⟨(fun g b h => by cases h; rfl), ?_⟩
            intro act uu hS hB hd hold KK hcont
            exact wp_of_exec (exec_move rfl (hold 11 (notDst (by kernel_rfl)))) (hcont uu hS (Below.refl _ _))
          refine all_succ ?_ ?_
          rotate_left
          · intro hf oo ho
            obtain rfl := Option.some.inj ho
            refine .inr ⟨(fun g b h => by cases h; rfl), ?_⟩
            intro act uu hS hB hd hold KK hcont
            exact wp_of_exec (exec_load rfl (hold 5 (notDst (by kernel_rfl))) (hS.at_ 0 _ _ rfl)) (hcont uu hS (Below.refl _ _))
          refine all_succ ?_ ?_
          rotate_left
          · intro hf oo ho
            obtain rfl := Option.some.inj ho
            refine .inr ⟨(fun g b h => by cases h), ?_⟩
            intro act uu hS hB hd hold KK hcont
            exact wp_of_exec (exec_move rfl (hd 63 113 (by kernel_rfl) rfl rfl)) (hcont uu hS (Below.refl _ _))
          refine all_succ ?_ ?_
          rotate_left
          · intro hf oo ho
            obtain rfl := Option.some.inj ho
            refine .inr ⟨(fun g b h => by cases h), ?_⟩
            intro act uu hS hB hd hold KK hcont
            exact wp_of_exec (exec_pick rfl (hd 52 102 (by kernel_rfl) rfl rfl) (hd 62 112 (by kernel_rfl) rfl rfl)) (hcont uu hS (Below.refl _ _))
          refine all_succ ?_ ?_
          rotate_left
          · intro hf oo ho
            obtain rfl := Option.some.inj ho
            refine .inr ⟨(fun g b h => by cases h; rfl), ?_⟩
            intro act uu hS hB hd hold KK hcont
            have h1 : act.eval ((Operand.tmp 108)) = .bool ((Tb.fix f ((k : Nat) : Int) true).getLsbD x) := (hd 58 108 (by kernel_rfl) rfl rfl)
            have h2 : act.eval ((Operand.tmp 111)) = .bool (f.getLsbD (Tb.wth x k true)) := (hd 61 111 (by kernel_rfl) rfl rfl)
            have h3 : (binOp BinOp.eql 4 (.bool ((Tb.fix f ((k : Nat) : Int) true).getLsbD x)) (.bool (f.getLsbD (Tb.wth x k true)))).run Tryd.prog uu = .ok (.bool true) uu := (bin_eqB1 (Tb.pt_fix hx hk) _)
            exact wp_of_exec (exec_bin rfl h1 h2 (guard_bool _ _) h3) (hcont uu hS (Below.refl _ _))
          refine all_succ ?_ ?_
          rotate_left
          · intro hf oo ho
            obtain rfl := Option.some.inj ho
            refine .inr ⟨(fun g b h => by cases h; rfl), ?_⟩
            intro act uu hS hB hd hold KK hcont
            have h109 : act.tmps.getD 109 undef = Tb.tv f := (hd 59 109 (by kernel_rfl) rfl rfl)
            have h110 : act.tmps.getD 110 undef = .int .u8 (((Tb.wth x k true) : Nat) : Int) := (hd 60 110 (by kernel_rfl) rfl rfl)
            go_simp
            refine (eval_any f (Tb.wth x k true) _ l1.out).mono ?_
            rintro e u' ⟨rfl, hb⟩
            exact hcont _ (hS.step hb) hb
          refine all_succ ?_ ?_
          rotate_left
          · intro hf oo ho
            obtain rfl := Option.some.inj ho
            refine .inr ⟨(fun g b h => by cases h; rfl), ?_⟩
            intro act uu hS hB hd hold KK hcont
            exact wp_of_exec (exec_move rfl (hold 15 (notDst (by kernel_rfl)))) (hcont uu hS (Below.refl _ _))
          refine all_succ ?_ ?_
          rotate_left
          · intro hf oo ho
            obtain rfl := Option.some.inj ho
            refine .inr ⟨(fun g b h => by cases h; rfl), ?_⟩
            intro act uu hS hB hd hold KK hcont
            exact wp_of_exec (exec_load rfl (hold 5 (notDst (by kernel_rfl))) (hS.at_ 0 _ _ rfl)) (hcont uu hS (Below.refl _ _))
          refine all_succ ?_ ?_
          rotate_left
          · intro hf oo ho
            obtain rfl := Option.some.inj ho
            refine .inr ⟨(fun g b h => by cases h; rfl), ?_⟩
            intro act uu hS hB hd hold KK hcont
            have h106 : act.tmps.getD 106 undef = Tb.tv (Tb.fix f ((k : Nat) : Int) true) := (hd 56 106 (by kernel_rfl) rfl rfl)
            have h107 : act.tmps.getD 107 undef = .int .u8 ((x : Nat) : Int) := (hd 57 107 (by kernel_rfl) rfl rfl)
            go_simp
            refine (eval_any (Tb.fix f ((k : Nat) : Int) true) x _ hx).mono ?_
            rintro e u' ⟨rfl, hb⟩
            exact hcont _ (hS.step hb) hb
          refine all_succ ?_ ?_
          rotate_left
          · intro hf oo ho
            obtain rfl := Option.some.inj ho
            refine .inr ⟨(fun g b h => by cases h; rfl), ?_⟩
            intro act uu hS hB hd hold KK hcont
            exact wp_of_exec (exec_move rfl (hold 4 (notDst (by kernel_rfl)))) (hcont uu hS (Below.refl _ _))
          refine all_succ ?_ ?_
          rotate_left
          · intro hf oo ho
            obtain rfl := Option.some.inj ho
            refine .inr ⟨(fun g b h => by cases h; rfl), ?_⟩
            intro act uu hS hB hd hold KK hcont
            have h103 : act.tmps.getD 103 undef = Tb.tv f := (hd 53 103 (by kernel_rfl) rfl rfl)
            have h105 : act.tmps.getD 105 undef = .int .i64 ((k : Nat) : Int) := (hd 55 105 (by kernel_rfl) rfl rfl)
            go_simp
            refine (fix_any f ((k : Nat) : Int) true _).mono ?_
            rintro e u' ⟨rfl, hb⟩
            exact hcont _ (hS.step hb) hb
          refine all_succ ?_ ?_
          rotate_left
          · intro hf oo ho
            obtain rfl := Option.some.inj ho
            refine .inr ⟨(fun g b h => by cases h; rfl), ?_⟩
            intro act uu hS hB hd hold KK hcont
            exact wp_of_exec (exec_conv rfl (hd 54 104 (by kernel_rfl) rfl rfl) (Nat.lt_of_lt_of_le hk (by decide))) (hcont uu hS (Below.refl _ _))
          refine all_succ ?_ ?_
          rotate_left
          · intro hf oo ho
            obtain rfl := Option.some.inj ho
            refine .inr ⟨(fun g b h => by cases h; rfl), ?_⟩
            intro act uu hS hB hd hold KK hcont
            exact wp_of_exec (exec_move rfl (hold 11 (notDst (by kernel_rfl)))) (hcont uu hS (Below.refl _ _))
          refine all_succ ?_ ?_
          rotate_left
          · intro hf oo ho
            obtain rfl := Option.some.inj ho
            refine .inr ⟨(fun g b h => by cases h; rfl), ?_⟩
            intro act uu hS hB hd hold KK hcont
            exact wp_of_exec (exec_load rfl (hold 5 (notDst (by kernel_rfl))) (hS.at_ 0 _ _ rfl)) (hcont uu hS (Below.refl _ _))
          refine all_succ ?_ ?_
          rotate_left
          · intro hf oo ho
            obtain rfl := Option.some.inj ho
            refine .inr ⟨(fun g b h => by cases h), ?_⟩
            intro act uu hS hB hd hold KK hcont
            exact wp_of_exec (exec_move rfl (hd 51 101 (by kernel_rfl) rfl rfl)) (hcont uu hS (Below.refl _ _))
          refine all_succ ?_ ?_
          rotate_left
          · intro hf oo ho
            obtain rfl := Option.some.inj ho
            refine .inr ⟨(fun g b h => by cases h), ?_⟩
            intro act uu hS hB hd hold KK hcont
            exact wp_of_exec (exec_pick rfl (hd 42 92 (by kernel_rfl) rfl rfl) (hd 50 100 (by kernel_rfl) rfl rfl)) (hcont uu hS (Below.refl _ _))
          refine all_succ ?_ ?_
          rotate_left
          · intro hf oo ho
            obtain rfl := Option.some.inj ho
            refine .inr ⟨(fun g b h => by cases h; rfl), ?_⟩
            intro act uu hS hB hd hold KK hcont
            have h1 : act.eval ((Operand.tmp 98)) = .bool (((f &&& g) ||| (~~~f &&& h)).getLsbD x) := (hd 48 98 (by kernel_rfl) rfl rfl)
            have h2 : act.eval ((Operand.tmp 99)) = .bool it := (hd 49 99 (by kernel_rfl) rfl rfl)
            have h3 : (binOp BinOp.eql 4 (.bool (((f &&& g) ||| (~~~f &&& h)).getLsbD x)) (.bool it)).run Tryd.prog uu = .ok (.bool true) uu := (bin_eqB1 ((Tb.pt_ite hx ha hb hc).trans hi) _)
            exact wp_of_exec (exec_bin rfl h1 h2 (guard_bool _ _) h3) (hcont uu hS (Below.refl _ _))
          refine all_succ ?_ ?_
          rotate_left
          · intro hf oo ho
            obtain rfl := Option.some.inj ho
            refine .inr ⟨(fun g b h => by cases h; rfl), ?_⟩
            intro act uu hS hB hd hold KK hcont
            exact wp_of_exec (exec_move rfl (hold 18 (notDst (by kernel_rfl)))) (hcont uu hS (Below.refl _ _))
          refine all_succ ?_ ?_
          rotate_left
          · intro hf oo ho
            obtain rfl := Option.some.inj ho
            refine .inr ⟨(fun g b h => by cases h; rfl), ?_⟩
            intro act uu hS hB hd hold KK hcont
            have h96 : act.tmps.getD 96 undef = Tb.tv ((f &&& g) ||| (~~~f &&& h)) := (hd 46 96 (by kernel_rfl) rfl rfl)
            have h97 : act.tmps.getD 97 undef = .int .u8 ((x : Nat) : Int) := (hd 47 97 (by kernel_rfl) rfl rfl)
            go_simp
            refine (eval_any ((f &&& g) ||| (~~~f &&& h)) x _ hx).mono ?_
            rintro e u' ⟨rfl, hb⟩
            exact hcont _ (hS.step hb) hb
          refine all_succ ?_ ?_
          rotate_left
          · intro hf oo ho
            obtain rfl := Option.some.inj ho
            refine .inr ⟨(fun g b h => by cases h; rfl), ?_⟩
            intro act uu hS hB hd hold KK hcont
            exact wp_of_exec (exec_move rfl (hold 4 (notDst (by kernel_rfl)))) (hcont uu hS (Below.refl _ _))
          refine all_succ ?_ ?_
          rotate_left
          · intro hf oo ho
            obtain rfl := Option.some.inj ho
            refine .inr ⟨(fun g b h => by cases h; rfl), ?_⟩
            intro act uu hS hB hd hold KK hcont
            have h93 : act.tmps.getD 93 undef = Tb.tv f := (hd 43 93 (by kernel_rfl) rfl rfl)
            have h94 : act.tmps.getD 94 undef = Tb.tv g := (hd 44 94 (by kernel_rfl) rfl rfl)
            have h95 : act.tmps.getD 95 undef = Tb.tv h := (hd 45 95 (by kernel_rfl) rfl rfl)
            go_simp
            refine (ite_any f g h _).mono ?_
            rintro e u' ⟨rfl, hb⟩
            exact hcont _ (hS.step hb) hb
          refine all_succ ?_ ?_
          rotate_left
          · intro hf oo ho
            obtain rfl := Option.some.inj ho
            refine .inr ⟨(fun g b h => by cases h; rfl), ?_⟩
            intro act uu hS hB hd hold KK hcont
            exact wp_of_exec (exec_load rfl (hold 7 (notDst (by kernel_rfl))) (hS.at_ 2 _ _ rfl)) (hcont uu hS (Below.refl _ _))
          refine all_succ ?_ ?_
          rotate_left
          · intro hf oo ho
            obtain rfl := Option.some.inj ho
            refine .inr ⟨(fun g b h => by cases h; rfl), ?_⟩
            intro act uu hS hB hd hold KK hcont
            exact wp_of_exec (exec_load rfl (hold 6 (notDst (by kernel_rfl))) (hS.at_ 1 _ _ rfl)) (hcont uu hS (Below.refl _ _))
          refine all_succ ?_ ?_
          rotate_left
          · intro hf oo ho
            obtain rfl := Option.some.inj ho
            refine .inr ⟨(fun g b h => by cases h; rfl), ?_⟩
            intro act uu hS hB hd hold KK hcont
            exact wp_of_exec (exec_load rfl (hold 5 (notDst (by kernel_rfl))) (hS.at_ 0 _ _ rfl)) (hcont uu hS (Below.refl _ _))
          refine all_succ ?_ ?_
          rotate_left
          · intro hf oo ho
            obtain rfl := Option.some.inj ho
            refine .inr ⟨(fun g b h => by cases h), ?_⟩
            intro act uu hS hB hd hold KK hcont
            exact wp_of_exec (exec_move rfl (hd 41 91 (by kernel_rfl) rfl rfl)) (hcont uu hS (Below.refl _ _))
          refine all_succ ?_ ?_
          rotate_left
          · intro hf oo ho
            obtain rfl := Option.some.inj ho
            refine .inr ⟨(fun g b h => by cases h), ?_⟩
            intro act uu hS hB hd hold KK hcont
            exact wp_of_exec (exec_pick rfl (hd 31 81 (by kernel_rfl) rfl rfl) (hd 40 90 (by kernel_rfl) rfl rfl)) (hcont uu hS (Below.refl _ _))
          refine all_succ ?_ ?_
          rotate_left
          · intro hf oo ho
            obtain rfl := Option.some.inj ho
            refine .inr ⟨(fun g b h => by cases h; rfl), ?_⟩
            intro act uu hS hB hd hold KK hcont
            have h1 : act.eval ((Operand.tmp 86)) = .bool ((f ^^^ g).getLsbD x) := (hd 36 86 (by kernel_rfl) rfl rfl)
            have h2 : act.eval ((Operand.tmp 89)) = .bool (!(a == b)) := (hd 39 89 (by kernel_rfl) rfl rfl)
            have h3 : (binOp BinOp.eql 4 (.bool ((f ^^^ g).getLsbD x)) (.bool (!(a == b)))).run Tryd.prog uu = .ok (.bool true) uu := (bin_eqB1 (Tb.pt_xor ha hb) _)
            exact wp_of_exec (exec_bin rfl h1 h2 (guard_bool _ _) h3) (hcont uu hS (Below.refl _ _))
          refine all_succ ?_ ?_
          rotate_left
          · intro hf oo ho
            obtain rfl := Option.some.inj ho
            refine .inr ⟨(fun g b h => by cases h; rfl), ?_⟩
            intro act uu hS hB hd hold KK hcont
            have h1 : act.eval ((Operand.tmp 87)) = .bool a := (hd 37 87 (by kernel_rfl) rfl rfl)
            have h2 : act.eval ((Operand.tmp 88)) = .bool b := (hd 38 88 (by kernel_rfl) rfl rfl)
            have h3 : (binOp BinOp.neq 4 (.bool a) (.bool b)).run Tryd.prog uu = .ok (.bool (!(a == b))) uu := (bin_neB _)
            exact wp_of_exec (exec_bin rfl h1 h2 (guard_bool _ _) h3) (hcont uu hS (Below.refl _ _))
          refine all_succ ?_ ?_
          rotate_left
          · intro hf oo ho
            obtain rfl := Option.some.inj ho
            refine .inr ⟨(fun g b h => by cases h; rfl), ?_⟩
            intro act uu hS hB hd hold KK hcont
            exact wp_of_exec (exec_move rfl (hold 13 (notDst (by kernel_rfl)))) (hcont uu hS (Below.refl _ _))
          refine all_succ ?_ ?_
          rotate_left
          · intro hf oo ho
            obtain rfl := Option.some.inj ho
            refine .inr ⟨(fun g b h => by cases h; rfl), ?_⟩
            intro act uu hS hB hd hold KK hcont
            exact wp_of_exec (exec_move rfl (hold 12 (notDst (by kernel_rfl)))) (hcont uu hS (Below.refl _ _))
          refine all_succ ?_ ?_
          rotate_left
          · intro hf oo ho
            obtain rfl := Option.some.inj ho
            refine .inr ⟨(fun g b h => by cases h; rfl), ?_⟩
            intro act uu hS hB hd hold KK hcont
            have h84 : act.tmps.getD 84 undef = Tb.tv (f ^^^ g) := (hd 34 84 (by kernel_rfl) rfl rfl)
            have h85 : act.tmps.getD 85 undef = .int .u8 ((x : Nat) : Int) := (hd 35 85 (by kernel_rfl) rfl rfl)
            go_simp
            refine (eval_any (f ^^^ g) x _ hx).mono ?_
            rintro e u' ⟨rfl, hb⟩
            exact hcont _ (hS.step hb) hb
          refine all_succ ?_ ?_
          rotate_left
          · intro hf oo ho
            obtain rfl := Option.some.inj ho
            refine .inr ⟨(fun g b h => by cases h; rfl), ?_⟩
            intro act uu hS hB hd hold KK hcont
            exact wp_of_exec (exec_move rfl (hold 4 (notDst (by kernel_rfl)))) (hcont uu hS (Below.refl _ _))
          refine all_succ ?_ ?_
          rotate_left
          · intro hf oo ho
            obtain rfl := Option.some.inj ho
            refine .inr ⟨(fun g b h => by cases h; rfl), ?_⟩
            intro act uu hS hB hd hold KK hcont
            have h82 : act.tmps.getD 82 undef = Tb.tv f := (hd 32 82 (by kernel_rfl) rfl rfl)
            have h83 : act.tmps.getD 83 undef = Tb.tv g := (hd 33 83 (by kernel_rfl) rfl rfl)
            go_simp
            refine (xor_any f g _).mono ?_
            rintro e u' ⟨rfl, hb⟩
            exact hcont _ (hS.step hb) hb
          refine all_succ ?_ ?_
          rotate_left
          · intro hf oo ho
            obtain rfl := Option.some.inj ho
            refine .inr ⟨(fun g b h => by cases h; rfl), ?_⟩
            intro act uu hS hB hd hold KK hcont
            exact wp_of_exec (exec_load rfl (hold 6 (notDst (by kernel_rfl))) (hS.at_ 1 _ _ rfl)) (hcont uu hS (Below.refl _ _))
          refine all_succ ?_ ?_
          rotate_left
          · intro hf oo ho
            obtain rfl := Option.some.inj ho
            refine .inr ⟨(fun g b h => by cases h; rfl), ?_⟩
            intro act uu hS hB hd hold KK hcont
            exact wp_of_exec (exec_load rfl (hold 5 (notDst (by kernel_rfl))) (hS.at_ 0 _ _ rfl)) (hcont uu hS (Below.refl _ _))
          refine all_succ ?_ ?_
          rotate_left
          · intro hf oo ho
            obtain rfl := Option.some.inj ho
            refine .inr ⟨(fun g b h => by cases h), ?_⟩
            intro act uu hS hB hd hold KK hcont
            exact wp_of_exec (exec_move rfl (hd 30 80 (by kernel_rfl) rfl rfl)) (hcont uu hS (Below.refl _ _))
          refine all_succ ?_ ?_
          rotate_left
          · intro hf oo ho
            obtain rfl := Option.some.inj ho
            refine .inr ⟨(fun g b h => by cases h), ?_⟩
            intro act uu hS hB hd hold KK hcont
            exact wp_of_exec (exec_pick rfl (hd 19 69 (by kernel_rfl) rfl rfl) (hd 29 79 (by kernel_rfl) rfl rfl)) (hcont uu hS (Below.refl _ _))
          refine all_succ ?_ ?_
          rotate_left
          · intro hf oo ho
            obtain rfl := Option.some.inj ho
            refine .inr ⟨(fun g b h => by cases h; rfl), ?_⟩
            intro act uu hS hB hd hold KK hcont
            have h1 : act.eval ((Operand.tmp 74)) = .bool ((f ||| g).getLsbD x) := (hd 24 74 (by kernel_rfl) rfl rfl)
            have h2 : act.eval ((Operand.tmp 78)) = .bool (a || b) := (hd 28 78 (by kernel_rfl) rfl rfl)
            have h3 : (binOp BinOp.eql 4 (.bool ((f ||| g).getLsbD x)) (.bool (a || b))).run Tryd.prog uu = .ok (.bool true) uu := (bin_eqB1 (Tb.pt_or ha hb) _)
            exact wp_of_exec (exec_bin rfl h1 h2 (guard_bool _ _) h3) (hcont uu hS (Below.refl _ _))
          refine all_succ ?_ ?_
          rotate_left
          · intro hf oo ho
            obtain rfl := Option.some.inj ho
            refine .inr ⟨(fun g b h => by cases h; rfl), ?_⟩
            intro act uu hS hB hd hold KK hcont
            exact wp_of_exec (exec_pick_or rfl (hd 26 76 (by kernel_rfl) rfl rfl) rfl (hd 27 77 (by kernel_rfl) rfl rfl)) (hcont uu hS (Below.refl _ _))
          refine all_succ ?_ ?_
          rotate_left
          · intro hf oo ho
            obtain rfl := Option.some.inj ho
            cases a
            rotate_left
            · exact .inl ⟨26, false, true, rfl, rfl, by decide, rfl⟩
            refine .inr ⟨(fun g b h => by cases h; rfl), ?_⟩
            intro act uu hS hB hd hold KK hcont
            exact wp_of_exec (exec_move rfl (hold 13 (notDst (by kernel_rfl)))) (hcont uu hS (Below.refl _ _))
          refine all_succ ?_ ?_
          rotate_left
          · intro hf oo ho
            obtain rfl := Option.some.inj ho
            refine .inr ⟨(fun g b h => by cases h; rfl), ?_⟩
            intro act uu hS hB hd hold KK hcont
            exact wp_of_exec (exec_move rfl (hd 25 75 (by kernel_rfl) rfl rfl)) (hcont uu hS (Below.refl _ _))
          refine all_succ ?_ ?_
          rotate_left
          · intro hf oo ho
            obtain rfl := Option.some.inj ho
            refine .inr ⟨(fun g b h => by cases h; rfl), ?_⟩
            intro act uu hS hB hd hold KK hcont
            exact wp_of_exec (exec_move rfl (hold 12 (notDst (by kernel_rfl)))) (hcont uu hS (Below.refl _ _))
          refine all_succ ?_ ?_
          rotate_left
          · intro hf oo ho
            obtain rfl := Option.some.inj ho
            refine .inr ⟨(fun g b h => by cases h; rfl), ?_⟩
            intro act uu hS hB hd hold KK hcont
            have h72 : act.tmps.getD 72 undef = Tb.tv (f ||| g) := (hd 22 72 (by kernel_rfl) rfl rfl)
            have h73 : act.tmps.getD 73 undef = .int .u8 ((x : Nat) : Int) := (hd 23 73 (by kernel_rfl) rfl rfl)
            go_simp
            refine (eval_any (f ||| g) x _ hx).mono ?_
            rintro e u' ⟨rfl, hb⟩
            exact hcont _ (hS.step hb) hb
          refine all_succ ?_ ?_
          rotate_left
          · intro hf oo ho
            obtain rfl := Option.some.inj ho
            refine .inr ⟨(fun g b h => by cases h; rfl), ?_⟩
            intro act uu hS hB hd hold KK hcont
            exact wp_of_exec (exec_move rfl (hold 4 (notDst (by kernel_rfl)))) (hcont uu hS (Below.refl _ _))
          refine all_succ ?_ ?_
          rotate_left
          · intro hf oo ho
            obtain rfl := Option.some.inj ho
            refine .inr ⟨(fun g b h => by cases h; rfl), ?_⟩
            intro act uu hS hB hd hold KK hcont
            have h70 : act.tmps.getD 70 undef = Tb.tv f := (hd 20 70 (by kernel_rfl) rfl rfl)
            have h71 : act.tmps.getD 71 undef = Tb.tv g := (hd 21 71 (by kernel_rfl) rfl rfl)
            go_simp
            refine (or_any f g _).mono ?_
            rintro e u' ⟨rfl, hb⟩
            exact hcont _ (hS.step hb) hb
          refine all_succ ?_ ?_
          rotate_left
          · intro hf oo ho
            obtain rfl := Option.some.inj ho
            refine .inr ⟨(fun g b h => by cases h; rfl), ?_⟩
            intro act uu hS hB hd hold KK hcont
            exact wp_of_exec (exec_load rfl (hold 6 (notDst (by kernel_rfl))) (hS.at_ 1 _ _ rfl)) (hcont uu hS (Below.refl _ _))
          refine all_succ ?_ ?_
          rotate_left
          · intro hf oo ho
            obtain rfl := Option.some.inj ho
            refine .inr ⟨(fun g b h => by cases h; rfl), ?_⟩
            intro act uu hS hB hd hold KK hcont
            exact wp_of_exec (exec_load rfl (hold 5 (notDst (by kernel_rfl))) (hS.at_ 0 _ _ rfl)) (hcont uu hS (Below.refl _ _))
          refine all_succ ?_ ?_
          rotate_left
          · intro hf oo ho
            obtain rfl := Option.some.inj ho
            refine .inr ⟨(fun g b h => by cases h), ?_⟩
            intro act uu hS hB hd hold KK hcont
            exact wp_of_exec (exec_move rfl (hd 18 68 (by kernel_rfl) rfl rfl)) (hcont uu hS (Below.refl _ _))
          refine all_succ ?_ ?_
          rotate_left
          · intro hf oo ho
            obtain rfl := Option.some.inj ho
            refine .inr ⟨(fun g b h => by cases h), ?_⟩
            intro act uu hS hB hd hold KK hcont
            exact wp_of_exec (exec_pick rfl (hd 7 57 (by kernel_rfl) rfl rfl) (hd 17 67 (by kernel_rfl) rfl rfl)) (hcont uu hS (Below.refl _ _))
          refine all_succ ?_ ?_
          rotate_left
          · intro hf oo ho
            obtain rfl := Option.some.inj ho
            refine .inr ⟨(fun g b h => by cases h; rfl), ?_⟩
            intro act uu hS hB hd hold KK hcont
            have h1 : act.eval ((Operand.tmp 62)) = .bool ((f &&& g).getLsbD x) := (hd 12 62 (by kernel_rfl) rfl rfl)
            have h2 : act.eval ((Operand.tmp 66)) = .bool (a && b) := (hd 16 66 (by kernel_rfl) rfl rfl)
            have h3 : (binOp BinOp.eql 4 (.bool ((f &&& g).getLsbD x)) (.bool (a && b))).run Tryd.prog uu = .ok (.bool true) uu := (bin_eqB1 (Tb.pt_and ha hb) _)
            exact wp_of_exec (exec_bin rfl h1 h2 (guard_bool _ _) h3) (hcont uu hS (Below.refl _ _))
          refine all_succ ?_ ?_
          rotate_left
          · intro hf oo ho
            obtain rfl := Option.some.inj ho
            refine .inr ⟨(fun g b h => by cases h; rfl), ?_⟩
            intro act uu hS hB hd hold KK hcont
            exact wp_of_exec (exec_pick_and rfl (hd 14 64 (by kernel_rfl) rfl rfl) (hd 15 65 (by kernel_rfl) rfl rfl) rfl) (hcont uu hS (Below.refl _ _))
          refine all_succ ?_ ?_
          rotate_left
          · intro hf oo ho
            obtain rfl := Option.some.inj ho
            cases a
            · exact .inl ⟨14, true, false, rfl, rfl, by decide, rfl⟩
            refine .inr ⟨(fun g b h => by cases h; rfl), ?_⟩
            intro act uu hS hB hd hold KK hcont
            exact wp_of_exec (exec_move rfl (hold 13 (notDst (by kernel_rfl)))) (hcont uu hS (Below.refl _ _))
          refine all_succ ?_ ?_
          rotate_left
          · intro hf oo ho
            obtain rfl := Option.some.inj ho
            refine .inr ⟨(fun g b h => by cases h; rfl), ?_⟩
            intro act uu hS hB hd hold KK hcont
            exact wp_of_exec (exec_move rfl (hd 13 63 (by kernel_rfl) rfl rfl)) (hcont uu hS (Below.refl _ _))
          refine all_succ ?_ ?_
          rotate_left
          · intro hf oo ho
            obtain rfl := Option.some.inj ho
            refine .inr ⟨(fun g b h => by cases h; rfl), ?_⟩
            intro act uu hS hB hd hold KK hcont
            exact wp_of_exec (exec_move rfl (hold 12 (notDst (by kernel_rfl)))) (hcont uu hS (Below.refl _ _))
          refine all_succ ?_ ?_
          rotate_left
          · intro hf oo ho
            obtain rfl := Option.some.inj ho
            refine .inr ⟨(fun g b h => by cases h; rfl), ?_⟩
            intro act uu hS hB hd hold KK hcont
            have h60 : act.tmps.getD 60 undef = Tb.tv (f &&& g) := (hd 10 60 (by kernel_rfl) rfl rfl)
            have h61 : act.tmps.getD 61 undef = .int .u8 ((x : Nat) : Int) := (hd 11 61 (by kernel_rfl) rfl rfl)
            go_simp
            refine (eval_any (f &&& g) x _ hx).mono ?_
            rintro e u' ⟨rfl, hb⟩
            exact hcont _ (hS.step hb) hb
          refine all_succ ?_ ?_
          rotate_left
          · intro hf oo ho
            obtain rfl := Option.some.inj ho
            refine .inr ⟨(fun g b h => by cases h; rfl), ?_⟩
            intro act uu hS hB hd hold KK hcont
            exact wp_of_exec (exec_move rfl (hold 4 (notDst (by kernel_rfl)))) (hcont uu hS (Below.refl _ _))
          refine all_succ ?_ ?_
          rotate_left
          · intro hf oo ho
            obtain rfl := Option.some.inj ho
            refine .inr ⟨(fun g b h => by cases h; rfl), ?_⟩
            intro act uu hS hB hd hold KK hcont
            have h58 : act.tmps.getD 58 undef = Tb.tv f := (hd 8 58 (by kernel_rfl) rfl rfl)
            have h59 : act.tmps.getD 59 undef = Tb.tv g := (hd 9 59 (by kernel_rfl) rfl rfl)
            go_simp
            refine (and_any f g _).mono ?_
            rintro e u' ⟨rfl, hb⟩
            exact hcont _ (hS.step hb) hb
          refine all_succ ?_ ?_
          rotate_left
          · intro hf oo ho
            obtain rfl := Option.some.inj ho
            refine .inr ⟨(fun g b h => by cases h; rfl), ?_⟩
            intro act uu hS hB hd hold KK hcont
            exact wp_of_exec (exec_load rfl (hold 6 (notDst (by kernel_rfl))) (hS.at_ 1 _ _ rfl)) (hcont uu hS (Below.refl _ _))
          refine all_succ ?_ ?_
          rotate_left
          · intro hf oo ho
            obtain rfl := Option.some.inj ho
            refine .inr ⟨(fun g b h => by cases h; rfl), ?_⟩
            intro act uu hS hB hd hold KK hcont
            exact wp_of_exec (exec_load rfl (hold 5 (notDst (by kernel_rfl))) (hS.at_ 0 _ _ rfl)) (hcont uu hS (Below.refl _ _))
          refine all_succ ?_ ?_
          rotate_left
          · intro hf oo ho
            obtain rfl := Option.some.inj ho
            refine .inr ⟨(fun g b h => by cases h), ?_⟩
            intro act uu hS hB hd hold KK hcont
            exact wp_of_exec (exec_move rfl (hd 6 56 (by kernel_rfl) rfl rfl)) (hcont uu hS (Below.refl _ _))
          refine all_succ ?_ ?_
          rotate_left
          · intro hf oo ho
            obtain rfl := Option.some.inj ho
            refine .inr ⟨(fun g b h => by cases h), ?_⟩
            intro act uu hS hB hd hold KK hcont
            have h1 : act.eval ((Operand.tmp 53)) = .bool ((~~~f).getLsbD x) := (hd 3 53 (by kernel_rfl) rfl rfl)
            have h2 : act.eval ((Operand.tmp 55)) = .bool (!a) := (hd 5 55 (by kernel_rfl) rfl rfl)
            have h3 : (binOp BinOp.eql 4 (.bool ((~~~f).getLsbD x)) (.bool (!a))).run Tryd.prog uu = .ok (.bool true) uu := (bin_eqB1 (Tb.pt_not hx ha) _)
            exact wp_of_exec (exec_bin rfl h1 h2 (guard_bool _ _) h3) (hcont uu hS (Below.refl _ _))
          refine all_succ ?_ ?_
          rotate_left
          · intro hf oo ho
            obtain rfl := Option.some.inj ho
            refine .inr ⟨(fun g b h => by cases h), ?_⟩
            intro act uu hS hB hd hold KK hcont
            have h1 : act.eval ((Operand.tmp 54)) = .bool a := (hd 4 54 (by kernel_rfl) rfl rfl)
            have h3 : (Op.unary UnOp.not (.bool a)).run Tryd.prog uu = .ok (.bool (!a)) uu := (un_not _ _)
            exact wp_of_exec (exec_un rfl h1 h3) (hcont uu hS (Below.refl _ _))
          refine all_succ ?_ ?_
          rotate_left
          · intro hf oo ho
            obtain rfl := Option.some.inj ho
            refine .inr ⟨(fun g b h => by cases h), ?_⟩
            intro act uu hS hB hd hold KK hcont
            exact wp_of_exec (exec_move rfl (hold 12 (notDst (by kernel_rfl)))) (hcont uu hS (Below.refl _ _))
          refine all_succ ?_ ?_
          rotate_left
          · intro hf oo ho
            obtain rfl := Option.some.inj ho
            refine .inr ⟨(fun g b h => by cases h), ?_⟩
            intro act uu hS hB hd hold KK hcont
            have h51 : act.tmps.getD 51 undef = Tb.tv (~~~f) := (hd 1 51 (by kernel_rfl) rfl rfl)
            have h52 : act.tmps.getD 52 undef = .int .u8 ((x : Nat) : Int) := (hd 2 52 (by kernel_rfl) rfl rfl)
            go_simp
            refine (eval_any (~~~f) x _ hx).mono ?_
            rintro e u' ⟨rfl, hb⟩
            exact hcont _ (hS.step hb) hb
          refine all_succ ?_ ?_
          rotate_left
          · intro hf oo ho
            obtain rfl := Option.some.inj ho
            refine .inr ⟨(fun g b h => by cases h), ?_⟩
            intro act uu hS hB hd hold KK hcont
            exact wp_of_exec (exec_move rfl (hold 4 (notDst (by kernel_rfl)))) (hcont uu hS (Below.refl _ _))
          refine all_succ ?_ ?_
          rotate_left
          · intro hf oo ho
            obtain rfl := Option.some.inj ho
            refine .inr ⟨(fun g b h => by cases h), ?_⟩
            intro act uu hS hB hd hold KK hcont
            have h50 : act.tmps.getD 50 undef = Tb.tv f := (hd 0 50 (by kernel_rfl) rfl rfl)
            go_simp
            refine (not_any f _).mono ?_
            rintro e u' ⟨rfl, hb⟩
            exact hcont _ (hS.step hb) hb
          refine all_succ ?_ ?_
          rotate_left
          · intro hf oo ho
            obtain rfl := Option.some.inj ho
            refine .inr ⟨(fun g b h => by cases h), ?_⟩
            intro act uu hS hB hd hold KK hcont
            exact wp_of_exec (exec_load rfl (hold 5 (notDst (by kernel_rfl))) (hS.at_ 0 _ _ rfl)) (hcont uu hS (Below.refl _ _))
          exact all_zero
        · intro i hi ty z hf; cases hf
        · intro ρ u hF
          have e0 : ρ 0 = Tb.tv f := hF.val 0 (by omega) (by kernel_rfl) rfl
          have e1 : ρ 1 = Tb.tv (~~~f) := hF.val 1 (by omega) (by kernel_rfl) rfl
          have e2 : ρ 2 = .int .u8 ((x : Nat) : Int) := hF.val 2 (by omega) (by kernel_rfl) rfl
          have e3 : ρ 3 = .bool ((~~~f).getLsbD x) := hF.val 3 (by omega) (by kernel_rfl) rfl
          have e4 : ρ 4 = .bool a := hF.val 4 (by omega) (by kernel_rfl) rfl
          have e5 : ρ 5 = .bool (!a) := hF.val 5 (by omega) (by kernel_rfl) rfl
          have e6 : ρ 6 = .bool true := hF.val 6 (by omega) (by kernel_rfl) rfl
          have e7 : ρ 7 = .bool true := hF.val 7 (by omega) (by kernel_rfl) rfl
          have e8 : ρ 8 = Tb.tv f := hF.val 8 (by omega) (by kernel_rfl) rfl
          have e9 : ρ 9 = Tb.tv g := hF.val 9 (by omega) (by kernel_rfl) rfl
          have e10 : ρ 10 = Tb.tv (f &&& g) := hF.val 10 (by omega) (by kernel_rfl) rfl
          have e11 : ρ 11 = .int .u8 ((x : Nat) : Int) := hF.val 11 (by omega) (by kernel_rfl) rfl
          have e12 : ρ 12 = .bool ((f &&& g).getLsbD x) := hF.val 12 (by omega) (by kernel_rfl) rfl
          have e13 : ρ 13 = .bool a := hF.val 13 (by omega) (by kernel_rfl) rfl
          have e14 : ρ 14 = .bool a := hF.val 14 (by omega) (by kernel_rfl) rfl
          have e15 : ρ 15 = (bif a then .bool b else undef) := hF.val 15 (by omega) (by kernel_rfl) rfl
          have e16 : ρ 16 = .bool (a && b) := hF.val 16 (by omega) (by kernel_rfl) rfl
          have e17 : ρ 17 = .bool true := hF.val 17 (by omega) (by kernel_rfl) rfl
          have e18 : ρ 18 = .bool true := hF.val 18 (by omega) (by kernel_rfl) rfl
          have e19 : ρ 19 = .bool true := hF.val 19 (by omega) (by kernel_rfl) rfl
          have e20 : ρ 20 = Tb.tv f := hF.val 20 (by omega) (by kernel_rfl) rfl
          have e21 : ρ 21 = Tb.tv g := hF.val 21 (by omega) (by kernel_rfl) rfl
          have e22 : ρ 22 = Tb.tv (f ||| g) := hF.val 22 (by omega) (by kernel_rfl) rfl
          have e23 : ρ 23 = .int .u8 ((x : Nat) : Int) := hF.val 23 (by omega) (by kernel_rfl) rfl
          have e24 : ρ 24 = .bool ((f ||| g).getLsbD x) := hF.val 24 (by omega) (by kernel_rfl) rfl
          have e25 : ρ 25 = .bool a := hF.val 25 (by omega) (by kernel_rfl) rfl
          have e26 : ρ 26 = .bool a := hF.val 26 (by omega) (by kernel_rfl) rfl
          have e27 : ρ 27 = (bif a then undef else .bool b) := hF.val 27 (by omega) (by kernel_rfl) rfl
          have e28 : ρ 28 = .bool (a || b) := hF.val 28 (by omega) (by kernel_rfl) rfl
          have e29 : ρ 29 = .bool true := hF.val 29 (by omega) (by kernel_rfl) rfl
          have e30 : ρ 30 = .bool true := hF.val 30 (by omega) (by kernel_rfl) rfl
          have e31 : ρ 31 = .bool true := hF.val 31 (by omega) (by kernel_rfl) rfl
          have e32 : ρ 32 = Tb.tv f := hF.val 32 (by omega) (by kernel_rfl) rfl
          have e33 : ρ 33 = Tb.tv g := hF.val 33 (by omega) (by kernel_rfl) rfl
          have e34 : ρ 34 = Tb.tv (f ^^^ g) := hF.val 34 (by omega) (by kernel_rfl) rfl
          have e35 : ρ 35 = .int .u8 ((x : Nat) : Int) := hF.val 35 (by omega) (by kernel_rfl) rfl
          have e36 : ρ 36 = .bool ((f ^^^ g).getLsbD x) := hF.val 36 (by omega) (by kernel_rfl) rfl
          have e37 : ρ 37 = .bool a := hF.val 37 (by omega) (by kernel_rfl) rfl
          have e38 : ρ 38 = .bool b := hF.val 38 (by omega) (by kernel_rfl) rfl
          have e39 : ρ 39 = .bool (!(a == b)) := hF.val 39 (by omega) (by kernel_rfl) rfl
          have e40 : ρ 40 = .bool true := hF.val 40 (by omega) (by kernel_rfl) rfl
          have e41 : ρ 41 = .bool true := hF.val 41 (by omega) (by kernel_rfl) rfl
          have e42 : ρ 42 = .bool true := hF.val 42 (by omega) (by kernel_rfl) rfl
          have e43 : ρ 43 = Tb.tv f := hF.val 43 (by omega) (by kernel_rfl) rfl
          have e44 : ρ 44 = Tb.tv g := hF.val 44 (by omega) (by kernel_rfl) rfl
          have e45 : ρ 45 = Tb.tv h := hF.val 45 (by omega) (by kernel_rfl) rfl
          have e46 : ρ 46 = Tb.tv ((f &&& g) ||| (~~~f &&& h)) := hF.val 46 (by omega) (by kernel_rfl) rfl
          have e47 : ρ 47 = .int .u8 ((x : Nat) : Int) := hF.val 47 (by omega) (by kernel_rfl) rfl
          have e48 : ρ 48 = .bool (((f &&& g) ||| (~~~f &&& h)).getLsbD x) := hF.val 48 (by omega) (by kernel_rfl) rfl
          have e49 : ρ 49 = .bool it := hF.val 49 (by omega) (by kernel_rfl) rfl
          have e50 : ρ 50 = .bool true := hF.val 50 (by omega) (by kernel_rfl) rfl
          have e51 : ρ 51 = .bool true := hF.val 51 (by omega) (by kernel_rfl) rfl
          have e52 : ρ 52 = .bool true := hF.val 52 (by omega) (by kernel_rfl) rfl
          have e53 : ρ 53 = Tb.tv f := hF.val 53 (by omega) (by kernel_rfl) rfl
          have e54 : ρ 54 = .int .u8 ((k : Nat) : Int) := hF.val 54 (by omega) (by kernel_rfl) rfl
          have e55 : ρ 55 = .int .i64 ((k : Nat) : Int) := hF.val 55 (by omega) (by kernel_rfl) rfl
          have e56 : ρ 56 = Tb.tv (Tb.fix f ((k : Nat) : Int) true) := hF.val 56 (by omega) (by kernel_rfl) rfl
          have e57 : ρ 57 = .int .u8 ((x : Nat) : Int) := hF.val 57 (by omega) (by kernel_rfl) rfl
          have e58 : ρ 58 = .bool ((Tb.fix f ((k : Nat) : Int) true).getLsbD x) := hF.val 58 (by omega) (by kernel_rfl) rfl
          have e59 : ρ 59 = Tb.tv f := hF.val 59 (by omega) (by kernel_rfl) rfl
          have e60 : ρ 60 = .int .u8 (((Tb.wth x k true) : Nat) : Int) := hF.val 60 (by omega) (by kernel_rfl) rfl
          have e61 : ρ 61 = .bool (f.getLsbD (Tb.wth x k true)) := hF.val 61 (by omega) (by kernel_rfl) rfl
          have e62 : ρ 62 = .bool true := hF.val 62 (by omega) (by kernel_rfl) rfl
          have e63 : ρ 63 = .bool true := hF.val 63 (by omega) (by kernel_rfl) rfl
          have e64 : ρ 64 = .bool true := hF.val 64 (by omega) (by kernel_rfl) rfl
          have e65 : ρ 65 = Tb.tv f := hF.val 65 (by omega) (by kernel_rfl) rfl
          have e66 : ρ 66 = .int .u8 ((k : Nat) : Int) := hF.val 66 (by omega) (by kernel_rfl) rfl
          have e67 : ρ 67 = .int .i64 ((k : Nat) : Int) := hF.val 67 (by omega) (by kernel_rfl) rfl
          have e68 : ρ 68 = Tb.tv (Tb.fix f ((k : Nat) : Int) false) := hF.val 68 (by omega) (by kernel_rfl) rfl
          have e69 : ρ 69 = .int .u8 ((x : Nat) : Int) := hF.val 69 (by omega) (by kernel_rfl) rfl
          have e70 : ρ 70 = .bool ((Tb.fix f ((k : Nat) : Int) false).getLsbD x) := hF.val 70 (by omega) (by kernel_rfl) rfl
          have e71 : ρ 71 = Tb.tv f := hF.val 71 (by omega) (by kernel_rfl) rfl
          have e72 : ρ 72 = .int .u8 (((Tb.wth x k false) : Nat) : Int) := hF.val 72 (by omega) (by kernel_rfl) rfl
          have e73 : ρ 73 = .bool (f.getLsbD (Tb.wth x k false)) := hF.val 73 (by omega) (by kernel_rfl) rfl
          have e74 : ρ 74 = .bool true := hF.val 74 (by omega) (by kernel_rfl) rfl
          have e75 : ρ 75 = .bool true := hF.val 75 (by omega) (by kernel_rfl) rfl
          have e76 : ρ 76 = .bool true := hF.val 76 (by omega) (by kernel_rfl) rfl
          have e77 : ρ 77 = Tb.tv f := hF.val 77 (by omega) (by kernel_rfl) rfl
          have e78 : ρ 78 = .int .u8 ((k : Nat) : Int) := hF.val 78 (by omega) (by kernel_rfl) rfl
          have e79 : ρ 79 = .int .i64 ((k : Nat) : Int) := hF.val 79 (by omega) (by kernel_rfl) rfl
          have e80 : ρ 80 = Tb.tv g := hF.val 80 (by omega) (by kernel_rfl) rfl
          have e81 : ρ 81 = Tb.tv ((g &&& Tb.fix f ((k : Nat) : Int) true) ||| (~~~g &&& Tb.fix f ((k : Nat) : Int) false)) := hF.val 81 (by omega) (by kernel_rfl) rfl
          have e82 : ρ 82 = .int .u8 ((x : Nat) : Int) := hF.val 82 (by omega) (by kernel_rfl) rfl
          have e83 : ρ 83 = .bool (((g &&& Tb.fix f ((k : Nat) : Int) true) ||| (~~~g &&& Tb.fix f ((k : Nat) : Int) false)).getLsbD x) := hF.val 83 (by omega) (by kernel_rfl) rfl
          have e84 : ρ 84 = .bool d := hF.val 84 (by omega) (by kernel_rfl) rfl
          have e85 : ρ 85 = .bool true := hF.val 85 (by omega) (by kernel_rfl) rfl
          have e86 : ρ 86 = .bool true := hF.val 86 (by omega) (by kernel_rfl) rfl
          have e87 : ρ 87 = .bool true := hF.val 87 (by omega) (by kernel_rfl) rfl
          have e88 : ρ 88 = .int .u8 ((k : Nat) : Int) := hF.val 88 (by omega) (by kernel_rfl) rfl
          have e89 : ρ 89 = .int .i64 ((k : Nat) : Int) := hF.val 89 (by omega) (by kernel_rfl) rfl
          have e90 : ρ 90 = Tb.tv (Tb.var ((k : Nat) : Int)) := hF.val 90 (by omega) (by kernel_rfl) rfl
          have e91 : ρ 91 = .int .u8 ((x : Nat) : Int) := hF.val 91 (by omega) (by kernel_rfl) rfl
          have e92 : ρ 92 = .bool ((Tb.var ((k : Nat) : Int)).getLsbD x) := hF.val 92 (by omega) (by kernel_rfl) rfl
          have e93 : ρ 93 = .int .u8 ((x : Nat) : Int) := hF.val 93 (by omega) (by kernel_rfl) rfl
          have e94 : ρ 94 = .int .u8 ((k : Nat) : Int) := hF.val 94 (by omega) (by kernel_rfl) rfl
          have e95 : ρ 95 = .int .u8 (((x / 2 ^ k) : Nat) : Int) := hF.val 95 (by omega) (by kernel_rfl) rfl
          have e96 : ρ 96 = .int .u8 ((((x / 2 ^ k) &&& 1) : Nat) : Int) := hF.val 96 (by omega) (by kernel_rfl) rfl
          have e97 : ρ 97 = .bool (decide (((x / 2 ^ k) &&& 1) = 1)) := hF.val 97 (by omega) (by kernel_rfl) rfl
          have e98 : ρ 98 = .bool true := hF.val 98 (by omega) (by kernel_rfl) rfl
          have e99 : ρ 99 = .bool true := hF.val 99 (by omega) (by kernel_rfl) rfl
          have k0 := hF.s_
          simp only [puts, dstOf, e0, e1, e2, e3, e4, e5, e6, e7, e8, e9, e10, e11, e12, e13, e14, e15, e16, e17, e18, e19, e20, e21, e22, e23, e24, e25, e26, e27, e28, e29, e30, e31, e32, e33, e34, e35, e36, e37, e38, e39, e40, e41, e42, e43, e44, e45, e46, e47, e48, e49, e50, e51, e52, e53, e54, e55, e56, e57, e58, e59, e60, e61, e62, e63, e64, e65, e66, e67, e68, e69, e70, e71, e72, e73, e74, e75, e76, e77, e78, e79, e80, e81, e82, e83, e84, e85, e86, e87, e88, e89, e90, e91, e92, e93, e94, e95, e96, e97, e98, e99]
          go_wp2_with fail
          go_ret
          exact ⟨rfl, k0.below⟩
end Go.Proofs.YtfkefgelceaimaaDoor
