/-
  The walk of the law TruthRels.
-/
import Derived.Test.YtfkefgelceaimaaDoorLaw2
import Derived.Test.YtfkefgelceaimaaDoorRelPlain
namespace Go.Proofs.YtfkefgelceaimaaDoor
set_option linter.unusedVariables false
open Go.RowKit

set_option maxRecDepth 100000 in
set_option maxHeartbeats 4000000 in
theorem rels_walk (p q r t : Tb.T) (w : World) (hT : TabAt w) (hG : 0 < w.heap.size) :
    Calls Tryd.prog 9 #[Tb.tv p, Tb.tv q, Tb.tv r, Tb.tv t] w fun e w' => e = .returned (.bool true) ∧ Below w.heap.size w w' := by
  have hK := ((((Keep.nil w).new p).new q).new r).new t
  have hT3 : TabAt ((((w.alloc (.cells (Tb.tcells p) 24)).alloc (.cells (Tb.tcells q) 24)).alloc (.cells (Tb.tcells r) 24)).alloc (.cells (Tb.tcells t) 24)) := hT.keep hK.below hG
  have hKn := known3_any _ hT3 (by simp)
  go_enter Tryd.func9, Tryd.ntmps9
  go_wp2_with fail
  refine hKn.mono ?_
  rintro e w5 ⟨rfl, b5⟩
  replace hK : Keep w w5 _ := hK.step b5
  simp at hK
  go_wp2_with fail
  -- rels
  refine region_float [13, 28, 43, 58, 65] 72 (fun i => ([Tb.tv p, Tb.tv q, Tb.tv (p ||| q), Tb.tv r, Tb.tv (Tb.next (p ||| q) r), Tb.tv p, Tb.tv r, Tb.tv (Tb.next p r), Tb.tv q, Tb.tv r, Tb.tv (Tb.next q r), Tb.tv ((Tb.next p r) ||| (Tb.next q r)), .bool true, .bool true, Tb.tv p, Tb.tv r, Tb.tv t, Tb.tv (r ||| t), Tb.tv (Tb.next p (r ||| t)), Tb.tv p, Tb.tv r, Tb.tv (Tb.next p r), Tb.tv p, Tb.tv t, Tb.tv (Tb.next p t), Tb.tv ((Tb.next p r) ||| (Tb.next p t)), .bool true, .bool true, .bool true, Tb.tv p, Tb.tv q, Tb.tv (p ||| q), Tb.tv r, Tb.tv (Tb.prev (p ||| q) r), Tb.tv p, Tb.tv r, Tb.tv (Tb.prev p r), Tb.tv q, Tb.tv r, Tb.tv (Tb.prev q r), Tb.tv ((Tb.prev p r) ||| (Tb.prev q r)), .bool true, .bool true, .bool true, Tb.tv p, Tb.tv r, Tb.tv t, Tb.tv (r ||| t), Tb.tv (Tb.prev p (r ||| t)), Tb.tv p, Tb.tv r, Tb.tv (Tb.prev p r), Tb.tv p, Tb.tv t, Tb.tv (Tb.prev p t), Tb.tv ((Tb.prev p r) ||| (Tb.prev p t)), .bool true, .bool true, .bool true, Tb.tv p, Tb.tv 0#256, Tb.tv (Tb.next p 0#256), Tb.tv 0#256, .bool true, .bool true, .bool true, Tb.tv 0#256, Tb.tv r, Tb.tv (Tb.prev 0#256 r), Tb.tv 0#256, .bool true, .bool true] : List Value).getD i undef) (fun _ => none) (fun u => Keep w u [(w.heap.size, p), ((w.heap.size + 1), q), ((w.heap.size + 1 + 1), r), ((w.heap.size + 1 + 1 + 1), t)]) _ (by kernel_rfl) (by kernel_rfl) (by intro g hg; simp only [List.mem_cons, List.not_mem_nil, or_false] at hg; rcases hg with rfl | rfl | rfl | rfl | rfl <;> exact ⟨rfl, rfl⟩) hK.drew (Nat.le_refl _) (fun _ o h => h.alloc o) ?_ ?_ ?_
  · iterate 1 skip
    refine all_succ ?_ ?_
    rotate_left
    · intro hf oo ho act uu hS hB hd hold KK hk
      obtain rfl := Option.some.inj ho
      exact wp_of_exec (exec_pick rfl (hd 65 76 (by kernel_rfl) rfl rfl) (hd 70 81 (by kernel_rfl) rfl rfl)) (hk uu hS (Below.refl _ _))
    refine all_succ ?_ ?_
    rotate_left
    · intro hf oo ho act uu hS hB hd hold KK hk
      obtain rfl := Option.some.inj ho
      exact wp_of_exec (exec_eqT rfl (hd 68 79 (by kernel_rfl) rfl rfl) (hd 69 80 (by kernel_rfl) rfl rfl) (Tb.prev_zero r)) (hk uu hS (Below.refl _ _))
    refine all_succ ?_ ?_
    rotate_left
    · intro hf oo ho act uu hS hB hd hold KK hk
      obtain rfl := Option.some.inj ho
      exact wp_of_exec (exec_zero rfl) (hk uu hS (Below.refl _ _))
    refine all_succ ?_ ?_
    rotate_left
    · intro hf oo ho act uu hS hB hd hold KK hk
      obtain rfl := Option.some.inj ho
      have h77 : act.tmps.getD 77 undef = Tb.tv 0#256 := (hd 66 77 (by kernel_rfl) rfl rfl)
      have h78 : act.tmps.getD 78 undef = Tb.tv r := (hd 67 78 (by kernel_rfl) rfl rfl)
      go_simp
      refine (prev_any 0#256 r _).mono ?_
      rintro e u' ⟨rfl, hb⟩
      exact hk _ (hS.step hb) hb
    refine all_succ ?_ ?_
    rotate_left
    · intro hf oo ho act uu hS hB hd hold KK hk
      obtain rfl := Option.some.inj ho
      exact wp_of_exec (exec_load rfl (hold 6 (notDst (by kernel_rfl))) (hS.at_ 2 _ _ rfl)) (hk uu hS (Below.refl _ _))
    refine all_succ ?_ ?_
    rotate_left
    · intro hf oo ho act uu hS hB hd hold KK hk
      obtain rfl := Option.some.inj ho
      exact wp_of_exec (exec_zero rfl) (hk uu hS (Below.refl _ _))
    refine all_succ ?_ ?_
    rotate_left
    · intro hf oo ho act uu hS hB hd hold KK hk
      obtain rfl := Option.some.inj ho
      exact wp_of_exec (exec_move rfl (hd 64 75 (by kernel_rfl) rfl rfl)) (hk uu hS (Below.refl _ _))
    refine all_succ ?_ ?_
    rotate_left
    · intro hf oo ho act uu hS hB hd hold KK hk
      obtain rfl := Option.some.inj ho
      exact wp_of_exec (exec_pick rfl (hd 58 69 (by kernel_rfl) rfl rfl) (hd 63 74 (by kernel_rfl) rfl rfl)) (hk uu hS (Below.refl _ _))
    refine all_succ ?_ ?_
    rotate_left
    · intro hf oo ho act uu hS hB hd hold KK hk
      obtain rfl := Option.some.inj ho
      exact wp_of_exec (exec_eqT rfl (hd 61 72 (by kernel_rfl) rfl rfl) (hd 62 73 (by kernel_rfl) rfl rfl) (Tb.next_zero p)) (hk uu hS (Below.refl _ _))
    refine all_succ ?_ ?_
    rotate_left
    · intro hf oo ho act uu hS hB hd hold KK hk
      obtain rfl := Option.some.inj ho
      exact wp_of_exec (exec_zero rfl) (hk uu hS (Below.refl _ _))
    refine all_succ ?_ ?_
    rotate_left
    · intro hf oo ho act uu hS hB hd hold KK hk
      obtain rfl := Option.some.inj ho
      have h70 : act.tmps.getD 70 undef = Tb.tv p := (hd 59 70 (by kernel_rfl) rfl rfl)
      have h71 : act.tmps.getD 71 undef = Tb.tv 0#256 := (hd 60 71 (by kernel_rfl) rfl rfl)
      go_simp
      refine (next_any p 0#256 _).mono ?_
      rintro e u' ⟨rfl, hb⟩
      exact hk _ (hS.step hb) hb
    refine all_succ ?_ ?_
    rotate_left
    · intro hf oo ho act uu hS hB hd hold KK hk
      obtain rfl := Option.some.inj ho
      exact wp_of_exec (exec_zero rfl) (hk uu hS (Below.refl _ _))
    refine all_succ ?_ ?_
    rotate_left
    · intro hf oo ho act uu hS hB hd hold KK hk
      obtain rfl := Option.some.inj ho
      exact wp_of_exec (exec_load rfl (hold 4 (notDst (by kernel_rfl))) (hS.at_ 0 _ _ rfl)) (hk uu hS (Below.refl _ _))
    refine all_succ ?_ ?_
    rotate_left
    · intro hf oo ho act uu hS hB hd hold KK hk
      obtain rfl := Option.some.inj ho
      exact wp_of_exec (exec_move rfl (hd 57 68 (by kernel_rfl) rfl rfl)) (hk uu hS (Below.refl _ _))
    refine all_succ ?_ ?_
    rotate_left
    · intro hf oo ho act uu hS hB hd hold KK hk
      obtain rfl := Option.some.inj ho
      exact wp_of_exec (exec_pick rfl (hd 43 54 (by kernel_rfl) rfl rfl) (hd 56 67 (by kernel_rfl) rfl rfl)) (hk uu hS (Below.refl _ _))
    refine all_succ ?_ ?_
    rotate_left
    · intro hf oo ho act uu hS hB hd hold KK hk
      obtain rfl := Option.some.inj ho
      exact wp_of_exec (exec_eqT rfl (hd 48 59 (by kernel_rfl) rfl rfl) (hd 55 66 (by kernel_rfl) rfl rfl) (Tb.prev_or_r p r t)) (hk uu hS (Below.refl _ _))
    refine all_succ ?_ ?_
    rotate_left
    · intro hf oo ho act uu hS hB hd hold KK hk
      obtain rfl := Option.some.inj ho
      have h62 : act.tmps.getD 62 undef = Tb.tv (Tb.prev p r) := (hd 51 62 (by kernel_rfl) rfl rfl)
      have h65 : act.tmps.getD 65 undef = Tb.tv (Tb.prev p t) := (hd 54 65 (by kernel_rfl) rfl rfl)
      go_simp
      refine (or_any (Tb.prev p r) (Tb.prev p t) _).mono ?_
      rintro e u' ⟨rfl, hb⟩
      exact hk _ (hS.step hb) hb
    refine all_succ ?_ ?_
    rotate_left
    · intro hf oo ho act uu hS hB hd hold KK hk
      obtain rfl := Option.some.inj ho
      have h63 : act.tmps.getD 63 undef = Tb.tv p := (hd 52 63 (by kernel_rfl) rfl rfl)
      have h64 : act.tmps.getD 64 undef = Tb.tv t := (hd 53 64 (by kernel_rfl) rfl rfl)
      go_simp
      refine (prev_any p t _).mono ?_
      rintro e u' ⟨rfl, hb⟩
      exact hk _ (hS.step hb) hb
    refine all_succ ?_ ?_
    rotate_left
    · intro hf oo ho act uu hS hB hd hold KK hk
      obtain rfl := Option.some.inj ho
      exact wp_of_exec (exec_load rfl (hold 7 (notDst (by kernel_rfl))) (hS.at_ 3 _ _ rfl)) (hk uu hS (Below.refl _ _))
    refine all_succ ?_ ?_
    rotate_left
    · intro hf oo ho act uu hS hB hd hold KK hk
      obtain rfl := Option.some.inj ho
      exact wp_of_exec (exec_load rfl (hold 4 (notDst (by kernel_rfl))) (hS.at_ 0 _ _ rfl)) (hk uu hS (Below.refl _ _))
    refine all_succ ?_ ?_
    rotate_left
    · intro hf oo ho act uu hS hB hd hold KK hk
      obtain rfl := Option.some.inj ho
      have h60 : act.tmps.getD 60 undef = Tb.tv p := (hd 49 60 (by kernel_rfl) rfl rfl)
      have h61 : act.tmps.getD 61 undef = Tb.tv r := (hd 50 61 (by kernel_rfl) rfl rfl)
      go_simp
      refine (prev_any p r _).mono ?_
      rintro e u' ⟨rfl, hb⟩
      exact hk _ (hS.step hb) hb
    refine all_succ ?_ ?_
    rotate_left
    · intro hf oo ho act uu hS hB hd hold KK hk
      obtain rfl := Option.some.inj ho
      exact wp_of_exec (exec_load rfl (hold 6 (notDst (by kernel_rfl))) (hS.at_ 2 _ _ rfl)) (hk uu hS (Below.refl _ _))
    refine all_succ ?_ ?_
    rotate_left
    · intro hf oo ho act uu hS hB hd hold KK hk
      obtain rfl := Option.some.inj ho
      exact wp_of_exec (exec_load rfl (hold 4 (notDst (by kernel_rfl))) (hS.at_ 0 _ _ rfl)) (hk uu hS (Below.refl _ _))
    refine all_succ ?_ ?_
    rotate_left
    · intro hf oo ho act uu hS hB hd hold KK hk
      obtain rfl := Option.some.inj ho
      have h55 : act.tmps.getD 55 undef = Tb.tv p := (hd 44 55 (by kernel_rfl) rfl rfl)
      have h58 : act.tmps.getD 58 undef = Tb.tv (r ||| t) := (hd 47 58 (by kernel_rfl) rfl rfl)
      go_simp
      refine (prev_any p (r ||| t) _).mono ?_
      rintro e u' ⟨rfl, hb⟩
      exact hk _ (hS.step hb) hb
    refine all_succ ?_ ?_
    rotate_left
    · intro hf oo ho act uu hS hB hd hold KK hk
      obtain rfl := Option.some.inj ho
      have h56 : act.tmps.getD 56 undef = Tb.tv r := (hd 45 56 (by kernel_rfl) rfl rfl)
      have h57 : act.tmps.getD 57 undef = Tb.tv t := (hd 46 57 (by kernel_rfl) rfl rfl)
      go_simp
      refine (or_any r t _).mono ?_
      rintro e u' ⟨rfl, hb⟩
      exact hk _ (hS.step hb) hb
    refine all_succ ?_ ?_
    rotate_left
    · intro hf oo ho act uu hS hB hd hold KK hk
      obtain rfl := Option.some.inj ho
      exact wp_of_exec (exec_load rfl (hold 7 (notDst (by kernel_rfl))) (hS.at_ 3 _ _ rfl)) (hk uu hS (Below.refl _ _))
    refine all_succ ?_ ?_
    rotate_left
    · intro hf oo ho act uu hS hB hd hold KK hk
      obtain rfl := Option.some.inj ho
      exact wp_of_exec (exec_load rfl (hold 6 (notDst (by kernel_rfl))) (hS.at_ 2 _ _ rfl)) (hk uu hS (Below.refl _ _))
    refine all_succ ?_ ?_
    rotate_left
    · intro hf oo ho act uu hS hB hd hold KK hk
      obtain rfl := Option.some.inj ho
      exact wp_of_exec (exec_load rfl (hold 4 (notDst (by kernel_rfl))) (hS.at_ 0 _ _ rfl)) (hk uu hS (Below.refl _ _))
    refine all_succ ?_ ?_
    rotate_left
    · intro hf oo ho act uu hS hB hd hold KK hk
      obtain rfl := Option.some.inj ho
      exact wp_of_exec (exec_move rfl (hd 42 53 (by kernel_rfl) rfl rfl)) (hk uu hS (Below.refl _ _))
    refine all_succ ?_ ?_
    rotate_left
    · intro hf oo ho act uu hS hB hd hold KK hk
      obtain rfl := Option.some.inj ho
      exact wp_of_exec (exec_pick rfl (hd 28 39 (by kernel_rfl) rfl rfl) (hd 41 52 (by kernel_rfl) rfl rfl)) (hk uu hS (Below.refl _ _))
    refine all_succ ?_ ?_
    rotate_left
    · intro hf oo ho act uu hS hB hd hold KK hk
      obtain rfl := Option.some.inj ho
      exact wp_of_exec (exec_eqT rfl (hd 33 44 (by kernel_rfl) rfl rfl) (hd 40 51 (by kernel_rfl) rfl rfl) (Tb.prev_or_l p q r)) (hk uu hS (Below.refl _ _))
    refine all_succ ?_ ?_
    rotate_left
    · intro hf oo ho act uu hS hB hd hold KK hk
      obtain rfl := Option.some.inj ho
      have h47 : act.tmps.getD 47 undef = Tb.tv (Tb.prev p r) := (hd 36 47 (by kernel_rfl) rfl rfl)
      have h50 : act.tmps.getD 50 undef = Tb.tv (Tb.prev q r) := (hd 39 50 (by kernel_rfl) rfl rfl)
      go_simp
      refine (or_any (Tb.prev p r) (Tb.prev q r) _).mono ?_
      rintro e u' ⟨rfl, hb⟩
      exact hk _ (hS.step hb) hb
    refine all_succ ?_ ?_
    rotate_left
    · intro hf oo ho act uu hS hB hd hold KK hk
      obtain rfl := Option.some.inj ho
      have h48 : act.tmps.getD 48 undef = Tb.tv q := (hd 37 48 (by kernel_rfl) rfl rfl)
      have h49 : act.tmps.getD 49 undef = Tb.tv r := (hd 38 49 (by kernel_rfl) rfl rfl)
      go_simp
      refine (prev_any q r _).mono ?_
      rintro e u' ⟨rfl, hb⟩
      exact hk _ (hS.step hb) hb
    refine all_succ ?_ ?_
    rotate_left
    · intro hf oo ho act uu hS hB hd hold KK hk
      obtain rfl := Option.some.inj ho
      exact wp_of_exec (exec_load rfl (hold 6 (notDst (by kernel_rfl))) (hS.at_ 2 _ _ rfl)) (hk uu hS (Below.refl _ _))
    refine all_succ ?_ ?_
    rotate_left
    · intro hf oo ho act uu hS hB hd hold KK hk
      obtain rfl := Option.some.inj ho
      exact wp_of_exec (exec_load rfl (hold 5 (notDst (by kernel_rfl))) (hS.at_ 1 _ _ rfl)) (hk uu hS (Below.refl _ _))
    refine all_succ ?_ ?_
    rotate_left
    · intro hf oo ho act uu hS hB hd hold KK hk
      obtain rfl := Option.some.inj ho
      have h45 : act.tmps.getD 45 undef = Tb.tv p := (hd 34 45 (by kernel_rfl) rfl rfl)
      have h46 : act.tmps.getD 46 undef = Tb.tv r := (hd 35 46 (by kernel_rfl) rfl rfl)
      go_simp
      refine (prev_any p r _).mono ?_
      rintro e u' ⟨rfl, hb⟩
      exact hk _ (hS.step hb) hb
    refine all_succ ?_ ?_
    rotate_left
    · intro hf oo ho act uu hS hB hd hold KK hk
      obtain rfl := Option.some.inj ho
      exact wp_of_exec (exec_load rfl (hold 6 (notDst (by kernel_rfl))) (hS.at_ 2 _ _ rfl)) (hk uu hS (Below.refl _ _))
    refine all_succ ?_ ?_
    rotate_left
    · intro hf oo ho act uu hS hB hd hold KK hk
      obtain rfl := Option.some.inj ho
      exact wp_of_exec (exec_load rfl (hold 4 (notDst (by kernel_rfl))) (hS.at_ 0 _ _ rfl)) (hk uu hS (Below.refl _ _))
    refine all_succ ?_ ?_
    rotate_left
    · intro hf oo ho act uu hS hB hd hold KK hk
      obtain rfl := Option.some.inj ho
      have h42 : act.tmps.getD 42 undef = Tb.tv (p ||| q) := (hd 31 42 (by kernel_rfl) rfl rfl)
      have h43 : act.tmps.getD 43 undef = Tb.tv r := (hd 32 43 (by kernel_rfl) rfl rfl)
      go_simp
      refine (prev_any (p ||| q) r _).mono ?_
      rintro e u' ⟨rfl, hb⟩
      exact hk _ (hS.step hb) hb
    refine all_succ ?_ ?_
    rotate_left
    · intro hf oo ho act uu hS hB hd hold KK hk
      obtain rfl := Option.some.inj ho
      exact wp_of_exec (exec_load rfl (hold 6 (notDst (by kernel_rfl))) (hS.at_ 2 _ _ rfl)) (hk uu hS (Below.refl _ _))
    refine all_succ ?_ ?_
    rotate_left
    · intro hf oo ho act uu hS hB hd hold KK hk
      obtain rfl := Option.some.inj ho
      have h40 : act.tmps.getD 40 undef = Tb.tv p := (hd 29 40 (by kernel_rfl) rfl rfl)
      have h41 : act.tmps.getD 41 undef = Tb.tv q := (hd 30 41 (by kernel_rfl) rfl rfl)
      go_simp
      refine (or_any p q _).mono ?_
      rintro e u' ⟨rfl, hb⟩
      exact hk _ (hS.step hb) hb
    refine all_succ ?_ ?_
    rotate_left
    · intro hf oo ho act uu hS hB hd hold KK hk
      obtain rfl := Option.some.inj ho
      exact wp_of_exec (exec_load rfl (hold 5 (notDst (by kernel_rfl))) (hS.at_ 1 _ _ rfl)) (hk uu hS (Below.refl _ _))
    refine all_succ ?_ ?_
    rotate_left
    · intro hf oo ho act uu hS hB hd hold KK hk
      obtain rfl := Option.some.inj ho
      exact wp_of_exec (exec_load rfl (hold 4 (notDst (by kernel_rfl))) (hS.at_ 0 _ _ rfl)) (hk uu hS (Below.refl _ _))
    refine all_succ ?_ ?_
    rotate_left
    · intro hf oo ho act uu hS hB hd hold KK hk
      obtain rfl := Option.some.inj ho
      exact wp_of_exec (exec_move rfl (hd 27 38 (by kernel_rfl) rfl rfl)) (hk uu hS (Below.refl _ _))
    refine all_succ ?_ ?_
    rotate_left
    · intro hf oo ho act uu hS hB hd hold KK hk
      obtain rfl := Option.some.inj ho
      exact wp_of_exec (exec_pick rfl (hd 13 24 (by kernel_rfl) rfl rfl) (hd 26 37 (by kernel_rfl) rfl rfl)) (hk uu hS (Below.refl _ _))
    refine all_succ ?_ ?_
    rotate_left
    · intro hf oo ho act uu hS hB hd hold KK hk
      obtain rfl := Option.some.inj ho
      exact wp_of_exec (exec_eqT rfl (hd 18 29 (by kernel_rfl) rfl rfl) (hd 25 36 (by kernel_rfl) rfl rfl) (Tb.next_or_r p r t)) (hk uu hS (Below.refl _ _))
    refine all_succ ?_ ?_
    rotate_left
    · intro hf oo ho act uu hS hB hd hold KK hk
      obtain rfl := Option.some.inj ho
      have h32 : act.tmps.getD 32 undef = Tb.tv (Tb.next p r) := (hd 21 32 (by kernel_rfl) rfl rfl)
      have h35 : act.tmps.getD 35 undef = Tb.tv (Tb.next p t) := (hd 24 35 (by kernel_rfl) rfl rfl)
      go_simp
      refine (or_any (Tb.next p r) (Tb.next p t) _).mono ?_
      rintro e u' ⟨rfl, hb⟩
      exact hk _ (hS.step hb) hb
    refine all_succ ?_ ?_
    rotate_left
    · intro hf oo ho act uu hS hB hd hold KK hk
      obtain rfl := Option.some.inj ho
      have h33 : act.tmps.getD 33 undef = Tb.tv p := (hd 22 33 (by kernel_rfl) rfl rfl)
      have h34 : act.tmps.getD 34 undef = Tb.tv t := (hd 23 34 (by kernel_rfl) rfl rfl)
      go_simp
      refine (next_any p t _).mono ?_
      rintro e u' ⟨rfl, hb⟩
      exact hk _ (hS.step hb) hb
    refine all_succ ?_ ?_
    rotate_left
    · intro hf oo ho act uu hS hB hd hold KK hk
      obtain rfl := Option.some.inj ho
      exact wp_of_exec (exec_load rfl (hold 7 (notDst (by kernel_rfl))) (hS.at_ 3 _ _ rfl)) (hk uu hS (Below.refl _ _))
    refine all_succ ?_ ?_
    rotate_left
    · intro hf oo ho act uu hS hB hd hold KK hk
      obtain rfl := Option.some.inj ho
      exact wp_of_exec (exec_load rfl (hold 4 (notDst (by kernel_rfl))) (hS.at_ 0 _ _ rfl)) (hk uu hS (Below.refl _ _))
    refine all_succ ?_ ?_
    rotate_left
    · intro hf oo ho act uu hS hB hd hold KK hk
      obtain rfl := Option.some.inj ho
      have h30 : act.tmps.getD 30 undef = Tb.tv p := (hd 19 30 (by kernel_rfl) rfl rfl)
      have h31 : act.tmps.getD 31 undef = Tb.tv r := (hd 20 31 (by kernel_rfl) rfl rfl)
      go_simp
      refine (next_any p r _).mono ?_
      rintro e u' ⟨rfl, hb⟩
      exact hk _ (hS.step hb) hb
    refine all_succ ?_ ?_
    rotate_left
    · intro hf oo ho act uu hS hB hd hold KK hk
      obtain rfl := Option.some.inj ho
      exact wp_of_exec (exec_load rfl (hold 6 (notDst (by kernel_rfl))) (hS.at_ 2 _ _ rfl)) (hk uu hS (Below.refl _ _))
    refine all_succ ?_ ?_
    rotate_left
    · intro hf oo ho act uu hS hB hd hold KK hk
      obtain rfl := Option.some.inj ho
      exact wp_of_exec (exec_load rfl (hold 4 (notDst (by kernel_rfl))) (hS.at_ 0 _ _ rfl)) (hk uu hS (Below.refl _ _))
    refine all_succ ?_ ?_
    rotate_left
    · intro hf oo ho act uu hS hB hd hold KK hk
      obtain rfl := Option.some.inj ho
      have h25 : act.tmps.getD 25 undef = Tb.tv p := (hd 14 25 (by kernel_rfl) rfl rfl)
      have h28 : act.tmps.getD 28 undef = Tb.tv (r ||| t) := (hd 17 28 (by kernel_rfl) rfl rfl)
      go_simp
      refine (next_any p (r ||| t) _).mono ?_
      rintro e u' ⟨rfl, hb⟩
      exact hk _ (hS.step hb) hb
    refine all_succ ?_ ?_
    rotate_left
    · intro hf oo ho act uu hS hB hd hold KK hk
      obtain rfl := Option.some.inj ho
      have h26 : act.tmps.getD 26 undef = Tb.tv r := (hd 15 26 (by kernel_rfl) rfl rfl)
      have h27 : act.tmps.getD 27 undef = Tb.tv t := (hd 16 27 (by kernel_rfl) rfl rfl)
      go_simp
      refine (or_any r t _).mono ?_
      rintro e u' ⟨rfl, hb⟩
      exact hk _ (hS.step hb) hb
    refine all_succ ?_ ?_
    rotate_left
    · intro hf oo ho act uu hS hB hd hold KK hk
      obtain rfl := Option.some.inj ho
      exact wp_of_exec (exec_load rfl (hold 7 (notDst (by kernel_rfl))) (hS.at_ 3 _ _ rfl)) (hk uu hS (Below.refl _ _))
    refine all_succ ?_ ?_
    rotate_left
    · intro hf oo ho act uu hS hB hd hold KK hk
      obtain rfl := Option.some.inj ho
      exact wp_of_exec (exec_load rfl (hold 6 (notDst (by kernel_rfl))) (hS.at_ 2 _ _ rfl)) (hk uu hS (Below.refl _ _))
    refine all_succ ?_ ?_
    rotate_left
    · intro hf oo ho act uu hS hB hd hold KK hk
      obtain rfl := Option.some.inj ho
      exact wp_of_exec (exec_load rfl (hold 4 (notDst (by kernel_rfl))) (hS.at_ 0 _ _ rfl)) (hk uu hS (Below.refl _ _))
    refine all_succ ?_ ?_
    rotate_left
    · intro hf oo ho act uu hS hB hd hold KK hk
      obtain rfl := Option.some.inj ho
      exact wp_of_exec (exec_move rfl (hd 12 23 (by kernel_rfl) rfl rfl)) (hk uu hS (Below.refl _ _))
    refine all_succ ?_ ?_
    rotate_left
    · intro hf oo ho act uu hS hB hd hold KK hk
      obtain rfl := Option.some.inj ho
      exact wp_of_exec (exec_eqT rfl (hd 4 15 (by kernel_rfl) rfl rfl) (hd 11 22 (by kernel_rfl) rfl rfl) (Tb.next_or_l p q r)) (hk uu hS (Below.refl _ _))
    refine all_succ ?_ ?_
    rotate_left
    · intro hf oo ho act uu hS hB hd hold KK hk
      obtain rfl := Option.some.inj ho
      have h18 : act.tmps.getD 18 undef = Tb.tv (Tb.next p r) := (hd 7 18 (by kernel_rfl) rfl rfl)
      have h21 : act.tmps.getD 21 undef = Tb.tv (Tb.next q r) := (hd 10 21 (by kernel_rfl) rfl rfl)
      go_simp
      refine (or_any (Tb.next p r) (Tb.next q r) _).mono ?_
      rintro e u' ⟨rfl, hb⟩
      exact hk _ (hS.step hb) hb
    refine all_succ ?_ ?_
    rotate_left
    · intro hf oo ho act uu hS hB hd hold KK hk
      obtain rfl := Option.some.inj ho
      have h19 : act.tmps.getD 19 undef = Tb.tv q := (hd 8 19 (by kernel_rfl) rfl rfl)
      have h20 : act.tmps.getD 20 undef = Tb.tv r := (hd 9 20 (by kernel_rfl) rfl rfl)
      go_simp
      refine (next_any q r _).mono ?_
      rintro e u' ⟨rfl, hb⟩
      exact hk _ (hS.step hb) hb
    refine all_succ ?_ ?_
    rotate_left
    · intro hf oo ho act uu hS hB hd hold KK hk
      obtain rfl := Option.some.inj ho
      exact wp_of_exec (exec_load rfl (hold 6 (notDst (by kernel_rfl))) (hS.at_ 2 _ _ rfl)) (hk uu hS (Below.refl _ _))
    refine all_succ ?_ ?_
    rotate_left
    · intro hf oo ho act uu hS hB hd hold KK hk
      obtain rfl := Option.some.inj ho
      exact wp_of_exec (exec_load rfl (hold 5 (notDst (by kernel_rfl))) (hS.at_ 1 _ _ rfl)) (hk uu hS (Below.refl _ _))
    refine all_succ ?_ ?_
    rotate_left
    · intro hf oo ho act uu hS hB hd hold KK hk
      obtain rfl := Option.some.inj ho
      have h16 : act.tmps.getD 16 undef = Tb.tv p := (hd 5 16 (by kernel_rfl) rfl rfl)
      have h17 : act.tmps.getD 17 undef = Tb.tv r := (hd 6 17 (by kernel_rfl) rfl rfl)
      go_simp
      refine (next_any p r _).mono ?_
      rintro e u' ⟨rfl, hb⟩
      exact hk _ (hS.step hb) hb
    refine all_succ ?_ ?_
    rotate_left
    · intro hf oo ho act uu hS hB hd hold KK hk
      obtain rfl := Option.some.inj ho
      exact wp_of_exec (exec_load rfl (hold 6 (notDst (by kernel_rfl))) (hS.at_ 2 _ _ rfl)) (hk uu hS (Below.refl _ _))
    refine all_succ ?_ ?_
    rotate_left
    · intro hf oo ho act uu hS hB hd hold KK hk
      obtain rfl := Option.some.inj ho
      exact wp_of_exec (exec_load rfl (hold 4 (notDst (by kernel_rfl))) (hS.at_ 0 _ _ rfl)) (hk uu hS (Below.refl _ _))
    refine all_succ ?_ ?_
    rotate_left
    · intro hf oo ho act uu hS hB hd hold KK hk
      obtain rfl := Option.some.inj ho
      have h13 : act.tmps.getD 13 undef = Tb.tv (p ||| q) := (hd 2 13 (by kernel_rfl) rfl rfl)
      have h14 : act.tmps.getD 14 undef = Tb.tv r := (hd 3 14 (by kernel_rfl) rfl rfl)
      go_simp
      refine (next_any (p ||| q) r _).mono ?_
      rintro e u' ⟨rfl, hb⟩
      exact hk _ (hS.step hb) hb
    refine all_succ ?_ ?_
    rotate_left
    · intro hf oo ho act uu hS hB hd hold KK hk
      obtain rfl := Option.some.inj ho
      exact wp_of_exec (exec_load rfl (hold 6 (notDst (by kernel_rfl))) (hS.at_ 2 _ _ rfl)) (hk uu hS (Below.refl _ _))
    refine all_succ ?_ ?_
    rotate_left
    · intro hf oo ho act uu hS hB hd hold KK hk
      obtain rfl := Option.some.inj ho
      have h11 : act.tmps.getD 11 undef = Tb.tv p := (hd 0 11 (by kernel_rfl) rfl rfl)
      have h12 : act.tmps.getD 12 undef = Tb.tv q := (hd 1 12 (by kernel_rfl) rfl rfl)
      go_simp
      refine (or_any p q _).mono ?_
      rintro e u' ⟨rfl, hb⟩
      exact hk _ (hS.step hb) hb
    refine all_succ ?_ ?_
    rotate_left
    · intro hf oo ho act uu hS hB hd hold KK hk
      obtain rfl := Option.some.inj ho
      exact wp_of_exec (exec_load rfl (hold 5 (notDst (by kernel_rfl))) (hS.at_ 1 _ _ rfl)) (hk uu hS (Below.refl _ _))
    refine all_succ ?_ ?_
    rotate_left
    · intro hf oo ho act uu hS hB hd hold KK hk
      obtain rfl := Option.some.inj ho
      exact wp_of_exec (exec_load rfl (hold 4 (notDst (by kernel_rfl))) (hS.at_ 0 _ _ rfl)) (hk uu hS (Below.refl _ _))
    exact all_zero
  · intro i hi ty z hf; cases hf
  · intro ρ u hF
    have e0 : ρ 0 = Tb.tv p := hF.val 0 (by omega) (by kernel_rfl) rfl
    have e1 : ρ 1 = Tb.tv q := hF.val 1 (by omega) (by kernel_rfl) rfl
    have e2 : ρ 2 = Tb.tv (p ||| q) := hF.val 2 (by omega) (by kernel_rfl) rfl
    have e3 : ρ 3 = Tb.tv r := hF.val 3 (by omega) (by kernel_rfl) rfl
    have e4 : ρ 4 = Tb.tv (Tb.next (p ||| q) r) := hF.val 4 (by omega) (by kernel_rfl) rfl
    have e5 : ρ 5 = Tb.tv p := hF.val 5 (by omega) (by kernel_rfl) rfl
    have e6 : ρ 6 = Tb.tv r := hF.val 6 (by omega) (by kernel_rfl) rfl
    have e7 : ρ 7 = Tb.tv (Tb.next p r) := hF.val 7 (by omega) (by kernel_rfl) rfl
    have e8 : ρ 8 = Tb.tv q := hF.val 8 (by omega) (by kernel_rfl) rfl
    have e9 : ρ 9 = Tb.tv r := hF.val 9 (by omega) (by kernel_rfl) rfl
    have e10 : ρ 10 = Tb.tv (Tb.next q r) := hF.val 10 (by omega) (by kernel_rfl) rfl
    have e11 : ρ 11 = Tb.tv ((Tb.next p r) ||| (Tb.next q r)) := hF.val 11 (by omega) (by kernel_rfl) rfl
    have e12 : ρ 12 = .bool true := hF.val 12 (by omega) (by kernel_rfl) rfl
    have e13 : ρ 13 = .bool true := hF.val 13 (by omega) (by kernel_rfl) rfl
    have e14 : ρ 14 = Tb.tv p := hF.val 14 (by omega) (by kernel_rfl) rfl
    have e15 : ρ 15 = Tb.tv r := hF.val 15 (by omega) (by kernel_rfl) rfl
    have e16 : ρ 16 = Tb.tv t := hF.val 16 (by omega) (by kernel_rfl) rfl
    have e17 : ρ 17 = Tb.tv (r ||| t) := hF.val 17 (by omega) (by kernel_rfl) rfl
    have e18 : ρ 18 = Tb.tv (Tb.next p (r ||| t)) := hF.val 18 (by omega) (by kernel_rfl) rfl
    have e19 : ρ 19 = Tb.tv p := hF.val 19 (by omega) (by kernel_rfl) rfl
    have e20 : ρ 20 = Tb.tv r := hF.val 20 (by omega) (by kernel_rfl) rfl
    have e21 : ρ 21 = Tb.tv (Tb.next p r) := hF.val 21 (by omega) (by kernel_rfl) rfl
    have e22 : ρ 22 = Tb.tv p := hF.val 22 (by omega) (by kernel_rfl) rfl
    have e23 : ρ 23 = Tb.tv t := hF.val 23 (by omega) (by kernel_rfl) rfl
    have e24 : ρ 24 = Tb.tv (Tb.next p t) := hF.val 24 (by omega) (by kernel_rfl) rfl
    have e25 : ρ 25 = Tb.tv ((Tb.next p r) ||| (Tb.next p t)) := hF.val 25 (by omega) (by kernel_rfl) rfl
    have e26 : ρ 26 = .bool true := hF.val 26 (by omega) (by kernel_rfl) rfl
    have e27 : ρ 27 = .bool true := hF.val 27 (by omega) (by kernel_rfl) rfl
    have e28 : ρ 28 = .bool true := hF.val 28 (by omega) (by kernel_rfl) rfl
    have e29 : ρ 29 = Tb.tv p := hF.val 29 (by omega) (by kernel_rfl) rfl
    have e30 : ρ 30 = Tb.tv q := hF.val 30 (by omega) (by kernel_rfl) rfl
    have e31 : ρ 31 = Tb.tv (p ||| q) := hF.val 31 (by omega) (by kernel_rfl) rfl
    have e32 : ρ 32 = Tb.tv r := hF.val 32 (by omega) (by kernel_rfl) rfl
    have e33 : ρ 33 = Tb.tv (Tb.prev (p ||| q) r) := hF.val 33 (by omega) (by kernel_rfl) rfl
    have e34 : ρ 34 = Tb.tv p := hF.val 34 (by omega) (by kernel_rfl) rfl
    have e35 : ρ 35 = Tb.tv r := hF.val 35 (by omega) (by kernel_rfl) rfl
    have e36 : ρ 36 = Tb.tv (Tb.prev p r) := hF.val 36 (by omega) (by kernel_rfl) rfl
    have e37 : ρ 37 = Tb.tv q := hF.val 37 (by omega) (by kernel_rfl) rfl
    have e38 : ρ 38 = Tb.tv r := hF.val 38 (by omega) (by kernel_rfl) rfl
    have e39 : ρ 39 = Tb.tv (Tb.prev q r) := hF.val 39 (by omega) (by kernel_rfl) rfl
    have e40 : ρ 40 = Tb.tv ((Tb.prev p r) ||| (Tb.prev q r)) := hF.val 40 (by omega) (by kernel_rfl) rfl
    have e41 : ρ 41 = .bool true := hF.val 41 (by omega) (by kernel_rfl) rfl
    have e42 : ρ 42 = .bool true := hF.val 42 (by omega) (by kernel_rfl) rfl
    have e43 : ρ 43 = .bool true := hF.val 43 (by omega) (by kernel_rfl) rfl
    have e44 : ρ 44 = Tb.tv p := hF.val 44 (by omega) (by kernel_rfl) rfl
    have e45 : ρ 45 = Tb.tv r := hF.val 45 (by omega) (by kernel_rfl) rfl
    have e46 : ρ 46 = Tb.tv t := hF.val 46 (by omega) (by kernel_rfl) rfl
    have e47 : ρ 47 = Tb.tv (r ||| t) := hF.val 47 (by omega) (by kernel_rfl) rfl
    have e48 : ρ 48 = Tb.tv (Tb.prev p (r ||| t)) := hF.val 48 (by omega) (by kernel_rfl) rfl
    have e49 : ρ 49 = Tb.tv p := hF.val 49 (by omega) (by kernel_rfl) rfl
    have e50 : ρ 50 = Tb.tv r := hF.val 50 (by omega) (by kernel_rfl) rfl
    have e51 : ρ 51 = Tb.tv (Tb.prev p r) := hF.val 51 (by omega) (by kernel_rfl) rfl
    have e52 : ρ 52 = Tb.tv p := hF.val 52 (by omega) (by kernel_rfl) rfl
    have e53 : ρ 53 = Tb.tv t := hF.val 53 (by omega) (by kernel_rfl) rfl
    have e54 : ρ 54 = Tb.tv (Tb.prev p t) := hF.val 54 (by omega) (by kernel_rfl) rfl
    have e55 : ρ 55 = Tb.tv ((Tb.prev p r) ||| (Tb.prev p t)) := hF.val 55 (by omega) (by kernel_rfl) rfl
    have e56 : ρ 56 = .bool true := hF.val 56 (by omega) (by kernel_rfl) rfl
    have e57 : ρ 57 = .bool true := hF.val 57 (by omega) (by kernel_rfl) rfl
    have e58 : ρ 58 = .bool true := hF.val 58 (by omega) (by kernel_rfl) rfl
    have e59 : ρ 59 = Tb.tv p := hF.val 59 (by omega) (by kernel_rfl) rfl
    have e60 : ρ 60 = Tb.tv 0#256 := hF.val 60 (by omega) (by kernel_rfl) rfl
    have e61 : ρ 61 = Tb.tv (Tb.next p 0#256) := hF.val 61 (by omega) (by kernel_rfl) rfl
    have e62 : ρ 62 = Tb.tv 0#256 := hF.val 62 (by omega) (by kernel_rfl) rfl
    have e63 : ρ 63 = .bool true := hF.val 63 (by omega) (by kernel_rfl) rfl
    have e64 : ρ 64 = .bool true := hF.val 64 (by omega) (by kernel_rfl) rfl
    have e65 : ρ 65 = .bool true := hF.val 65 (by omega) (by kernel_rfl) rfl
    have e66 : ρ 66 = Tb.tv 0#256 := hF.val 66 (by omega) (by kernel_rfl) rfl
    have e67 : ρ 67 = Tb.tv r := hF.val 67 (by omega) (by kernel_rfl) rfl
    have e68 : ρ 68 = Tb.tv (Tb.prev 0#256 r) := hF.val 68 (by omega) (by kernel_rfl) rfl
    have e69 : ρ 69 = Tb.tv 0#256 := hF.val 69 (by omega) (by kernel_rfl) rfl
    have e70 : ρ 70 = .bool true := hF.val 70 (by omega) (by kernel_rfl) rfl
    have e71 : ρ 71 = .bool true := hF.val 71 (by omega) (by kernel_rfl) rfl
    have k0 := hF.s_
    simp only [puts, dstOf, e0, e1, e2, e3, e4, e5, e6, e7, e8, e9, e10, e11, e12, e13, e14, e15, e16, e17, e18, e19, e20, e21, e22, e23, e24, e25, e26, e27, e28, e29, e30, e31, e32, e33, e34, e35, e36, e37, e38, e39, e40, e41, e42, e43, e44, e45, e46, e47, e48, e49, e50, e51, e52, e53, e54, e55, e56, e57, e58, e59, e60, e61, e62, e63, e64, e65, e66, e67, e68, e69, e70, e71]
    go_wp2_with fail
    go_ret
    exact ⟨rfl, k0.below⟩
end Go.Proofs.YtfkefgelceaimaaDoor
