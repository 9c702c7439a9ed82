/-
  The walks of the document's tables, fifth part: ite, compose, quantifiers.
-/
import Derived.Test.YtfkefgelceaimaaDoorRefD
import Derived.Test.YtfkefgelceaimaaDoorLaw2
namespace Go.Proofs.YtfkefgelceaimaaDoor
set_option linter.unusedVariables false
open Go.RowKit

set_option maxRecDepth 100000 in
set_option maxHeartbeats 2000000 in
theorem rite_any (f g h : Tb.T) (w : World) :
    Calls Tryd.prog 42 #[Tb.tv f, Tb.tv g, Tb.tv h] w fun e w' => e = .returned (Tb.tv ((f &&& g) ||| (~~~f &&& h))) ∧ Below w.heap.size w w' := by
  have hK := ((((Keep.nil w).new f).new g).new h).new 0#256
  simp only [List.cons_append, List.nil_append, alloc_size, Tb.tcells_zero] at hK
  go_enter Tryd.func42, Tryd.ntmps42
  go_wp2_with fail
  -- rite
  refine region_float [] 8 (fun i => ([Tb.tv f, Tb.tv g, Tb.tv (f &&& g), Tb.tv f, Tb.tv (~~~f), Tb.tv h, Tb.tv ((~~~f) &&& h), Tb.tv ((f &&& g) ||| ((~~~f) &&& h))] : List Value).getD i undef) (fun _ => none) (fun u => Keep w u [(w.heap.size, f), ((w.heap.size + 1), g), ((w.heap.size + 1 + 1), h), ((w.heap.size + 1 + 1 + 1), 0#256)]) _ (by kernel_rfl) (by kernel_rfl) (by simp) hK.drew (Nat.le_refl _) (fun _ o h => h.alloc o) ?_ ?_ ?_
  · iterate 1 skip
    refine all_succ ?_ ?_
    rotate_left
    · intro hf oo ho act uu hS hB hd hold KK hcont
      obtain rfl := Option.some.inj ho
      have h9 : act.tmps.getD 9 undef = Tb.tv (f &&& g) := (hd 2 9 (by kernel_rfl) rfl rfl)
      have h13 : act.tmps.getD 13 undef = Tb.tv ((~~~f) &&& h) := (hd 6 13 (by kernel_rfl) rfl rfl)
      go_simp
      refine (ror_any (f &&& g) ((~~~f) &&& h) _).mono ?_
      rintro e u' ⟨rfl, hb⟩
      exact hcont _ (hS.step hb) hb
    refine all_succ ?_ ?_
    rotate_left
    · intro hf oo ho act uu hS hB hd hold KK hcont
      obtain rfl := Option.some.inj ho
      have h11 : act.tmps.getD 11 undef = Tb.tv (~~~f) := (hd 4 11 (by kernel_rfl) rfl rfl)
      have h12 : act.tmps.getD 12 undef = Tb.tv h := (hd 5 12 (by kernel_rfl) rfl rfl)
      go_simp
      refine (rand_any (~~~f) h _).mono ?_
      rintro e u' ⟨rfl, hb⟩
      exact hcont _ (hS.step hb) hb
    refine all_succ ?_ ?_
    rotate_left
    · intro hf oo ho act uu hS hB hd hold KK hcont
      obtain rfl := Option.some.inj ho
      exact wp_of_exec (exec_load rfl (hold 5 (notDst (by kernel_rfl))) (hS.at_ 2 _ _ rfl)) (hcont uu hS (Below.refl _ _))
    refine all_succ ?_ ?_
    rotate_left
    · intro hf oo ho act uu hS hB hd hold KK hcont
      obtain rfl := Option.some.inj ho
      have h10 : act.tmps.getD 10 undef = Tb.tv f := (hd 3 10 (by kernel_rfl) rfl rfl)
      go_simp
      refine (rnot_any f _).mono ?_
      rintro e u' ⟨rfl, hb⟩
      exact hcont _ (hS.step hb) hb
    refine all_succ ?_ ?_
    rotate_left
    · intro hf oo ho act uu hS hB hd hold KK hcont
      obtain rfl := Option.some.inj ho
      exact wp_of_exec (exec_load rfl (hold 3 (notDst (by kernel_rfl))) (hS.at_ 0 _ _ rfl)) (hcont uu hS (Below.refl _ _))
    refine all_succ ?_ ?_
    rotate_left
    · intro hf oo ho act uu hS hB hd hold KK hcont
      obtain rfl := Option.some.inj ho
      have h7 : act.tmps.getD 7 undef = Tb.tv f := (hd 0 7 (by kernel_rfl) rfl rfl)
      have h8 : act.tmps.getD 8 undef = Tb.tv g := (hd 1 8 (by kernel_rfl) rfl rfl)
      go_simp
      refine (rand_any f g _).mono ?_
      rintro e u' ⟨rfl, hb⟩
      exact hcont _ (hS.step hb) hb
    refine all_succ ?_ ?_
    rotate_left
    · intro hf oo ho act uu hS hB hd hold KK hcont
      obtain rfl := Option.some.inj ho
      exact wp_of_exec (exec_load rfl (hold 4 (notDst (by kernel_rfl))) (hS.at_ 1 _ _ rfl)) (hcont uu hS (Below.refl _ _))
    refine all_succ ?_ ?_
    rotate_left
    · intro hf oo ho act uu hS hB hd hold KK hcont
      obtain rfl := Option.some.inj ho
      exact wp_of_exec (exec_load rfl (hold 3 (notDst (by kernel_rfl))) (hS.at_ 0 _ _ rfl)) (hcont uu hS (Below.refl _ _))
    exact all_zero
  · intro i hi ty z hf; cases hf
  · intro ρ u hF
    have e0 : ρ 0 = Tb.tv f := hF.val 0 (by omega) (by kernel_rfl) rfl
    have e1 : ρ 1 = Tb.tv g := hF.val 1 (by omega) (by kernel_rfl) rfl
    have e2 : ρ 2 = Tb.tv (f &&& g) := hF.val 2 (by omega) (by kernel_rfl) rfl
    have e3 : ρ 3 = Tb.tv f := hF.val 3 (by omega) (by kernel_rfl) rfl
    have e4 : ρ 4 = Tb.tv (~~~f) := hF.val 4 (by omega) (by kernel_rfl) rfl
    have e5 : ρ 5 = Tb.tv h := hF.val 5 (by omega) (by kernel_rfl) rfl
    have e6 : ρ 6 = Tb.tv ((~~~f) &&& h) := hF.val 6 (by omega) (by kernel_rfl) rfl
    have e7 : ρ 7 = Tb.tv ((f &&& g) ||| ((~~~f) &&& h)) := hF.val 7 (by omega) (by kernel_rfl) rfl
    have k0 := hF.s_
    have k1 := k0.store 3 (((f &&& g) ||| ((~~~f) &&& h))) (p := (w.heap.size + 1 + 1 + 1)) (G := 0#256) rfl (by have := hK.below.size; omega)
    simp only [puts, dstOf, e0, e1, e2, e3, e4, e5, e6, e7]
    obtain ⟨⟨a0, a1, a2, a3⟩, c0, c1, c2, c3⟩ := tfacts (k0.at_ 3 _ _ rfl)
    go_wp2_with fail
    refine bodyPost_ret (v := Tb.tv ((f &&& g) ||| (~~~f &&& h))) (by simp [results, Tryd.results42, go_sem, a0, a1, a2, a3]) rfl ⟨rfl, ?_⟩
    exact k1.below

set_option maxRecDepth 100000 in
set_option maxHeartbeats 2000000 in
theorem rcompose_in (f : Tb.T) (v : Int) (g : Tb.T) (w : World) (h0 : ¬ v < 0) (h8 : ¬ v ≥ 8) :
    Calls Tryd.prog 48 #[Tb.tv f, .int .i64 v, Tb.tv g] w fun e w' => e = .returned (Tb.tv ((g &&& Tb.fix f v true) ||| (~~~g &&& Tb.fix f v false))) ∧ Below w.heap.size w w' := by
  have hK := (((Keep.nil w).new f).new g).new 0#256
  simp only [List.cons_append, List.nil_append, alloc_size, Tb.tcells_zero] at hK
  go_enter Tryd.func48, Tryd.ntmps48
  go_wp2_with fail
  -- rcomp
  refine region_float [] 8 (fun i => ([Tb.tv g, Tb.tv f, .int .i64 v, Tb.tv (Tb.fix f v true), Tb.tv f, .int .i64 v, Tb.tv (Tb.fix f v false), Tb.tv ((g &&& (Tb.fix f v true)) ||| (~~~g &&& (Tb.fix f v false)))] : List Value).getD i undef) (fun _ => none) (fun u => Keep w u [(w.heap.size, f), ((w.heap.size + 1), g), ((w.heap.size + 1 + 1), 0#256)]) _ (by kernel_rfl) (by kernel_rfl) (by simp) hK.drew (Nat.le_refl _) (fun _ o h => h.alloc o) ?_ ?_ ?_
  · iterate 1 skip
    refine all_succ ?_ ?_
    rotate_left
    · intro hf oo ho act uu hS hB hd hold KK hcont
      obtain rfl := Option.some.inj ho
      have h14 : act.tmps.getD 14 undef = Tb.tv g := (hd 0 14 (by kernel_rfl) rfl rfl)
      have h17 : act.tmps.getD 17 undef = Tb.tv (Tb.fix f v true) := (hd 3 17 (by kernel_rfl) rfl rfl)
      have h20 : act.tmps.getD 20 undef = Tb.tv (Tb.fix f v false) := (hd 6 20 (by kernel_rfl) rfl rfl)
      go_simp
      refine (rite_any g (Tb.fix f v true) (Tb.fix f v false) _).mono ?_
      rintro e u' ⟨rfl, hb⟩
      exact hcont _ (hS.step hb) hb
    refine all_succ ?_ ?_
    rotate_left
    · intro hf oo ho act uu hS hB hd hold KK hcont
      obtain rfl := Option.some.inj ho
      have h18 : act.tmps.getD 18 undef = Tb.tv f := (hd 4 18 (by kernel_rfl) rfl rfl)
      have h19 : act.tmps.getD 19 undef = .int .i64 v := (hd 5 19 (by kernel_rfl) rfl rfl)
      go_simp
      refine (rfix_any f v false _).mono ?_
      rintro e u' ⟨rfl, hb⟩
      exact hcont _ (hS.step hb) hb
    refine all_succ ?_ ?_
    rotate_left
    · intro hf oo ho act uu hS hB hd hold KK hcont
      obtain rfl := Option.some.inj ho
      exact wp_of_exec (exec_move rfl (hold 1 (notDst (by kernel_rfl)))) (hcont uu hS (Below.refl _ _))
    refine all_succ ?_ ?_
    rotate_left
    · intro hf oo ho act uu hS hB hd hold KK hcont
      obtain rfl := Option.some.inj ho
      exact wp_of_exec (exec_load rfl (hold 3 (notDst (by kernel_rfl))) (hS.at_ 0 _ _ rfl)) (hcont uu hS (Below.refl _ _))
    refine all_succ ?_ ?_
    rotate_left
    · intro hf oo ho act uu hS hB hd hold KK hcont
      obtain rfl := Option.some.inj ho
      have h15 : act.tmps.getD 15 undef = Tb.tv f := (hd 1 15 (by kernel_rfl) rfl rfl)
      have h16 : act.tmps.getD 16 undef = .int .i64 v := (hd 2 16 (by kernel_rfl) rfl rfl)
      go_simp
      refine (rfix_any f v true _).mono ?_
      rintro e u' ⟨rfl, hb⟩
      exact hcont _ (hS.step hb) hb
    refine all_succ ?_ ?_
    rotate_left
    · intro hf oo ho act uu hS hB hd hold KK hcont
      obtain rfl := Option.some.inj ho
      exact wp_of_exec (exec_move rfl (hold 1 (notDst (by kernel_rfl)))) (hcont uu hS (Below.refl _ _))
    refine all_succ ?_ ?_
    rotate_left
    · intro hf oo ho act uu hS hB hd hold KK hcont
      obtain rfl := Option.some.inj ho
      exact wp_of_exec (exec_load rfl (hold 3 (notDst (by kernel_rfl))) (hS.at_ 0 _ _ rfl)) (hcont uu hS (Below.refl _ _))
    refine all_succ ?_ ?_
    rotate_left
    · intro hf oo ho act uu hS hB hd hold KK hcont
      obtain rfl := Option.some.inj ho
      exact wp_of_exec (exec_load rfl (hold 5 (notDst (by kernel_rfl))) (hS.at_ 1 _ _ rfl)) (hcont uu hS (Below.refl _ _))
    exact all_zero
  · intro i hi ty z hf; cases hf
  · intro ρ u hF
    have e0 : ρ 0 = Tb.tv g := hF.val 0 (by omega) (by kernel_rfl) rfl
    have e1 : ρ 1 = Tb.tv f := hF.val 1 (by omega) (by kernel_rfl) rfl
    have e2 : ρ 2 = .int .i64 v := hF.val 2 (by omega) (by kernel_rfl) rfl
    have e3 : ρ 3 = Tb.tv (Tb.fix f v true) := hF.val 3 (by omega) (by kernel_rfl) rfl
    have e4 : ρ 4 = Tb.tv f := hF.val 4 (by omega) (by kernel_rfl) rfl
    have e5 : ρ 5 = .int .i64 v := hF.val 5 (by omega) (by kernel_rfl) rfl
    have e6 : ρ 6 = Tb.tv (Tb.fix f v false) := hF.val 6 (by omega) (by kernel_rfl) rfl
    have e7 : ρ 7 = Tb.tv ((g &&& (Tb.fix f v true)) ||| (~~~g &&& (Tb.fix f v false))) := hF.val 7 (by omega) (by kernel_rfl) rfl
    have k0 := hF.s_
    have k1 := k0.store 2 (((g &&& (Tb.fix f v true)) ||| (~~~g &&& (Tb.fix f v false)))) (p := (w.heap.size + 1 + 1)) (G := 0#256) rfl (by have := hK.below.size; omega)
    simp only [puts, dstOf, e0, e1, e2, e3, e4, e5, e6, e7]
    obtain ⟨⟨a0, a1, a2, a3⟩, c0, c1, c2, c3⟩ := tfacts (k0.at_ 2 _ _ rfl)
    go_wp2_with fail
    refine bodyPost_ret (v := Tb.tv ((g &&& Tb.fix f v true) ||| (~~~g &&& Tb.fix f v false))) (by simp [results, Tryd.results48, go_sem, a0, a1, a2, a3]) rfl ⟨rfl, ?_⟩
    exact k1.below
theorem Tb.mux_same (f g : Tb.T) : (g &&& f) ||| (~~~g &&& f) = f := Tb.ext_get fun x hx => by
  rw [BitVec.getLsbD_or, BitVec.getLsbD_and, BitVec.getLsbD_and, BitVec.getLsbD_not]
  cases g.getLsbD x <;> simp [hx]
set_option maxRecDepth 100000 in
set_option maxHeartbeats 1000000 in
theorem rcompose_any (f : Tb.T) (v : Int) (g : Tb.T) (w : World) :
    Calls Tryd.prog 48 #[Tb.tv f, .int .i64 v, Tb.tv g] w fun e w' => e = .returned (Tb.tv ((g &&& Tb.fix f v true) ||| (~~~g &&& Tb.fix f v false))) ∧ Below w.heap.size w w' := by
  by_cases h0 : v < 0
  · have hk : Tb.kn v = false := by unfold Tb.kn; simp; omega
    rw [Tb.fix_no hk, Tb.fix_no hk, Tb.mux_same]
    clear hk
    go_enter Tryd.func48, Tryd.ntmps48
    go_wp2_with fail
    refine bodyPost_ret (v := Tb.tv f) (by simp [results, Tryd.results48, go_sem]) rfl ⟨rfl, ?_⟩
    (repeat (first | (with_reducible exact Below.refl _ _) | (with_reducible assumption) | (with_reducible refine Below.drew ?_) | (with_reducible refine Below.setCell ?_ ?_ _; rotate_left; (first | omega | (simp <;> omega))) | (with_reducible refine Below.alloc ?_ ?_ _; rotate_left; (first | omega | (simp <;> omega)))))
  · by_cases h8 : v ≥ 8
    · have hk : Tb.kn v = false := by unfold Tb.kn; simp; omega
      rw [Tb.fix_no hk, Tb.fix_no hk, Tb.mux_same]
      clear hk
      go_enter Tryd.func48, Tryd.ntmps48
      go_wp2_with fail
      refine bodyPost_ret (v := Tb.tv f) (by simp [results, Tryd.results48, go_sem]) rfl ⟨rfl, ?_⟩
      (repeat (first | (with_reducible exact Below.refl _ _) | (with_reducible assumption) | (with_reducible refine Below.drew ?_) | (with_reducible refine Below.setCell ?_ ?_ _; rotate_left; (first | omega | (simp <;> omega))) | (with_reducible refine Below.alloc ?_ ?_ _; rotate_left; (first | omega | (simp <;> omega)))))
    · exact rcompose_in f v g w h0 h8

set_option maxRecDepth 100000 in
set_option maxHeartbeats 2000000 in
theorem rexists_any (f : Tb.T) (m : Nat) (w : World) (hm : m < 256) :
    Calls Tryd.prog 45 #[Tb.tv f, .int .u8 (m : Int)] w fun e w' => e = .returned (Tb.tv (Tb.halves (fun F G => F ||| G) f m)) ∧ Below w.heap.size w w' := by
  have hK := ((Keep.nil w).new f).new 0#256
  simp only [List.cons_append, List.nil_append, alloc_size, Tb.tcells_zero] at hK
  go_enter Tryd.func45, Tryd.ntmps45
  go_wp2_with fail
  go_loopw [5] (fun i wr => ∃ k : Nat, k ≤ 8 ∧ i = .int .i64 k ∧ Keep w wr [(w.heap.size, Tb.halvesTo (fun F G => F ||| G) f m k), (w.heap.size + 1, 0#256)]) (fun i _ => 8 - (intOf i).toNat)
  case atStart => exact ⟨0, by omega, rfl, by rw [Tb.halvesTo_zero]; exact hK⟩
  case round =>
    rename_i wr
    clear hK
    obtain ⟨k, hk, rfl, kk⟩ := hrel
    by_cases hlt : k < 8
    · have hb := Tb.u8_bit m hm k hlt
      have hq : IntKind.u64.wrap (k : Int) = (k : Int) := by rw [IntKind.wrap_u64]; omega
      cases ht : m.testBit k with
      | false =>
        rw [ht] at hb
        rw [← Tb.halvesTo_no (J := fun F G => F ||| G) (f := f) ht] at kk
        clear ht
        go_wp2_with fail
        exact ⟨⟨k + 1, by omega, by go_num, kk⟩, by simp [intOf]; omega⟩
      | true =>
        rw [ht] at hb
        have HY := Bx.mk (Tb.halvesTo_yes (J := fun F G => F ||| G) (f := f) ht)
        clear ht
        generalize Tb.halvesTo (fun F G => F ||| G) f m k = F at kk HY
        go_upto_region 5 with fail
        -- rex
        refine region_float [] 7 (fun i => ([Tb.tv F, .int .i64 ((k : Nat) : Int), Tb.tv (Tb.fix F ((k : Nat) : Int) false), Tb.tv F, .int .i64 ((k : Nat) : Int), Tb.tv (Tb.fix F ((k : Nat) : Int) true), Tb.tv ((Tb.fix F ((k : Nat) : Int) false) ||| (Tb.fix F ((k : Nat) : Int) true))] : List Value).getD i undef) (fun _ => none) (fun u => Keep w u [(w.heap.size, F), ((w.heap.size + 1), 0#256)]) _ (by kernel_rfl) (by kernel_rfl) (by simp) kk.drew (Nat.le_refl _) (fun _ o h => h.alloc o) ?_ ?_ ?_
        · iterate 1 skip
          refine all_succ ?_ ?_
          rotate_left
          · intro hf oo ho act uu hS hB hd hold KK hcont
            obtain rfl := Option.some.inj ho
            have h18 : act.tmps.getD 18 undef = Tb.tv (Tb.fix F ((k : Nat) : Int) false) := (hd 2 18 (by kernel_rfl) rfl rfl)
            have h21 : act.tmps.getD 21 undef = Tb.tv (Tb.fix F ((k : Nat) : Int) true) := (hd 5 21 (by kernel_rfl) rfl rfl)
            go_simp
            refine (ror_any (Tb.fix F ((k : Nat) : Int) false) (Tb.fix F ((k : Nat) : Int) true) _).mono ?_
            rintro e u' ⟨rfl, hb⟩
            exact hcont _ (hS.step hb) hb
          refine all_succ ?_ ?_
          rotate_left
          · intro hf oo ho act uu hS hB hd hold KK hcont
            obtain rfl := Option.some.inj ho
            have h19 : act.tmps.getD 19 undef = Tb.tv F := (hd 3 19 (by kernel_rfl) rfl rfl)
            have h20 : act.tmps.getD 20 undef = .int .i64 ((k : Nat) : Int) := (hd 4 20 (by kernel_rfl) rfl rfl)
            go_simp
            refine (rfix_any F ((k : Nat) : Int) true _).mono ?_
            rintro e u' ⟨rfl, hb⟩
            exact hcont _ (hS.step hb) hb
          refine all_succ ?_ ?_
          rotate_left
          · intro hf oo ho act uu hS hB hd hold KK hcont
            obtain rfl := Option.some.inj ho
            exact wp_of_exec (exec_move rfl (hold 5 (notDst (by kernel_rfl)))) (hcont uu hS (Below.refl _ _))
          refine all_succ ?_ ?_
          rotate_left
          · intro hf oo ho act uu hS hB hd hold KK hcont
            obtain rfl := Option.some.inj ho
            exact wp_of_exec (exec_load rfl (hold 2 (notDst (by kernel_rfl))) (hS.at_ 0 _ _ rfl)) (hcont uu hS (Below.refl _ _))
          refine all_succ ?_ ?_
          rotate_left
          · intro hf oo ho act uu hS hB hd hold KK hcont
            obtain rfl := Option.some.inj ho
            have h16 : act.tmps.getD 16 undef = Tb.tv F := (hd 0 16 (by kernel_rfl) rfl rfl)
            have h17 : act.tmps.getD 17 undef = .int .i64 ((k : Nat) : Int) := (hd 1 17 (by kernel_rfl) rfl rfl)
            go_simp
            refine (rfix_any F ((k : Nat) : Int) false _).mono ?_
            rintro e u' ⟨rfl, hb⟩
            exact hcont _ (hS.step hb) hb
          refine all_succ ?_ ?_
          rotate_left
          · intro hf oo ho act uu hS hB hd hold KK hcont
            obtain rfl := Option.some.inj ho
            exact wp_of_exec (exec_move rfl (hold 5 (notDst (by kernel_rfl)))) (hcont uu hS (Below.refl _ _))
          refine all_succ ?_ ?_
          rotate_left
          · intro hf oo ho act uu hS hB hd hold KK hcont
            obtain rfl := Option.some.inj ho
            exact wp_of_exec (exec_load rfl (hold 2 (notDst (by kernel_rfl))) (hS.at_ 0 _ _ rfl)) (hcont uu hS (Below.refl _ _))
          exact all_zero
        · intro i hi ty z hf; cases hf
        · intro ρ u hF
          have e0 : ρ 0 = Tb.tv F := hF.val 0 (by omega) (by kernel_rfl) rfl
          have e1 : ρ 1 = .int .i64 ((k : Nat) : Int) := hF.val 1 (by omega) (by kernel_rfl) rfl
          have e2 : ρ 2 = Tb.tv (Tb.fix F ((k : Nat) : Int) false) := hF.val 2 (by omega) (by kernel_rfl) rfl
          have e3 : ρ 3 = Tb.tv F := hF.val 3 (by omega) (by kernel_rfl) rfl
          have e4 : ρ 4 = .int .i64 ((k : Nat) : Int) := hF.val 4 (by omega) (by kernel_rfl) rfl
          have e5 : ρ 5 = Tb.tv (Tb.fix F ((k : Nat) : Int) true) := hF.val 5 (by omega) (by kernel_rfl) rfl
          have e6 : ρ 6 = Tb.tv ((Tb.fix F ((k : Nat) : Int) false) ||| (Tb.fix F ((k : Nat) : Int) true)) := hF.val 6 (by omega) (by kernel_rfl) rfl
          have k0 := hF.s_
          have k1 := k0.store 0 (((Tb.fix F ((k : Nat) : Int) false) ||| (Tb.fix F ((k : Nat) : Int) true))) (p := w.heap.size) (G := F) rfl (by have := kk.below.size; omega)
          simp only [puts, dstOf, e0, e1, e2, e3, e4, e5, e6]
          obtain ⟨⟨a0, a1, a2, a3⟩, c0, c1, c2, c3⟩ := tfacts (k0.at_ 0 _ _ rfl)
          replace k1 : Keep w _ [(w.heap.size, _), (w.heap.size + 1, 0#256)] := k1
          go_wp2_with fail
          exact ⟨⟨k + 1, by omega, by go_num, by rw [HY.out]; exact k1⟩, by simp [intOf]; omega⟩
    · obtain rfl : k = 8 := by omega
      rw [← Tb.halves_def] at kk
      obtain ⟨⟨a0, a1, a2, a3⟩, b0, b1, b2, b3⟩ := tfacts (kk.at_ 0 _ _ rfl)
      obtain ⟨⟨c0, c1, c2, c3⟩, d0, d1, d2, d3⟩ := tfacts (kk.at_ 1 _ _ rfl)
      have hb := kk.below
      clear kk
      go_wp2_with fail
      refine bodyPost_ret (v := Tb.tv (Tb.halves (fun F G => F ||| G) f m)) (by simp [results, Tryd.results45, go_sem, c0, c1, c2, c3]) rfl ⟨rfl, ?_⟩
      (repeat (first | (with_reducible exact Below.refl _ _) | (with_reducible assumption) | (with_reducible refine Below.drew ?_) | (with_reducible refine Below.setCell ?_ ?_ _; rotate_left; (first | omega | (simp <;> omega))) | (with_reducible refine Below.alloc ?_ ?_ _; rotate_left; (first | omega | (simp <;> omega))) | (with_reducible refine Below.trans ?_ (hb.mono ?_); rotate_left; (first | omega | (simp <;> omega)))))
end Go.Proofs.YtfkefgelceaimaaDoor
