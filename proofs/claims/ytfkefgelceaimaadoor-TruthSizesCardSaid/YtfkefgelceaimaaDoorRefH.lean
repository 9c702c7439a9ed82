/-
  The walks of the document's tables, eighth part: counts, what they hang on, the least.
-/
import Derived.Test.YtfkefgelceaimaaDoorRefG
namespace Go.Proofs.YtfkefgelceaimaaDoor
set_option linter.unusedVariables false
open Go.RowKit

def Tb.cntTo (f : Tb.T) (k : Nat) : Nat := (List.range k).countP (fun x => f.getLsbD x)
theorem Tb.cntTo_zero (f : Tb.T) : Tb.cntTo f 0 = 0 := rfl
theorem Tb.cntTo_succ (f : Tb.T) (k : Nat) : Tb.cntTo f (k + 1) = Tb.cntTo f k + (if f.getLsbD k then 1 else 0) := by
  unfold Tb.cntTo
  rw [List.range_succ, List.countP_append, List.countP_singleton]
theorem Tb.cntTo_le (f : Tb.T) (k : Nat) : Tb.cntTo f k ≤ k := by
  unfold Tb.cntTo
  have := List.countP_le_length (p := fun x => f.getLsbD x) (l := List.range k)
  simpa using this
attribute [irreducible] Tb.cntTo

set_option maxRecDepth 100000 in
set_option maxHeartbeats 1000000 in
theorem rcount_any (f : Tb.T) (w : World) :
    Calls Tryd.prog 16 #[Tb.tv f] w fun e w' => e = .returned (.int .i64 (Tb.cnt f : Int)) ∧ Below w.heap.size w w' := by
  have hK := (Keep.nil w).new f
  simp only [List.nil_append] at hK
  have HC := Bx.mk (show Tb.cntTo f 256 = Tb.cnt f from by unfold Tb.cntTo; exact (Tb.cnt_eq f).symm)
  go_enter Tryd.func16, Tryd.ntmps16
  go_wp2_with fail
  go_loopw [3, 4] (fun n i wr => ∃ k : Nat, k ≤ 256 ∧ i = .int .i64 k ∧ n = .int .i64 (Tb.cntTo f k : Int) ∧ Keep w wr [(w.heap.size, f)]) (fun _ i _ => 256 - (intOf i).toNat)
  case atStart => exact ⟨0, by omega, rfl, by rw [Tb.cntTo_zero]; rfl, hK⟩
  case round =>
    clear hK
    obtain ⟨k, hk, rfl, rfl, kk⟩ := hrel
    by_cases hlt : k < 256
    · have hq : IntKind.u8.wrap (k : Int) = (k : Int) := by rw [IntKind.wrap_u8]; omega
      have hE := fun w => reval_any f k w hlt
      have hs := Tb.cntTo_succ f k
      have hl := Tb.cntTo_le f k
      obtain ⟨⟨a0, a1, a2, a3⟩, c0, c1, c2, c3⟩ := tfacts (kk.at_ 0 _ _ rfl)
      cases h1 : f.getLsbD k with
      | false =>
        rw [h1] at hE hs
        have HE := Bx.mk hE
        have HS := Bx.mk hs
        clear hE h1 hs hl
        go_wp2_with fail
        refine (HE.out _).mono ?_
        rintro e w1 ⟨rfl, b1⟩
        replace kk := kk.step b1
        clear b1 a0 a1 a2 a3 c0 c1 c2 c3
        go_wp2_with fail
        exact ⟨⟨k + 1, by omega, by go_num, by rw [HS.out]; simp, kk⟩, by simp [intOf]; omega⟩
      | true =>
        rw [h1] at hE hs
        have HE := Bx.mk hE
        have HS := Bx.mk hs
        clear hE h1 hs
        have hw : IntKind.i64.wrap ((Tb.cntTo f k : Int) + 1) = (Tb.cntTo f k : Int) + 1 := by rw [IntKind.wrap_i64]; omega
        go_wp2_with fail
        refine (HE.out _).mono ?_
        rintro e w1 ⟨rfl, b1⟩
        replace kk := kk.step b1
        clear b1 a0 a1 a2 a3 c0 c1 c2 c3
        go_wp2_with fail
        exact ⟨⟨k + 1, by omega, by go_num, by rw [HS.out]; simp, kk⟩, by simp [intOf]; omega⟩
    · obtain rfl : k = 256 := by omega
      rw [HC.out]
      have hb := kk.below
      clear kk
      go_wp2_with fail
      go_ret
      exact ⟨rfl, hb⟩

set_option maxRecDepth 100000 in
set_option maxHeartbeats 1000000 in
theorem rone_any (f : Tb.T) (w : World) :
    Calls Tryd.prog 14 #[Tb.tv f] w fun e w' => e = .returned (.tuple #[.int .u8 (((Tb.one f).getD 0 : Nat) : Int), .bool (Tb.one f).isSome]) ∧ Below w.heap.size w w' := by
  have hK := (Keep.nil w).new f
  simp only [List.nil_append] at hK
  go_enter Tryd.func14, Tryd.ntmps14
  go_wp2_with fail
  go_loopw [4] (fun i wr => ∃ k : Nat, k ≤ 256 ∧ i = .int .i64 k ∧ Bx (∀ y, y < k → f.getLsbD y = false) ∧ Keep w wr [(w.heap.size, f)]) (fun i _ => 256 - (intOf i).toNat)
  case atStart => exact ⟨0, by omega, rfl, ⟨fun y hy => absurd hy (by omega)⟩, hK⟩
  case round =>
    clear hK
    obtain ⟨k, hk, rfl, hz, kk⟩ := hrel
    by_cases hlt : k < 256
    · have hq : IntKind.u8.wrap (k : Int) = (k : Int) := by rw [IntKind.wrap_u8]; omega
      have hE := fun w => reval_any f k w hlt
      obtain ⟨⟨a0, a1, a2, a3⟩, c0, c1, c2, c3⟩ := tfacts (kk.at_ 0 _ _ rfl)
      cases h1 : f.getLsbD k with
      | false =>
        rw [h1] at hE
        have HE := Bx.mk hE
        have hz' : Bx (∀ y, y < k + 1 → f.getLsbD y = false) := ⟨fun y hy => by
          by_cases e : y = k
          · subst e; exact h1
          · exact hz.out y (by omega)⟩
        clear hE h1 hz
        go_wp2_with fail
        refine (HE.out _).mono ?_
        rintro e w1 ⟨rfl, b1⟩
        replace kk := kk.step b1
        clear b1 a0 a1 a2 a3 c0 c1 c2 c3
        go_wp2_with fail
        exact ⟨⟨k + 1, by omega, by go_num, hz', kk⟩, by simp [intOf]; omega⟩
      | true =>
        rw [h1] at hE
        have HE := Bx.mk hE
        have HO := Bx.mk (Tb.one_some hlt h1 hz.out)
        clear hE h1 hz
        go_wp2_with fail
        refine (HE.out _).mono ?_
        rintro e w1 ⟨rfl, b1⟩
        replace kk := kk.step b1
        have hb := kk.below
        clear b1 a0 a1 a2 a3 c0 c1 c2 c3 kk
        go_wp2_with fail
        refine bodyPost_ret (v := .tuple #[.int .u8 (k : Int), .bool true]) (by simp [results, Tryd.results14, go_sem]) rfl ⟨by rw [HO.out]; rfl, hb⟩
    · obtain rfl : k = 256 := by omega
      have HO := Bx.mk (Tb.one_none hz.out)
      have hb := kk.below
      clear kk hz
      go_wp2_with fail
      refine bodyPost_ret (v := .tuple #[.int .u8 0, .bool false]) (by simp [results, Tryd.results14, go_sem]) rfl ⟨by rw [HO.out]; rfl, hb⟩

set_option maxRecDepth 100000 in
set_option maxHeartbeats 1000000 in
theorem rsupport_any (f : Tb.T) (w : World) :
    Calls Tryd.prog 18 #[Tb.tv f] w fun e w' => e = .returned (.int .u8 (Tb.support f : Int)) ∧ Below w.heap.size w w' := by
  have hK := (Keep.nil w).new f
  simp only [List.nil_append] at hK
  have HD := Bx.mk (Tb.support_def f)
  go_enter Tryd.func18, Tryd.ntmps18
  go_wp2_with fail
  go_loopw [3, 4] (fun m i wr => ∃ k : Nat, k ≤ 8 ∧ i = .int .i64 k ∧ m = .int .u8 (Tb.supTo f k : Int) ∧ Keep w wr [(w.heap.size, f)]) (fun _ i _ => 8 - (intOf i).toNat)
  case atStart => exact ⟨0, by omega, rfl, by unfold Tb.supTo; rfl, hK⟩
  case round =>
    rename_i wr
    clear hK
    obtain ⟨k, hk, rfl, rfl, kk⟩ := hrel
    by_cases hlt : k < 8
    · have heq := run_equal_max (F := Tb.fix f (k : Int) false) (G := Tb.fix f (k : Int) true) rfl
      have hq : IntKind.u64.wrap (k : Int) = (k : Int) := by rw [IntKind.wrap_u64]; omega
      go_upto_region 5 with fail
      -- rsup
      refine region_float [] 6 (fun i => ([Tb.tv f, .int .i64 ((k : Nat) : Int), Tb.tv (Tb.fix f ((k : Nat) : Int) false), Tb.tv f, .int .i64 ((k : Nat) : Int), Tb.tv (Tb.fix f ((k : Nat) : Int) true)] : List Value).getD i undef) (fun _ => none) (fun u => Keep w u [(w.heap.size, f)]) _ (by kernel_rfl) (by kernel_rfl) (by simp) kk.drew (Nat.le_refl _) (fun _ o h => h.alloc o) ?_ ?_ ?_
      · iterate 1 skip
        refine all_succ ?_ ?_
        rotate_left
        · intro hf oo hoper act uu hS hB hd hold KK hcont
          obtain rfl := Option.some.inj hoper
          have h12 : act.tmps.getD 12 undef = Tb.tv f := (hd 3 12 (by kernel_rfl) rfl rfl)
          have h13 : act.tmps.getD 13 undef = .int .i64 ((k : Nat) : Int) := (hd 4 13 (by kernel_rfl) rfl rfl)
          go_simp
          refine (rfix_any f ((k : Nat) : Int) true _).mono ?_
          rintro e u' ⟨rfl, hb⟩
          exact hcont _ (hS.step hb) hb
        refine all_succ ?_ ?_
        rotate_left
        · intro hf oo hoper act uu hS hB hd hold KK hcont
          obtain rfl := Option.some.inj hoper
          exact wp_of_exec (exec_move rfl (hold 4 (notDst (by kernel_rfl)))) (hcont uu hS (Below.refl _ _))
        refine all_succ ?_ ?_
        rotate_left
        · intro hf oo hoper act uu hS hB hd hold KK hcont
          obtain rfl := Option.some.inj hoper
          exact wp_of_exec (exec_load rfl (hold 1 (notDst (by kernel_rfl))) (hS.at_ 0 _ _ rfl)) (hcont uu hS (Below.refl _ _))
        refine all_succ ?_ ?_
        rotate_left
        · intro hf oo hoper act uu hS hB hd hold KK hcont
          obtain rfl := Option.some.inj hoper
          have h9 : act.tmps.getD 9 undef = Tb.tv f := (hd 0 9 (by kernel_rfl) rfl rfl)
          have h10 : act.tmps.getD 10 undef = .int .i64 ((k : Nat) : Int) := (hd 1 10 (by kernel_rfl) rfl rfl)
          go_simp
          refine (rfix_any f ((k : Nat) : Int) false _).mono ?_
          rintro e u' ⟨rfl, hb⟩
          exact hcont _ (hS.step hb) hb
        refine all_succ ?_ ?_
        rotate_left
        · intro hf oo hoper act uu hS hB hd hold KK hcont
          obtain rfl := Option.some.inj hoper
          exact wp_of_exec (exec_move rfl (hold 4 (notDst (by kernel_rfl)))) (hcont uu hS (Below.refl _ _))
        refine all_succ ?_ ?_
        rotate_left
        · intro hf oo hoper act uu hS hB hd hold KK hcont
          obtain rfl := Option.some.inj hoper
          exact wp_of_exec (exec_load rfl (hold 1 (notDst (by kernel_rfl))) (hS.at_ 0 _ _ rfl)) (hcont uu hS (Below.refl _ _))
        exact all_zero
      · intro i hi ty z hf; cases hf
      · intro ρ u hF
        have e0 : ρ 0 = Tb.tv f := hF.val 0 (by omega) (by kernel_rfl) rfl
        have e1 : ρ 1 = .int .i64 ((k : Nat) : Int) := hF.val 1 (by omega) (by kernel_rfl) rfl
        have e2 : ρ 2 = Tb.tv (Tb.fix f ((k : Nat) : Int) false) := hF.val 2 (by omega) (by kernel_rfl) rfl
        have e3 : ρ 3 = Tb.tv f := hF.val 3 (by omega) (by kernel_rfl) rfl
        have e4 : ρ 4 = .int .i64 ((k : Nat) : Int) := hF.val 4 (by omega) (by kernel_rfl) rfl
        have e5 : ρ 5 = Tb.tv (Tb.fix f ((k : Nat) : Int) true) := hF.val 5 (by omega) (by kernel_rfl) rfl
        have k0 := hF.s_
        simp only [puts, dstOf, e0, e1, e2, e3, e4, e5]
        cases hd : decide (Tb.fix f (k : Int) false = Tb.fix f (k : Int) true) with
        | true =>
          rw [hd] at heq
          have HS := Bx.mk (Tb.supTo_same (of_decide_eq_true hd))
          clear hd
          go_wp2_with fail
          exact ⟨⟨k + 1, by omega, by go_num, by rw [HS.out], k0⟩, by simp [intOf]; omega⟩
        | false =>
          rw [hd] at heq
          have HS := Bx.mk (Tb.supTo_other (of_decide_eq_false hd) hlt)
          clear hd
          go_wp2_with fail
          exact ⟨⟨k + 1, by omega, by go_num, by rw [← HS.out], k0⟩, by simp [intOf]; omega⟩
    · obtain rfl : k = 8 := by omega
      rw [← HD.out]
      have hb := kk.below
      clear kk
      go_wp2_with fail
      go_ret
      exact ⟨rfl, hb⟩
end Go.Proofs.YtfkefgelceaimaaDoor
