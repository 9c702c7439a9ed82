/-
  The walks of the document's tables, sixth part: all of a mask, variables set for good, packed bits.
-/
import Derived.Test.YtfkefgelceaimaaDoorRefE
import Derived.Test.YtfkefgelceaimaaDoorRefPlain
namespace Go.Proofs.YtfkefgelceaimaaDoor
set_option linter.unusedVariables false
open Go.RowKit

set_option maxRecDepth 100000 in
set_option maxHeartbeats 1000000 in
theorem rforall_any (f : Tb.T) (m : Nat) (w : World) (hm : m < 256) :
    Calls Tryd.prog 46 #[Tb.tv f, .int .u8 (m : Int)] w fun e w' => e = .returned (Tb.tv (Tb.halves (fun F G => F &&& G) f m)) ∧ Below w.heap.size w w' := by
  have hK := ((Keep.nil w).new f).new 0#256
  simp only [List.cons_append, List.nil_append, alloc_size, Tb.tcells_zero] at hK
  have H1 := Bx.mk (fun w => rnot_any f w)
  have H2 := Bx.mk (fun w => rexists_any (~~~f) m w hm)
  have h3 := fun w => rnot_any (Tb.halves (fun F G => F ||| G) (~~~f) m) w
  rw [Tb.not_exs_not] at h3
  have H3 := Bx.mk h3
  clear h3
  go_enter Tryd.func46, Tryd.ntmps46
  go_wp2_with fail
  refine (H1.out _).mono ?_
  rintro e w1 ⟨rfl, b1⟩
  replace hK := hK.step b1
  clear b1
  go_wp2_with fail
  refine (H2.out _).mono ?_
  rintro e w1 ⟨rfl, b1⟩
  replace hK := hK.step b1
  clear b1
  go_wp2_with fail
  refine (H3.out _).mono ?_
  rintro e w1 ⟨rfl, b1⟩
  replace hK := hK.step b1
  obtain ⟨⟨a0, a1, a2, a3⟩, c0, c1, c2, c3⟩ := tfacts (hK.at_ 1 _ _ rfl)
  have hb := hK.below
  clear b1 hK
  go_wp2_with fail
  refine bodyPost_ret (v := Tb.tv (Tb.halves (fun F G => F &&& G) f m)) (by simp [results, Tryd.results46, go_sem, a0, a1, a2, a3]) rfl ⟨rfl, ?_⟩
  (repeat (first | (with_reducible exact Below.refl _ _) | (with_reducible assumption) | (with_reducible refine Below.drew ?_) | (with_reducible refine Below.setCell ?_ ?_ _; rotate_left; (first | omega | (simp <;> omega))) | (with_reducible refine Below.alloc ?_ ?_ _; rotate_left; (first | omega | (simp <;> omega))) | (with_reducible refine Below.trans ?_ (hb.mono ?_); rotate_left; (first | omega | (simp <;> omega)))))

set_option maxRecDepth 100000 in
set_option maxHeartbeats 2000000 in
theorem rrestrict_any (f : Tb.T) (m v : Nat) (w : World) (hm : m < 256) (hv : v < 256) :
    Calls Tryd.prog 47 #[Tb.tv f, .int .u8 (m : Int), .int .u8 (v : Int)] w fun e w' => e = .returned (Tb.tv (Tb.restrict f m v)) ∧ Below w.heap.size w w' := by
  have hK := ((Keep.nil w).new f).new 0#256
  simp only [List.cons_append, List.nil_append, alloc_size, Tb.tcells_zero] at hK
  have HR := Bx.mk (Tb.rstTo_all f m v hm hv)
  go_enter Tryd.func47, Tryd.ntmps47
  go_wp2_with fail
  go_loopw [7] (fun i wr => ∃ k : Nat, k ≤ 8 ∧ i = .int .i64 k ∧ Keep w wr [(w.heap.size, Tb.rstTo f m v k), (w.heap.size + 1, 0#256)]) (fun i _ => 8 - (intOf i).toNat)
  case atStart => exact ⟨0, by omega, rfl, by rw [Tb.rstTo_zero]; exact hK⟩
  case round =>
    rename_i wr
    clear hK
    obtain ⟨k, hk, rfl, kk⟩ := hrel
    by_cases hlt : k < 8
    · have hb := Tb.u8_bit m hm k hlt
      have hbv := Tb.u8_bit v hv k hlt
      have hq : IntKind.u64.wrap (k : Int) = (k : Int) := by rw [IntKind.wrap_u64]; omega
      cases ht : m.testBit k with
      | false =>
        rw [ht] at hb
        rw [← Tb.rstTo_no ht] at kk
        clear ht
        go_wp2_with fail
        exact ⟨⟨k + 1, by omega, by go_num, kk⟩, by simp [intOf]; omega⟩
      | true =>
        rw [ht] at hb
        have HY := Bx.mk (Tb.rstTo_yes (f := f) (v := v) ht)
        clear ht
        generalize Tb.rstTo f m v k = F at kk HY
        generalize v.testBit k = bb at hbv HY
        obtain ⟨⟨a0, a1, a2, a3⟩, c0, c1, c2, c3⟩ := tfacts (kk.at_ 0 _ _ rfl)
        have HX := Bx.mk (fun w => rfix_any F (k : Int) bb w)
        go_wp2_with fail
        refine (HX.out _).mono ?_
        rintro e w1 ⟨rfl, b1⟩
        replace kk := kk.step b1
        have k1 := kk.store 0 (Tb.fix F (k : Int) bb) rfl (by omega)
        rw [← HY.out] at k1
        clear b1 a0 a1 a2 a3 c0 c1 c2 c3 HX
        obtain ⟨⟨a0, a1, a2, a3⟩, c0, c1, c2, c3⟩ := tfacts (kk.at_ 0 _ _ rfl)
        go_wp2_with fail
        exact ⟨⟨k + 1, by omega, by go_num, by rw [← HY.out]; exact k1⟩, by simp [intOf]; omega⟩
    · obtain rfl : k = 8 := by omega
      rw [HR.out] at kk
      obtain ⟨⟨a0, a1, a2, a3⟩, b0, b1, b2, b3⟩ := tfacts (kk.at_ 0 _ _ rfl)
      obtain ⟨⟨c0, c1, c2, c3⟩, d0, d1, d2, d3⟩ := tfacts (kk.at_ 1 _ _ rfl)
      have hb := kk.below
      clear kk
      go_wp2_with fail
      refine bodyPost_ret (v := Tb.tv (Tb.restrict f m v)) (by simp [results, Tryd.results47, go_sem, c0, c1, c2, c3]) rfl ⟨rfl, ?_⟩
      (repeat (first | (with_reducible exact Below.refl _ _) | (with_reducible assumption) | (with_reducible refine Below.drew ?_) | (with_reducible refine Below.setCell ?_ ?_ _; rotate_left; (first | omega | (simp <;> omega))) | (with_reducible refine Below.alloc ?_ ?_ _; rotate_left; (first | omega | (simp <;> omega))) | (with_reducible refine Below.trans ?_ (hb.mono ?_); rotate_left; (first | omega | (simp <;> omega)))))

set_option maxHeartbeats 1000000 in
theorem rhalf_any (y : Nat) (w : World) (hy : y < 256) :
    Calls Tryd.prog 71 #[.int .i64 (y : Int)] w fun e w' => e = .returned (.int .i64 (Tb.hf y : Int)) ∧ w = w' := by
  have H := Bx.mk (Tb.hf_walk y hy)
  clear hy
  go_enter Tryd.func71, Tryd.ntmps71
  go_wp2_with fail
  go_ret
  exact ⟨by rw [← H.out]; rfl, rfl⟩
end Go.Proofs.YtfkefgelceaimaaDoor
