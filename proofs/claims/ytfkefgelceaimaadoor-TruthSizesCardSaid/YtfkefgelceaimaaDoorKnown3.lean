/-
  The walk of the laws' own look at known tables.
-/
import Derived.Test.YtfkefgelceaimaaDoorKnownPlain
namespace Go.Proofs.YtfkefgelceaimaaDoor
set_option linter.unusedVariables false
open Go.RowKit

theorem var_three (w : World) : Calls Tryd.prog 22 #[.int .i64 3] w fun e w' => e = .returned (Tb.tv (Tb.var 3)) ∧ Below w.heap.size w w' := var_any 3 w
theorem cnt_three (w : World) : Calls Tryd.prog 15 #[Tb.tv (Tb.var 3)] w fun e w' => e = .returned (.int .i64 128) ∧ Below w.heap.size w w' := by
  have h := count_any (Tb.var 3) w; rw [Tb.kn_cnt3] at h; exact h
theorem cnt_f0 (w : World) : Calls Tryd.prog 15 #[Tb.tv Tb.f0] w fun e w' => e = .returned (.int .i64 64) ∧ Below w.heap.size w w' := by
  have h := count_any Tb.f0 w; rw [Tb.kn_cnt0] at h; exact h
theorem sup_f0 (w : World) : Calls Tryd.prog 17 #[Tb.tv Tb.f0] w fun e w' => e = .returned (.int .u8 9) ∧ Below w.heap.size w w' := by
  have h := support_any Tb.f0 w; rw [Tb.kn_sup0] at h; exact h
theorem one_f0 (w : World) (hT : TabAt w) (hG : 0 < w.heap.size) : Calls Tryd.prog 13 #[Tb.tv Tb.f0] w fun e w' => e = .returned (.tuple #[.int .u8 1, .bool true]) ∧ Below w.heap.size w w' := by
  have h := one_any Tb.f0 w hT hG; rw [Tb.kn_one0] at h; exact h
theorem ex_f0 (w : World) : Calls Tryd.prog 27 #[Tb.tv Tb.f0, .int .u8 9] w fun e w' => e = .returned (Tb.tv (Tb.cst true)) ∧ Below w.heap.size w w' := by
  have h := exists_any Tb.f0 9 w (by omega); rw [Tb.kn_ex0] at h; exact h
theorem and_f0 (w : World) : Calls Tryd.prog 21 #[Tb.tv (Tb.var 0), Tb.tv (~~~ Tb.var 3)] w fun e w' => e = .returned (Tb.tv Tb.f0) ∧ Below w.heap.size w w' := by
  have h := and_any (Tb.var 0) (~~~ Tb.var 3) w; rw [show Tb.var 0 &&& ~~~ Tb.var 3 = Tb.f0 from by unfold Tb.f0; rfl] at h; exact h

theorem size_f0 (w : World) (g g' : Nat) (hB : Blk w g 24 (Tb.tcells Tb.f0)) (hB' : Blk w g' 3 #[.int .i64 0, .int .i64 1, .int .i64 2, .int .i64 3]) :
    Calls Tryd.prog 19 #[.slice (some ⟨g, 0, none⟩) 1 1, .slice (some ⟨g', 0, none⟩) 4 4] w fun e w' => e = .returned (.int .i64 2) ∧ Below w.heap.size w w' := by
  have h := size_any [Tb.f0] (some ⟨g, 0, none⟩) 1 (.slice (some ⟨g', 0, none⟩) 4 4) [0, 1, 2, 3] w ⟨fun j F hj => ?_⟩ (by simp) (.inr ⟨g', 0, 4, rfl, by simp, fun j x hj => ?_⟩)
  · refine h.mono ?_
    rintro e w' ⟨n, hn, rfl, hb⟩
    rw [hn.eq, Tb.kn_size0]
    exact ⟨rfl, hb⟩
  · match j, hj with
    | 0, hj =>
      simp at hj; subst hj
      refine ⟨g, 0, rfl, fun i hi => ?_⟩
      rw [hB.cell]
      match i, hi with
      | 0, _ => rfl
      | 1, _ => rfl
      | 2, _ => rfl
      | 3, _ => rfl
    | j + 1, hj => simp at hj
  · rw [hB'.cell]
    match j, hj with
    | 0, hj => simp at hj; subst hj; rfl
    | 1, hj => simp at hj; subst hj; rfl
    | 2, hj => simp at hj; subst hj; rfl
    | 3, hj => simp at hj; subst hj; rfl
    | j + 4, hj => simp at hj

/-- a variable of the call's own that holds a table -/
structure Kp (w u : World) (g : Nat) (f : Tb.T) : Prop where
  below : Below w.heap.size w u
  blk : Blk u g 24 (Tb.tcells f)
theorem Kp.step {w u u' : World} {g : Nat} {f : Tb.T} (h : Kp w u g f) (hb : Below u.heap.size u u') : Kp w u' g f := ⟨h.below.trans (hb.mono h.below.size), h.blk.below hb h.blk.lt⟩
theorem Kp.alloc {w u : World} {g : Nat} {f : Tb.T} (h : Kp w u g f) (o : Obj) : Kp w (u.alloc o) g f := ⟨h.below.alloc h.below.size o, h.blk.alloc o⟩
theorem Kp.new {w u : World} (f : Tb.T) (h : Below w.heap.size w u) : Kp w (u.alloc (.cells (Tb.tcells f) 24)) u.heap.size f := ⟨h.alloc h.size _, Blk.new _ _ _⟩
theorem Kp.tab {w u : World} {g : Nat} {f : Tb.T} (h : Kp w u g f) (hT : TabAt w) (hG : 0 < w.heap.size) : TabAt u := hT.keep h.below hG
theorem Kp.size {w u : World} {g : Nat} {f : Tb.T} (h : Kp w u g f) : w.heap.size ≤ u.heap.size := h.below.size

set_option maxRecDepth 100000 in
set_option maxHeartbeats 2000000 in
theorem known3_any (w : World) (hT : TabAt w) (hG : 0 < w.heap.size) :
    Calls Tryd.prog 12 #[] w fun e w' => e = .returned (.bool true) ∧ Below w.heap.size w w' := by
  go_enter Tryd.func12, Tryd.ntmps12
  go_wp2_with fail
  refine (var_any 0 _).mono ?_
  rintro e w1 ⟨rfl, b1⟩
  go_wp2_with fail
  refine (var_three _).mono ?_
  rintro e w2 ⟨rfl, b2⟩
  have b12 := b1.trans (b2.mono b1.size)
  clear b1 b2
  go_wp2_with fail
  refine (not_any (Tb.var 3) _).mono ?_
  rintro e w3 ⟨rfl, b3⟩
  have b13 := b12.trans (b3.mono b12.size)
  clear b12 b3
  go_wp2_with fail
  refine (and_f0 _).mono ?_
  rintro e w4 ⟨rfl, b4⟩
  have b14 := b13.trans (b4.mono b13.size)
  clear b13 b4
  have k4 := Kp.new Tb.f0 b14
  clear b14
  have hT4 := k4.tab hT hG
  go_wp2_with fail
  refine (one_f0 _ hT4 (by have := k4.size; omega)).mono ?_
  rintro e w5 ⟨rfl, b5⟩
  have k5 := k4.step b5
  clear hT4 k4 b5
  go_wp2_with fail
  refine (var_three _).mono ?_
  rintro e w6 ⟨rfl, b6⟩
  have k6 := k5.step b6
  clear k5 b6
  go_wp2_with fail
  refine (cnt_three _).mono ?_
  rintro e w7 ⟨rfl, b7⟩
  have k7 := k6.step b7
  clear k6 b7
  obtain ⟨⟨a0, a1, a2, a3⟩, c0, c1, c2, c3⟩ := tfacts k7.blk
  go_wp2_with fail
  refine (cnt_f0 _).mono ?_
  rintro e w8 ⟨rfl, b8⟩
  have k8 := k7.step b8
  clear k7 b8 a0 a1 a2 a3 c0 c1 c2 c3
  obtain ⟨⟨a0, a1, a2, a3⟩, c0, c1, c2, c3⟩ := tfacts k8.blk
  go_wp2_with fail
  refine (sup_f0 _).mono ?_
  rintro e w9 ⟨rfl, b9⟩
  have k9 := k8.step b9
  clear k8 b9 a0 a1 a2 a3 c0 c1 c2 c3
  obtain ⟨⟨a0, a1, a2, a3⟩, c0, c1, c2, c3⟩ := tfacts k9.blk
  go_wp2_with fail
  have k10 := (k9.alloc (.cells (Tb.tcells Tb.f0) 24)).alloc (.cells #[.int .i64 0, .int .i64 1, .int .i64 2, .int .i64 3] 3)
  have x1 := (Blk.new w9 24 (Tb.tcells Tb.f0)).alloc (.cells #[.int .i64 0, .int .i64 1, .int .i64 2, .int .i64 3] 3)
  have x2 := Blk.new (w9.alloc (.cells (Tb.tcells Tb.f0) 24)) 3 #[.int .i64 0, .int .i64 1, .int .i64 2, .int .i64 3]
  rw [show (w9.alloc (.cells (Tb.tcells Tb.f0) 24)).heap.size = w9.heap.size + 1 from by simp] at x2
  refine (size_f0 _ _ _ x1 x2).mono ?_
  rintro e w11 ⟨rfl, b11⟩
  have k11 := k10.step b11
  clear k10 x1 x2 b11 k9 a0 a1 a2 a3 c0 c1 c2 c3
  obtain ⟨⟨a0, a1, a2, a3⟩, c0, c1, c2, c3⟩ := tfacts k11.blk
  go_wp2_with fail
  refine (ex_f0 _).mono ?_
  rintro e w12 ⟨rfl, b12⟩
  have k12 := k11.step b12
  clear k11 b12 a0 a1 a2 a3 c0 c1 c2 c3
  go_wp2_with fail
  refine (const_any true _).mono ?_
  rintro e w13 ⟨rfl, b13⟩
  have k13 := k12.step b13
  clear k12 b13
  have heq := run_equal_max (F := Tb.cst true) (G := Tb.cst true) (b := true) (by simp)
  go_wp2_with fail
  go_ret
  exact ⟨rfl, k13.below⟩
end Go.Proofs.YtfkefgelceaimaaDoor
