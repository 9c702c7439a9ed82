/-
  Formulas: strings.HasPrefix, expr.scan.
-/
import Derived.Test.YtfgokhafiffbaaaEx1
namespace Go.Proofs.Ytfgokhafiffbaaa
set_option linter.unusedVariables false
open Go.RowKit

set_option maxHeartbeats 1000000 in
theorem litePrefix_any (s k : ByteArray) (w : World) : Calls Try.prog 76 #[.string s, .string k] w fun e w' => e = .returned (.bool (Lx.pre (bl k) (bl s))) ∧ w' = w := by
  have hE : ((s.extract 0 k.size).toList == k.toList) = Lx.pre (bl k) (bl s) := by
    rw [bl_eq, bl_extract]; unfold Lx.pre; rw [bl_length]; simp
  by_cases h : k.size ≤ s.size
  · have q1 : (s.size : Int) ≥ k.size := by omega
    have q2 : (k.size : Int) ≤ s.size := by omega
    go_enter Try.func76, Try.ntmps76
    go_wp2_with fail
    go_ret
    exact ⟨rfl, rfl⟩
  · have q1 : ¬ (s.size : Int) ≥ k.size := by omega
    have hF : Lx.pre (bl k) (bl s) = false := by
      unfold Lx.pre
      refine decide_eq_false fun e => ?_
      have := congrArg List.length e
      rw [List.length_take, bl_length, bl_length] at this
      omega
    have H := Bx.mk hF
    clear hE hF
    go_enter Try.func76, Try.ntmps76
    go_wp2_with fail
    go_ret
    exact ⟨by rw [H.out]; rfl, rfl⟩
set_option maxHeartbeats 1000000 in
theorem prefix_any (s k : ByteArray) (w : World) : Calls Try.prog 57 #[.string s, .string k] w fun e w' => e = .returned (.bool (Lx.pre (bl k) (bl s))) ∧ w' = w := by
  go_enter Try.func57, Try.ntmps57
  go_wp2_with fail
  refine (litePrefix_any s k _).mono ?_
  rintro e w1 ⟨rfl, rfl⟩
  go_wp2_with fail
  go_ret
  exact ⟨rfl, rfl⟩
theorem prefix_is (s k : ByteArray) {l : List Nat} {b : Bool} (hl : bl k = l) (h : Lx.pre l (bl s) = b) (w : World) : Calls Try.prog 57 #[.string s, .string k] w fun e w' => e = .returned (.bool b) ∧ w' = w := by
  have := prefix_any s k w
  rw [hl, h] at this
  exact this
theorem bl_mk (l : List UInt8) : bl ⟨l.toArray⟩ = l.map UInt8.toNat := by simp [bl]

theorem scan_ix0 (w : World) : (Instr.index 78 (.agg #[.string { data := #[60, 45, 62] }, .string { data := #[45, 62] }, .string { data := #[33] }, .string { data := #[38] }, .string { data := #[124] }, .string { data := #[94] }, .string { data := #[40] }, .string { data := #[41] }, .string { data := #[44] }]) (.int .i64 0)).run Try.prog w = .ok (.string { data := #[60, 45, 62] }) w := by kernel_rfl
theorem scan_ix1 (w : World) : (Instr.index 78 (.agg #[.string { data := #[60, 45, 62] }, .string { data := #[45, 62] }, .string { data := #[33] }, .string { data := #[38] }, .string { data := #[124] }, .string { data := #[94] }, .string { data := #[40] }, .string { data := #[41] }, .string { data := #[44] }]) (.int .i64 1)).run Try.prog w = .ok (.string { data := #[45, 62] }) w := by kernel_rfl
theorem scan_ix2 (w : World) : (Instr.index 78 (.agg #[.string { data := #[60, 45, 62] }, .string { data := #[45, 62] }, .string { data := #[33] }, .string { data := #[38] }, .string { data := #[124] }, .string { data := #[94] }, .string { data := #[40] }, .string { data := #[41] }, .string { data := #[44] }]) (.int .i64 2)).run Try.prog w = .ok (.string { data := #[33] }) w := by kernel_rfl
theorem scan_ix3 (w : World) : (Instr.index 78 (.agg #[.string { data := #[60, 45, 62] }, .string { data := #[45, 62] }, .string { data := #[33] }, .string { data := #[38] }, .string { data := #[124] }, .string { data := #[94] }, .string { data := #[40] }, .string { data := #[41] }, .string { data := #[44] }]) (.int .i64 3)).run Try.prog w = .ok (.string { data := #[38] }) w := by kernel_rfl
theorem scan_ix4 (w : World) : (Instr.index 78 (.agg #[.string { data := #[60, 45, 62] }, .string { data := #[45, 62] }, .string { data := #[33] }, .string { data := #[38] }, .string { data := #[124] }, .string { data := #[94] }, .string { data := #[40] }, .string { data := #[41] }, .string { data := #[44] }]) (.int .i64 4)).run Try.prog w = .ok (.string { data := #[124] }) w := by kernel_rfl
theorem scan_ix5 (w : World) : (Instr.index 78 (.agg #[.string { data := #[60, 45, 62] }, .string { data := #[45, 62] }, .string { data := #[33] }, .string { data := #[38] }, .string { data := #[124] }, .string { data := #[94] }, .string { data := #[40] }, .string { data := #[41] }, .string { data := #[44] }]) (.int .i64 5)).run Try.prog w = .ok (.string { data := #[94] }) w := by kernel_rfl
theorem scan_ix6 (w : World) : (Instr.index 78 (.agg #[.string { data := #[60, 45, 62] }, .string { data := #[45, 62] }, .string { data := #[33] }, .string { data := #[38] }, .string { data := #[124] }, .string { data := #[94] }, .string { data := #[40] }, .string { data := #[41] }, .string { data := #[44] }]) (.int .i64 6)).run Try.prog w = .ok (.string { data := #[40] }) w := by kernel_rfl
theorem scan_ix7 (w : World) : (Instr.index 78 (.agg #[.string { data := #[60, 45, 62] }, .string { data := #[45, 62] }, .string { data := #[33] }, .string { data := #[38] }, .string { data := #[124] }, .string { data := #[94] }, .string { data := #[40] }, .string { data := #[41] }, .string { data := #[44] }]) (.int .i64 7)).run Try.prog w = .ok (.string { data := #[41] }) w := by kernel_rfl
theorem scan_ix8 (w : World) : (Instr.index 78 (.agg #[.string { data := #[60, 45, 62] }, .string { data := #[45, 62] }, .string { data := #[33] }, .string { data := #[38] }, .string { data := #[124] }, .string { data := #[94] }, .string { data := #[40] }, .string { data := #[41] }, .string { data := #[44] }]) (.int .i64 8)).run Try.prog w = .ok (.string { data := #[44] }) w := by kernel_rfl
theorem scan_bl0 : bl { data := #[60, 45, 62] } = [60, 45, 62] := by unfold bl; decide +kernel
theorem scan_str0 : ({ data := #[60, 45, 62] } : ByteArray) = Tok.str .iff := by unfold Tok.str Tok.txt strOf; decide +kernel
theorem scan_bl1 : bl { data := #[45, 62] } = [45, 62] := by unfold bl; decide +kernel
theorem scan_str1 : ({ data := #[45, 62] } : ByteArray) = Tok.str .imp := by unfold Tok.str Tok.txt strOf; decide +kernel
theorem scan_bl2 : bl { data := #[33] } = [33] := by unfold bl; decide +kernel
theorem scan_str2 : ({ data := #[33] } : ByteArray) = Tok.str .not := by unfold Tok.str Tok.txt strOf; decide +kernel
theorem scan_bl3 : bl { data := #[38] } = [38] := by unfold bl; decide +kernel
theorem scan_str3 : ({ data := #[38] } : ByteArray) = Tok.str .and := by unfold Tok.str Tok.txt strOf; decide +kernel
theorem scan_bl4 : bl { data := #[124] } = [124] := by unfold bl; decide +kernel
theorem scan_str4 : ({ data := #[124] } : ByteArray) = Tok.str .or := by unfold Tok.str Tok.txt strOf; decide +kernel
theorem scan_bl5 : bl { data := #[94] } = [94] := by unfold bl; decide +kernel
theorem scan_str5 : ({ data := #[94] } : ByteArray) = Tok.str .xor := by unfold Tok.str Tok.txt strOf; decide +kernel
theorem scan_bl6 : bl { data := #[40] } = [40] := by unfold bl; decide +kernel
theorem scan_str6 : ({ data := #[40] } : ByteArray) = Tok.str .lp := by unfold Tok.str Tok.txt strOf; decide +kernel
theorem scan_bl7 : bl { data := #[41] } = [41] := by unfold bl; decide +kernel
theorem scan_str7 : ({ data := #[41] } : ByteArray) = Tok.str .rp := by unfold Tok.str Tok.txt strOf; decide +kernel
theorem scan_bl8 : bl { data := #[44] } = [44] := by unfold bl; decide +kernel
theorem scan_str8 : ({ data := #[44] } : ByteArray) = Tok.str .comma := by unfold Tok.str Tok.txt strOf; decide +kernel

set_option maxHeartbeats 4000000 in
theorem scan_is0 (s : ByteArray) (w : World) (P0 : Bx (Lx.pre [60, 45, 62] (bl s) = true)) : Calls Try.prog 42 #[.string s] w fun e w' => e = .returned (.string (Tok.str .iff)) ∧ w' = w := by
  have i0 := scan_ix0
  go_enter Try.func42, Try.ntmps42
  go_wp2_with fail
  refine wp_loop_rounds 1 ?_
  rw [rounds_succ]
  go_wp2_with fail
  refine (prefix_is s _ scan_bl0 P0.out _).mono ?_
  rintro e w1 ⟨rfl, rfl⟩
  go_wp2_with fail
  go_ret
  exact ⟨by rw [← scan_str0]; rfl, rfl⟩
set_option maxHeartbeats 4000000 in
theorem scan_is1 (s : ByteArray) (w : World) (P0 : Bx (Lx.pre [60, 45, 62] (bl s) = false)) (P1 : Bx (Lx.pre [45, 62] (bl s) = true)) : Calls Try.prog 42 #[.string s] w fun e w' => e = .returned (.string (Tok.str .imp)) ∧ w' = w := by
  have i0 := scan_ix0
  have i1 := scan_ix1
  go_enter Try.func42, Try.ntmps42
  go_wp2_with fail
  refine wp_loop_rounds 2 ?_
  rw [rounds_succ]
  go_wp2_with fail
  refine (prefix_is s _ scan_bl0 P0.out _).mono ?_
  rintro e w1 ⟨rfl, rfl⟩
  go_wp2_with fail
  rw [rounds_succ]
  go_wp2_with fail
  refine (prefix_is s _ scan_bl1 P1.out _).mono ?_
  rintro e w1 ⟨rfl, rfl⟩
  go_wp2_with fail
  go_ret
  exact ⟨by rw [← scan_str1]; rfl, rfl⟩
set_option maxHeartbeats 4000000 in
theorem scan_is2 (s : ByteArray) (w : World) (P0 : Bx (Lx.pre [60, 45, 62] (bl s) = false)) (P1 : Bx (Lx.pre [45, 62] (bl s) = false)) (P2 : Bx (Lx.pre [33] (bl s) = true)) : Calls Try.prog 42 #[.string s] w fun e w' => e = .returned (.string (Tok.str .not)) ∧ w' = w := by
  have i0 := scan_ix0
  have i1 := scan_ix1
  have i2 := scan_ix2
  go_enter Try.func42, Try.ntmps42
  go_wp2_with fail
  refine wp_loop_rounds 3 ?_
  rw [rounds_succ]
  go_wp2_with fail
  refine (prefix_is s _ scan_bl0 P0.out _).mono ?_
  rintro e w1 ⟨rfl, rfl⟩
  go_wp2_with fail
  rw [rounds_succ]
  go_wp2_with fail
  refine (prefix_is s _ scan_bl1 P1.out _).mono ?_
  rintro e w1 ⟨rfl, rfl⟩
  go_wp2_with fail
  rw [rounds_succ]
  go_wp2_with fail
  refine (prefix_is s _ scan_bl2 P2.out _).mono ?_
  rintro e w1 ⟨rfl, rfl⟩
  go_wp2_with fail
  go_ret
  exact ⟨by rw [← scan_str2]; rfl, rfl⟩
set_option maxHeartbeats 4000000 in
theorem scan_is3 (s : ByteArray) (w : World) (P0 : Bx (Lx.pre [60, 45, 62] (bl s) = false)) (P1 : Bx (Lx.pre [45, 62] (bl s) = false)) (P2 : Bx (Lx.pre [33] (bl s) = false)) (P3 : Bx (Lx.pre [38] (bl s) = true)) : Calls Try.prog 42 #[.string s] w fun e w' => e = .returned (.string (Tok.str .and)) ∧ w' = w := by
  have i0 := scan_ix0
  have i1 := scan_ix1
  have i2 := scan_ix2
  have i3 := scan_ix3
  go_enter Try.func42, Try.ntmps42
  go_wp2_with fail
  refine wp_loop_rounds 4 ?_
  rw [rounds_succ]
  go_wp2_with fail
  refine (prefix_is s _ scan_bl0 P0.out _).mono ?_
  rintro e w1 ⟨rfl, rfl⟩
  go_wp2_with fail
  rw [rounds_succ]
  go_wp2_with fail
  refine (prefix_is s _ scan_bl1 P1.out _).mono ?_
  rintro e w1 ⟨rfl, rfl⟩
  go_wp2_with fail
  rw [rounds_succ]
  go_wp2_with fail
  refine (prefix_is s _ scan_bl2 P2.out _).mono ?_
  rintro e w1 ⟨rfl, rfl⟩
  go_wp2_with fail
  rw [rounds_succ]
  go_wp2_with fail
  refine (prefix_is s _ scan_bl3 P3.out _).mono ?_
  rintro e w1 ⟨rfl, rfl⟩
  go_wp2_with fail
  go_ret
  exact ⟨by rw [← scan_str3]; rfl, rfl⟩
set_option maxHeartbeats 4000000 in
theorem scan_is4 (s : ByteArray) (w : World) (P0 : Bx (Lx.pre [60, 45, 62] (bl s) = false)) (P1 : Bx (Lx.pre [45, 62] (bl s) = false)) (P2 : Bx (Lx.pre [33] (bl s) = false)) (P3 : Bx (Lx.pre [38] (bl s) = false)) (P4 : Bx (Lx.pre [124] (bl s) = true)) : Calls Try.prog 42 #[.string s] w fun e w' => e = .returned (.string (Tok.str .or)) ∧ w' = w := by
  have i0 := scan_ix0
  have i1 := scan_ix1
  have i2 := scan_ix2
  have i3 := scan_ix3
  have i4 := scan_ix4
  go_enter Try.func42, Try.ntmps42
  go_wp2_with fail
  refine wp_loop_rounds 5 ?_
  rw [rounds_succ]
  go_wp2_with fail
  refine (prefix_is s _ scan_bl0 P0.out _).mono ?_
  rintro e w1 ⟨rfl, rfl⟩
  go_wp2_with fail
  rw [rounds_succ]
  go_wp2_with fail
  refine (prefix_is s _ scan_bl1 P1.out _).mono ?_
  rintro e w1 ⟨rfl, rfl⟩
  go_wp2_with fail
  rw [rounds_succ]
  go_wp2_with fail
  refine (prefix_is s _ scan_bl2 P2.out _).mono ?_
  rintro e w1 ⟨rfl, rfl⟩
  go_wp2_with fail
  rw [rounds_succ]
  go_wp2_with fail
  refine (prefix_is s _ scan_bl3 P3.out _).mono ?_
  rintro e w1 ⟨rfl, rfl⟩
  go_wp2_with fail
  rw [rounds_succ]
  go_wp2_with fail
  refine (prefix_is s _ scan_bl4 P4.out _).mono ?_
  rintro e w1 ⟨rfl, rfl⟩
  go_wp2_with fail
  go_ret
  exact ⟨by rw [← scan_str4]; rfl, rfl⟩
set_option maxHeartbeats 4000000 in
theorem scan_is5 (s : ByteArray) (w : World) (P0 : Bx (Lx.pre [60, 45, 62] (bl s) = false)) (P1 : Bx (Lx.pre [45, 62] (bl s) = false)) (P2 : Bx (Lx.pre [33] (bl s) = false)) (P3 : Bx (Lx.pre [38] (bl s) = false)) (P4 : Bx (Lx.pre [124] (bl s) = false)) (P5 : Bx (Lx.pre [94] (bl s) = true)) : Calls Try.prog 42 #[.string s] w fun e w' => e = .returned (.string (Tok.str .xor)) ∧ w' = w := by
  have i0 := scan_ix0
  have i1 := scan_ix1
  have i2 := scan_ix2
  have i3 := scan_ix3
  have i4 := scan_ix4
  have i5 := scan_ix5
  go_enter Try.func42, Try.ntmps42
  go_wp2_with fail
  refine wp_loop_rounds 6 ?_
  rw [rounds_succ]
  go_wp2_with fail
  refine (prefix_is s _ scan_bl0 P0.out _).mono ?_
  rintro e w1 ⟨rfl, rfl⟩
  go_wp2_with fail
  rw [rounds_succ]
  go_wp2_with fail
  refine (prefix_is s _ scan_bl1 P1.out _).mono ?_
  rintro e w1 ⟨rfl, rfl⟩
  go_wp2_with fail
  rw [rounds_succ]
  go_wp2_with fail
  refine (prefix_is s _ scan_bl2 P2.out _).mono ?_
  rintro e w1 ⟨rfl, rfl⟩
  go_wp2_with fail
  rw [rounds_succ]
  go_wp2_with fail
  refine (prefix_is s _ scan_bl3 P3.out _).mono ?_
  rintro e w1 ⟨rfl, rfl⟩
  go_wp2_with fail
  rw [rounds_succ]
  go_wp2_with fail
  refine (prefix_is s _ scan_bl4 P4.out _).mono ?_
  rintro e w1 ⟨rfl, rfl⟩
  go_wp2_with fail
  rw [rounds_succ]
  go_wp2_with fail
  refine (prefix_is s _ scan_bl5 P5.out _).mono ?_
  rintro e w1 ⟨rfl, rfl⟩
  go_wp2_with fail
  go_ret
  exact ⟨by rw [← scan_str5]; rfl, rfl⟩
set_option maxHeartbeats 4000000 in
theorem scan_is6 (s : ByteArray) (w : World) (P0 : Bx (Lx.pre [60, 45, 62] (bl s) = false)) (P1 : Bx (Lx.pre [45, 62] (bl s) = false)) (P2 : Bx (Lx.pre [33] (bl s) = false)) (P3 : Bx (Lx.pre [38] (bl s) = false)) (P4 : Bx (Lx.pre [124] (bl s) = false)) (P5 : Bx (Lx.pre [94] (bl s) = false)) (P6 : Bx (Lx.pre [40] (bl s) = true)) : Calls Try.prog 42 #[.string s] w fun e w' => e = .returned (.string (Tok.str .lp)) ∧ w' = w := by
  have i0 := scan_ix0
  have i1 := scan_ix1
  have i2 := scan_ix2
  have i3 := scan_ix3
  have i4 := scan_ix4
  have i5 := scan_ix5
  have i6 := scan_ix6
  go_enter Try.func42, Try.ntmps42
  go_wp2_with fail
  refine wp_loop_rounds 7 ?_
  rw [rounds_succ]
  go_wp2_with fail
  refine (prefix_is s _ scan_bl0 P0.out _).mono ?_
  rintro e w1 ⟨rfl, rfl⟩
  go_wp2_with fail
  rw [rounds_succ]
  go_wp2_with fail
  refine (prefix_is s _ scan_bl1 P1.out _).mono ?_
  rintro e w1 ⟨rfl, rfl⟩
  go_wp2_with fail
  rw [rounds_succ]
  go_wp2_with fail
  refine (prefix_is s _ scan_bl2 P2.out _).mono ?_
  rintro e w1 ⟨rfl, rfl⟩
  go_wp2_with fail
  rw [rounds_succ]
  go_wp2_with fail
  refine (prefix_is s _ scan_bl3 P3.out _).mono ?_
  rintro e w1 ⟨rfl, rfl⟩
  go_wp2_with fail
  rw [rounds_succ]
  go_wp2_with fail
  refine (prefix_is s _ scan_bl4 P4.out _).mono ?_
  rintro e w1 ⟨rfl, rfl⟩
  go_wp2_with fail
  rw [rounds_succ]
  go_wp2_with fail
  refine (prefix_is s _ scan_bl5 P5.out _).mono ?_
  rintro e w1 ⟨rfl, rfl⟩
  go_wp2_with fail
  rw [rounds_succ]
  go_wp2_with fail
  refine (prefix_is s _ scan_bl6 P6.out _).mono ?_
  rintro e w1 ⟨rfl, rfl⟩
  go_wp2_with fail
  go_ret
  exact ⟨by rw [← scan_str6]; rfl, rfl⟩
set_option maxHeartbeats 4000000 in
theorem scan_is7 (s : ByteArray) (w : World) (P0 : Bx (Lx.pre [60, 45, 62] (bl s) = false)) (P1 : Bx (Lx.pre [45, 62] (bl s) = false)) (P2 : Bx (Lx.pre [33] (bl s) = false)) (P3 : Bx (Lx.pre [38] (bl s) = false)) (P4 : Bx (Lx.pre [124] (bl s) = false)) (P5 : Bx (Lx.pre [94] (bl s) = false)) (P6 : Bx (Lx.pre [40] (bl s) = false)) (P7 : Bx (Lx.pre [41] (bl s) = true)) : Calls Try.prog 42 #[.string s] w fun e w' => e = .returned (.string (Tok.str .rp)) ∧ w' = w := by
  have i0 := scan_ix0
  have i1 := scan_ix1
  have i2 := scan_ix2
  have i3 := scan_ix3
  have i4 := scan_ix4
  have i5 := scan_ix5
  have i6 := scan_ix6
  have i7 := scan_ix7
  go_enter Try.func42, Try.ntmps42
  go_wp2_with fail
  refine wp_loop_rounds 8 ?_
  rw [rounds_succ]
  go_wp2_with fail
  refine (prefix_is s _ scan_bl0 P0.out _).mono ?_
  rintro e w1 ⟨rfl, rfl⟩
  go_wp2_with fail
  rw [rounds_succ]
  go_wp2_with fail
  refine (prefix_is s _ scan_bl1 P1.out _).mono ?_
  rintro e w1 ⟨rfl, rfl⟩
  go_wp2_with fail
  rw [rounds_succ]
  go_wp2_with fail
  refine (prefix_is s _ scan_bl2 P2.out _).mono ?_
  rintro e w1 ⟨rfl, rfl⟩
  go_wp2_with fail
  rw [rounds_succ]
  go_wp2_with fail
  refine (prefix_is s _ scan_bl3 P3.out _).mono ?_
  rintro e w1 ⟨rfl, rfl⟩
  go_wp2_with fail
  rw [rounds_succ]
  go_wp2_with fail
  refine (prefix_is s _ scan_bl4 P4.out _).mono ?_
  rintro e w1 ⟨rfl, rfl⟩
  go_wp2_with fail
  rw [rounds_succ]
  go_wp2_with fail
  refine (prefix_is s _ scan_bl5 P5.out _).mono ?_
  rintro e w1 ⟨rfl, rfl⟩
  go_wp2_with fail
  rw [rounds_succ]
  go_wp2_with fail
  refine (prefix_is s _ scan_bl6 P6.out _).mono ?_
  rintro e w1 ⟨rfl, rfl⟩
  go_wp2_with fail
  rw [rounds_succ]
  go_wp2_with fail
  refine (prefix_is s _ scan_bl7 P7.out _).mono ?_
  rintro e w1 ⟨rfl, rfl⟩
  go_wp2_with fail
  go_ret
  exact ⟨by rw [← scan_str7]; rfl, rfl⟩
set_option maxHeartbeats 4000000 in
theorem scan_is8 (s : ByteArray) (w : World) (P0 : Bx (Lx.pre [60, 45, 62] (bl s) = false)) (P1 : Bx (Lx.pre [45, 62] (bl s) = false)) (P2 : Bx (Lx.pre [33] (bl s) = false)) (P3 : Bx (Lx.pre [38] (bl s) = false)) (P4 : Bx (Lx.pre [124] (bl s) = false)) (P5 : Bx (Lx.pre [94] (bl s) = false)) (P6 : Bx (Lx.pre [40] (bl s) = false)) (P7 : Bx (Lx.pre [41] (bl s) = false)) (P8 : Bx (Lx.pre [44] (bl s) = true)) : Calls Try.prog 42 #[.string s] w fun e w' => e = .returned (.string (Tok.str .comma)) ∧ w' = w := by
  have i0 := scan_ix0
  have i1 := scan_ix1
  have i2 := scan_ix2
  have i3 := scan_ix3
  have i4 := scan_ix4
  have i5 := scan_ix5
  have i6 := scan_ix6
  have i7 := scan_ix7
  have i8 := scan_ix8
  go_enter Try.func42, Try.ntmps42
  go_wp2_with fail
  refine wp_loop_rounds 9 ?_
  rw [rounds_succ]
  go_wp2_with fail
  refine (prefix_is s _ scan_bl0 P0.out _).mono ?_
  rintro e w1 ⟨rfl, rfl⟩
  go_wp2_with fail
  rw [rounds_succ]
  go_wp2_with fail
  refine (prefix_is s _ scan_bl1 P1.out _).mono ?_
  rintro e w1 ⟨rfl, rfl⟩
  go_wp2_with fail
  rw [rounds_succ]
  go_wp2_with fail
  refine (prefix_is s _ scan_bl2 P2.out _).mono ?_
  rintro e w1 ⟨rfl, rfl⟩
  go_wp2_with fail
  rw [rounds_succ]
  go_wp2_with fail
  refine (prefix_is s _ scan_bl3 P3.out _).mono ?_
  rintro e w1 ⟨rfl, rfl⟩
  go_wp2_with fail
  rw [rounds_succ]
  go_wp2_with fail
  refine (prefix_is s _ scan_bl4 P4.out _).mono ?_
  rintro e w1 ⟨rfl, rfl⟩
  go_wp2_with fail
  rw [rounds_succ]
  go_wp2_with fail
  refine (prefix_is s _ scan_bl5 P5.out _).mono ?_
  rintro e w1 ⟨rfl, rfl⟩
  go_wp2_with fail
  rw [rounds_succ]
  go_wp2_with fail
  refine (prefix_is s _ scan_bl6 P6.out _).mono ?_
  rintro e w1 ⟨rfl, rfl⟩
  go_wp2_with fail
  rw [rounds_succ]
  go_wp2_with fail
  refine (prefix_is s _ scan_bl7 P7.out _).mono ?_
  rintro e w1 ⟨rfl, rfl⟩
  go_wp2_with fail
  rw [rounds_succ]
  go_wp2_with fail
  refine (prefix_is s _ scan_bl8 P8.out _).mono ?_
  rintro e w1 ⟨rfl, rfl⟩
  go_wp2_with fail
  go_ret
  exact ⟨by rw [← scan_str8]; rfl, rfl⟩
end Go.Proofs.Ytfgokhafiffbaaa
