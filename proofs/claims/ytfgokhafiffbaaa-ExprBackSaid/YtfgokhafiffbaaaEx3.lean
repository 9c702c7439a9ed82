/-
  Formulas: expr.scan where no sign of brackets or operators stands in front.
-/
import Derived.Test.YtfgokhafiffbaaaEx2
namespace Go.Proofs.Ytfgokhafiffbaaa
set_option linter.unusedVariables false
open Go.RowKit

structure NoSign (s : ByteArray) : Prop where
  p0 : Lx.pre [60, 45, 62] (bl s) = false
  p1 : Lx.pre [45, 62] (bl s) = false
  p2 : Lx.pre [33] (bl s) = false
  p3 : Lx.pre [38] (bl s) = false
  p4 : Lx.pre [124] (bl s) = false
  p5 : Lx.pre [94] (bl s) = false
  p6 : Lx.pre [40] (bl s) = false
  p7 : Lx.pre [41] (bl s) = false
  p8 : Lx.pre [44] (bl s) = false
theorem str_bad : ({ data := #[63] } : ByteArray) = Tok.str .bad := by unfold Tok.str Tok.txt strOf; decide +kernel
theorem str_eof : ({ data := #[] } : ByteArray) = Tok.str .eof := by unfold Tok.str Tok.txt strOf; decide +kernel
theorem eql_c (s : ByteArray) (l : List UInt8) {m : List Nat} (hm : l.map UInt8.toNat = m) {b : Bool} (hb : decide (bl s = m) = b) : (s.toList == ({ data := l.toArray } : ByteArray).toList) = b := by
  rw [bl_eq, show bl ({ data := l.toArray } : ByteArray) = m from (bl_mk l).trans hm]; exact hb
set_option maxHeartbeats 4000000 in
theorem scan_nil (s : ByteArray) (w : World) (H0 : Bx (NoSign s)) (hs : s.size = 0) : Calls Try.prog 42 #[.string s] w fun e w' => e = .returned (.string (Tok.str .eof)) ∧ w' = w := by
  have z : s.toList.isEmpty = true := by rw [List.isEmpty_iff, ByteArray.toList_eq]; exact List.eq_nil_of_length_eq_zero (by simpa using hs)
  clear hs
  have i0 := scan_ix0
  have i1 := scan_ix1
  have i2 := scan_ix2
  have i3 := scan_ix3
  have i4 := scan_ix4
  have i5 := scan_ix5
  have i6 := scan_ix6
  have i7 := scan_ix7
  have i8 := scan_ix8
  have P0 := Bx.mk H0.out.p0
  have P1 := Bx.mk H0.out.p1
  have P2 := Bx.mk H0.out.p2
  have P3 := Bx.mk H0.out.p3
  have P4 := Bx.mk H0.out.p4
  have P5 := Bx.mk H0.out.p5
  have P6 := Bx.mk H0.out.p6
  have P7 := Bx.mk H0.out.p7
  have P8 := Bx.mk H0.out.p8
  clear H0
  go_enter Try.func42, Try.ntmps42
  go_wp2_with fail
  refine wp_loop_rounds 10 ?_
  rw [rounds_succ]
  go_wp2_with fail
  refine (prefix_is s _ scan_bl0 P0.out _).mono ?_
  rintro e w1 ⟨rfl, rfl⟩
  go_wp2_with fail
  rw [rounds_succ]
  go_wp2_with fail
  refine (prefix_is s _ scan_bl1 P1.out _).mono ?_
  rintro e w1 ⟨rfl, rfl⟩
  go_wp2_with fail
  rw [rounds_succ]
  go_wp2_with fail
  refine (prefix_is s _ scan_bl2 P2.out _).mono ?_
  rintro e w1 ⟨rfl, rfl⟩
  go_wp2_with fail
  rw [rounds_succ]
  go_wp2_with fail
  refine (prefix_is s _ scan_bl3 P3.out _).mono ?_
  rintro e w1 ⟨rfl, rfl⟩
  go_wp2_with fail
  rw [rounds_succ]
  go_wp2_with fail
  refine (prefix_is s _ scan_bl4 P4.out _).mono ?_
  rintro e w1 ⟨rfl, rfl⟩
  go_wp2_with fail
  rw [rounds_succ]
  go_wp2_with fail
  refine (prefix_is s _ scan_bl5 P5.out _).mono ?_
  rintro e w1 ⟨rfl, rfl⟩
  go_wp2_with fail
  rw [rounds_succ]
  go_wp2_with fail
  refine (prefix_is s _ scan_bl6 P6.out _).mono ?_
  rintro e w1 ⟨rfl, rfl⟩
  go_wp2_with fail
  rw [rounds_succ]
  go_wp2_with fail
  refine (prefix_is s _ scan_bl7 P7.out _).mono ?_
  rintro e w1 ⟨rfl, rfl⟩
  go_wp2_with fail
  rw [rounds_succ]
  go_wp2_with fail
  refine (prefix_is s _ scan_bl8 P8.out _).mono ?_
  rintro e w1 ⟨rfl, rfl⟩
  go_wp2_with fail
  rw [rounds_succ]
  go_wp2_with fail
  go_ret
  exact ⟨by rw [← str_eof]; rfl, rfl⟩
theorem not_nil {s : ByteArray} {c : Nat} (h : (bl s)[0]? = some c) : s.toList.isEmpty = false := by
  rw [ByteArray.toList_eq]
  obtain ⟨h0, _⟩ := bl_get h
  cases e : s.data.toList with
  | nil => have : s.data.toList.length = 0 := by rw [e]; rfl
           have h1 : s.size = s.data.toList.length := by simp
           omega
  | cons a r => rfl
theorem run_idx0 {s : ByteArray} {x : Nat} (h : (bl s)[0]? = some x) (w : World) : (Instr.index 9 (.string s) (.int .i64 0)).run Try.prog w = .ok (.int .u8 (x : Int)) w := run_idx h w
theorem run_idx1 {s : ByteArray} {x : Nat} (h : (bl s)[1]? = some x) (w : World) : (Instr.index 9 (.string s) (.int .i64 1)).run Try.prog w = .ok (.int .u8 (x : Int)) w := run_idx h w
set_option maxHeartbeats 4000000 in
theorem scan_zero (s : ByteArray) (w : World) (H0 : Bx (NoSign s)) (c : Nat) (hc : (bl s)[0]? = some c) (h : c = 48 ∨ c = 49) : Calls Try.prog 42 #[.string s] w fun e w' => e = .returned (.string (strOf [c])) ∧ w' = w := by
  have z := not_nil hc
  have i := run_idx0 hc
  have hsz : 1 ≤ s.size := (bl_get hc).1
  have q : (1 : Int) ≤ s.size := by omega
  have E : s.extract 0 1 = strOf [c] := by
    apply bl_inj
    rw [bl_strOf (by intro x hx; simp at hx; omega), bl_extract]
    cases hb : bl s with
    | nil => rw [hb] at hc; simp at hc
    | cons d r => rw [hb] at hc; simp at hc; subst hc; simp
  clear hsz
  have HC := Bx.mk hc
  clear hc
  rcases h with rfl | rfl
  · have i0 := scan_ix0
    have i1 := scan_ix1
    have i2 := scan_ix2
    have i3 := scan_ix3
    have i4 := scan_ix4
    have i5 := scan_ix5
    have i6 := scan_ix6
    have i7 := scan_ix7
    have i8 := scan_ix8
    have P0 := Bx.mk H0.out.p0
    have P1 := Bx.mk H0.out.p1
    have P2 := Bx.mk H0.out.p2
    have P3 := Bx.mk H0.out.p3
    have P4 := Bx.mk H0.out.p4
    have P5 := Bx.mk H0.out.p5
    have P6 := Bx.mk H0.out.p6
    have P7 := Bx.mk H0.out.p7
    have P8 := Bx.mk H0.out.p8
    clear H0
    go_enter Try.func42, Try.ntmps42
    go_wp2_with fail
    refine wp_loop_rounds 10 ?_
    rw [rounds_succ]
    go_wp2_with fail
    refine (prefix_is s _ scan_bl0 P0.out _).mono ?_
    rintro e w1 ⟨rfl, rfl⟩
    go_wp2_with fail
    rw [rounds_succ]
    go_wp2_with fail
    refine (prefix_is s _ scan_bl1 P1.out _).mono ?_
    rintro e w1 ⟨rfl, rfl⟩
    go_wp2_with fail
    rw [rounds_succ]
    go_wp2_with fail
    refine (prefix_is s _ scan_bl2 P2.out _).mono ?_
    rintro e w1 ⟨rfl, rfl⟩
    go_wp2_with fail
    rw [rounds_succ]
    go_wp2_with fail
    refine (prefix_is s _ scan_bl3 P3.out _).mono ?_
    rintro e w1 ⟨rfl, rfl⟩
    go_wp2_with fail
    rw [rounds_succ]
    go_wp2_with fail
    refine (prefix_is s _ scan_bl4 P4.out _).mono ?_
    rintro e w1 ⟨rfl, rfl⟩
    go_wp2_with fail
    rw [rounds_succ]
    go_wp2_with fail
    refine (prefix_is s _ scan_bl5 P5.out _).mono ?_
    rintro e w1 ⟨rfl, rfl⟩
    go_wp2_with fail
    rw [rounds_succ]
    go_wp2_with fail
    refine (prefix_is s _ scan_bl6 P6.out _).mono ?_
    rintro e w1 ⟨rfl, rfl⟩
    go_wp2_with fail
    rw [rounds_succ]
    go_wp2_with fail
    refine (prefix_is s _ scan_bl7 P7.out _).mono ?_
    rintro e w1 ⟨rfl, rfl⟩
    go_wp2_with fail
    rw [rounds_succ]
    go_wp2_with fail
    refine (prefix_is s _ scan_bl8 P8.out _).mono ?_
    rintro e w1 ⟨rfl, rfl⟩
    go_wp2_with fail
    rw [rounds_succ]
    go_wp2_with fail
    go_ret
    exact ⟨by rw [← E]; rfl, rfl⟩
  · have i0 := scan_ix0
    have i1 := scan_ix1
    have i2 := scan_ix2
    have i3 := scan_ix3
    have i4 := scan_ix4
    have i5 := scan_ix5
    have i6 := scan_ix6
    have i7 := scan_ix7
    have i8 := scan_ix8
    have P0 := Bx.mk H0.out.p0
    have P1 := Bx.mk H0.out.p1
    have P2 := Bx.mk H0.out.p2
    have P3 := Bx.mk H0.out.p3
    have P4 := Bx.mk H0.out.p4
    have P5 := Bx.mk H0.out.p5
    have P6 := Bx.mk H0.out.p6
    have P7 := Bx.mk H0.out.p7
    have P8 := Bx.mk H0.out.p8
    clear H0
    go_enter Try.func42, Try.ntmps42
    go_wp2_with fail
    refine wp_loop_rounds 10 ?_
    rw [rounds_succ]
    go_wp2_with fail
    refine (prefix_is s _ scan_bl0 P0.out _).mono ?_
    rintro e w1 ⟨rfl, rfl⟩
    go_wp2_with fail
    rw [rounds_succ]
    go_wp2_with fail
    refine (prefix_is s _ scan_bl1 P1.out _).mono ?_
    rintro e w1 ⟨rfl, rfl⟩
    go_wp2_with fail
    rw [rounds_succ]
    go_wp2_with fail
    refine (prefix_is s _ scan_bl2 P2.out _).mono ?_
    rintro e w1 ⟨rfl, rfl⟩
    go_wp2_with fail
    rw [rounds_succ]
    go_wp2_with fail
    refine (prefix_is s _ scan_bl3 P3.out _).mono ?_
    rintro e w1 ⟨rfl, rfl⟩
    go_wp2_with fail
    rw [rounds_succ]
    go_wp2_with fail
    refine (prefix_is s _ scan_bl4 P4.out _).mono ?_
    rintro e w1 ⟨rfl, rfl⟩
    go_wp2_with fail
    rw [rounds_succ]
    go_wp2_with fail
    refine (prefix_is s _ scan_bl5 P5.out _).mono ?_
    rintro e w1 ⟨rfl, rfl⟩
    go_wp2_with fail
    rw [rounds_succ]
    go_wp2_with fail
    refine (prefix_is s _ scan_bl6 P6.out _).mono ?_
    rintro e w1 ⟨rfl, rfl⟩
    go_wp2_with fail
    rw [rounds_succ]
    go_wp2_with fail
    refine (prefix_is s _ scan_bl7 P7.out _).mono ?_
    rintro e w1 ⟨rfl, rfl⟩
    go_wp2_with fail
    rw [rounds_succ]
    go_wp2_with fail
    refine (prefix_is s _ scan_bl8 P8.out _).mono ?_
    rintro e w1 ⟨rfl, rfl⟩
    go_wp2_with fail
    rw [rounds_succ]
    go_wp2_with fail
    go_ret
    exact ⟨by rw [← E]; rfl, rfl⟩
set_option maxHeartbeats 4000000 in
theorem scan_bad (s : ByteArray) (w : World) (H0 : Bx (NoSign s)) (c : Nat) (hc : (bl s)[0]? = some c) (h0 : ¬ c = 48) (h1 : ¬ c = 49) (hl : Ex.letter c = false) : Calls Try.prog 42 #[.string s] w fun e w' => e = .returned (.string (Tok.str .bad)) ∧ w' = w := by
  have z := not_nil hc
  have i := run_idx0 hc
  have q0 : ((c : Int) == 48) = false := by rw [beq_eq_false_iff_ne]; omega
  have q1 : ((c : Int) == 49) = false := by rw [beq_eq_false_iff_ne]; omega
  have hlt : c < 256 := bl_lt (List.mem_of_getElem? hc)
  have hL := letter_any c hlt
  rw [hl] at hL
  have HL := Bx.mk hL
  clear hL hl hlt hc h0 h1
  have i0 := scan_ix0
  have i1 := scan_ix1
  have i2 := scan_ix2
  have i3 := scan_ix3
  have i4 := scan_ix4
  have i5 := scan_ix5
  have i6 := scan_ix6
  have i7 := scan_ix7
  have i8 := scan_ix8
  have P0 := Bx.mk H0.out.p0
  have P1 := Bx.mk H0.out.p1
  have P2 := Bx.mk H0.out.p2
  have P3 := Bx.mk H0.out.p3
  have P4 := Bx.mk H0.out.p4
  have P5 := Bx.mk H0.out.p5
  have P6 := Bx.mk H0.out.p6
  have P7 := Bx.mk H0.out.p7
  have P8 := Bx.mk H0.out.p8
  clear H0
  go_enter Try.func42, Try.ntmps42
  go_wp2_with fail
  refine wp_loop_rounds 10 ?_
  rw [rounds_succ]
  go_wp2_with fail
  refine (prefix_is s _ scan_bl0 P0.out _).mono ?_
  rintro e w1 ⟨rfl, rfl⟩
  go_wp2_with fail
  rw [rounds_succ]
  go_wp2_with fail
  refine (prefix_is s _ scan_bl1 P1.out _).mono ?_
  rintro e w1 ⟨rfl, rfl⟩
  go_wp2_with fail
  rw [rounds_succ]
  go_wp2_with fail
  refine (prefix_is s _ scan_bl2 P2.out _).mono ?_
  rintro e w1 ⟨rfl, rfl⟩
  go_wp2_with fail
  rw [rounds_succ]
  go_wp2_with fail
  refine (prefix_is s _ scan_bl3 P3.out _).mono ?_
  rintro e w1 ⟨rfl, rfl⟩
  go_wp2_with fail
  rw [rounds_succ]
  go_wp2_with fail
  refine (prefix_is s _ scan_bl4 P4.out _).mono ?_
  rintro e w1 ⟨rfl, rfl⟩
  go_wp2_with fail
  rw [rounds_succ]
  go_wp2_with fail
  refine (prefix_is s _ scan_bl5 P5.out _).mono ?_
  rintro e w1 ⟨rfl, rfl⟩
  go_wp2_with fail
  rw [rounds_succ]
  go_wp2_with fail
  refine (prefix_is s _ scan_bl6 P6.out _).mono ?_
  rintro e w1 ⟨rfl, rfl⟩
  go_wp2_with fail
  rw [rounds_succ]
  go_wp2_with fail
  refine (prefix_is s _ scan_bl7 P7.out _).mono ?_
  rintro e w1 ⟨rfl, rfl⟩
  go_wp2_with fail
  rw [rounds_succ]
  go_wp2_with fail
  refine (prefix_is s _ scan_bl8 P8.out _).mono ?_
  rintro e w1 ⟨rfl, rfl⟩
  go_wp2_with fail
  rw [rounds_succ]
  go_wp2_with fail
  refine (HL.out _).mono ?_
  rintro e w1 ⟨rfl, rfl⟩
  go_wp2_with fail
  go_ret
  exact ⟨by rw [← str_bad]; rfl, rfl⟩
end Go.Proofs.Ytfgokhafiffbaaa
