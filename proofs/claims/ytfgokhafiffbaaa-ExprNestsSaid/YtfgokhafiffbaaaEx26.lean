/-
  Formulas: the walk of ExprNests.
-/
import Derived.Test.YtfgokhafiffbaaaEx25
namespace Go.Proofs.Ytfgokhafiffbaaa
set_option linter.unusedVariables false
open Go.RowKit
theorem bl_append (s t : ByteArray) : bl (s ++ t) = bl s ++ bl t := by unfold bl; simp [ByteArray.data_append]
theorem Ns.rep_succ (l : List Nat) (n : Nat) : Ns.rep l (n + 1) = Ns.rep l n ++ l := rfl
theorem str_add (s t : ByteArray) (h : s.size + t.size ≤ 1000000) (w : World) : (Op.stringOp .add s t).run Try.prog w = .ok (.string (s ++ t)) w := run_string_add_sum w s t (by omega)
theorem bl_nil : bl { data := #[] } = [] := by unfold bl; decide +kernel
theorem v2_bl : bl { data := #[118, 50] } = [118, 50] := by unfold bl; decide +kernel
theorem rp_bl : bl { data := #[41] } = [41] := by unfold bl; decide +kernel

theorem Ns.ix0 (w : World) : (Instr.index 42 (.agg #[.string { data := #[40] }, .string { data := #[33] }, .string { data := #[97, 110, 121, 32, 118, 51, 32] }, .string { data := #[118, 49, 32, 45, 62, 32] }]) (.int .u8 0)).run Try.prog w = .ok (.string { data := #[40] }) w := by kernel_rfl
theorem Ns.bl0 : bl { data := #[40] } = Ns.open_ 0 := by unfold bl; decide +kernel
theorem Ns.ix1 (w : World) : (Instr.index 42 (.agg #[.string { data := #[40] }, .string { data := #[33] }, .string { data := #[97, 110, 121, 32, 118, 51, 32] }, .string { data := #[118, 49, 32, 45, 62, 32] }]) (.int .u8 1)).run Try.prog w = .ok (.string { data := #[33] }) w := by kernel_rfl
theorem Ns.bl1 : bl { data := #[33] } = Ns.open_ 1 := by unfold bl; decide +kernel
theorem Ns.ix2 (w : World) : (Instr.index 42 (.agg #[.string { data := #[40] }, .string { data := #[33] }, .string { data := #[97, 110, 121, 32, 118, 51, 32] }, .string { data := #[118, 49, 32, 45, 62, 32] }]) (.int .u8 2)).run Try.prog w = .ok (.string { data := #[97, 110, 121, 32, 118, 51, 32] }) w := by kernel_rfl
theorem Ns.bl2 : bl { data := #[97, 110, 121, 32, 118, 51, 32] } = Ns.open_ 2 := by unfold bl; decide +kernel
theorem Ns.ix3 (w : World) : (Instr.index 42 (.agg #[.string { data := #[40] }, .string { data := #[33] }, .string { data := #[97, 110, 121, 32, 118, 51, 32] }, .string { data := #[118, 49, 32, 45, 62, 32] }]) (.int .u8 3)).run Try.prog w = .ok (.string { data := #[118, 49, 32, 45, 62, 32] }) w := by kernel_rfl
theorem Ns.bl3 : bl { data := #[118, 49, 32, 45, 62, 32] } = Ns.open_ 3 := by unfold bl; decide +kernel
set_option maxHeartbeats 8000000 in
theorem nests_0 (n how k : Nat) (hn : (n : Int) % 36 = (k : Int)) (hk : k < 36) (hh : (how : Int) % 4 = 0) (w : World) : Calls Try.prog 4 #[.int .u8 (n : Int), .int .u8 (how : Int)] w fun e w' => e = .returned (.bool true) ∧ Below w.heap.size w w' := by
  have HK := Bx.mk (known_any w)
  have ix := Ns.ix0
  go_enter Try.func4, Try.ntmps4
  go_wp2_with fail
  refine HK.out.mono ?_
  rintro e w1 ⟨rfl, hb1⟩
  have HB1 := Bx.mk hb1
  clear hb1
  go_wp2_with fail
  go_loop [6, 7, 8, 10] (fun s t a i => ∃ (j : Nat) (S T : ByteArray), j ≤ k ∧ i = .int .i64 (j : Int) ∧ s = .string S ∧ t = .string T ∧ a = .int .i64 (if 30 < j then 31 else 0) ∧ Bx (bl S = Ns.rep (Ns.open_ 0) j) ∧ Bx (bl T = Ns.shut 0 j)) (fun _ _ _ i => k - (intOf i).toNat)
  case atStart => exact ⟨0, _, _, Nat.zero_le _, rfl, rfl, rfl, rfl, ⟨bl_nil⟩, ⟨bl_nil.trans (by unfold Ns.shut; rfl)⟩⟩
  case round =>
    obtain ⟨i, S, T, hi, rfl, rfl, rfl, rfl, HS, HT⟩ := hrel
    have hss : S.size = i * 1 := by rw [← bl_length, HS.out, Ns.rep_len]; rfl
    have hts : T.size ≤ i := by
      rw [← bl_length, HT.out]
      unfold Ns.shut
      split
      · rw [Ns.rep_len]; simp
      · simp
    have ha1 := str_add S ({ data := #[40] } : ByteArray) (by show S.size + 1 ≤ 1000000; omega)
    have ha2 := str_add T ({ data := #[41] } : ByteArray) (by show T.size + 1 ≤ 1000000; omega)
    have HA1 := Bx.mk hss
    have HA2 := Bx.mk hts
    by_cases hlt : i < k
    · have q : (i : Int) < (k : Int) := by omega
      clear hss hts
      have hS2 : Bx (bl (S ++ ({ data := #[40] } : ByteArray)) = Ns.rep (Ns.open_ 0) (i + 1)) := ⟨by rw [bl_append, HS.out, Ns.bl0, Ns.rep_succ]⟩
      have hls : Bx ((S ++ ({ data := #[40] } : ByteArray)).size = (i + 1) * 1) := ⟨by rw [← bl_length, hS2.out, Ns.rep_len]; rfl⟩
      have hT2 : Bx (bl (T ++ ({ data := #[41] } : ByteArray)) = Ns.shut 0 (i + 1)) := ⟨by rw [bl_append, HT.out, rp_bl]; rfl⟩
      by_cases h30 : i = 30
      · have q30 : (i : Int) = 30 := by omega
        have H30 := Bx.mk h30
        clear h30
        go_wp2_with fail
        refine ⟨⟨31, _, _, by have := H30.out; omega, rfl, rfl, rfl, ?_, by have h1 := hS2.out; rw [H30.out] at h1; exact ⟨h1⟩, by have h1 := hT2.out; rw [H30.out] at h1; exact ⟨h1⟩⟩, by have := H30.out; simp [intOf]; omega⟩
        have h1 := HA1.out
        rw [H30.out] at h1
        rw [if_pos (by omega)]
        exact congrArg (Value.int .i64) (by omega)
      · have q30 : ¬ (i : Int) = 30 := by omega
        have e30 : (if 30 < i + 1 then (31 : Int) else 0) = if 30 < i then 31 else 0 := by
          by_cases h : 30 < i
          · rw [if_pos h, if_pos (by omega)]
          · rw [if_neg h, if_neg (by omega)]
        have E30 := Bx.mk e30
        clear h30 e30
        go_wp2_with fail
        refine ⟨⟨i + 1, _, _, by omega, by go_num, rfl, rfl, by rw [E30.out], hS2, hT2⟩, by simp [intOf]; omega⟩
    · have q : ¬ (i : Int) < (k : Int) := by omega
      obtain rfl : i = k := by omega
      have hsz : (S ++ ({ data := #[118, 50] } : ByteArray)).size = S.size + 2 := by simp [ByteArray.size_append]; rfl
      have ha3 := str_add S ({ data := #[118, 50] } : ByteArray) (by show S.size + 2 ≤ 1000000; omega)
      have ha4 := str_add (S ++ ({ data := #[118, 50] } : ByteArray)) T (by rw [hsz]; omega)
      have hbl : bl (S ++ ({ data := #[118, 50] } : ByteArray) ++ T) = Ns.text 0 i := by rw [bl_append, bl_append, HS.out, HT.out, v2_bl]; rfl
      have hP := parse_any (S ++ ({ data := #[118, 50] } : ByteArray) ++ T) w1
      rw [hbl] at hP
      clear hss hts hsz hbl ha1 ha2
      by_cases h30 : 30 < i
      · have q30 : (i : Int) > 30 := by omega
        rw [Ns.deep (by omega) hk h30] at hP
        have HP := Bx.mk hP
        have H30 := Bx.mk h30
        rw [if_pos h30]
        clear hP h30
        go_wp2_with fail
        refine HP.out.mono ?_
        rintro e w2 ⟨sl, rfl, hS2, hb2⟩
        obtain ⟨p1, c1, rfl⟩ := hS2.is
        obtain ⟨a0, a1, a2, a3, _, _, _, _⟩ := cells4 (Blk.new w2 36 #[.int .i64 0, .int .i64 0, .int .i64 0, .slice p1 0 c1])
        have HG2 := Bx.mk ((HB1.out.trans (hb2.mono HB1.out.size)).alloc (Nat.le_trans HB1.out.size hb2.size) (.cells #[.int .i64 0, .int .i64 0, .int .i64 0, .slice p1 0 c1] 36))
        clear hS2 hb2
        unfold Pv Ev
        simp only [show Tr.zero.k = 0 from rfl, show Tr.zero.a = 0 from rfl, show Tr.zero.v = 0 from rfl, show Tr.zero.kids.len = 0 from rfl, show (Ns.open_ 0).length = 1 from rfl]
        go_wp2_with fail
        go_ret
        exact ⟨rfl, HG2.out⟩
      · have q30 : ¬ (i : Int) > 30 := by omega
        have hf := Ns.flat (h := 0) (by omega) hk h30
        generalize Ex.parse (Ns.text 0 i) = R at hP hf
        obtain ⟨t, r1, r2⟩ := R
        obtain ⟨hf1, hf2⟩ := hf
        simp only [Prod.mk.injEq] at hf1
        obtain ⟨rfl, rfl⟩ := hf1
        have HP := Bx.mk hP
        have HF := Bx.mk hf2
        rw [if_neg h30]
        clear hP h30 hf2
        go_wp2_with fail
        refine HP.out.mono ?_
        rintro e w2 ⟨sl, rfl, hS2, hb2⟩
        obtain ⟨p1, c1, rfl⟩ := hS2.is
        obtain ⟨a0, a1, a2, a3, _, _, _, _⟩ := cells4 (Blk.new w2 36 #[.int .i64 t.k, .int .i64 t.a, .int .i64 t.v, .slice p1 t.kids.len c1])
        have HG2 := Bx.mk ((HB1.out.trans (hb2.mono HB1.out.size)).alloc (Nat.le_trans HB1.out.size hb2.size) (.cells #[.int .i64 t.k, .int .i64 t.a, .int .i64 t.v, .slice p1 t.kids.len c1] 36))
        have hI := is_any t _ _ _ (hS2.alloc (.cells #[.int .i64 t.k, .int .i64 t.a, .int .i64 t.v, .slice p1 t.kids.len c1] 36))
        simp only [HF.out] at hI
        have HI := Bx.mk hI
        clear hS2 hb2 hI
        unfold Ev at HI
        unfold Pv Ev
        go_wp2_with fail
        refine HI.out.mono ?_
        rintro e w3 ⟨rfl, hb3⟩
        have HG3 := Bx.mk (HG2.out.trans (hb3.mono HG2.out.size))
        clear hb3 a0 a1 a2 a3
        go_wp2_with fail
        go_ret
        exact ⟨rfl, HG3.out⟩

set_option maxHeartbeats 8000000 in
theorem nests_1 (n how k : Nat) (hn : (n : Int) % 36 = (k : Int)) (hk : k < 36) (hh : (how : Int) % 4 = 1) (w : World) : Calls Try.prog 4 #[.int .u8 (n : Int), .int .u8 (how : Int)] w fun e w' => e = .returned (.bool true) ∧ Below w.heap.size w w' := by
  have HK := Bx.mk (known_any w)
  have ix := Ns.ix1
  go_enter Try.func4, Try.ntmps4
  go_wp2_with fail
  refine HK.out.mono ?_
  rintro e w1 ⟨rfl, hb1⟩
  have HB1 := Bx.mk hb1
  clear hb1
  go_wp2_with fail
  go_loop [6, 7, 8, 10] (fun s t a i => ∃ (j : Nat) (S T : ByteArray), j ≤ k ∧ i = .int .i64 (j : Int) ∧ s = .string S ∧ t = .string T ∧ a = .int .i64 (if 30 < j then 31 else 0) ∧ Bx (bl S = Ns.rep (Ns.open_ 1) j) ∧ Bx (bl T = Ns.shut 1 j)) (fun _ _ _ i => k - (intOf i).toNat)
  case atStart => exact ⟨0, _, _, Nat.zero_le _, rfl, rfl, rfl, rfl, ⟨bl_nil⟩, ⟨bl_nil.trans (by unfold Ns.shut; rfl)⟩⟩
  case round =>
    obtain ⟨i, S, T, hi, rfl, rfl, rfl, rfl, HS, HT⟩ := hrel
    have hss : S.size = i * 1 := by rw [← bl_length, HS.out, Ns.rep_len]; rfl
    have hts : T.size ≤ i := by
      rw [← bl_length, HT.out]
      unfold Ns.shut
      split
      · rw [Ns.rep_len]; simp
      · simp
    have ha1 := str_add S ({ data := #[33] } : ByteArray) (by show S.size + 1 ≤ 1000000; omega)
    have ha2 := str_add T ({ data := #[41] } : ByteArray) (by show T.size + 1 ≤ 1000000; omega)
    have HA1 := Bx.mk hss
    have HA2 := Bx.mk hts
    by_cases hlt : i < k
    · have q : (i : Int) < (k : Int) := by omega
      clear hss hts
      have hS2 : Bx (bl (S ++ ({ data := #[33] } : ByteArray)) = Ns.rep (Ns.open_ 1) (i + 1)) := ⟨by rw [bl_append, HS.out, Ns.bl1, Ns.rep_succ]⟩
      have hls : Bx ((S ++ ({ data := #[33] } : ByteArray)).size = (i + 1) * 1) := ⟨by rw [← bl_length, hS2.out, Ns.rep_len]; rfl⟩
      have hT2 : Bx (bl T = Ns.shut 1 (i + 1)) := ⟨HT.out⟩
      by_cases h30 : i = 30
      · have q30 : (i : Int) = 30 := by omega
        have H30 := Bx.mk h30
        clear h30
        go_wp2_with fail
        refine ⟨⟨31, _, _, by have := H30.out; omega, rfl, rfl, rfl, ?_, by have h1 := hS2.out; rw [H30.out] at h1; exact ⟨h1⟩, by have h1 := hT2.out; rw [H30.out] at h1; exact ⟨h1⟩⟩, by have := H30.out; simp [intOf]; omega⟩
        have h1 := HA1.out
        rw [H30.out] at h1
        rw [if_pos (by omega)]
        exact congrArg (Value.int .i64) (by omega)
      · have q30 : ¬ (i : Int) = 30 := by omega
        have e30 : (if 30 < i + 1 then (31 : Int) else 0) = if 30 < i then 31 else 0 := by
          by_cases h : 30 < i
          · rw [if_pos h, if_pos (by omega)]
          · rw [if_neg h, if_neg (by omega)]
        have E30 := Bx.mk e30
        clear h30 e30
        go_wp2_with fail
        refine ⟨⟨i + 1, _, _, by omega, by go_num, rfl, rfl, by rw [E30.out], hS2, hT2⟩, by simp [intOf]; omega⟩
    · have q : ¬ (i : Int) < (k : Int) := by omega
      obtain rfl : i = k := by omega
      have hsz : (S ++ ({ data := #[118, 50] } : ByteArray)).size = S.size + 2 := by simp [ByteArray.size_append]; rfl
      have ha3 := str_add S ({ data := #[118, 50] } : ByteArray) (by show S.size + 2 ≤ 1000000; omega)
      have ha4 := str_add (S ++ ({ data := #[118, 50] } : ByteArray)) T (by rw [hsz]; omega)
      have hbl : bl (S ++ ({ data := #[118, 50] } : ByteArray) ++ T) = Ns.text 1 i := by rw [bl_append, bl_append, HS.out, HT.out, v2_bl]; rfl
      have hP := parse_any (S ++ ({ data := #[118, 50] } : ByteArray) ++ T) w1
      rw [hbl] at hP
      clear hss hts hsz hbl ha1 ha2
      by_cases h30 : 30 < i
      · have q30 : (i : Int) > 30 := by omega
        rw [Ns.deep (by omega) hk h30] at hP
        have HP := Bx.mk hP
        have H30 := Bx.mk h30
        rw [if_pos h30]
        clear hP h30
        go_wp2_with fail
        refine HP.out.mono ?_
        rintro e w2 ⟨sl, rfl, hS2, hb2⟩
        obtain ⟨p1, c1, rfl⟩ := hS2.is
        obtain ⟨a0, a1, a2, a3, _, _, _, _⟩ := cells4 (Blk.new w2 36 #[.int .i64 0, .int .i64 0, .int .i64 0, .slice p1 0 c1])
        have HG2 := Bx.mk ((HB1.out.trans (hb2.mono HB1.out.size)).alloc (Nat.le_trans HB1.out.size hb2.size) (.cells #[.int .i64 0, .int .i64 0, .int .i64 0, .slice p1 0 c1] 36))
        clear hS2 hb2
        unfold Pv Ev
        simp only [show Tr.zero.k = 0 from rfl, show Tr.zero.a = 0 from rfl, show Tr.zero.v = 0 from rfl, show Tr.zero.kids.len = 0 from rfl, show (Ns.open_ 1).length = 1 from rfl]
        go_wp2_with fail
        go_ret
        exact ⟨rfl, HG2.out⟩
      · have q30 : ¬ (i : Int) > 30 := by omega
        have hf := Ns.flat (h := 1) (by omega) hk h30
        generalize Ex.parse (Ns.text 1 i) = R at hP hf
        obtain ⟨t, r1, r2⟩ := R
        obtain ⟨hf1, hf2⟩ := hf
        simp only [Prod.mk.injEq] at hf1
        obtain ⟨rfl, rfl⟩ := hf1
        have HP := Bx.mk hP
        have HF := Bx.mk hf2
        rw [if_neg h30]
        clear hP h30 hf2
        go_wp2_with fail
        refine HP.out.mono ?_
        rintro e w2 ⟨sl, rfl, hS2, hb2⟩
        obtain ⟨p1, c1, rfl⟩ := hS2.is
        obtain ⟨a0, a1, a2, a3, _, _, _, _⟩ := cells4 (Blk.new w2 36 #[.int .i64 t.k, .int .i64 t.a, .int .i64 t.v, .slice p1 t.kids.len c1])
        have HG2 := Bx.mk ((HB1.out.trans (hb2.mono HB1.out.size)).alloc (Nat.le_trans HB1.out.size hb2.size) (.cells #[.int .i64 t.k, .int .i64 t.a, .int .i64 t.v, .slice p1 t.kids.len c1] 36))
        have hI := is_any t _ _ _ (hS2.alloc (.cells #[.int .i64 t.k, .int .i64 t.a, .int .i64 t.v, .slice p1 t.kids.len c1] 36))
        simp only [HF.out] at hI
        have HI := Bx.mk hI
        clear hS2 hb2 hI
        unfold Ev at HI
        unfold Pv Ev
        go_wp2_with fail
        refine HI.out.mono ?_
        rintro e w3 ⟨rfl, hb3⟩
        have HG3 := Bx.mk (HG2.out.trans (hb3.mono HG2.out.size))
        clear hb3 a0 a1 a2 a3
        go_wp2_with fail
        go_ret
        exact ⟨rfl, HG3.out⟩

set_option maxHeartbeats 8000000 in
theorem nests_2 (n how k : Nat) (hn : (n : Int) % 36 = (k : Int)) (hk : k < 36) (hh : (how : Int) % 4 = 2) (w : World) : Calls Try.prog 4 #[.int .u8 (n : Int), .int .u8 (how : Int)] w fun e w' => e = .returned (.bool true) ∧ Below w.heap.size w w' := by
  have HK := Bx.mk (known_any w)
  have ix := Ns.ix2
  go_enter Try.func4, Try.ntmps4
  go_wp2_with fail
  refine HK.out.mono ?_
  rintro e w1 ⟨rfl, hb1⟩
  have HB1 := Bx.mk hb1
  clear hb1
  go_wp2_with fail
  go_loop [6, 7, 8, 10] (fun s t a i => ∃ (j : Nat) (S T : ByteArray), j ≤ k ∧ i = .int .i64 (j : Int) ∧ s = .string S ∧ t = .string T ∧ a = .int .i64 (if 30 < j then 217 else 0) ∧ Bx (bl S = Ns.rep (Ns.open_ 2) j) ∧ Bx (bl T = Ns.shut 2 j)) (fun _ _ _ i => k - (intOf i).toNat)
  case atStart => exact ⟨0, _, _, Nat.zero_le _, rfl, rfl, rfl, rfl, ⟨bl_nil⟩, ⟨bl_nil.trans (by unfold Ns.shut; rfl)⟩⟩
  case round =>
    obtain ⟨i, S, T, hi, rfl, rfl, rfl, rfl, HS, HT⟩ := hrel
    have hss : S.size = i * 7 := by rw [← bl_length, HS.out, Ns.rep_len]; rfl
    have hts : T.size ≤ i := by
      rw [← bl_length, HT.out]
      unfold Ns.shut
      split
      · rw [Ns.rep_len]; simp
      · simp
    have ha1 := str_add S ({ data := #[97, 110, 121, 32, 118, 51, 32] } : ByteArray) (by show S.size + 7 ≤ 1000000; omega)
    have ha2 := str_add T ({ data := #[41] } : ByteArray) (by show T.size + 1 ≤ 1000000; omega)
    have HA1 := Bx.mk hss
    have HA2 := Bx.mk hts
    by_cases hlt : i < k
    · have q : (i : Int) < (k : Int) := by omega
      clear hss hts
      have hS2 : Bx (bl (S ++ ({ data := #[97, 110, 121, 32, 118, 51, 32] } : ByteArray)) = Ns.rep (Ns.open_ 2) (i + 1)) := ⟨by rw [bl_append, HS.out, Ns.bl2, Ns.rep_succ]⟩
      have hls : Bx ((S ++ ({ data := #[97, 110, 121, 32, 118, 51, 32] } : ByteArray)).size = (i + 1) * 7) := ⟨by rw [← bl_length, hS2.out, Ns.rep_len]; rfl⟩
      have hT2 : Bx (bl T = Ns.shut 2 (i + 1)) := ⟨HT.out⟩
      by_cases h30 : i = 30
      · have q30 : (i : Int) = 30 := by omega
        have H30 := Bx.mk h30
        clear h30
        go_wp2_with fail
        refine ⟨⟨31, _, _, by have := H30.out; omega, rfl, rfl, rfl, ?_, by have h1 := hS2.out; rw [H30.out] at h1; exact ⟨h1⟩, by have h1 := hT2.out; rw [H30.out] at h1; exact ⟨h1⟩⟩, by have := H30.out; simp [intOf]; omega⟩
        have h1 := HA1.out
        rw [H30.out] at h1
        rw [if_pos (by omega)]
        exact congrArg (Value.int .i64) (by omega)
      · have q30 : ¬ (i : Int) = 30 := by omega
        have e30 : (if 30 < i + 1 then (217 : Int) else 0) = if 30 < i then 217 else 0 := by
          by_cases h : 30 < i
          · rw [if_pos h, if_pos (by omega)]
          · rw [if_neg h, if_neg (by omega)]
        have E30 := Bx.mk e30
        clear h30 e30
        go_wp2_with fail
        refine ⟨⟨i + 1, _, _, by omega, by go_num, rfl, rfl, by rw [E30.out], hS2, hT2⟩, by simp [intOf]; omega⟩
    · have q : ¬ (i : Int) < (k : Int) := by omega
      obtain rfl : i = k := by omega
      have hsz : (S ++ ({ data := #[118, 50] } : ByteArray)).size = S.size + 2 := by simp [ByteArray.size_append]; rfl
      have ha3 := str_add S ({ data := #[118, 50] } : ByteArray) (by show S.size + 2 ≤ 1000000; omega)
      have ha4 := str_add (S ++ ({ data := #[118, 50] } : ByteArray)) T (by rw [hsz]; omega)
      have hbl : bl (S ++ ({ data := #[118, 50] } : ByteArray) ++ T) = Ns.text 2 i := by rw [bl_append, bl_append, HS.out, HT.out, v2_bl]; rfl
      have hP := parse_any (S ++ ({ data := #[118, 50] } : ByteArray) ++ T) w1
      rw [hbl] at hP
      clear hss hts hsz hbl ha1 ha2
      by_cases h30 : 30 < i
      · have q30 : (i : Int) > 30 := by omega
        rw [Ns.deep (by omega) hk h30] at hP
        have HP := Bx.mk hP
        have H30 := Bx.mk h30
        rw [if_pos h30]
        clear hP h30
        go_wp2_with fail
        refine HP.out.mono ?_
        rintro e w2 ⟨sl, rfl, hS2, hb2⟩
        obtain ⟨p1, c1, rfl⟩ := hS2.is
        obtain ⟨a0, a1, a2, a3, _, _, _, _⟩ := cells4 (Blk.new w2 36 #[.int .i64 0, .int .i64 0, .int .i64 0, .slice p1 0 c1])
        have HG2 := Bx.mk ((HB1.out.trans (hb2.mono HB1.out.size)).alloc (Nat.le_trans HB1.out.size hb2.size) (.cells #[.int .i64 0, .int .i64 0, .int .i64 0, .slice p1 0 c1] 36))
        clear hS2 hb2
        unfold Pv Ev
        simp only [show Tr.zero.k = 0 from rfl, show Tr.zero.a = 0 from rfl, show Tr.zero.v = 0 from rfl, show Tr.zero.kids.len = 0 from rfl, show (Ns.open_ 2).length = 7 from rfl]
        go_wp2_with fail
        go_ret
        exact ⟨rfl, HG2.out⟩
      · have q30 : ¬ (i : Int) > 30 := by omega
        have hf := Ns.flat (h := 2) (by omega) hk h30
        generalize Ex.parse (Ns.text 2 i) = R at hP hf
        obtain ⟨t, r1, r2⟩ := R
        obtain ⟨hf1, hf2⟩ := hf
        simp only [Prod.mk.injEq] at hf1
        obtain ⟨rfl, rfl⟩ := hf1
        have HP := Bx.mk hP
        have HF := Bx.mk hf2
        rw [if_neg h30]
        clear hP h30 hf2
        go_wp2_with fail
        refine HP.out.mono ?_
        rintro e w2 ⟨sl, rfl, hS2, hb2⟩
        obtain ⟨p1, c1, rfl⟩ := hS2.is
        obtain ⟨a0, a1, a2, a3, _, _, _, _⟩ := cells4 (Blk.new w2 36 #[.int .i64 t.k, .int .i64 t.a, .int .i64 t.v, .slice p1 t.kids.len c1])
        have HG2 := Bx.mk ((HB1.out.trans (hb2.mono HB1.out.size)).alloc (Nat.le_trans HB1.out.size hb2.size) (.cells #[.int .i64 t.k, .int .i64 t.a, .int .i64 t.v, .slice p1 t.kids.len c1] 36))
        have hI := is_any t _ _ _ (hS2.alloc (.cells #[.int .i64 t.k, .int .i64 t.a, .int .i64 t.v, .slice p1 t.kids.len c1] 36))
        simp only [HF.out] at hI
        have HI := Bx.mk hI
        clear hS2 hb2 hI
        unfold Ev at HI
        unfold Pv Ev
        go_wp2_with fail
        refine HI.out.mono ?_
        rintro e w3 ⟨rfl, hb3⟩
        have HG3 := Bx.mk (HG2.out.trans (hb3.mono HG2.out.size))
        clear hb3 a0 a1 a2 a3
        go_wp2_with fail
        go_ret
        exact ⟨rfl, HG3.out⟩

set_option maxHeartbeats 8000000 in
theorem nests_3 (n how k : Nat) (hn : (n : Int) % 36 = (k : Int)) (hk : k < 36) (hh : (how : Int) % 4 = 3) (w : World) : Calls Try.prog 4 #[.int .u8 (n : Int), .int .u8 (how : Int)] w fun e w' => e = .returned (.bool true) ∧ Below w.heap.size w w' := by
  have HK := Bx.mk (known_any w)
  have ix := Ns.ix3
  go_enter Try.func4, Try.ntmps4
  go_wp2_with fail
  refine HK.out.mono ?_
  rintro e w1 ⟨rfl, hb1⟩
  have HB1 := Bx.mk hb1
  clear hb1
  go_wp2_with fail
  go_loop [6, 7, 8, 10] (fun s t a i => ∃ (j : Nat) (S T : ByteArray), j ≤ k ∧ i = .int .i64 (j : Int) ∧ s = .string S ∧ t = .string T ∧ a = .int .i64 (if 30 < j then 186 else 0) ∧ Bx (bl S = Ns.rep (Ns.open_ 3) j) ∧ Bx (bl T = Ns.shut 3 j)) (fun _ _ _ i => k - (intOf i).toNat)
  case atStart => exact ⟨0, _, _, Nat.zero_le _, rfl, rfl, rfl, rfl, ⟨bl_nil⟩, ⟨bl_nil.trans (by unfold Ns.shut; rfl)⟩⟩
  case round =>
    obtain ⟨i, S, T, hi, rfl, rfl, rfl, rfl, HS, HT⟩ := hrel
    have hss : S.size = i * 6 := by rw [← bl_length, HS.out, Ns.rep_len]; rfl
    have hts : T.size ≤ i := by
      rw [← bl_length, HT.out]
      unfold Ns.shut
      split
      · rw [Ns.rep_len]; simp
      · simp
    have ha1 := str_add S ({ data := #[118, 49, 32, 45, 62, 32] } : ByteArray) (by show S.size + 6 ≤ 1000000; omega)
    have ha2 := str_add T ({ data := #[41] } : ByteArray) (by show T.size + 1 ≤ 1000000; omega)
    have HA1 := Bx.mk hss
    have HA2 := Bx.mk hts
    by_cases hlt : i < k
    · have q : (i : Int) < (k : Int) := by omega
      clear hss hts
      have hS2 : Bx (bl (S ++ ({ data := #[118, 49, 32, 45, 62, 32] } : ByteArray)) = Ns.rep (Ns.open_ 3) (i + 1)) := ⟨by rw [bl_append, HS.out, Ns.bl3, Ns.rep_succ]⟩
      have hls : Bx ((S ++ ({ data := #[118, 49, 32, 45, 62, 32] } : ByteArray)).size = (i + 1) * 6) := ⟨by rw [← bl_length, hS2.out, Ns.rep_len]; rfl⟩
      have hT2 : Bx (bl T = Ns.shut 3 (i + 1)) := ⟨HT.out⟩
      by_cases h30 : i = 30
      · have q30 : (i : Int) = 30 := by omega
        have H30 := Bx.mk h30
        clear h30
        go_wp2_with fail
        refine ⟨⟨31, _, _, by have := H30.out; omega, rfl, rfl, rfl, ?_, by have h1 := hS2.out; rw [H30.out] at h1; exact ⟨h1⟩, by have h1 := hT2.out; rw [H30.out] at h1; exact ⟨h1⟩⟩, by have := H30.out; simp [intOf]; omega⟩
        have h1 := HA1.out
        rw [H30.out] at h1
        rw [if_pos (by omega)]
        exact congrArg (Value.int .i64) (by omega)
      · have q30 : ¬ (i : Int) = 30 := by omega
        have e30 : (if 30 < i + 1 then (186 : Int) else 0) = if 30 < i then 186 else 0 := by
          by_cases h : 30 < i
          · rw [if_pos h, if_pos (by omega)]
          · rw [if_neg h, if_neg (by omega)]
        have E30 := Bx.mk e30
        clear h30 e30
        go_wp2_with fail
        refine ⟨⟨i + 1, _, _, by omega, by go_num, rfl, rfl, by rw [E30.out], hS2, hT2⟩, by simp [intOf]; omega⟩
    · have q : ¬ (i : Int) < (k : Int) := by omega
      obtain rfl : i = k := by omega
      have hsz : (S ++ ({ data := #[118, 50] } : ByteArray)).size = S.size + 2 := by simp [ByteArray.size_append]; rfl
      have ha3 := str_add S ({ data := #[118, 50] } : ByteArray) (by show S.size + 2 ≤ 1000000; omega)
      have ha4 := str_add (S ++ ({ data := #[118, 50] } : ByteArray)) T (by rw [hsz]; omega)
      have hbl : bl (S ++ ({ data := #[118, 50] } : ByteArray) ++ T) = Ns.text 3 i := by rw [bl_append, bl_append, HS.out, HT.out, v2_bl]; rfl
      have hP := parse_any (S ++ ({ data := #[118, 50] } : ByteArray) ++ T) w1
      rw [hbl] at hP
      clear hss hts hsz hbl ha1 ha2
      by_cases h30 : 30 < i
      · have q30 : (i : Int) > 30 := by omega
        rw [Ns.deep (by omega) hk h30] at hP
        have HP := Bx.mk hP
        have H30 := Bx.mk h30
        rw [if_pos h30]
        clear hP h30
        go_wp2_with fail
        refine HP.out.mono ?_
        rintro e w2 ⟨sl, rfl, hS2, hb2⟩
        obtain ⟨p1, c1, rfl⟩ := hS2.is
        obtain ⟨a0, a1, a2, a3, _, _, _, _⟩ := cells4 (Blk.new w2 36 #[.int .i64 0, .int .i64 0, .int .i64 0, .slice p1 0 c1])
        have HG2 := Bx.mk ((HB1.out.trans (hb2.mono HB1.out.size)).alloc (Nat.le_trans HB1.out.size hb2.size) (.cells #[.int .i64 0, .int .i64 0, .int .i64 0, .slice p1 0 c1] 36))
        clear hS2 hb2
        unfold Pv Ev
        simp only [show Tr.zero.k = 0 from rfl, show Tr.zero.a = 0 from rfl, show Tr.zero.v = 0 from rfl, show Tr.zero.kids.len = 0 from rfl, show (Ns.open_ 3).length = 6 from rfl]
        go_wp2_with fail
        go_ret
        exact ⟨rfl, HG2.out⟩
      · have q30 : ¬ (i : Int) > 30 := by omega
        have hf := Ns.flat (h := 3) (by omega) hk h30
        generalize Ex.parse (Ns.text 3 i) = R at hP hf
        obtain ⟨t, r1, r2⟩ := R
        obtain ⟨hf1, hf2⟩ := hf
        simp only [Prod.mk.injEq] at hf1
        obtain ⟨rfl, rfl⟩ := hf1
        have HP := Bx.mk hP
        have HF := Bx.mk hf2
        rw [if_neg h30]
        clear hP h30 hf2
        go_wp2_with fail
        refine HP.out.mono ?_
        rintro e w2 ⟨sl, rfl, hS2, hb2⟩
        obtain ⟨p1, c1, rfl⟩ := hS2.is
        obtain ⟨a0, a1, a2, a3, _, _, _, _⟩ := cells4 (Blk.new w2 36 #[.int .i64 t.k, .int .i64 t.a, .int .i64 t.v, .slice p1 t.kids.len c1])
        have HG2 := Bx.mk ((HB1.out.trans (hb2.mono HB1.out.size)).alloc (Nat.le_trans HB1.out.size hb2.size) (.cells #[.int .i64 t.k, .int .i64 t.a, .int .i64 t.v, .slice p1 t.kids.len c1] 36))
        have hI := is_any t _ _ _ (hS2.alloc (.cells #[.int .i64 t.k, .int .i64 t.a, .int .i64 t.v, .slice p1 t.kids.len c1] 36))
        simp only [HF.out] at hI
        have HI := Bx.mk hI
        clear hS2 hb2 hI
        unfold Ev at HI
        unfold Pv Ev
        go_wp2_with fail
        refine HI.out.mono ?_
        rintro e w3 ⟨rfl, hb3⟩
        have HG3 := Bx.mk (HG2.out.trans (hb3.mono HG2.out.size))
        clear hb3 a0 a1 a2 a3
        go_wp2_with fail
        go_ret
        exact ⟨rfl, HG3.out⟩

theorem nests_any (n how : Nat) (w : World) : Calls Try.prog 4 #[.int .u8 (n : Int), .int .u8 (how : Int)] w fun e w' => e = .returned (.bool true) ∧ Below w.heap.size w w' := by
  have hc : how % 4 = 0 ∨ how % 4 = 1 ∨ how % 4 = 2 ∨ how % 4 = 3 := by omega
  rcases hc with h | h | h | h
  · exact nests_0 n how (n % 36) (by omega) (by omega) (by omega) w
  · exact nests_1 n how (n % 36) (by omega) (by omega) (by omega) w
  · exact nests_2 n how (n % 36) (by omega) (by omega) (by omega) w
  · exact nests_3 n how (n % 36) (by omega) (by omega) (by omega) w
end Go.Proofs.Ytfgokhafiffbaaa
