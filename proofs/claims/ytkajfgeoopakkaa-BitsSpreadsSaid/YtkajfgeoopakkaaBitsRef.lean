/-
  The walks of the document's bits (layer 1) and of the laws that hold the program against them.
-/
import Derived.Test.YtkajfgeoopakkaaBitsLaws
import Derived.Test.YtkajfgeoopakkaaKit
namespace Go.Proofs.Ytkajfgeoopakkaa
set_option linter.unusedVariables false
open Go.RowKit

set_option maxHeartbeats 400000 in
theorem rnode_any (l a b : Int) (w : World) (h0 : 0 ≤ l) (h1 : l < 256) (h2 : 0 ≤ a) (h3 : a < 4294967296) (h4 : 0 ≤ b) (h5 : b < 4294967296) :
    Calls Try.prog 16 #[.int .u8 l, .int .u32 a, .int .u32 b] w fun e w' => e = .returned (.int .u64 (Bt.node l a b)) ∧ w = w' := by
  have hm := Bt.node_walk h0 h1 h2 h3 h4 h5
  have Hm := Lib.hid hm
  clear hm
  go_enter Try.func16, Try.ntmps16
  go_wp2
  go_ret
  exact ⟨congrArg (fun n => Ending.returned (.int .u64 n)) Hm.out, rfl⟩

set_option maxHeartbeats 400000 in
theorem rmix_any (x : Int) (w : World) (h0 : 0 ≤ x) (h1 : x < 18446744073709551616) :
    Calls Try.prog 17 #[.int .u64 x] w fun e w' => e = .returned (.int .u64 (Bt.mix x)) ∧ w = w' := by
  have hm := Bt.mix_walk h0 h1
  have Hm := Lib.hid hm
  clear hm
  go_enter Try.func17, Try.ntmps17
  go_wp2
  go_ret
  exact ⟨congrArg (fun n => Ending.returned (.int .u64 n)) Hm.out, rfl⟩

set_option maxHeartbeats 400000 in
theorem rhome_any (x n : Int) (w : World) (h0 : 0 ≤ x) (h1 : x < 18446744073709551616) (h2 : 1 ≤ n) (h3 : n < 9223372036854775808) :
    Calls Try.prog 19 #[.int .u64 x, .int .i64 n] w fun e w' => e = .returned (.int .i64 (Bt.mix x % n)) ∧ w = w' := by
  have hl := Bt.mix_lo x
  have hr0 : 0 ≤ Bt.mix x % n := Int.emod_nonneg _ (by omega)
  have hr1 : Bt.mix x % n < n := Int.emod_lt_of_pos _ (by omega)
  have H1 := Lib.hid h1
  clear h1
  go_enter Try.func19, Try.ntmps19
  go_wp2_with (go_at_call 17; refine (rmix_any x w h0 H1.out).mono ?_; rintro e w' ⟨rfl, rfl⟩)
  go_ret
  exact ⟨rfl, rfl⟩

set_option maxHeartbeats 400000 in
theorem rhome_none (x n : Int) (w : World) (h2 : n < 1) :
    Calls Try.prog 19 #[.int .u64 x, .int .i64 n] w fun e w' => e = .returned (.int .i64 0) ∧ w = w' := by
  go_enter Try.func19, Try.ntmps19
  go_wp2_with fail
  go_ret
  exact ⟨rfl, rfl⟩

def spN2 (a b : Nat) : Nat := Bt.spN a ||| 2 * Bt.spN b
theorem spN2_lt (a b : Nat) : spN2 a b < 65536 := by
  have := Bt.spN_lt a
  have := Bt.spN_lt b
  exact Nat.or_lt_two_pow (n := 16) (by omega) (by omega)

set_option maxHeartbeats 400000 in
theorem rspread_any (x : Int) (w : World) (h0 : 0 ≤ x) (h1 : x < 256) :
    Calls Try.prog 21 #[.int .u8 x] w fun e w' => e = .returned (.int .u16 (Bt.spread x)) ∧ w = w' := by
  go_enter Try.func21, Try.ntmps21
  go_wp2
  go_loop [3, 4] (fun n i => ∃ k : Nat, k ≤ 8 ∧ i = .int .u64 k ∧ n = .int .u16 (Bt.spreadTo x k)) (fun _ i => 8 - (intOf i).toNat)
  case atStart => exact ⟨0, by omega, rfl, rfl⟩
  case round =>
    obtain ⟨k, hk, rfl, rfl⟩ := hrel
    by_cases hlt : k < 8
    · go_wp2
      go_round
      case rel => exact ⟨k + 1, by omega, by go_num, rfl⟩
      case measure => simp [intOf]; omega
    · obtain rfl : k = 8 := by omega
      go_wp2
      go_ret
      exact ⟨by rw [Bt.spread_def]; rfl, rfl⟩

set_option maxHeartbeats 400000 in
theorem rgather_any (x : Int) (w : World) (h0 : 0 ≤ x) (h1 : x < 65536) :
    Calls Try.prog 22 #[.int .u16 x] w fun e w' => e = .returned (.int .u8 (Bt.gather x)) ∧ w = w' := by
  go_enter Try.func22, Try.ntmps22
  go_wp2
  go_loop [3, 4] (fun n i => ∃ k : Nat, k ≤ 8 ∧ i = .int .u64 k ∧ n = .int .u8 (Bt.gatherTo x k)) (fun _ i => 8 - (intOf i).toNat)
  case atStart => exact ⟨0, by omega, rfl, rfl⟩
  case round =>
    obtain ⟨k, hk, rfl, rfl⟩ := hrel
    by_cases hlt : k < 8
    · go_wp2
      go_round
      case rel => exact ⟨k + 1, by omega, by go_num, rfl⟩
      case measure => simp [intOf]; omega
    · obtain rfl : k = 8 := by omega
      go_wp2
      go_ret
      exact ⟨by rw [Bt.gather_def]; rfl, rfl⟩

/-- one bit, counted from the lowest on -/
theorem bit_of (x k : Nat) (h1 : x < 18446744073709551616) : bits .and .u64 ((x : Int) / 2 ^ k) 1 = ((x / 2 ^ k % 2 : Nat) : Int) := by
  have hd : (x : Int) / 2 ^ k = ((x / 2 ^ k : Nat) : Int) := by
    rw [Int.natCast_ediv]; congr 1
  have hdl : x / 2 ^ k ≤ x := Nat.div_le_self _ _
  have e1 := bits_and_u64_nat (x / 2 ^ k) 1 (by omega) (by omega)
  rw [Nat.and_one_is_mod] at e1
  rw [hd]
  exact e1

set_option maxHeartbeats 400000 in
theorem rones_nat (x : Nat) (w : World) (h1 : x < 18446744073709551616) :
    Calls Try.prog 20 #[.int .u64 (x : Int)] w fun e w' => e = .returned (.int .i64 (Bt.pc x : Int)) ∧ w = w' := by
  have hp := Bt.pc_le x
  have H1 := Bx.mk h1
  clear h1
  go_enter Try.func20, Try.ntmps20
  go_wp2
  go_loop [3, 4] (fun n i => ∃ m k : Nat, k ≤ 64 ∧ m + Bt.pc (x / 2 ^ k) = Bt.pc x ∧ i = .int .i64 k ∧ n = .int .i64 m) (fun _ i => 64 - (intOf i).toNat)
  case atStart => exact ⟨0, 0, by omega, by simp, rfl, rfl⟩
  case round =>
    obtain ⟨m, k, hk, hm, rfl, rfl⟩ := hrel
    have hml : m ≤ 64 := by omega
    have Hm := Bx.mk hm
    clear hm
    by_cases hlt : k < 64
    · have hb := bit_of x k H1.out
      have hs := Bt.pc_shift (x / 2 ^ k) (by have := H1.out; have := Nat.div_le_self x (2 ^ k); omega)
      rw [Nat.div_div_eq_div_mul, show 2 ^ k * 2 = 2 ^ (k + 1) from (Nat.pow_succ ..).symm] at hs
      have HS := Bx.mk hs
      have HM := Bx.mk Hm.out
      have HB := Bx.mk hb
      have hb0 : 0 ≤ bits .and .u64 ((x : Int) / 2 ^ k) 1 := by rw [hb]; omega
      have hb1 : bits .and .u64 ((x : Int) / 2 ^ k) 1 ≤ 1 := by rw [hb]; omega
      clear hs Hm hb
      go_wp2
      go_round
      case rel => exact ⟨m + x / 2 ^ k % 2, k + 1, by omega, by have := HM.out; have := HS.out; omega, by go_num, by rw [HB.out]; go_num⟩
      case measure => simp [intOf]; omega
    · obtain rfl : k = 64 := by omega
      go_wp2
      go_ret
      exact ⟨congrArg (fun n => Ending.returned (.int .i64 n)) (by
        have h := Hm.out
        rw [Nat.div_eq_of_lt (by have := H1.out; omega)] at h
        have h0 : Bt.pc 0 = 0 := by decide +kernel
        omega), rfl⟩

theorem rones_any (x : Int) (w : World) (h0 : 0 ≤ x) (h1 : x < 18446744073709551616) :
    Calls Try.prog 20 #[.int .u64 x] w fun e w' => e = .returned (.int .i64 (Bt.pc x.toNat : Int)) ∧ w = w' := by
  obtain ⟨n, rfl⟩ := Int.eq_ofNat_of_zero_le h0
  exact rones_nat n w (by omega)

theorem spread_and (a b : Int) (w : World) (a0 : 0 ≤ a) (a1 : a < 256) (b0 : 0 ≤ b) (b1 : b < 256) :
    Calls Try.prog 13 #[.int .u8 (bits .and .u8 a b)] w fun e w' => e = .returned (.int .u16 (bits .and .u16 (Bt.spread a) (Bt.spread b))) ∧ w = w' := by
  obtain ⟨a, rfl⟩ := Int.eq_ofNat_of_zero_le a0
  obtain ⟨b, rfl⟩ := Int.eq_ofNat_of_zero_le b0
  have := Bt.spN_lt a
  have := Bt.spN_lt b
  have hl := @Nat.and_le_left a b
  rw [Bt.and_u8_nat _ _ (by omega) (by omega), Bt.spread_small a (by omega), Bt.spread_small b (by omega), Bt.and_u16_nat _ _ (by omega) (by omega), ← Bt.spN_and a b (by omega) (by omega), ← Bt.spread_small _ (by omega)]
  exact spread_any _ w (by omega) (by omega)

theorem spread_or (a b : Int) (w : World) (a0 : 0 ≤ a) (a1 : a < 256) (b0 : 0 ≤ b) (b1 : b < 256) :
    Calls Try.prog 13 #[.int .u8 (bits .or .u8 a b)] w fun e w' => e = .returned (.int .u16 (bits .or .u16 (Bt.spread a) (Bt.spread b))) ∧ w = w' := by
  obtain ⟨a, rfl⟩ := Int.eq_ofNat_of_zero_le a0
  obtain ⟨b, rfl⟩ := Int.eq_ofNat_of_zero_le b0
  have := Bt.spN_lt a
  have := Bt.spN_lt b
  have hl : a ||| b < 256 := Nat.or_lt_two_pow (n := 8) (by omega) (by omega)
  rw [Bt.or_u8_nat _ _ (by omega) (by omega), Bt.spread_small a (by omega), Bt.spread_small b (by omega), Bt.or_u16_nat _ _ (by omega) (by omega), ← Bt.spN_or a b (by omega) (by omega), ← Bt.spread_small _ (by omega)]
  exact spread_any _ w (by omega) (by omega)

theorem spread_xor (a b : Int) (w : World) (a0 : 0 ≤ a) (a1 : a < 256) (b0 : 0 ≤ b) (b1 : b < 256) :
    Calls Try.prog 13 #[.int .u8 (bits .xor .u8 a b)] w fun e w' => e = .returned (.int .u16 (bits .xor .u16 (Bt.spread a) (Bt.spread b))) ∧ w = w' := by
  obtain ⟨a, rfl⟩ := Int.eq_ofNat_of_zero_le a0
  obtain ⟨b, rfl⟩ := Int.eq_ofNat_of_zero_le b0
  have := Bt.spN_lt a
  have := Bt.spN_lt b
  have hl : a ^^^ b < 256 := Nat.xor_lt_two_pow (n := 8) (by omega) (by omega)
  rw [Bt.xor_u8_nat _ _ (by omega) (by omega), Bt.spread_small a (by omega), Bt.spread_small b (by omega), Bt.xor_u16_nat _ _ (by omega) (by omega), ← Bt.spN_xor a b (by omega) (by omega), ← Bt.spread_small _ (by omega)]
  exact spread_any _ w (by omega) (by omega)

theorem gather_even (a b : Int) (w : World) (a0 : 0 ≤ a) (a1 : a < 256) (b0 : 0 ≤ b) (b1 : b < 256) :
    Calls Try.prog 12 #[.int .u16 (bits .or .u16 (Bt.spread a) (Bt.spread b * 2))] w fun e w' => e = .returned (.int .u8 a) ∧ w = w' := by
  obtain ⟨a, rfl⟩ := Int.eq_ofNat_of_zero_le a0
  obtain ⟨b, rfl⟩ := Int.eq_ofNat_of_zero_le b0
  have := Bt.spN_lt a
  have := Bt.spN_lt b
  have hl : spN2 a b < 65536 := spN2_lt a b
  rw [Bt.spread_small a (by omega), Bt.spread_small b (by omega), show ((Bt.spN b : Int) * 2) = ((2 * Bt.spN b : Nat) : Int) from by omega, Bt.or_u16_nat _ _ (by omega) (by omega)]
  have h := gather_any ((spN2 a b : Nat) : Int) w (by omega) (by omega)
  rw [Bt.gather_small _ hl] at h
  rw [show Bt.gaN (spN2 a b) = a from Bt.ga_even a b (by omega) (by omega)] at h
  exact h

theorem gather_odd (a b : Int) (w : World) (a0 : 0 ≤ a) (a1 : a < 256) (b0 : 0 ≤ b) (b1 : b < 256) :
    Calls Try.prog 12 #[.int .u16 (bits .or .u16 (Bt.spread a) (Bt.spread b * 2) / 2)] w fun e w' => e = .returned (.int .u8 b) ∧ w = w' := by
  obtain ⟨a, rfl⟩ := Int.eq_ofNat_of_zero_le a0
  obtain ⟨b, rfl⟩ := Int.eq_ofNat_of_zero_le b0
  have := Bt.spN_lt a
  have := Bt.spN_lt b
  have hl : spN2 a b < 65536 := spN2_lt a b
  rw [Bt.spread_small a (by omega), Bt.spread_small b (by omega), show ((Bt.spN b : Int) * 2) = ((2 * Bt.spN b : Nat) : Int) from by omega, Bt.or_u16_nat _ _ (by omega) (by omega)]
  have h := gather_any ((spN2 a b / 2 : Nat) : Int) w (by omega) (by omega)
  rw [Bt.gather_small _ (by omega)] at h
  rw [show Bt.gaN (spN2 a b / 2) = b from Bt.ga_odd a b (by omega) (by omega)] at h
  exact h

set_option maxHeartbeats 1000000 in
theorem bitsSpreads_walk (a b : Int) (w : World) (a0 : 0 ≤ a) (a1 : a < 256) (b0 : 0 ≤ b) (b1 : b < 256) :
    Calls Try.prog 6 #[.int .u8 a, .int .u8 b] w fun e w' => e = .returned (.bool true) ∧ w = w' := by
  have ha0 := spread_lo a0 a1
  have ha1 := spread_hi a0 a1
  have hb0 := spread_lo b0 b1
  have hb1 := spread_hi b0 b1
  have hlt : decide (Bt.spread a < Bt.spread b) = decide (a < b) := by
    obtain ⟨a, rfl⟩ := Int.eq_ofNat_of_zero_le a0
    obtain ⟨b, rfl⟩ := Int.eq_ofNat_of_zero_le b0
    rw [Bt.spread_small a (by omega), Bt.spread_small b (by omega)]
    have := Bt.spN_lt_iff a b (by omega) (by omega)
    rw [decide_eq_decide]; omega
  have hor0 : 0 ≤ bits .or .u16 (Bt.spread a) (Bt.spread b * 2) := wrap_u16_nonneg _
  cases e1 : decide (a < b)
  all_goals
    rw [e1] at hlt
    go_enter Try.func6, Try.ntmps6
    go_wp2_with fail
    refine (known_any w).mono ?_
    rintro e w' ⟨rfl, rfl⟩
    go_wp2_with fail
    refine (spread_any a w a0 a1).mono ?_
    rintro e w' ⟨rfl, rfl⟩
    go_wp2_with fail
    refine (spread_any b w b0 b1).mono ?_
    rintro e w' ⟨rfl, rfl⟩
    go_wp2_with fail
    refine (spread_and a b w a0 a1 b0 b1).mono ?_
    rintro e w' ⟨rfl, rfl⟩
    go_wp2_with fail
    refine (spread_or a b w a0 a1 b0 b1).mono ?_
    rintro e w' ⟨rfl, rfl⟩
    go_wp2_with fail
    refine (spread_xor a b w a0 a1 b0 b1).mono ?_
    rintro e w' ⟨rfl, rfl⟩
    go_wp2_with fail
    refine (gather_even a b w a0 a1 b0 b1).mono ?_
    rintro e w' ⟨rfl, rfl⟩
    go_wp2_with fail
    refine (gather_odd a b w a0 a1 b0 b1).mono ?_
    rintro e w' ⟨rfl, rfl⟩
    go_wp2_with fail
    go_ret
    exact ⟨rfl, rfl⟩

set_option maxHeartbeats 1000000 in
theorem bitsTells_walk (l a b x n y z : Int) (w : World) (h0 : 0 ≤ l) (h1 : l < 256) (h2 : 0 ≤ a) (h3 : a < 4294967296) (h4 : 0 ≤ b) (h5 : b < 4294967296)
    (x0 : 0 ≤ x) (x1 : x < 18446744073709551616) (n1 : n < 9223372036854775808) (y0 : 0 ≤ y) (y1 : y < 256) (z0 : 0 ≤ z) (z1 : z < 65536) :
    Calls Try.prog 7 #[.int .u8 l, .int .u32 a, .int .u32 b, .int .u64 x, .int .i64 n, .int .u8 y, .int .u16 z] w fun e w' => e = .returned (.bool true) ∧ w = w' := by
  have X1 := Lib.hid x1
  clear x1
  by_cases hn : n < 1
  · go_enter Try.func7, Try.ntmps7
    go_wp2_with fail
    refine (known_any w).mono ?_
    rintro e w' ⟨rfl, rfl⟩
    go_wp2_with fail
    refine (node_any l a b w h0 h1 h2 h3 h4 h5).mono ?_
    rintro e w' ⟨rfl, rfl⟩
    go_wp2_with fail
    refine (rnode_any l a b w h0 h1 h2 h3 h4 h5).mono ?_
    rintro e w' ⟨rfl, rfl⟩
    go_wp2_with fail
    refine (mix_any x w x0 X1.out).mono ?_
    rintro e w' ⟨rfl, rfl⟩
    go_wp2_with fail
    refine (rmix_any x w x0 X1.out).mono ?_
    rintro e w' ⟨rfl, rfl⟩
    go_wp2_with fail
    refine (home_none x n w hn).mono ?_
    rintro e w' ⟨rfl, rfl⟩
    go_wp2_with fail
    refine (rhome_none x n w hn).mono ?_
    rintro e w' ⟨rfl, rfl⟩
    go_wp2_with fail
    refine (ones_any x w x0 X1.out).mono ?_
    rintro e w' ⟨rfl, rfl⟩
    go_wp2_with fail
    refine (rones_any x w x0 X1.out).mono ?_
    rintro e w' ⟨rfl, rfl⟩
    go_wp2_with fail
    refine (spread_any y w y0 y1).mono ?_
    rintro e w' ⟨rfl, rfl⟩
    go_wp2_with fail
    refine (rspread_any y w y0 y1).mono ?_
    rintro e w' ⟨rfl, rfl⟩
    go_wp2_with fail
    refine (gather_any z w z0 z1).mono ?_
    rintro e w' ⟨rfl, rfl⟩
    go_wp2_with fail
    refine (rgather_any z w z0 z1).mono ?_
    rintro e w' ⟨rfl, rfl⟩
    go_wp2_with fail
    go_ret
    exact ⟨rfl, rfl⟩
  · go_enter Try.func7, Try.ntmps7
    go_wp2_with fail
    refine (known_any w).mono ?_
    rintro e w' ⟨rfl, rfl⟩
    go_wp2_with fail
    refine (node_any l a b w h0 h1 h2 h3 h4 h5).mono ?_
    rintro e w' ⟨rfl, rfl⟩
    go_wp2_with fail
    refine (rnode_any l a b w h0 h1 h2 h3 h4 h5).mono ?_
    rintro e w' ⟨rfl, rfl⟩
    go_wp2_with fail
    refine (mix_any x w x0 X1.out).mono ?_
    rintro e w' ⟨rfl, rfl⟩
    go_wp2_with fail
    refine (rmix_any x w x0 X1.out).mono ?_
    rintro e w' ⟨rfl, rfl⟩
    go_wp2_with fail
    refine (home_any x n w x0 X1.out (by omega) n1).mono ?_
    rintro e w' ⟨rfl, rfl⟩
    go_wp2_with fail
    refine (rhome_any x n w x0 X1.out (by omega) n1).mono ?_
    rintro e w' ⟨rfl, rfl⟩
    go_wp2_with fail
    refine (ones_any x w x0 X1.out).mono ?_
    rintro e w' ⟨rfl, rfl⟩
    go_wp2_with fail
    refine (rones_any x w x0 X1.out).mono ?_
    rintro e w' ⟨rfl, rfl⟩
    go_wp2_with fail
    refine (spread_any y w y0 y1).mono ?_
    rintro e w' ⟨rfl, rfl⟩
    go_wp2_with fail
    refine (rspread_any y w y0 y1).mono ?_
    rintro e w' ⟨rfl, rfl⟩
    go_wp2_with fail
    refine (gather_any z w z0 z1).mono ?_
    rintro e w' ⟨rfl, rfl⟩
    go_wp2_with fail
    refine (rgather_any z w z0 z1).mono ?_
    rintro e w' ⟨rfl, rfl⟩
    go_wp2_with fail
    go_ret
    exact ⟨rfl, rfl⟩

end Go.Proofs.Ytkajfgeoopakkaa
