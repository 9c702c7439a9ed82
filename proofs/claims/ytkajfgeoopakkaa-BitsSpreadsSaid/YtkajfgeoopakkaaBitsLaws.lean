/-
  The walks of the laws of layer 1.
-/
import Derived.Test.YtkajfgeoopakkaaBitsKnown
namespace Go.Proofs.Ytkajfgeoopakkaa
set_option linter.unusedVariables false
open Go.RowKit

theorem spread_lo {y : Int} (h0 : 0 ≤ y) (h1 : y < 256) : 0 ≤ Bt.spread y := by
  obtain ⟨n, rfl⟩ := Int.eq_ofNat_of_zero_le h0
  rw [Bt.spread_small n (by omega)]; omega
theorem spread_hi {y : Int} (h0 : 0 ≤ y) (h1 : y < 256) : Bt.spread y < 21846 := by
  obtain ⟨n, rfl⟩ := Int.eq_ofNat_of_zero_le h0
  rw [Bt.spread_small n (by omega)]; have := Bt.spN_lt n; omega

/-- Gather of Spread: a contract of its own -/
theorem gather_spread (y : Int) (w : World) (h0 : 0 ≤ y) (h1 : y < 256) :
    Calls Try.prog 12 #[.int .u16 (Bt.spread y)] w fun e w' => e = .returned (.int .u8 y) ∧ w = w' := by
  have h := gather_any (Bt.spread y) w (spread_lo h0 h1) (by have := spread_hi h0 h1; omega)
  obtain ⟨n, rfl⟩ := Int.eq_ofNat_of_zero_le h0
  have := Bt.spN_lt n
  rw [Bt.spread_small n (by omega)] at h ⊢
  rw [Bt.gather_small _ (by omega), Bt.gaN_spN n (by omega)] at h
  exact h

theorem ones_spread (y : Int) (w : World) (h0 : 0 ≤ y) (h1 : y < 256) :
    Calls Try.prog 14 #[.int .u64 (Bt.spread y)] w fun e w' => e = .returned (.int .i64 (Bt.pc y.toNat : Int)) ∧ w = w' := by
  have h := ones_any (Bt.spread y) w (spread_lo h0 h1) (by have := spread_hi h0 h1; omega)
  obtain ⟨n, rfl⟩ := Int.eq_ofNat_of_zero_le h0
  have := Bt.spN_lt n
  rw [Bt.spread_small n (by omega)] at h ⊢
  rw [Int.toNat_natCast, Bt.pc_spN n (by omega)] at h
  exact h

theorem spread_odd {y : Int} (h0 : 0 ≤ y) (h1 : y < 256) : (bits .and .u16 (Bt.spread y) 43690 == 0) = true := by
  obtain ⟨n, rfl⟩ := Int.eq_ofNat_of_zero_le h0
  have := Bt.spN_lt n
  rw [Bt.spread_small n (by omega), show (43690 : Int) = ((43690 : Nat) : Int) from rfl, Bt.and_u16_nat _ _ (by omega) (by omega), Bt.spN_odd n (by omega)]
  rfl

theorem parts_node (l a b : Int) (w : World) (h0 : 0 ≤ l) (h1 : l < 256) (h2 : 0 ≤ a) (h3 : a < 4294967296) (h4 : 0 ≤ b) (h5 : b < 4294967296) :
    Calls Try.prog 10 #[.int .u64 (Bt.node l a b)] w fun e w' => e = .returned (.tuple #[.int .u8 l, .int .u32 (a % 268435456), .int .u32 (b % 268435456)]) ∧ w = w' := by
  have h := parts_any (Bt.node l a b) w (Bt.node_lo h0) (Bt.node_hi h1)
  rw [show Bt.node l a b / 72057594037927936 = l from by unfold Bt.node; omega, show Bt.node l a b / 268435456 % 268435456 = a % 268435456 from by unfold Bt.node; omega,
    show Bt.node l a b % 268435456 = b % 268435456 from by unfold Bt.node; omega] at h
  exact h

set_option maxHeartbeats 1000000 in
theorem bitsBack_walk (l a b y : Int) (w : World) (h0 : 0 ≤ l) (h1 : l < 256) (h2 : 0 ≤ a) (h3 : a < 4294967296) (h4 : 0 ≤ b) (h5 : b < 4294967296) (h6 : 0 ≤ y) (h7 : y < 256) :
    Calls Try.prog 3 #[.int .u8 l, .int .u32 a, .int .u32 b, .int .u8 y] w fun e w' => e = .returned (.bool true) ∧ w = w' := by
  have hs0 := spread_lo h6 h7
  have hs1 := spread_hi h6 h7
  have k1 := spread_odd h6 h7
  go_enter Try.func3, Try.ntmps3
  go_wp2_with fail
  refine (known_any w).mono ?_
  rintro e w' ⟨rfl, rfl⟩
  go_wp2_with fail
  refine (node_any l a b w h0 h1 h2 h3 h4 h5).mono ?_
  rintro e w' ⟨rfl, rfl⟩
  go_wp2_with fail
  refine (parts_node l a b w h0 h1 h2 h3 h4 h5).mono ?_
  rintro e w' ⟨rfl, rfl⟩
  go_wp2_with fail
  refine (spread_any y w h6 h7).mono ?_
  rintro e w' ⟨rfl, rfl⟩
  go_wp2_with fail
  refine (gather_spread y w h6 h7).mono ?_
  rintro e w' ⟨rfl, rfl⟩
  go_wp2_with fail
  refine (spread_any y w h6 h7).mono ?_
  rintro e w' ⟨rfl, rfl⟩
  go_wp2_with fail
  refine (ones_spread y w h6 h7).mono ?_
  rintro e w' ⟨rfl, rfl⟩
  go_wp2_with fail
  refine (ones_any y w h6 (by omega)).mono ?_
  rintro e w' ⟨rfl, rfl⟩
  go_wp2_with fail
  refine (spread_any y w h6 h7).mono ?_
  rintro e w' ⟨rfl, rfl⟩
  go_wp2_with fail
  go_ret
  exact ⟨rfl, rfl⟩


set_option maxHeartbeats 1000000 in
theorem bitsUnlike_core000 (x y a b c d : Int) (w : World) (h0 : 0 ≤ x) (H1 : Hid (x < 18446744073709551616)) (g0 : 0 ≤ y) (I1 : Hid (y < 18446744073709551616)) (a0 : 0 ≤ a) (a1 : a < 256) (b0 : 0 ≤ b) (b1 : b < 256) (c0 : 0 ≤ c) (C1 : Hid (c < 4294967296)) (d0 : 0 ≤ d) (D1 : Hid (d < 4294967296))
    (e1 : (x == y) = false) (e2 : (a == b) = false) (e3 : (c % 268435456 == d % 268435456) = false)
    (hm : (Bt.mix x == Bt.mix y) = false) (hn1 : (Bt.node a c 9 == Bt.node b d 9) = false) (hn2 : (Bt.node a 9 c == Bt.node b 9 d) = false)
    (m : Int) (hl1 : Bt.pc x.toNat ≤ 64) (hl2 : 0 ≤ m ∧ m ≤ 64) (e4 : ((Bt.pc x.toNat : Int) + m == 64) = true)
    (v : Int) (hx : Op.unary .xor (.int .u64 x) = pure (.int .u64 v)) (HO : Hid (∀ w, Calls Try.prog 14 #[.int .u64 v] w fun e w' => e = .returned (.int .i64 m) ∧ w = w')) :
    Calls Try.prog 4 #[.int .u64 x, .int .u64 y, .int .u8 a, .int .u8 b, .int .u32 c, .int .u32 d] w fun e w' => e = .returned (.bool true) ∧ w = w' := by
  go_enter Try.func4, Try.ntmps4
  go_wp2_with fail
  refine (known_any w).mono ?_
  rintro e w' ⟨rfl, rfl⟩
  go_wp2_with fail
  refine (mix_any x w h0 H1.out).mono ?_
  rintro e w' ⟨rfl, rfl⟩
  go_wp2_with fail
  refine (mix_any y w g0 I1.out).mono ?_
  rintro e w' ⟨rfl, rfl⟩
  go_wp2_with fail
  refine (node_any a c 9 w a0 a1 c0 C1.out (by omega) (by omega)).mono ?_
  rintro e w' ⟨rfl, rfl⟩
  go_wp2_with fail
  refine (node_any b d 9 w b0 b1 d0 D1.out (by omega) (by omega)).mono ?_
  rintro e w' ⟨rfl, rfl⟩
  go_wp2_with fail
  refine (node_any a 9 c w a0 a1 (by omega) (by omega) c0 C1.out).mono ?_
  rintro e w' ⟨rfl, rfl⟩
  go_wp2_with fail
  refine (node_any b 9 d w b0 b1 (by omega) (by omega) d0 D1.out).mono ?_
  rintro e w' ⟨rfl, rfl⟩
  go_wp2_with fail
  refine (ones_any x w h0 H1.out).mono ?_
  rintro e w' ⟨rfl, rfl⟩
  go_wp2_with fail
  refine (HO.out w).mono ?_
  rintro e w' ⟨rfl, rfl⟩
  go_wp2_with fail
  go_ret
  exact ⟨rfl, rfl⟩

set_option maxHeartbeats 1000000 in
theorem bitsUnlike_core001 (x y a b c d : Int) (w : World) (h0 : 0 ≤ x) (H1 : Hid (x < 18446744073709551616)) (g0 : 0 ≤ y) (I1 : Hid (y < 18446744073709551616)) (a0 : 0 ≤ a) (a1 : a < 256) (b0 : 0 ≤ b) (b1 : b < 256) (c0 : 0 ≤ c) (C1 : Hid (c < 4294967296)) (d0 : 0 ≤ d) (D1 : Hid (d < 4294967296))
    (e1 : (x == y) = false) (e2 : (a == b) = false) (e3 : (c % 268435456 == d % 268435456) = true)
    (hm : (Bt.mix x == Bt.mix y) = false) (hn1 : (Bt.node a c 9 == Bt.node b d 9) = false) (hn2 : (Bt.node a 9 c == Bt.node b 9 d) = false)
    (m : Int) (hl1 : Bt.pc x.toNat ≤ 64) (hl2 : 0 ≤ m ∧ m ≤ 64) (e4 : ((Bt.pc x.toNat : Int) + m == 64) = true)
    (v : Int) (hx : Op.unary .xor (.int .u64 x) = pure (.int .u64 v)) (HO : Hid (∀ w, Calls Try.prog 14 #[.int .u64 v] w fun e w' => e = .returned (.int .i64 m) ∧ w = w')) :
    Calls Try.prog 4 #[.int .u64 x, .int .u64 y, .int .u8 a, .int .u8 b, .int .u32 c, .int .u32 d] w fun e w' => e = .returned (.bool true) ∧ w = w' := by
  go_enter Try.func4, Try.ntmps4
  go_wp2_with fail
  refine (known_any w).mono ?_
  rintro e w' ⟨rfl, rfl⟩
  go_wp2_with fail
  refine (mix_any x w h0 H1.out).mono ?_
  rintro e w' ⟨rfl, rfl⟩
  go_wp2_with fail
  refine (mix_any y w g0 I1.out).mono ?_
  rintro e w' ⟨rfl, rfl⟩
  go_wp2_with fail
  refine (node_any a c 9 w a0 a1 c0 C1.out (by omega) (by omega)).mono ?_
  rintro e w' ⟨rfl, rfl⟩
  go_wp2_with fail
  refine (node_any b d 9 w b0 b1 d0 D1.out (by omega) (by omega)).mono ?_
  rintro e w' ⟨rfl, rfl⟩
  go_wp2_with fail
  refine (node_any a 9 c w a0 a1 (by omega) (by omega) c0 C1.out).mono ?_
  rintro e w' ⟨rfl, rfl⟩
  go_wp2_with fail
  refine (node_any b 9 d w b0 b1 (by omega) (by omega) d0 D1.out).mono ?_
  rintro e w' ⟨rfl, rfl⟩
  go_wp2_with fail
  refine (ones_any x w h0 H1.out).mono ?_
  rintro e w' ⟨rfl, rfl⟩
  go_wp2_with fail
  refine (HO.out w).mono ?_
  rintro e w' ⟨rfl, rfl⟩
  go_wp2_with fail
  go_ret
  exact ⟨rfl, rfl⟩

set_option maxHeartbeats 1000000 in
theorem bitsUnlike_core010 (x y a b c d : Int) (w : World) (h0 : 0 ≤ x) (H1 : Hid (x < 18446744073709551616)) (g0 : 0 ≤ y) (I1 : Hid (y < 18446744073709551616)) (a0 : 0 ≤ a) (a1 : a < 256) (b0 : 0 ≤ b) (b1 : b < 256) (c0 : 0 ≤ c) (C1 : Hid (c < 4294967296)) (d0 : 0 ≤ d) (D1 : Hid (d < 4294967296))
    (e1 : (x == y) = false) (e2 : (a == b) = true) (e3 : (c % 268435456 == d % 268435456) = false)
    (hm : (Bt.mix x == Bt.mix y) = false) (hn1 : (Bt.node a c 9 == Bt.node b d 9) = false) (hn2 : (Bt.node a 9 c == Bt.node b 9 d) = false)
    (m : Int) (hl1 : Bt.pc x.toNat ≤ 64) (hl2 : 0 ≤ m ∧ m ≤ 64) (e4 : ((Bt.pc x.toNat : Int) + m == 64) = true)
    (v : Int) (hx : Op.unary .xor (.int .u64 x) = pure (.int .u64 v)) (HO : Hid (∀ w, Calls Try.prog 14 #[.int .u64 v] w fun e w' => e = .returned (.int .i64 m) ∧ w = w')) :
    Calls Try.prog 4 #[.int .u64 x, .int .u64 y, .int .u8 a, .int .u8 b, .int .u32 c, .int .u32 d] w fun e w' => e = .returned (.bool true) ∧ w = w' := by
  go_enter Try.func4, Try.ntmps4
  go_wp2_with fail
  refine (known_any w).mono ?_
  rintro e w' ⟨rfl, rfl⟩
  go_wp2_with fail
  refine (mix_any x w h0 H1.out).mono ?_
  rintro e w' ⟨rfl, rfl⟩
  go_wp2_with fail
  refine (mix_any y w g0 I1.out).mono ?_
  rintro e w' ⟨rfl, rfl⟩
  go_wp2_with fail
  refine (node_any a c 9 w a0 a1 c0 C1.out (by omega) (by omega)).mono ?_
  rintro e w' ⟨rfl, rfl⟩
  go_wp2_with fail
  refine (node_any b d 9 w b0 b1 d0 D1.out (by omega) (by omega)).mono ?_
  rintro e w' ⟨rfl, rfl⟩
  go_wp2_with fail
  refine (node_any a 9 c w a0 a1 (by omega) (by omega) c0 C1.out).mono ?_
  rintro e w' ⟨rfl, rfl⟩
  go_wp2_with fail
  refine (node_any b 9 d w b0 b1 (by omega) (by omega) d0 D1.out).mono ?_
  rintro e w' ⟨rfl, rfl⟩
  go_wp2_with fail
  refine (ones_any x w h0 H1.out).mono ?_
  rintro e w' ⟨rfl, rfl⟩
  go_wp2_with fail
  refine (HO.out w).mono ?_
  rintro e w' ⟨rfl, rfl⟩
  go_wp2_with fail
  go_ret
  exact ⟨rfl, rfl⟩

set_option maxHeartbeats 1000000 in
theorem bitsUnlike_core011 (x y a b c d : Int) (w : World) (h0 : 0 ≤ x) (H1 : Hid (x < 18446744073709551616)) (g0 : 0 ≤ y) (I1 : Hid (y < 18446744073709551616)) (a0 : 0 ≤ a) (a1 : a < 256) (b0 : 0 ≤ b) (b1 : b < 256) (c0 : 0 ≤ c) (C1 : Hid (c < 4294967296)) (d0 : 0 ≤ d) (D1 : Hid (d < 4294967296))
    (e1 : (x == y) = false) (e2 : (a == b) = true) (e3 : (c % 268435456 == d % 268435456) = true)
    (hm : (Bt.mix x == Bt.mix y) = false) (hn1 : (Bt.node a c 9 == Bt.node b d 9) = true) (hn2 : (Bt.node a 9 c == Bt.node b 9 d) = true)
    (m : Int) (hl1 : Bt.pc x.toNat ≤ 64) (hl2 : 0 ≤ m ∧ m ≤ 64) (e4 : ((Bt.pc x.toNat : Int) + m == 64) = true)
    (v : Int) (hx : Op.unary .xor (.int .u64 x) = pure (.int .u64 v)) (HO : Hid (∀ w, Calls Try.prog 14 #[.int .u64 v] w fun e w' => e = .returned (.int .i64 m) ∧ w = w')) :
    Calls Try.prog 4 #[.int .u64 x, .int .u64 y, .int .u8 a, .int .u8 b, .int .u32 c, .int .u32 d] w fun e w' => e = .returned (.bool true) ∧ w = w' := by
  go_enter Try.func4, Try.ntmps4
  go_wp2_with fail
  refine (known_any w).mono ?_
  rintro e w' ⟨rfl, rfl⟩
  go_wp2_with fail
  refine (mix_any x w h0 H1.out).mono ?_
  rintro e w' ⟨rfl, rfl⟩
  go_wp2_with fail
  refine (mix_any y w g0 I1.out).mono ?_
  rintro e w' ⟨rfl, rfl⟩
  go_wp2_with fail
  refine (node_any a c 9 w a0 a1 c0 C1.out (by omega) (by omega)).mono ?_
  rintro e w' ⟨rfl, rfl⟩
  go_wp2_with fail
  refine (node_any b d 9 w b0 b1 d0 D1.out (by omega) (by omega)).mono ?_
  rintro e w' ⟨rfl, rfl⟩
  go_wp2_with fail
  refine (node_any a 9 c w a0 a1 (by omega) (by omega) c0 C1.out).mono ?_
  rintro e w' ⟨rfl, rfl⟩
  go_wp2_with fail
  refine (node_any b 9 d w b0 b1 (by omega) (by omega) d0 D1.out).mono ?_
  rintro e w' ⟨rfl, rfl⟩
  go_wp2_with fail
  refine (ones_any x w h0 H1.out).mono ?_
  rintro e w' ⟨rfl, rfl⟩
  go_wp2_with fail
  refine (HO.out w).mono ?_
  rintro e w' ⟨rfl, rfl⟩
  go_wp2_with fail
  go_ret
  exact ⟨rfl, rfl⟩

set_option maxHeartbeats 1000000 in
theorem bitsUnlike_core100 (x y a b c d : Int) (w : World) (h0 : 0 ≤ x) (H1 : Hid (x < 18446744073709551616)) (g0 : 0 ≤ y) (I1 : Hid (y < 18446744073709551616)) (a0 : 0 ≤ a) (a1 : a < 256) (b0 : 0 ≤ b) (b1 : b < 256) (c0 : 0 ≤ c) (C1 : Hid (c < 4294967296)) (d0 : 0 ≤ d) (D1 : Hid (d < 4294967296))
    (e1 : (x == y) = true) (e2 : (a == b) = false) (e3 : (c % 268435456 == d % 268435456) = false)
    (hm : (Bt.mix x == Bt.mix y) = true) (hn1 : (Bt.node a c 9 == Bt.node b d 9) = false) (hn2 : (Bt.node a 9 c == Bt.node b 9 d) = false)
    (m : Int) (hl1 : Bt.pc x.toNat ≤ 64) (hl2 : 0 ≤ m ∧ m ≤ 64) (e4 : ((Bt.pc x.toNat : Int) + m == 64) = true)
    (v : Int) (hx : Op.unary .xor (.int .u64 x) = pure (.int .u64 v)) (HO : Hid (∀ w, Calls Try.prog 14 #[.int .u64 v] w fun e w' => e = .returned (.int .i64 m) ∧ w = w')) :
    Calls Try.prog 4 #[.int .u64 x, .int .u64 y, .int .u8 a, .int .u8 b, .int .u32 c, .int .u32 d] w fun e w' => e = .returned (.bool true) ∧ w = w' := by
  go_enter Try.func4, Try.ntmps4
  go_wp2_with fail
  refine (known_any w).mono ?_
  rintro e w' ⟨rfl, rfl⟩
  go_wp2_with fail
  refine (mix_any x w h0 H1.out).mono ?_
  rintro e w' ⟨rfl, rfl⟩
  go_wp2_with fail
  refine (mix_any y w g0 I1.out).mono ?_
  rintro e w' ⟨rfl, rfl⟩
  go_wp2_with fail
  refine (node_any a c 9 w a0 a1 c0 C1.out (by omega) (by omega)).mono ?_
  rintro e w' ⟨rfl, rfl⟩
  go_wp2_with fail
  refine (node_any b d 9 w b0 b1 d0 D1.out (by omega) (by omega)).mono ?_
  rintro e w' ⟨rfl, rfl⟩
  go_wp2_with fail
  refine (node_any a 9 c w a0 a1 (by omega) (by omega) c0 C1.out).mono ?_
  rintro e w' ⟨rfl, rfl⟩
  go_wp2_with fail
  refine (node_any b 9 d w b0 b1 (by omega) (by omega) d0 D1.out).mono ?_
  rintro e w' ⟨rfl, rfl⟩
  go_wp2_with fail
  refine (ones_any x w h0 H1.out).mono ?_
  rintro e w' ⟨rfl, rfl⟩
  go_wp2_with fail
  refine (HO.out w).mono ?_
  rintro e w' ⟨rfl, rfl⟩
  go_wp2_with fail
  go_ret
  exact ⟨rfl, rfl⟩

set_option maxHeartbeats 1000000 in
theorem bitsUnlike_core101 (x y a b c d : Int) (w : World) (h0 : 0 ≤ x) (H1 : Hid (x < 18446744073709551616)) (g0 : 0 ≤ y) (I1 : Hid (y < 18446744073709551616)) (a0 : 0 ≤ a) (a1 : a < 256) (b0 : 0 ≤ b) (b1 : b < 256) (c0 : 0 ≤ c) (C1 : Hid (c < 4294967296)) (d0 : 0 ≤ d) (D1 : Hid (d < 4294967296))
    (e1 : (x == y) = true) (e2 : (a == b) = false) (e3 : (c % 268435456 == d % 268435456) = true)
    (hm : (Bt.mix x == Bt.mix y) = true) (hn1 : (Bt.node a c 9 == Bt.node b d 9) = false) (hn2 : (Bt.node a 9 c == Bt.node b 9 d) = false)
    (m : Int) (hl1 : Bt.pc x.toNat ≤ 64) (hl2 : 0 ≤ m ∧ m ≤ 64) (e4 : ((Bt.pc x.toNat : Int) + m == 64) = true)
    (v : Int) (hx : Op.unary .xor (.int .u64 x) = pure (.int .u64 v)) (HO : Hid (∀ w, Calls Try.prog 14 #[.int .u64 v] w fun e w' => e = .returned (.int .i64 m) ∧ w = w')) :
    Calls Try.prog 4 #[.int .u64 x, .int .u64 y, .int .u8 a, .int .u8 b, .int .u32 c, .int .u32 d] w fun e w' => e = .returned (.bool true) ∧ w = w' := by
  go_enter Try.func4, Try.ntmps4
  go_wp2_with fail
  refine (known_any w).mono ?_
  rintro e w' ⟨rfl, rfl⟩
  go_wp2_with fail
  refine (mix_any x w h0 H1.out).mono ?_
  rintro e w' ⟨rfl, rfl⟩
  go_wp2_with fail
  refine (mix_any y w g0 I1.out).mono ?_
  rintro e w' ⟨rfl, rfl⟩
  go_wp2_with fail
  refine (node_any a c 9 w a0 a1 c0 C1.out (by omega) (by omega)).mono ?_
  rintro e w' ⟨rfl, rfl⟩
  go_wp2_with fail
  refine (node_any b d 9 w b0 b1 d0 D1.out (by omega) (by omega)).mono ?_
  rintro e w' ⟨rfl, rfl⟩
  go_wp2_with fail
  refine (node_any a 9 c w a0 a1 (by omega) (by omega) c0 C1.out).mono ?_
  rintro e w' ⟨rfl, rfl⟩
  go_wp2_with fail
  refine (node_any b 9 d w b0 b1 (by omega) (by omega) d0 D1.out).mono ?_
  rintro e w' ⟨rfl, rfl⟩
  go_wp2_with fail
  refine (ones_any x w h0 H1.out).mono ?_
  rintro e w' ⟨rfl, rfl⟩
  go_wp2_with fail
  refine (HO.out w).mono ?_
  rintro e w' ⟨rfl, rfl⟩
  go_wp2_with fail
  go_ret
  exact ⟨rfl, rfl⟩

set_option maxHeartbeats 1000000 in
theorem bitsUnlike_core110 (x y a b c d : Int) (w : World) (h0 : 0 ≤ x) (H1 : Hid (x < 18446744073709551616)) (g0 : 0 ≤ y) (I1 : Hid (y < 18446744073709551616)) (a0 : 0 ≤ a) (a1 : a < 256) (b0 : 0 ≤ b) (b1 : b < 256) (c0 : 0 ≤ c) (C1 : Hid (c < 4294967296)) (d0 : 0 ≤ d) (D1 : Hid (d < 4294967296))
    (e1 : (x == y) = true) (e2 : (a == b) = true) (e3 : (c % 268435456 == d % 268435456) = false)
    (hm : (Bt.mix x == Bt.mix y) = true) (hn1 : (Bt.node a c 9 == Bt.node b d 9) = false) (hn2 : (Bt.node a 9 c == Bt.node b 9 d) = false)
    (m : Int) (hl1 : Bt.pc x.toNat ≤ 64) (hl2 : 0 ≤ m ∧ m ≤ 64) (e4 : ((Bt.pc x.toNat : Int) + m == 64) = true)
    (v : Int) (hx : Op.unary .xor (.int .u64 x) = pure (.int .u64 v)) (HO : Hid (∀ w, Calls Try.prog 14 #[.int .u64 v] w fun e w' => e = .returned (.int .i64 m) ∧ w = w')) :
    Calls Try.prog 4 #[.int .u64 x, .int .u64 y, .int .u8 a, .int .u8 b, .int .u32 c, .int .u32 d] w fun e w' => e = .returned (.bool true) ∧ w = w' := by
  go_enter Try.func4, Try.ntmps4
  go_wp2_with fail
  refine (known_any w).mono ?_
  rintro e w' ⟨rfl, rfl⟩
  go_wp2_with fail
  refine (mix_any x w h0 H1.out).mono ?_
  rintro e w' ⟨rfl, rfl⟩
  go_wp2_with fail
  refine (mix_any y w g0 I1.out).mono ?_
  rintro e w' ⟨rfl, rfl⟩
  go_wp2_with fail
  refine (node_any a c 9 w a0 a1 c0 C1.out (by omega) (by omega)).mono ?_
  rintro e w' ⟨rfl, rfl⟩
  go_wp2_with fail
  refine (node_any b d 9 w b0 b1 d0 D1.out (by omega) (by omega)).mono ?_
  rintro e w' ⟨rfl, rfl⟩
  go_wp2_with fail
  refine (node_any a 9 c w a0 a1 (by omega) (by omega) c0 C1.out).mono ?_
  rintro e w' ⟨rfl, rfl⟩
  go_wp2_with fail
  refine (node_any b 9 d w b0 b1 (by omega) (by omega) d0 D1.out).mono ?_
  rintro e w' ⟨rfl, rfl⟩
  go_wp2_with fail
  refine (ones_any x w h0 H1.out).mono ?_
  rintro e w' ⟨rfl, rfl⟩
  go_wp2_with fail
  refine (HO.out w).mono ?_
  rintro e w' ⟨rfl, rfl⟩
  go_wp2_with fail
  go_ret
  exact ⟨rfl, rfl⟩

set_option maxHeartbeats 1000000 in
theorem bitsUnlike_core111 (x y a b c d : Int) (w : World) (h0 : 0 ≤ x) (H1 : Hid (x < 18446744073709551616)) (g0 : 0 ≤ y) (I1 : Hid (y < 18446744073709551616)) (a0 : 0 ≤ a) (a1 : a < 256) (b0 : 0 ≤ b) (b1 : b < 256) (c0 : 0 ≤ c) (C1 : Hid (c < 4294967296)) (d0 : 0 ≤ d) (D1 : Hid (d < 4294967296))
    (e1 : (x == y) = true) (e2 : (a == b) = true) (e3 : (c % 268435456 == d % 268435456) = true)
    (hm : (Bt.mix x == Bt.mix y) = true) (hn1 : (Bt.node a c 9 == Bt.node b d 9) = true) (hn2 : (Bt.node a 9 c == Bt.node b 9 d) = true)
    (m : Int) (hl1 : Bt.pc x.toNat ≤ 64) (hl2 : 0 ≤ m ∧ m ≤ 64) (e4 : ((Bt.pc x.toNat : Int) + m == 64) = true)
    (v : Int) (hx : Op.unary .xor (.int .u64 x) = pure (.int .u64 v)) (HO : Hid (∀ w, Calls Try.prog 14 #[.int .u64 v] w fun e w' => e = .returned (.int .i64 m) ∧ w = w')) :
    Calls Try.prog 4 #[.int .u64 x, .int .u64 y, .int .u8 a, .int .u8 b, .int .u32 c, .int .u32 d] w fun e w' => e = .returned (.bool true) ∧ w = w' := by
  go_enter Try.func4, Try.ntmps4
  go_wp2_with fail
  refine (known_any w).mono ?_
  rintro e w' ⟨rfl, rfl⟩
  go_wp2_with fail
  refine (mix_any x w h0 H1.out).mono ?_
  rintro e w' ⟨rfl, rfl⟩
  go_wp2_with fail
  refine (mix_any y w g0 I1.out).mono ?_
  rintro e w' ⟨rfl, rfl⟩
  go_wp2_with fail
  refine (node_any a c 9 w a0 a1 c0 C1.out (by omega) (by omega)).mono ?_
  rintro e w' ⟨rfl, rfl⟩
  go_wp2_with fail
  refine (node_any b d 9 w b0 b1 d0 D1.out (by omega) (by omega)).mono ?_
  rintro e w' ⟨rfl, rfl⟩
  go_wp2_with fail
  refine (node_any a 9 c w a0 a1 (by omega) (by omega) c0 C1.out).mono ?_
  rintro e w' ⟨rfl, rfl⟩
  go_wp2_with fail
  refine (node_any b 9 d w b0 b1 (by omega) (by omega) d0 D1.out).mono ?_
  rintro e w' ⟨rfl, rfl⟩
  go_wp2_with fail
  refine (ones_any x w h0 H1.out).mono ?_
  rintro e w' ⟨rfl, rfl⟩
  go_wp2_with fail
  refine (HO.out w).mono ?_
  rintro e w' ⟨rfl, rfl⟩
  go_wp2_with fail
  go_ret
  exact ⟨rfl, rfl⟩

set_option maxHeartbeats 1000000 in
theorem bitsUnlike_walk (x y a b c d : Int) (w : World) (h0 : 0 ≤ x) (h1 : x < 18446744073709551616) (g0 : 0 ≤ y) (g1 : y < 18446744073709551616) (a0 : 0 ≤ a) (a1 : a < 256) (b0 : 0 ≤ b) (b1 : b < 256) (c0 : 0 ≤ c) (c1 : c < 4294967296) (d0 : 0 ≤ d) (d1 : d < 4294967296) :
    Calls Try.prog 4 #[.int .u64 x, .int .u64 y, .int .u8 a, .int .u8 b, .int .u32 c, .int .u32 d] w fun e w' => e = .returned (.bool true) ∧ w = w' := by
  have hm : (Bt.mix x == Bt.mix y) = (x == y) := by
    rw [Bool.eq_iff_iff, beq_iff_eq, beq_iff_eq]
    exact ⟨Bt.mix_inj h0 h1 g0 g1, fun h => by rw [h]⟩
  have hn1 : (Bt.node a c 9 == Bt.node b d 9) = (a == b && (c % 268435456 == d % 268435456)) := by
    rw [Bool.eq_iff_iff, Bool.and_eq_true, beq_iff_eq, beq_iff_eq, beq_iff_eq]
    exact ⟨fun h => ⟨(Bt.node_inj h).1, (Bt.node_inj h).2.1⟩, fun h => by unfold Bt.node; omega⟩
  have hn2 : (Bt.node a 9 c == Bt.node b 9 d) = (a == b && (c % 268435456 == d % 268435456)) := by
    rw [Bool.eq_iff_iff, Bool.and_eq_true, beq_iff_eq, beq_iff_eq, beq_iff_eq]
    exact ⟨fun h => ⟨(Bt.node_inj h).1, (Bt.node_inj h).2.2⟩, fun h => by unfold Bt.node; omega⟩
  have hnot := Bt.not_u64 h0 h1
  have hpc := Bt.pc_not h0 h1
  have hl1 := Bt.pc_le x.toNat
  have hl2 := Bt.pc_le (18446744073709551615 - x).toNat
  have HN := Lib.hid hnot
  have G0 : 0 ≤ 18446744073709551615 - x ∧ 18446744073709551615 - x < 18446744073709551616 := by omega
  have HG := Lib.hid G0
  have e4 : ((Bt.pc x.toNat : Int) + (Bt.pc (18446744073709551615 - x).toNat : Int) == 64) = true := by rw [hpc]; rfl
  have H1 := Lib.hid h1
  have I1 := Lib.hid g1
  have C1 := Lib.hid c1
  have D1 := Lib.hid d1
  have ones2 : ∀ w, Calls Try.prog 14 #[.int .u64 (18446744073709551615 - x)] w fun e w' => e = .returned (.int .i64 (Bt.pc (18446744073709551615 - x).toNat : Int)) ∧ w = w' := fun w => ones_any _ w G0.1 G0.2
  have hu : Op.unary .xor (.int .u64 x) = pure (.int .u64 (18446744073709551615 - x)) := by
    rw [unary_xor, ← hnot]; rfl
  have HO := Lib.hid ones2
  clear hnot hpc G0 h1 g1 c1 d1 ones2
  cases e1 : (x == y) <;> cases e2 : (a == b) <;> cases e3 : (c % 268435456 == d % 268435456)
  · exact bitsUnlike_core000 x y a b c d w h0 H1 g0 I1 a0 a1 b0 b1 c0 C1 d0 D1 e1 e2 e3 (hm.trans e1) (by rw [hn1, e2, e3]; rfl) (by rw [hn2, e2, e3]; rfl) _ hl1 (by omega) e4 _ hu HO
  · exact bitsUnlike_core001 x y a b c d w h0 H1 g0 I1 a0 a1 b0 b1 c0 C1 d0 D1 e1 e2 e3 (hm.trans e1) (by rw [hn1, e2, e3]; rfl) (by rw [hn2, e2, e3]; rfl) _ hl1 (by omega) e4 _ hu HO
  · exact bitsUnlike_core010 x y a b c d w h0 H1 g0 I1 a0 a1 b0 b1 c0 C1 d0 D1 e1 e2 e3 (hm.trans e1) (by rw [hn1, e2, e3]; rfl) (by rw [hn2, e2, e3]; rfl) _ hl1 (by omega) e4 _ hu HO
  · exact bitsUnlike_core011 x y a b c d w h0 H1 g0 I1 a0 a1 b0 b1 c0 C1 d0 D1 e1 e2 e3 (hm.trans e1) (by rw [hn1, e2, e3]; rfl) (by rw [hn2, e2, e3]; rfl) _ hl1 (by omega) e4 _ hu HO
  · exact bitsUnlike_core100 x y a b c d w h0 H1 g0 I1 a0 a1 b0 b1 c0 C1 d0 D1 e1 e2 e3 (hm.trans e1) (by rw [hn1, e2, e3]; rfl) (by rw [hn2, e2, e3]; rfl) _ hl1 (by omega) e4 _ hu HO
  · exact bitsUnlike_core101 x y a b c d w h0 H1 g0 I1 a0 a1 b0 b1 c0 C1 d0 D1 e1 e2 e3 (hm.trans e1) (by rw [hn1, e2, e3]; rfl) (by rw [hn2, e2, e3]; rfl) _ hl1 (by omega) e4 _ hu HO
  · exact bitsUnlike_core110 x y a b c d w h0 H1 g0 I1 a0 a1 b0 b1 c0 C1 d0 D1 e1 e2 e3 (hm.trans e1) (by rw [hn1, e2, e3]; rfl) (by rw [hn2, e2, e3]; rfl) _ hl1 (by omega) e4 _ hu HO
  · exact bitsUnlike_core111 x y a b c d w h0 H1 g0 I1 a0 a1 b0 b1 c0 C1 d0 D1 e1 e2 e3 (hm.trans e1) (by rw [hn1, e2, e3]; rfl) (by rw [hn2, e2, e3]; rfl) _ hl1 (by omega) e4 _ hu HO

set_option maxHeartbeats 1000000 in
theorem bitsUnmix_walk (x : Int) (w : World) (h0 : 0 ≤ x) (h1 : x < 18446744073709551616) :
    Calls Try.prog 5 #[.int .u64 x] w fun e w' => e = .returned (.bool true) ∧ w = w' := by
  have e := Bt.unmix_walk h0 h1
  have hb : (_ == x) = true := beq_iff_eq.2 e
  have hl := Bt.mix_lo x
  clear e
  have H1 := Lib.hid h1
  clear h1
  go_enter Try.func5, Try.ntmps5
  go_wp2_with fail
  refine (known_any w).mono ?_
  rintro e w' ⟨rfl, rfl⟩
  go_wp2_with fail
  refine (mix_any x w h0 H1.out).mono ?_
  rintro e w' ⟨rfl, rfl⟩
  go_wp2_with fail
  go_ret
  exact ⟨rfl, rfl⟩

set_option maxHeartbeats 1000000 in
theorem bitsHomes_walk (x n : Int) (w : World) (h0 : 0 ≤ x) (h1 : x < 18446744073709551616) (n0 : 0 ≤ n) (n1 : n < 65536) :
    Calls Try.prog 8 #[.int .u64 x, .int .u16 n] w fun e w' => e = .returned (.bool true) ∧ w = w' := by
  have hl := Bt.mix_lo x
  have H1 := Lib.hid h1
  clear h1
  by_cases hn : n = 0
  · subst hn
    go_enter Try.func8, Try.ntmps8
    go_wp2_with fail
    refine (known_any w).mono ?_
    rintro e w' ⟨rfl, rfl⟩
    go_wp2_with fail
    refine (home_none x 0 w (by omega)).mono ?_
    rintro e w' ⟨rfl, rfl⟩
    go_wp2_with fail
    refine (home_none x (-5) w (by omega)).mono ?_
    rintro e w' ⟨rfl, rfl⟩
    go_wp2_with fail
    go_ret
    exact ⟨rfl, rfl⟩
  · have hz : (n == 0) = false := beq_eq_false_iff_ne.2 hn
    have hn1 : 1 ≤ n := by omega
    have hr0 : 0 ≤ Bt.mix x % n := Int.emod_nonneg _ (by omega)
    have hr1 : Bt.mix x % n < n := Int.emod_lt_of_pos _ (by omega)
    have home1 : ∀ w, Calls Try.prog 18 #[.int .u64 x, .int .i64 1] w fun e w' => e = .returned (.int .i64 0) ∧ w = w' := fun w => by
      have h := home_any x 1 w h0 H1.out (by omega) (by omega)
      rw [Int.emod_one] at h
      exact h
    have HO := Lib.hid home1
    clear home1 hn
    go_enter Try.func8, Try.ntmps8
    go_wp2_with fail
    refine (known_any w).mono ?_
    rintro e w' ⟨rfl, rfl⟩
    go_wp2_with fail
    refine (home_any x n w h0 H1.out hn1 (by omega)).mono ?_
    rintro e w' ⟨rfl, rfl⟩
    go_wp2_with fail
    refine (mix_any x w h0 H1.out).mono ?_
    rintro e w' ⟨rfl, rfl⟩
    go_wp2_with fail
    refine (HO.out w).mono ?_
    rintro e w' ⟨rfl, rfl⟩
    go_wp2_with fail
    go_ret
    exact ⟨rfl, rfl⟩

end Go.Proofs.Ytkajfgeoopakkaa
