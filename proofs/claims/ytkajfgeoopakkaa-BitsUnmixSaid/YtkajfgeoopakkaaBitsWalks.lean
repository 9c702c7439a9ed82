/-
  The walks of package bits: what each function answers.
-/
import Derived.Test.YtkajfgeoopakkaaRows
import Derived.Test.YtkajfgeoopakkaaBitsPlain
import Derived.WalkKit
import Derived.WalkSpells
import Derived.WalkLawsBesides
import Derived.Lib.Hide
namespace Go.Proofs.Ytkajfgeoopakkaa
set_option linter.unusedVariables false
open Go.RowKit

set_option maxHeartbeats 400000 in
theorem mix_any (x : Int) (w : World) (h0 : 0 ≤ x) (h1 : x < 18446744073709551616) :
    Calls Try.prog 15 #[.int .u64 x] w fun e w' => e = .returned (.int .u64 (Bt.mix x)) ∧ w = w' := by
  have hm := Bt.mix_walk h0 h1
  have Hm := Lib.hid hm
  clear hm
  have i0 : ∀ w, (Instr.index 41 (.agg #[.int .u64 18397679294719823053, .int .u64 14181476777654086739]) (.int .i64 0)).run Try.prog w = .ok (.int .u64 18397679294719823053) w := fun _ => by kernel_rfl
  have i1 : ∀ w, (Instr.index 41 (.agg #[.int .u64 18397679294719823053, .int .u64 14181476777654086739]) (.int .i64 1)).run Try.prog w = .ok (.int .u64 14181476777654086739) w := fun _ => by kernel_rfl
  go_enter Try.func15, Try.ntmps15
  go_wp2
  refine wp_loop_rounds 3 ?_
  rw [rounds_succ]
  go_wp2
  rw [rounds_succ]
  go_wp2
  rw [rounds_succ]
  go_wp2
  go_ret
  exact ⟨congrArg (fun n => Ending.returned (.int .u64 n)) Hm.out, rfl⟩

set_option maxHeartbeats 400000 in
theorem node_any (l a b : Int) (w : World) (h0 : 0 ≤ l) (h1 : l < 256) (h2 : 0 ≤ a) (h3 : a < 4294967296) (h4 : 0 ≤ b) (h5 : b < 4294967296) :
    Calls Try.prog 11 #[.int .u8 l, .int .u32 a, .int .u32 b] w fun e w' => e = .returned (.int .u64 (Bt.node l a b)) ∧ w = w' := by
  have hm := Bt.node_walk h0 h1 h2 h3 h4 h5
  have Hm := Lib.hid hm
  clear hm
  go_enter Try.func11, Try.ntmps11
  go_wp2
  go_ret
  exact ⟨congrArg (fun n => Ending.returned (.int .u64 n)) Hm.out, rfl⟩

set_option maxHeartbeats 400000 in
theorem parts_any (x : Int) (w : World) (h0 : 0 ≤ x) (h1 : x < 18446744073709551616) :
    Calls Try.prog 10 #[.int .u64 x] w fun e w' => e = .returned (.tuple #[.int .u8 (x / 72057594037927936), .int .u32 (x / 268435456 % 268435456), .int .u32 (x % 268435456)]) ∧ w = w' := by
  have e1 : bits .and .u64 (x / 268435456) 268435455 % 4294967296 = x / 268435456 % 268435456 := by rw [Bt.mask28_u64 (by omega) (by omega)]; omega
  have e2 : bits .and .u64 x 268435455 % 4294967296 = x % 268435456 := by rw [Bt.mask28_u64 (by omega) (by omega)]; omega
  have E1 := Lib.hid e1
  have E2 := Lib.hid e2
  clear e1 e2
  go_enter Try.func10, Try.ntmps10
  go_wp2
  go_ret3
  exact ⟨by rw [← E1.out, ← E2.out]; rfl, rfl⟩

set_option maxHeartbeats 400000 in
theorem home_any (x n : Int) (w : World) (h0 : 0 ≤ x) (h1 : x < 18446744073709551616) (h2 : 1 ≤ n) (h3 : n < 9223372036854775808) :
    Calls Try.prog 18 #[.int .u64 x, .int .i64 n] w fun e w' => e = .returned (.int .i64 (Bt.mix x % n)) ∧ w = w' := by
  have hl := Bt.mix_lo x
  have hr0 : 0 ≤ Bt.mix x % n := Int.emod_nonneg _ (by omega)
  have hr1 : Bt.mix x % n < n := Int.emod_lt_of_pos _ (by omega)
  have H1 := Lib.hid h1
  clear h1
  go_enter Try.func18, Try.ntmps18
  go_wp2_with (go_at_call 15; refine (mix_any x w h0 H1.out).mono ?_; rintro e w' ⟨rfl, rfl⟩)
  go_ret
  exact ⟨rfl, rfl⟩

set_option maxHeartbeats 400000 in
theorem home_none (x n : Int) (w : World) (h2 : n < 1) :
    Calls Try.prog 18 #[.int .u64 x, .int .i64 n] w fun e w' => e = .returned (.int .i64 0) ∧ w = w' := by
  go_enter Try.func18, Try.ntmps18
  go_wp2_with fail
  go_ret
  exact ⟨rfl, rfl⟩

set_option maxHeartbeats 400000 in
theorem ones_nat (x : Nat) (w : World) (h1 : x < 18446744073709551616) :
    Calls Try.prog 14 #[.int .u64 (x : Int)] w fun e w' => e = .returned (.int .i64 (Bt.pc x : Int)) ∧ w = w' := by
  have hp := Bt.pc_le x
  go_enter Try.func14, Try.ntmps14
  go_wp2
  go_loop [0, 3] (fun x' n => ∃ k y : Nat, k + Bt.pc y = Bt.pc x ∧ y < 18446744073709551616 ∧ n = .int .i64 k ∧ x' = .int .u64 y) (fun x _ => (intOf x).toNat)
  case atStart => exact ⟨0, x, by omega, h1, rfl, rfl⟩
  case round =>
    obtain ⟨k, y, hk, hy, rfl, rfl⟩ := hrel
    have Hk := Lib.hid hk
    have hkl : k ≤ 64 := by omega
    have Hy := Lib.hid hy
    clear hk hy h1
    by_cases hlt : y = 0
    · subst hlt
      have hz : Bt.pc 0 = 0 := by decide +kernel
      have Hz := Lib.hid hz
      clear hz
      go_wp2
      go_ret
      exact ⟨congrArg (fun n => Ending.returned (.int .i64 n)) (by have := Hk.out; have := Hz.out; omega), rfl⟩
    · have hb : ((y : Int) == 0) = false := by rw [beq_eq_false_iff_ne]; omega
      have hb' : ((y : Int) != 0) = true := by rw [bne_iff_ne]; omega
      have hd := Bt.drop_bits y (by omega) Hy.out
      have hl := Bt.and_lt_self y (by omega)
      have hq := Bt.pc_drop y (by omega) Hy.out
      have Hd := Lib.hid hd
      have Hq := Lib.hid hq
      clear hd hq
      go_wp2
      go_round
      case rel => exact ⟨k + 1, y &&& (y - 1), by have := Hk.out; have := Hq.out; omega, by have := Hy.out; omega, by go_num, congrArg (Value.int .u64) Hd.out⟩
      case measure => simp only [intOf]; rw [Hd.out]; omega

theorem ones_any (x : Int) (w : World) (h0 : 0 ≤ x) (h1 : x < 18446744073709551616) :
    Calls Try.prog 14 #[.int .u64 x] w fun e w' => e = .returned (.int .i64 (Bt.pc x.toNat : Int)) ∧ w = w' := by
  obtain ⟨n, rfl⟩ := Int.eq_ofNat_of_zero_le h0
  exact ones_nat n w (by omega)

set_option maxHeartbeats 400000 in
theorem spread_any (x : Int) (w : World) (h0 : 0 ≤ x) (h1 : x < 256) :
    Calls Try.prog 13 #[.int .u8 x] w fun e w' => e = .returned (.int .u16 (Bt.spread x)) ∧ w = w' := by
  go_enter Try.func13, Try.ntmps13
  go_wp2
  go_loop [3, 5] (fun n i => ∃ k : Nat, k ≤ 8 ∧ i = .int .i64 k ∧ n = .int .u16 (Bt.spreadTo x k)) (fun _ i => 8 - (intOf i).toNat)
  case atStart => exact ⟨0, by omega, rfl, rfl⟩
  case round =>
    obtain ⟨k, hk, rfl, rfl⟩ := hrel
    by_cases hlt : k < 8
    · go_wp2
      go_round
      case rel => exact ⟨k + 1, by omega, by go_num, rfl⟩
      case measure => simp [intOf]; omega
    · obtain rfl : k = 8 := by omega
      go_wp2
      go_ret
      exact ⟨by rw [Bt.spread_def]; rfl, rfl⟩

set_option maxHeartbeats 400000 in
theorem gather_any (x : Int) (w : World) (h0 : 0 ≤ x) (h1 : x < 65536) :
    Calls Try.prog 12 #[.int .u16 x] w fun e w' => e = .returned (.int .u8 (Bt.gather x)) ∧ w = w' := by
  go_enter Try.func12, Try.ntmps12
  go_wp2
  go_loop [3, 5] (fun n i => ∃ k : Nat, k ≤ 8 ∧ i = .int .i64 k ∧ n = .int .u8 (Bt.gatherTo x k)) (fun _ i => 8 - (intOf i).toNat)
  case atStart => exact ⟨0, by omega, rfl, rfl⟩
  case round =>
    obtain ⟨k, hk, rfl, rfl⟩ := hrel
    by_cases hlt : k < 8
    · go_wp2
      go_round
      case rel => exact ⟨k + 1, by omega, by go_num, rfl⟩
      case measure => simp [intOf]; omega
    · obtain rfl : k = 8 := by omega
      go_wp2
      go_ret
      exact ⟨by rw [Bt.gather_def]; rfl, rfl⟩

end Go.Proofs.Ytkajfgeoopakkaa
