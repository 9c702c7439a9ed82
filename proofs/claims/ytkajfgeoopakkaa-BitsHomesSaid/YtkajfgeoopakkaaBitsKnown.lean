/-
  The walk of the laws' own look at known numbers.
-/
import Derived.Test.YtkajfgeoopakkaaBitsWalks
namespace Go.Proofs.Ytkajfgeoopakkaa
set_option linter.unusedVariables false
open Go.RowKit

theorem node_357 (w : World) : Calls Try.prog 11 #[.int .u8 3, .int .u32 5, .int .u32 7] w fun e w' => e = .returned (.int .u64 (Bt.node 3 5 7)) ∧ w = w' :=
  node_any 3 5 7 w (by omega) (by omega) (by omega) (by omega) (by omega) (by omega)
theorem parts_357 (w : World) : Calls Try.prog 10 #[.int .u64 (Bt.node 3 5 7)] w fun e w' => e = .returned (.tuple #[.int .u8 3, .int .u32 5, .int .u32 7]) ∧ w = w' :=
  parts_any (Bt.node 3 5 7) w (by decide) (by decide)
theorem spread_3 (w : World) : Calls Try.prog 13 #[.int .u8 3] w fun e w' => e = .returned (.int .u16 5) ∧ w = w' := by
  have h := spread_any 3 w (by omega) (by omega)
  rw [show Bt.spread 3 = 5 from by decide +kernel] at h
  exact h
theorem gather_5 (w : World) : Calls Try.prog 12 #[.int .u16 5] w fun e w' => e = .returned (.int .u8 3) ∧ w = w' := by
  have h := gather_any 5 w (by omega) (by omega)
  rw [show Bt.gather 5 = 3 from by decide +kernel] at h
  exact h
theorem ones_7 (w : World) : Calls Try.prog 14 #[.int .u64 7] w fun e w' => e = .returned (.int .i64 3) ∧ w = w' := by
  have h := ones_any 7 w (by omega) (by omega)
  rw [show Bt.pc (7 : Int).toNat = 3 from by decide +kernel] at h
  exact h
theorem mix_0 (w : World) : Calls Try.prog 15 #[.int .u64 0] w fun e w' => e = .returned (.int .u64 0) ∧ w = w' := by
  have h := mix_any 0 w (by omega) (by omega)
  rw [show Bt.mix 0 = 0 from by decide +kernel] at h
  exact h
theorem mix_1 (w : World) : Calls Try.prog 15 #[.int .u64 1] w fun e w' => e = .returned (.int .u64 (Bt.mix 1)) ∧ w = w' :=
  mix_any 1 w (by omega) (by omega)

set_option maxHeartbeats 400000 in
theorem known_any (w : World) : Calls Try.prog 9 #[] w fun e w' => e = .returned (.bool true) ∧ w = w' := by
  have k1 : (Bt.mix 1 == 0) = false := by decide +kernel
  have k2 : (Bt.mix 1 != 0) = true := by decide +kernel
  go_enter Try.func9, Try.ntmps9
  go_wp2_with fail
  refine (node_357 w).mono ?_
  rintro e w' ⟨rfl, rfl⟩
  go_wp2_with fail
  refine (parts_357 w).mono ?_
  rintro e w' ⟨rfl, rfl⟩
  go_wp2_with fail
  refine (spread_3 w).mono ?_
  rintro e w' ⟨rfl, rfl⟩
  go_wp2_with fail
  refine (gather_5 w).mono ?_
  rintro e w' ⟨rfl, rfl⟩
  go_wp2_with fail
  refine (ones_7 w).mono ?_
  rintro e w' ⟨rfl, rfl⟩
  go_wp2_with fail
  refine (mix_0 w).mono ?_
  rintro e w' ⟨rfl, rfl⟩
  go_wp2_with fail
  refine (mix_1 w).mono ?_
  rintro e w' ⟨rfl, rfl⟩
  go_wp2_with fail
  go_ret
  exact ⟨rfl, rfl⟩

end Go.Proofs.Ytkajfgeoopakkaa
