/-
  The walks of package truth, ninth part: how many, the least.
-/
import Derived.Test.YtfkefgelceaimaaDoorTruthH
import Derived.Test.YtfkefgelceaimaaDoorCtzPlain
namespace Go.Proofs.YtfkefgelceaimaaDoor
set_option linter.unusedVariables false
open Go.RowKit

set_option maxHeartbeats 400000 in
theorem ones64_any (x : Nat) (w : World) (h : Bx (x < 18446744073709551616)) :
    Calls Tryd.prog 52 #[.int .u64 (x : Int)] w fun e w' => e = .returned (.int .i64 (Bt.pc x : Int)) ∧ w = w' := by
  go_enter Tryd.func52, Tryd.ntmps52
  go_wp2_with fail
  go_ret
  exact ⟨congrArg (fun n => Ending.returned (.int .i64 n)) (Oc.oc_walk x h.out _ _ _ _ _ _ rfl rfl rfl rfl rfl rfl), rfl⟩

theorem ones64_int (x : Int) (w : World) (h0 : 0 ≤ x) (h : Bx (x < 18446744073709551616)) :
    Calls Tryd.prog 52 #[.int .u64 x] w fun e w' => e = .returned (.int .i64 (Bt.pc x.toNat : Int)) ∧ w = w' := by
  obtain ⟨n, rfl⟩ := Int.eq_ofNat_of_zero_le h0
  exact ones64_any n w ⟨by have := h.out; omega⟩

theorem index4 (a b c d : Int) (w : World) :
    (Instr.index 24 (.agg #[.int .u64 a, .int .u64 b, .int .u64 c, .int .u64 d]) (.int .i64 0)).run Tryd.prog w = .ok (.int .u64 a) w ∧ (Instr.index 24 (.agg #[.int .u64 a, .int .u64 b, .int .u64 c, .int .u64 d]) (.int .i64 1)).run Tryd.prog w = .ok (.int .u64 b) w ∧
    (Instr.index 24 (.agg #[.int .u64 a, .int .u64 b, .int .u64 c, .int .u64 d]) (.int .i64 2)).run Tryd.prog w = .ok (.int .u64 c) w ∧ (Instr.index 24 (.agg #[.int .u64 a, .int .u64 b, .int .u64 c, .int .u64 d]) (.int .i64 3)).run Tryd.prog w = .ok (.int .u64 d) w :=
  ⟨by kernel_rfl, by kernel_rfl, by kernel_rfl, by kernel_rfl⟩

set_option maxHeartbeats 1000000 in
theorem count_any (f : Tb.T) (w : World) :
    Calls Tryd.prog 15 #[Tb.tv f] w fun e w' => e = .returned (.int .i64 (Tb.cnt f : Int)) ∧ Below w.heap.size w w' := by
  have i0 := fun w => (index4 (Tb.wd f 0) (Tb.wd f 1) (Tb.wd f 2) (Tb.wd f 3) w).1
  have i1 := fun w => (index4 (Tb.wd f 0) (Tb.wd f 1) (Tb.wd f 2) (Tb.wd f 3) w).2.1
  have i2 := fun w => (index4 (Tb.wd f 0) (Tb.wd f 1) (Tb.wd f 2) (Tb.wd f 3) w).2.2.1
  have i3 := fun w => (index4 (Tb.wd f 0) (Tb.wd f 1) (Tb.wd f 2) (Tb.wd f 3) w).2.2.2
  have p0 := Bt.pc_le (Tb.wd f 0).toNat
  have p1 := Bt.pc_le (Tb.wd f 1).toNat
  have p2 := Bt.pc_le (Tb.wd f 2).toNat
  have p3 := Bt.pc_le (Tb.wd f 3).toNat
  go_enter Tryd.func15, Tryd.ntmps15
  go_wp2_with fail
  refine wp_loop_rounds 5 ?_
  rw [rounds_succ]
  go_wp2_with fail
  refine (ones64_int _ _ (Tb.wd_lo f 0) ⟨Tb.wd_hi f 0⟩).mono ?_
  rintro e w1 ⟨rfl, rfl⟩
  go_wp2_with fail
  rw [rounds_succ]
  go_wp2_with fail
  refine (ones64_int _ _ (Tb.wd_lo f 1) ⟨Tb.wd_hi f 1⟩).mono ?_
  rintro e w1 ⟨rfl, rfl⟩
  go_wp2_with fail
  rw [rounds_succ]
  go_wp2_with fail
  refine (ones64_int _ _ (Tb.wd_lo f 2) ⟨Tb.wd_hi f 2⟩).mono ?_
  rintro e w1 ⟨rfl, rfl⟩
  go_wp2_with fail
  rw [rounds_succ]
  go_wp2_with fail
  refine (ones64_int _ _ (Tb.wd_lo f 3) ⟨Tb.wd_hi f 3⟩).mono ?_
  rintro e w1 ⟨rfl, rfl⟩
  go_wp2_with fail
  rw [rounds_succ]
  go_wp2_with fail
  go_ret
  refine ⟨congrArg (fun n => Ending.returned (.int .i64 n)) (by unfold Tb.cnt; omega), ?_⟩
  (repeat (first | (with_reducible exact Below.refl _ _) | (with_reducible assumption) | (with_reducible refine Below.drew ?_) | (with_reducible refine Below.setCell ?_ ?_ _; rotate_left; (first | omega | (simp <;> omega))) | (with_reducible refine Below.alloc ?_ ?_ _; rotate_left; (first | omega | (simp <;> omega)))))

/-- the library's table of 64 places, where the program's variables lie -/
def TabAt (w : World) : Prop := ∀ j k : Nat, Tb.debTab[j]? = some k → w.cell? ⟨0, j, none⟩ = some (.int .u8 (k : Int))
theorem TabAt.keep {w w' : World} {B : Nat} (h : TabAt w) (hb : Below B w w') (hB : 0 < B) : TabAt w' :=
  fun j k hj => (hb.cell (p := ⟨_, j, none⟩) hB).trans (h j k hj)

set_option maxHeartbeats 1000000 in
theorem ctz_core (x p i k : Nat) (w : World) (hk : k < 64) (hl : i < 64) (hz : ((x : Int) == 0) = false) (hc : w.cell? ⟨0, i, none⟩ = some (.int .u8 (k : Int)))
    (hand : Op.intBits .and .u64 (x : Int) (IntKind.u64.wrap (-(x : Int))) = pure (.int .u64 (p : Int)))
    (hE : IntKind.u64.wrap ((p : Int) * 285870213051353865) / 288230376151711744 = (i : Int)) :
    Calls Tryd.prog 51 #[.int .u64 (x : Int)] w fun e w' => e = .returned (.int .i64 (k : Int)) ∧ w = w' := by
  have hi : (i : Int) < 64 := by omega
  go_enter Tryd.func51, Tryd.ntmps51
  go_wp2_with fail
  go_ret
  exact ⟨rfl, rfl⟩

theorem ctz_and (x p : Nat) (h0 : 0 < x) (hx : x < 18446744073709551616) (hlow : x &&& (18446744073709551616 - x) = p) : Op.intBits .and .u64 (x : Int) (IntKind.u64.wrap (-(x : Int))) = pure (.int .u64 (p : Int)) := by
  have e := bits_and_u64_nat x (18446744073709551616 - x) hx (by omega)
  rw [hlow] at e
  rw [intBits_and, IntKind.wrap_u64, show (-(x : Int)) % 18446744073709551616 = ((18446744073709551616 - x : Nat) : Int) from by omega, e]
theorem ctz_deb (p i : Nat) (h : p * 285870213051353865 % 18446744073709551616 / 288230376151711744 = i) : IntKind.u64.wrap ((p : Int) * 285870213051353865) / 288230376151711744 = (i : Int) := by
  subst h
  rw [IntKind.wrap_u64, Int.natCast_ediv, Int.natCast_emod, Int.natCast_mul]; rfl

theorem ctz_any (k q x : Nat) (w : World) (hk : k < 64) (he : x = 2 ^ k * (2 * q + 1)) (hx : x < 18446744073709551616) (hT : TabAt w) :
    Calls Tryd.prog 51 #[.int .u64 (x : Int)] w fun e w' => e = .returned (.int .i64 (k : Int)) ∧ w = w' := by
  have hp : 0 < 2 ^ k := Nat.two_pow_pos k
  have hpos : 0 < x := by rw [he]; exact Nat.mul_pos hp (by omega)
  have hlow : x &&& (18446744073709551616 - x) = 2 ^ k := by rw [he] at hx ⊢; exact Tb.low_bit k q hk hx
  exact ctz_core x (2 ^ k) (Tb.deb k) k w hk (Tb.deb_lt k) (by rw [beq_eq_false_iff_ne]; omega) (hT (Tb.deb k) k (Tb.debTab_at k hk)) (ctz_and x _ hpos hx hlow) (ctz_deb _ _ (by unfold Tb.deb; rfl))


set_option maxRecDepth 100000 in
set_option maxHeartbeats 1000000 in
theorem one_hit0 (f : Tb.T) (w : World) (hT : TabAt w) (hG : 0 < w.heap.size) (hn : Tb.wd f 0 ≠ 0) :
    Calls Tryd.prog 13 #[Tb.tv f] w fun e w' => e = .returned (.tuple #[.int .u8 (((Tb.one f).getD 0 : Nat) : Int), .bool (Tb.one f).isSome]) ∧ Below w.heap.size w w' := by
  have i0 := fun w => (index4 (Tb.wd f 0) (Tb.wd f 1) (Tb.wd f 2) (Tb.wd f 3) w).1
  have i1 := fun w => (index4 (Tb.wd f 0) (Tb.wd f 1) (Tb.wd f 2) (Tb.wd f 3) w).2.1
  have i2 := fun w => (index4 (Tb.wd f 0) (Tb.wd f 1) (Tb.wd f 2) (Tb.wd f 3) w).2.2.1
  have i3 := fun w => (index4 (Tb.wd f 0) (Tb.wd f 1) (Tb.wd f 2) (Tb.wd f 3) w).2.2.2
  have hlo := Tb.wd_lo f 0
  have hhi := Tb.wd_hi f 0
  obtain ⟨k, q, hk, he⟩ := Tb.ctz_ex 64 (Tb.wd f 0).toNat (by omega) (by omega)
  have hone := Tb.one_word (f := f) (c := 0) (by omega) hk he (fun d hd => by omega)
  have hC := fun w (hT : TabAt w) => ctz_any k q (Tb.wd f 0).toNat w hk he (by omega) hT
  rw [Int.toNat_of_nonneg hlo] at hC
  have HC := Bx.mk hC
  have HO := Bx.mk hone
  have hb : (Tb.wd f 0 == 0) = false := by rw [beq_eq_false_iff_ne]; exact hn
  have hb' : (Tb.wd f 0 != 0) = true := by rw [bne_iff_ne]; exact hn
  have HT : Bx (TabAt (w.alloc (.cells (Tb.tcells f) 24))) := ⟨hT.keep ((Below.refl _ _).alloc (Nat.le_refl _) _) hG⟩
  clear hC hone hn he hhi hT
  go_enter Tryd.func13, Tryd.ntmps13
  go_wp2_with fail
  refine wp_loop_rounds 5 ?_
  rw [rounds_succ]
  go_wp2_with fail
  refine (HC.out _ HT.out).mono ?_
  rintro e w1 ⟨rfl, rfl⟩
  go_wp2_with fail
  go_ret2
  refine ⟨by rw [HO.out]; simp <;> omega, ?_⟩
  (repeat (first | (with_reducible exact Below.refl _ _) | (with_reducible assumption) | (with_reducible refine Below.drew ?_) | (with_reducible refine Below.setCell ?_ ?_ _; rotate_left; (first | omega | (simp <;> omega))) | (with_reducible refine Below.alloc ?_ ?_ _; rotate_left; (first | omega | (simp <;> omega)))))

set_option maxRecDepth 100000 in
set_option maxHeartbeats 1000000 in
theorem one_hit1 (f : Tb.T) (w : World) (hT : TabAt w) (hG : 0 < w.heap.size) (z0 : Tb.wd f 0 = 0) (hn : Tb.wd f 1 ≠ 0) :
    Calls Tryd.prog 13 #[Tb.tv f] w fun e w' => e = .returned (.tuple #[.int .u8 (((Tb.one f).getD 0 : Nat) : Int), .bool (Tb.one f).isSome]) ∧ Below w.heap.size w w' := by
  have i0 := fun w => (index4 (Tb.wd f 0) (Tb.wd f 1) (Tb.wd f 2) (Tb.wd f 3) w).1
  have i1 := fun w => (index4 (Tb.wd f 0) (Tb.wd f 1) (Tb.wd f 2) (Tb.wd f 3) w).2.1
  have i2 := fun w => (index4 (Tb.wd f 0) (Tb.wd f 1) (Tb.wd f 2) (Tb.wd f 3) w).2.2.1
  have i3 := fun w => (index4 (Tb.wd f 0) (Tb.wd f 1) (Tb.wd f 2) (Tb.wd f 3) w).2.2.2
  have hlo := Tb.wd_lo f 1
  have hhi := Tb.wd_hi f 1
  obtain ⟨k, q, hk, he⟩ := Tb.ctz_ex 64 (Tb.wd f 1).toNat (by omega) (by omega)
  have hone := Tb.one_word (f := f) (c := 1) (by omega) hk he (fun d hd => by
    have : d = 0 := by omega
    subst this; assumption)
  have hC := fun w (hT : TabAt w) => ctz_any k q (Tb.wd f 1).toNat w hk he (by omega) hT
  rw [Int.toNat_of_nonneg hlo] at hC
  have HC := Bx.mk hC
  have HO := Bx.mk hone
  have hb : (Tb.wd f 1 == 0) = false := by rw [beq_eq_false_iff_ne]; exact hn
  have hb' : (Tb.wd f 1 != 0) = true := by rw [bne_iff_ne]; exact hn
  have b0 : (Tb.wd f 0 == 0) = true := by rw [z0]; rfl
  have n0 : (Tb.wd f 0 != 0) = false := by rw [z0]; rfl
  have HT : Bx (TabAt (w.alloc (.cells (Tb.tcells f) 24))) := ⟨hT.keep ((Below.refl _ _).alloc (Nat.le_refl _) _) hG⟩
  clear hC hone hn he hhi hT
  clear z0
  go_enter Tryd.func13, Tryd.ntmps13
  go_wp2_with fail
  refine wp_loop_rounds 5 ?_
  rw [rounds_succ]
  go_wp2_with fail
  rw [rounds_succ]
  go_wp2_with fail
  refine (HC.out _ HT.out).mono ?_
  rintro e w1 ⟨rfl, rfl⟩
  go_wp2_with fail
  go_ret2
  refine ⟨by rw [HO.out]; simp <;> omega, ?_⟩
  (repeat (first | (with_reducible exact Below.refl _ _) | (with_reducible assumption) | (with_reducible refine Below.drew ?_) | (with_reducible refine Below.setCell ?_ ?_ _; rotate_left; (first | omega | (simp <;> omega))) | (with_reducible refine Below.alloc ?_ ?_ _; rotate_left; (first | omega | (simp <;> omega)))))

set_option maxRecDepth 100000 in
set_option maxHeartbeats 1000000 in
theorem one_hit2 (f : Tb.T) (w : World) (hT : TabAt w) (hG : 0 < w.heap.size) (z0 : Tb.wd f 0 = 0) (z1 : Tb.wd f 1 = 0) (hn : Tb.wd f 2 ≠ 0) :
    Calls Tryd.prog 13 #[Tb.tv f] w fun e w' => e = .returned (.tuple #[.int .u8 (((Tb.one f).getD 0 : Nat) : Int), .bool (Tb.one f).isSome]) ∧ Below w.heap.size w w' := by
  have i0 := fun w => (index4 (Tb.wd f 0) (Tb.wd f 1) (Tb.wd f 2) (Tb.wd f 3) w).1
  have i1 := fun w => (index4 (Tb.wd f 0) (Tb.wd f 1) (Tb.wd f 2) (Tb.wd f 3) w).2.1
  have i2 := fun w => (index4 (Tb.wd f 0) (Tb.wd f 1) (Tb.wd f 2) (Tb.wd f 3) w).2.2.1
  have i3 := fun w => (index4 (Tb.wd f 0) (Tb.wd f 1) (Tb.wd f 2) (Tb.wd f 3) w).2.2.2
  have hlo := Tb.wd_lo f 2
  have hhi := Tb.wd_hi f 2
  obtain ⟨k, q, hk, he⟩ := Tb.ctz_ex 64 (Tb.wd f 2).toNat (by omega) (by omega)
  have hone := Tb.one_word (f := f) (c := 2) (by omega) hk he (fun d hd => by
    have : d = 0 ∨ d = 1 := by omega
    rcases this with h | h <;> subst h <;> assumption)
  have hC := fun w (hT : TabAt w) => ctz_any k q (Tb.wd f 2).toNat w hk he (by omega) hT
  rw [Int.toNat_of_nonneg hlo] at hC
  have HC := Bx.mk hC
  have HO := Bx.mk hone
  have hb : (Tb.wd f 2 == 0) = false := by rw [beq_eq_false_iff_ne]; exact hn
  have hb' : (Tb.wd f 2 != 0) = true := by rw [bne_iff_ne]; exact hn
  have b0 : (Tb.wd f 0 == 0) = true := by rw [z0]; rfl
  have n0 : (Tb.wd f 0 != 0) = false := by rw [z0]; rfl
  have b1 : (Tb.wd f 1 == 0) = true := by rw [z1]; rfl
  have n1 : (Tb.wd f 1 != 0) = false := by rw [z1]; rfl
  have HT : Bx (TabAt (w.alloc (.cells (Tb.tcells f) 24))) := ⟨hT.keep ((Below.refl _ _).alloc (Nat.le_refl _) _) hG⟩
  clear hC hone hn he hhi hT
  clear z0 z1
  go_enter Tryd.func13, Tryd.ntmps13
  go_wp2_with fail
  refine wp_loop_rounds 5 ?_
  rw [rounds_succ]
  go_wp2_with fail
  rw [rounds_succ]
  go_wp2_with fail
  rw [rounds_succ]
  go_wp2_with fail
  refine (HC.out _ HT.out).mono ?_
  rintro e w1 ⟨rfl, rfl⟩
  go_wp2_with fail
  go_ret2
  refine ⟨by rw [HO.out]; simp <;> omega, ?_⟩
  (repeat (first | (with_reducible exact Below.refl _ _) | (with_reducible assumption) | (with_reducible refine Below.drew ?_) | (with_reducible refine Below.setCell ?_ ?_ _; rotate_left; (first | omega | (simp <;> omega))) | (with_reducible refine Below.alloc ?_ ?_ _; rotate_left; (first | omega | (simp <;> omega)))))

set_option maxRecDepth 100000 in
set_option maxHeartbeats 1000000 in
theorem one_hit3 (f : Tb.T) (w : World) (hT : TabAt w) (hG : 0 < w.heap.size) (z0 : Tb.wd f 0 = 0) (z1 : Tb.wd f 1 = 0) (z2 : Tb.wd f 2 = 0) (hn : Tb.wd f 3 ≠ 0) :
    Calls Tryd.prog 13 #[Tb.tv f] w fun e w' => e = .returned (.tuple #[.int .u8 (((Tb.one f).getD 0 : Nat) : Int), .bool (Tb.one f).isSome]) ∧ Below w.heap.size w w' := by
  have i0 := fun w => (index4 (Tb.wd f 0) (Tb.wd f 1) (Tb.wd f 2) (Tb.wd f 3) w).1
  have i1 := fun w => (index4 (Tb.wd f 0) (Tb.wd f 1) (Tb.wd f 2) (Tb.wd f 3) w).2.1
  have i2 := fun w => (index4 (Tb.wd f 0) (Tb.wd f 1) (Tb.wd f 2) (Tb.wd f 3) w).2.2.1
  have i3 := fun w => (index4 (Tb.wd f 0) (Tb.wd f 1) (Tb.wd f 2) (Tb.wd f 3) w).2.2.2
  have hlo := Tb.wd_lo f 3
  have hhi := Tb.wd_hi f 3
  obtain ⟨k, q, hk, he⟩ := Tb.ctz_ex 64 (Tb.wd f 3).toNat (by omega) (by omega)
  have hone := Tb.one_word (f := f) (c := 3) (by omega) hk he (fun d hd => by
    have : d = 0 ∨ d = 1 ∨ d = 2 := by omega
    rcases this with h | h | h <;> subst h <;> assumption)
  have hC := fun w (hT : TabAt w) => ctz_any k q (Tb.wd f 3).toNat w hk he (by omega) hT
  rw [Int.toNat_of_nonneg hlo] at hC
  have HC := Bx.mk hC
  have HO := Bx.mk hone
  have hb : (Tb.wd f 3 == 0) = false := by rw [beq_eq_false_iff_ne]; exact hn
  have hb' : (Tb.wd f 3 != 0) = true := by rw [bne_iff_ne]; exact hn
  have b0 : (Tb.wd f 0 == 0) = true := by rw [z0]; rfl
  have n0 : (Tb.wd f 0 != 0) = false := by rw [z0]; rfl
  have b1 : (Tb.wd f 1 == 0) = true := by rw [z1]; rfl
  have n1 : (Tb.wd f 1 != 0) = false := by rw [z1]; rfl
  have b2 : (Tb.wd f 2 == 0) = true := by rw [z2]; rfl
  have n2 : (Tb.wd f 2 != 0) = false := by rw [z2]; rfl
  have HT : Bx (TabAt (w.alloc (.cells (Tb.tcells f) 24))) := ⟨hT.keep ((Below.refl _ _).alloc (Nat.le_refl _) _) hG⟩
  clear hC hone hn he hhi hT
  clear z0 z1 z2
  go_enter Tryd.func13, Tryd.ntmps13
  go_wp2_with fail
  refine wp_loop_rounds 5 ?_
  rw [rounds_succ]
  go_wp2_with fail
  rw [rounds_succ]
  go_wp2_with fail
  rw [rounds_succ]
  go_wp2_with fail
  rw [rounds_succ]
  go_wp2_with fail
  refine (HC.out _ HT.out).mono ?_
  rintro e w1 ⟨rfl, rfl⟩
  go_wp2_with fail
  go_ret2
  refine ⟨by rw [HO.out]; simp <;> omega, ?_⟩
  (repeat (first | (with_reducible exact Below.refl _ _) | (with_reducible assumption) | (with_reducible refine Below.drew ?_) | (with_reducible refine Below.setCell ?_ ?_ _; rotate_left; (first | omega | (simp <;> omega))) | (with_reducible refine Below.alloc ?_ ?_ _; rotate_left; (first | omega | (simp <;> omega)))))

set_option maxHeartbeats 1000000 in
theorem one_no (f : Tb.T) (w : World) (z0 : Tb.wd f 0 = 0) (z1 : Tb.wd f 1 = 0) (z2 : Tb.wd f 2 = 0) (z3 : Tb.wd f 3 = 0) :
    Calls Tryd.prog 13 #[Tb.tv f] w fun e w' => e = .returned (.tuple #[.int .u8 (((Tb.one f).getD 0 : Nat) : Int), .bool (Tb.one f).isSome]) ∧ Below w.heap.size w w' := by
  have i0 := fun w => (index4 (Tb.wd f 0) (Tb.wd f 1) (Tb.wd f 2) (Tb.wd f 3) w).1
  have i1 := fun w => (index4 (Tb.wd f 0) (Tb.wd f 1) (Tb.wd f 2) (Tb.wd f 3) w).2.1
  have i2 := fun w => (index4 (Tb.wd f 0) (Tb.wd f 1) (Tb.wd f 2) (Tb.wd f 3) w).2.2.1
  have i3 := fun w => (index4 (Tb.wd f 0) (Tb.wd f 1) (Tb.wd f 2) (Tb.wd f 3) w).2.2.2
  have hone := Tb.one_zero z0 z1 z2 z3
  have HO := Bx.mk hone
  have b0 : (Tb.wd f 0 == 0) = true := by rw [z0]; rfl
  have n0 : (Tb.wd f 0 != 0) = false := by rw [z0]; rfl
  have b1 : (Tb.wd f 1 == 0) = true := by rw [z1]; rfl
  have n1 : (Tb.wd f 1 != 0) = false := by rw [z1]; rfl
  have b2 : (Tb.wd f 2 == 0) = true := by rw [z2]; rfl
  have n2 : (Tb.wd f 2 != 0) = false := by rw [z2]; rfl
  have b3 : (Tb.wd f 3 == 0) = true := by rw [z3]; rfl
  have n3 : (Tb.wd f 3 != 0) = false := by rw [z3]; rfl
  clear hone z0 z1 z2 z3
  go_enter Tryd.func13, Tryd.ntmps13
  go_wp2_with fail
  refine wp_loop_rounds 5 ?_
  rw [rounds_succ]
  go_wp2_with fail
  rw [rounds_succ]
  go_wp2_with fail
  rw [rounds_succ]
  go_wp2_with fail
  rw [rounds_succ]
  go_wp2_with fail
  rw [rounds_succ]
  go_wp2_with fail
  go_ret2
  refine ⟨by rw [HO.out]; rfl, ?_⟩
  (repeat (first | (with_reducible exact Below.refl _ _) | (with_reducible assumption) | (with_reducible refine Below.drew ?_) | (with_reducible refine Below.setCell ?_ ?_ _; rotate_left; (first | omega | (simp <;> omega))) | (with_reducible refine Below.alloc ?_ ?_ _; rotate_left; (first | omega | (simp <;> omega)))))

theorem one_any (f : Tb.T) (w : World) (hT : TabAt w) (hG : 0 < w.heap.size) :
    Calls Tryd.prog 13 #[Tb.tv f] w fun e w' => e = .returned (.tuple #[.int .u8 (((Tb.one f).getD 0 : Nat) : Int), .bool (Tb.one f).isSome]) ∧ Below w.heap.size w w' := by
  by_cases z0 : Tb.wd f 0 = 0
  · by_cases z1 : Tb.wd f 1 = 0
    · by_cases z2 : Tb.wd f 2 = 0
      · by_cases z3 : Tb.wd f 3 = 0
        · exact one_no f w z0 z1 z2 z3
        · exact one_hit3 f w hT hG z0 z1 z2 z3
      · exact one_hit2 f w hT hG z0 z1 z2
    · exact one_hit1 f w hT hG z0 z1
  · exact one_hit0 f w hT hG z0

end Go.Proofs.YtfkefgelceaimaaDoor
