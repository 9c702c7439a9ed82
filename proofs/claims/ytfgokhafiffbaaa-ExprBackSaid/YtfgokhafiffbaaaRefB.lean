/-
  The walks of the document's tables, second part: a bit set, constants, variables.
-/
import Derived.Test.YtfgokhafiffbaaaRefA
namespace Go.Proofs.Ytfgokhafiffbaaa
set_option linter.unusedVariables false
open Go.RowKit
def Tb.setb (F : Tb.T) (x : Nat) (b : Bool) : Tb.T := if b then F ||| (1#256 <<< x) else F

set_option maxRecDepth 100000 in
set_option maxHeartbeats 1000000 in
theorem rset_any (F : Tb.T) (p x : Nat) (b : Bool) (w : World) (hx : x < 256) (hB : Blk w p 29 (Tb.tcells F)) :
    Calls Try.prog 28 #[.pointer (some ⟨p, 0, none⟩), .int .u8 (x : Int), .bool b] w fun e w' => e = .returned (.tuple #[]) ∧ Blk w' p 29 (Tb.tcells (Tb.setb F x b)) ∧ Below p w w' := by
  cases b with
  | false =>
    go_enter Try.func28, Try.ntmps28
    go_wp2_with fail
    go_end0
    exact ⟨rfl, hB, Below.refl _ _⟩
  | true =>
    have hq5 : IntKind.u8.wrap ((x : Int) / 64) = (x : Int) / 64 := by rw [IntKind.wrap_u8]; omega
    have hq7 : (x : Int).tmod 64 = (x : Int) % 64 := Int.tmod_eq_emod_of_nonneg (by omega)
    have hq1 : (x : Int) / 64 < 4 := by omega
    have hq2 : 0 ≤ (x : Int) / 64 := by omega
    have hq3 : ((x : Int) / 64).toNat = x / 64 := by omega
    have hq4 : 0 ≤ (x : Int) % 64 := by omega
    have e1 : (w.cell? ⟨p, x / 64, none⟩) = some (.int .u64 (Tb.wd F (x / 64))) := (hB.cell _).trans (Tb.tcells_at _ x hx)
    have e2 : (w.frozen? ⟨p, x / 64, none⟩) = false := hB.frozen _
    have hset := hB.set_ (x / 64) (.int .u64 (bits .or .u64 (Tb.wd F (x / 64)) (IntKind.u64.wrap (2 ^ (x % 64)))))
    rw [Tb.wrap_pow x, Tb.tcells_set _ x hx, ← Tb.wrap_pow x] at hset
    have hbb := (Below.refl p w).setCell (p := ⟨p, x / 64, none⟩) (Nat.le_refl _) (.int .u64 (bits .or .u64 (Tb.wd F (x / 64)) (IntKind.u64.wrap (2 ^ (x % 64)))))
    go_enter Try.func28, Try.ntmps28
    go_wp2_with fail
    refine region_tail 15 (by kernel_rfl) (by kernel_rfl) ?_
    simp only [List.take_succ_cons, List.take_zero, List.drop_succ_cons, List.drop_zero]
    repeat still_step
    refine wpStill_nil ?_
    go_wp2_with fail
    go_end0
    exact ⟨rfl, hset.drew, hbb.drew⟩

theorem Tb.tabTo_setb (p : Nat → Bool) (k : Nat) : Tb.setb (Tb.tabTo p k) k (p k) = Tb.tabTo p (k + 1) := by
  unfold Tb.setb
  cases h : p k
  · rw [Tb.tabTo_no h]; rfl
  · rw [Tb.tabTo_yes h]; rfl
theorem Tb.setb_same (p : Nat → Bool) (k : Nat) (b : Bool) (h : b = p k) : Tb.setb (Tb.tabTo p k) k b = Tb.tabTo p (k + 1) := by rw [h, Tb.tabTo_setb]
/-- what a loop that sets bit by bit keeps -/
structure SetTo (w wr : World) (p : Nat → Bool) (k : Nat) : Prop where
  below : Below w.heap.size w wr
  res : Blk wr w.heap.size 29 (Tb.tcells 0#256)
  tab : Blk wr (w.heap.size + 1) 29 (Tb.tcells (Tb.tabTo p k))
theorem SetTo.start (w : World) (p : Nat → Bool) : SetTo w ((w.alloc (.cells #[.int .u64 0, .int .u64 0, .int .u64 0, .int .u64 0] 29)).alloc (.cells #[.int .u64 0, .int .u64 0, .int .u64 0, .int .u64 0] 29)) p 0 := by
  have h1 := Blk.new w 29 #[.int .u64 0, .int .u64 0, .int .u64 0, .int .u64 0]
  have h2 := Blk.new (w.alloc (.cells #[.int .u64 0, .int .u64 0, .int .u64 0, .int .u64 0] 29)) 29 #[.int .u64 0, .int .u64 0, .int .u64 0, .int .u64 0]
  rw [show (w.alloc (.cells #[.int .u64 0, .int .u64 0, .int .u64 0, .int .u64 0] 29)).heap.size = w.heap.size + 1 from by simp] at h2
  have h3 := h1.alloc (.cells #[.int .u64 0, .int .u64 0, .int .u64 0, .int .u64 0] 29)
  refine ⟨?_, ?_, ?_⟩
  · (repeat (first | (with_reducible exact Below.refl _ _) | (with_reducible assumption) | (with_reducible refine Below.drew ?_) | (with_reducible refine Below.setCell ?_ ?_ _; rotate_left; (first | omega | (simp <;> omega))) | (with_reducible refine Below.alloc ?_ ?_ _; rotate_left; (first | omega | (simp <;> omega)))))
  · rw [Tb.tcells_zero]; exact h3
  · rw [Tb.tabTo_zero, Tb.tcells_zero]; exact h2
theorem SetTo.step {w wr w1 : World} {p : Nat → Bool} {k : Nat} {F : Tb.T} (h : SetTo w wr p k) (hb : Below (w.heap.size + 1) wr w1) (hB : Blk w1 (w.heap.size + 1) 29 (Tb.tcells F)) (hF : F = Tb.tabTo p (k + 1)) : SetTo w w1 p (k + 1) :=
  ⟨h.below.trans (hb.mono (by omega)), h.res.below hb (by omega), hF ▸ hB⟩

set_option maxRecDepth 100000 in
set_option maxHeartbeats 1000000 in
theorem rconst_any (b : Bool) (w : World) :
    Calls Try.prog 38 #[.bool b] w fun e w' => e = .returned (Tb.tv (Tb.cst b)) ∧ Below w.heap.size w w' := by
  have hS := SetTo.start w (fun _ => b)
  go_enter Try.func38, Try.ntmps38
  go_wp2_with fail
  go_loopw [4] (fun i wr => ∃ k : Nat, k ≤ 256 ∧ i = .int .i64 k ∧ SetTo w wr (fun _ => b) k) (fun i _ => 256 - (intOf i).toNat)
  case atStart => exact ⟨0, by omega, rfl, hS⟩
  case round =>
    rename_i wr
    clear hS
    obtain ⟨k, hk, rfl, hS⟩ := hrel
    by_cases hlt : k < 256
    · have hq : IntKind.u8.wrap (k : Int) = (k : Int) := by rw [IntKind.wrap_u8]; omega
      go_wp2_with fail
      refine (rset_any _ _ k b _ hlt hS.tab).mono ?_
      rintro e w1 ⟨rfl, hB, hb⟩
      have hS' := hS.step hb hB (Tb.setb_same (fun _ => b) k b rfl)
      clear hB hb hS
      go_wp2_with fail
      exact ⟨⟨k + 1, by omega, by go_num, hS'⟩, by simp [intOf]; omega⟩
    · obtain rfl : k = 256 := by omega
      obtain ⟨⟨a0, a1, a2, a3⟩, b0, b1, b2, b3⟩ := tfacts hS.res
      obtain ⟨⟨c0, c1, c2, c3⟩, d0, d1, d2, d3⟩ := tfacts hS.tab
      rw [← Tb.tab_def, Tb.tab_cst] at c0 c1 c2 c3
      have hb := hS.below
      clear hS
      go_wp2_with fail
      refine bodyPost_ret (v := Tb.tv (Tb.cst b)) (by simp [results, Try.results38, go_sem, a0, a1, a2, a3]) rfl ⟨rfl, ?_⟩
      (repeat (first | (with_reducible exact Below.refl _ _) | (with_reducible assumption) | (with_reducible refine Below.drew ?_) | (with_reducible refine Below.setCell ?_ ?_ _; rotate_left; (first | omega | (simp <;> omega))) | (with_reducible refine Below.alloc ?_ ?_ _; rotate_left; (first | omega | (simp <;> omega))) | (with_reducible refine Below.trans ?_ (hb.mono ?_); rotate_left; (first | omega | (simp <;> omega)))))

theorem Tb.i64_bit : ∀ x : Nat, x < 256 → ∀ v : Nat, v < 8 → (bits .and .i64 ((x : Int) / 2 ^ v) 1 == 1) = x.testBit v := by decide +kernel

set_option maxRecDepth 100000 in
set_option maxHeartbeats 1000000 in
theorem rvar_any (v : Int) (w : World) :
    Calls Try.prog 10 #[.int .i64 v] w fun e w' => e = .returned (Tb.tv (Tb.var v)) ∧ Below w.heap.size w w' := by
  have hS := SetTo.start w (fun x => Tb.kn v && x.testBit v.toNat)
  cases hk : Tb.kn v with
  | false =>
    have hv : ¬ (v ≥ 0 ∧ v < 8) := by unfold Tb.kn at hk; simp at hk; omega
    have hz : Tb.var v = 0#256 := Tb.ext_get fun x hx => by rw [Tb.var_get v x hx, hk]; simp
    obtain ⟨⟨a0, a1, a2, a3⟩, b0, b1, b2, b3⟩ := tfacts hS.res
    obtain ⟨⟨c0, c1, c2, c3⟩, d0, d1, d2, d3⟩ := tfacts hS.tab
    rw [Tb.tabTo_zero] at c0 c1 c2 c3
    have hb := hS.below
    have HZ := Bx.mk hz
    clear hS hz
    have z0 := Tb.wd_zero 0
    have z1 := Tb.wd_zero 1
    have z2 := Tb.wd_zero 2
    have z3 := Tb.wd_zero 3
    have fin : Tb.tv (Tb.var v) = .agg #[.int .u64 0, .int .u64 0, .int .u64 0, .int .u64 0] := by rw [HZ.out]; unfold Tb.tv; rw [z0, z1, z2, z3]
    rw [fin]
    clear fin HZ
    by_cases h0 : v ≥ 0
    · have h8 : ¬ v < 8 := by omega
      clear hv hk
      go_enter Try.func10, Try.ntmps10
      go_wp2_with fail
      refine wp_loop_rounds 1 ?_
      rw [rounds_succ]
      go_wp2_with fail
      refine bodyPost_ret (v := .agg #[.int .u64 0, .int .u64 0, .int .u64 0, .int .u64 0]) (by simp [results, Try.results10, go_sem]) rfl ⟨rfl, ?_⟩
      (repeat (first | (with_reducible exact Below.refl _ _) | (with_reducible assumption) | (with_reducible refine Below.drew ?_) | (with_reducible refine Below.setCell ?_ ?_ _; rotate_left; (first | omega | (simp <;> omega))) | (with_reducible refine Below.alloc ?_ ?_ _; rotate_left; (first | omega | (simp <;> omega)))))
    · clear hv hk
      go_enter Try.func10, Try.ntmps10
      go_wp2_with fail
      refine wp_loop_rounds 1 ?_
      rw [rounds_succ]
      go_wp2_with fail
      refine bodyPost_ret (v := .agg #[.int .u64 0, .int .u64 0, .int .u64 0, .int .u64 0]) (by simp [results, Try.results10, go_sem]) rfl ⟨rfl, ?_⟩
      (repeat (first | (with_reducible exact Below.refl _ _) | (with_reducible assumption) | (with_reducible refine Below.drew ?_) | (with_reducible refine Below.setCell ?_ ?_ _; rotate_left; (first | omega | (simp <;> omega))) | (with_reducible refine Below.alloc ?_ ?_ _; rotate_left; (first | omega | (simp <;> omega)))))
  | true =>
    obtain ⟨h0, h8⟩ := kn_yes hk
    obtain ⟨n, rfl⟩ : ∃ n : Nat, v = (n : Int) := ⟨v.toNat, by omega⟩
    have hn : n < 8 := by omega
    simp only [hk, Bool.true_and, Int.toNat_natCast] at hS
    have HV := Bx.mk (show Tb.tab (fun x => x.testBit n) = Tb.var (n : Int) from Tb.tab_eq fun x hx => by rw [Tb.var_get _ _ hx, hk]; simp)
    clear hk
    have hq2 : IntKind.u64.wrap (n : Int) = (n : Int) := by rw [IntKind.wrap_u64]; omega
    go_enter Try.func10, Try.ntmps10
    go_wp2_with fail
    go_loopw [4] (fun i wr => ∃ k : Nat, k ≤ 256 ∧ i = .int .i64 k ∧ SetTo w wr (fun x => x.testBit n) k) (fun i _ => 256 - (intOf i).toNat)
    case atStart => exact ⟨0, by omega, rfl, hS⟩
    case round =>
      rename_i wr
      clear hS
      obtain ⟨k, hk, rfl, hS⟩ := hrel
      by_cases hlt : k < 256
      · have hq : IntKind.u8.wrap (k : Int) = (k : Int) := by rw [IntKind.wrap_u8]; omega
        have hbit := Tb.i64_bit k hlt n hn
        go_wp2_with fail
        refine (rset_any _ _ k (k.testBit n) _ hlt hS.tab).mono ?_
        rintro e w1 ⟨rfl, hB, hb⟩
        have hS' := hS.step hb hB (Tb.setb_same (fun x => x.testBit n) k _ rfl)
        clear hB hb hS
        go_wp2_with fail
        exact ⟨⟨k + 1, by omega, by go_num, hS'⟩, by simp [intOf]; omega⟩
      · obtain rfl : k = 256 := by omega
        obtain ⟨⟨a0, a1, a2, a3⟩, b0, b1, b2, b3⟩ := tfacts hS.res
        obtain ⟨⟨c0, c1, c2, c3⟩, d0, d1, d2, d3⟩ := tfacts hS.tab
        rw [← Tb.tab_def, HV.out] at c0 c1 c2 c3
        have hb := hS.below
        clear hS
        go_wp2_with fail
        refine bodyPost_ret (v := Tb.tv (Tb.var (n : Int))) (by simp [results, Try.results10, go_sem, a0, a1, a2, a3]) rfl ⟨rfl, ?_⟩
        (repeat (first | (with_reducible exact Below.refl _ _) | (with_reducible assumption) | (with_reducible refine Below.drew ?_) | (with_reducible refine Below.setCell ?_ ?_ _; rotate_left; (first | omega | (simp <;> omega))) | (with_reducible refine Below.alloc ?_ ?_ _; rotate_left; (first | omega | (simp <;> omega))) | (with_reducible refine Below.trans ?_ (hb.mono ?_); rotate_left; (first | omega | (simp <;> omega)))))
end Go.Proofs.Ytfgokhafiffbaaa
