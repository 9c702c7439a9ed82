/-
  The walks of package truth, third part: constants, variables, values, a variable set for good.
-/
import Derived.Test.YtfgokhafiffbaaaTruthB
import Derived.Deep.RegionHeld3
namespace Go.Proofs.Ytfgokhafiffbaaa
set_option linter.unusedVariables false
open Go.RowKit

set_option maxHeartbeats 400000 in
theorem const1_any (x : Int) (b : Bool) (g : Nat) (w : World) (hc : w.cell? ⟨g, 0, none⟩ = some (.bool b)) :
    Calls Try.prog 67 #[.int .u8 x, .pointer (some ⟨g, 0, none⟩)] w fun e w' => e = .returned (.bool b) ∧ w = w' := by
  go_enter Try.func67, Try.ntmps67
  go_wp2_with fail
  go_ret
  exact ⟨rfl, rfl⟩

set_option maxHeartbeats 400000 in
theorem const_any (b : Bool) (w : World) :
    Calls Try.prog 46 #[.bool b] w fun e w' => e = .returned (Tb.tv (Tb.cst b)) ∧ Below w.heap.size w w' := by
  go_enter Try.func46, Try.ntmps46
  go_wp2_with fail
  have hE := of_any (fun _ => b) 67 #[.pointer (some ⟨w.heap.size, 0, none⟩)] (fun _ _ => rfl) ((w.alloc (.cells #[.bool b] 4)).alloc (.cells #[.int .u64 0, .int .u64 0, .int .u64 0, .int .u64 0] 29))
    ⟨fun x w1 hx hb => (const1_any x b w.heap.size w1 (by rw [(bcell hb).1 _ _ (by first | omega | (simp <;> omega))]; go_simp)).mono fun e w2 ⟨he, hw⟩ => ⟨he, hw ▸ Below.refl _ _⟩⟩
  rw [Tb.tab_cst] at hE
  refine hE.mono ?_
  clear hE
  rintro e w1 ⟨rfl, hb⟩
  obtain ⟨hcell, hfr⟩ := bcell hb
  have hz := hb.size
  go_wp2_with fail
  refine bodyPost_ret (v := Tb.tv (Tb.cst b)) (by simp [results, Try.results46, go_sem, hcell]) rfl ⟨rfl, ?_⟩
  (repeat (first | (with_reducible exact Below.refl _ _) | (with_reducible assumption) | (with_reducible refine Below.drew ?_) | (with_reducible refine Below.setCell ?_ ?_ _; rotate_left; (first | omega | (simp <;> omega))) | (with_reducible refine Below.alloc ?_ ?_ _; rotate_left; (first | omega | (simp <;> omega))) | (with_reducible refine Below.trans ?_ (hb.mono ?_); rotate_left; (first | omega | (simp <;> omega)))))

set_option maxHeartbeats 400000 in
theorem tknown_any (v : Int) (w : World) :
    Calls Try.prog 66 #[.int .i64 v] w fun e w' => e = .returned (.bool (Tb.kn v)) ∧ w = w' := by
  by_cases h0 : 0 ≤ v
  · by_cases h1 : v < 8
    · have hk : Tb.kn v = true := by unfold Tb.kn; simp [h0, h1]
      go_enter Try.func66, Try.ntmps66
      go_wp2_with fail
      go_ret
      first | exact ⟨rfl, rfl⟩ | exact ⟨by rw [hk]; rfl, rfl⟩
    · have hk : Tb.kn v = false := by unfold Tb.kn; simp [h1]
      go_enter Try.func66, Try.ntmps66
      go_wp2_with fail
      go_ret
      first | exact ⟨rfl, rfl⟩ | exact ⟨by rw [hk]; rfl, rfl⟩
  · have hk : Tb.kn v = false := by unfold Tb.kn; simp [h0]
    go_enter Try.func66, Try.ntmps66
    go_wp2_with fail
    go_ret
    first | exact ⟨rfl, rfl⟩ | exact ⟨by rw [hk]; rfl, rfl⟩

theorem kn_yes {v : Int} (h : Tb.kn v = true) : 0 ≤ v ∧ v < 8 := by unfold Tb.kn at h; simpa using h

set_option maxHeartbeats 400000 in
theorem var1_any (x : Nat) (v : Int) (g : Nat) (w : World) (hx : x < 256) (hc : w.cell? ⟨g, 0, none⟩ = some (.int .i64 v)) :
    Calls Try.prog 65 #[.int .u8 (x : Int), .pointer (some ⟨g, 0, none⟩)] w fun e w' => e = .returned (.bool (Tb.kn v && x.testBit v.toNat)) ∧ w = w' := by
  cases hk : Tb.kn v with
  | false =>
    have hkn := tknown_any v w
    rw [hk] at hkn
    have HK := Bx.mk hkn
    clear hkn hx
    go_enter Try.func65, Try.ntmps65
    go_wp2_with fail
    refine HK.out.mono ?_
    rintro e w' ⟨rfl, rfl⟩
    go_wp2_with fail
    go_ret
    exact ⟨rfl, rfl⟩
  | true =>
    have hkn := tknown_any v w
    rw [hk] at hkn
    have HK := Bx.mk hkn
    clear hkn
    obtain ⟨h0, h1⟩ := kn_yes hk
    obtain ⟨v, rfl⟩ := Int.eq_ofNat_of_zero_le h0
    have hb := Tb.u8_bit x hx v (by omega)
    rw [Int.toNat_natCast]
    clear hx hk
    cases ht : x.testBit v
    all_goals
      rw [ht] at hb
      go_enter Try.func65, Try.ntmps65
      go_wp2_with fail
      refine HK.out.mono ?_
      rintro e w' ⟨rfl, rfl⟩
      go_wp2_with fail
      go_ret
      exact ⟨rfl, rfl⟩

set_option maxHeartbeats 400000 in
theorem var_any (v : Int) (w : World) :
    Calls Try.prog 45 #[.int .i64 v] w fun e w' => e = .returned (Tb.tv (Tb.var v)) ∧ Below w.heap.size w w' := by
  go_enter Try.func45, Try.ntmps45
  go_wp2_with fail
  have hE := of_any (fun x => Tb.kn v && x.testBit v.toNat) 65 #[.pointer (some ⟨w.heap.size, 0, none⟩)] (fun _ _ => rfl) ((w.alloc (.cells #[.int .i64 v] 3)).alloc (.cells #[.int .u64 0, .int .u64 0, .int .u64 0, .int .u64 0] 29))
    ⟨fun x w1 hx hb => (var1_any x v w.heap.size w1 hx (by rw [(bcell hb).1 _ _ (by first | omega | (simp <;> omega))]; go_simp)).mono fun e w2 ⟨he, hw⟩ => ⟨he, hw ▸ Below.refl _ _⟩⟩
  rw [show Tb.tab (fun x => Tb.kn v && x.testBit v.toNat) = Tb.var v from by unfold Tb.var; rfl] at hE
  refine hE.mono ?_
  clear hE
  rintro e w1 ⟨rfl, hb⟩
  obtain ⟨hcell, hfr⟩ := bcell hb
  have hz := hb.size
  go_wp2_with fail
  refine bodyPost_ret (v := Tb.tv (Tb.var v)) (by simp [results, Try.results45, go_sem, hcell]) rfl ⟨rfl, ?_⟩
  (repeat (first | (with_reducible exact Below.refl _ _) | (with_reducible assumption) | (with_reducible refine Below.drew ?_) | (with_reducible refine Below.setCell ?_ ?_ _; rotate_left; (first | omega | (simp <;> omega))) | (with_reducible refine Below.alloc ?_ ?_ _; rotate_left; (first | omega | (simp <;> omega))) | (with_reducible refine Below.trans ?_ (hb.mono ?_); rotate_left; (first | omega | (simp <;> omega)))))

theorem tcells_fact (w : World) (f : Tb.T) (t : Nat) (k : Nat) (hk : k < 256) : (w.alloc (.cells (Tb.tcells f) t)).cell? ⟨w.heap.size, k / 64, none⟩ = some (.int .u64 (Tb.wd f (k / 64))) :=
  ((Blk.new w t (Tb.tcells f)).cell _).trans (Tb.tcells_at f k hk)

set_option maxRecDepth 100000 in
set_option maxHeartbeats 400000 in
theorem eval_any (f : Tb.T) (x : Nat) (w : World) (hx : x < 256) :
    Calls Try.prog 85 #[Tb.tv f, .int .u8 (x : Int)] w fun e w' => e = .returned (.bool (f.getLsbD x)) ∧ Below w.heap.size w w' := by
  have hc := tcells_fact w f 29 x hx
  have hb := Tb.u64_bit f x hx
  have HB := Bx.mk hb
  have hl := Tb.wd_lo f (x / 64)
  have hq1 : (x : Int) / 64 < 4 := by omega
  have hq2 : 0 ≤ (x : Int) / 64 := by omega
  have hq3 : ((x : Int) / 64).toNat = x / 64 := by omega
  have hq4 : 0 ≤ (x : Int) % 64 := by omega
  have hq5 : ((x : Int) % 64).toNat = x % 64 := by omega
  have hq6 : min (x % 64) 64 = x % 64 := by omega
  clear hb
  go_enter Try.func85, Try.ntmps85
  go_wp2_with fail
  go_ret
  refine ⟨by rw [← HB.out]; rfl, ?_⟩
  (repeat (first | (with_reducible exact Below.refl _ _) | (with_reducible assumption) | (with_reducible refine Below.drew ?_) | (with_reducible refine Below.setCell ?_ ?_ _; rotate_left; (first | omega | (simp <;> omega))) | (with_reducible refine Below.alloc ?_ ?_ _; rotate_left; (first | omega | (simp <;> omega)))))

end Go.Proofs.Ytfgokhafiffbaaa
