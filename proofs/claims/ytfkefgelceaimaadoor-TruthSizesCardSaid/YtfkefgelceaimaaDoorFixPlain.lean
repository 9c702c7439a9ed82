/-
  A variable set for good, word by word, as the document does it. No program in sight.
-/
import Derived.Test.YtfkefgelceaimaaDoorCntPlain
namespace Go.Proofs.YtfkefgelceaimaaDoor
set_option linter.unusedVariables false
namespace Tb
/-- two words are one if their bits are -/
theorem word_ext {F G : T} {c d : Nat} (h : ∀ j, j < 64 → F.getLsbD (64 * c + j) = G.getLsbD (64 * d + j)) : wd F c = wd G d := by
  have h1 := wd_lo F c
  have h2 := wd_lo G d
  have h3 := wd_hi F c
  have h4 := wd_hi G d
  have : (wd F c).toNat = (wd G d).toNat := by
    apply Nat.eq_of_testBit_eq
    intro j
    by_cases hj : j < 64
    · rw [wd_testBit F c j hj, wd_testBit G d j hj, h j hj]
    · have hp : 18446744073709551616 ≤ 2 ^ j := by
        have : 2 ^ 64 ≤ 2 ^ j := Nat.pow_le_pow_right (by omega) (by omega)
        simpa using this
      rw [Nat.testBit_lt_two_pow (by omega), Nat.testBit_lt_two_pow (by omega)]
  omega
theorem high_wth : ∀ c : Nat, c < 4 → ∀ j : Nat, j < 64 →
    wth (64 * c + j) 6 true = 64 * (c ||| 1) + j ∧ wth (64 * c + j) 6 false = 64 * (c - c % 2) + j ∧ wth (64 * c + j) 7 true = 64 * (c ||| 2) + j ∧ wth (64 * c + j) 7 false = 64 * (c % 2) + j := by decide +kernel
theorem fix6 (f : T) (c : Nat) (hc : c < 4) : wd (fix f 6 true) c = wd f (c ||| 1) ∧ wd (fix f 6 false) c = wd f (c - c % 2) ∧ wd (fix f 7 true) c = wd f (c ||| 2) ∧ wd (fix f 7 false) c = wd f (c % 2) := by
  refine ⟨word_ext fun j hj => ?_, word_ext fun j hj => ?_, word_ext fun j hj => ?_, word_ext fun j hj => ?_⟩
  · rw [← (high_wth c hc j hj).1]; exact fix_get (v := 6) (by omega) (by omega)
  · rw [← (high_wth c hc j hj).2.1]; exact fix_get (v := 6) (by omega) (by omega)
  · rw [← (high_wth c hc j hj).2.2.1]; exact fix_get (v := 7) (by omega) (by omega)
  · rw [← (high_wth c hc j hj).2.2.2]; exact fix_get (v := 7) (by omega) (by omega)
/-- the places whose bit v is set, below k -/
def mk (v : Nat) : Nat → Nat
  | 0 => 0
  | k + 1 => if k.testBit v then mk v k ||| 2 ^ k else mk v k
theorem mk_lt (v : Nat) : ∀ k, mk v k < 2 ^ k := by
  intro k
  induction k with
  | zero => simp [mk]
  | succ k ih =>
    have hp : 2 ^ k < 2 ^ (k + 1) := Nat.pow_lt_pow_right (by omega) (by omega)
    unfold mk
    split
    · exact Nat.or_lt_two_pow (by omega) hp
    · omega
theorem mk_bit (v : Nat) : ∀ k j, (mk v k).testBit j = (decide (j < k) && j.testBit v) := by
  intro k
  induction k with
  | zero => intro j; simp [mk]
  | succ k ih =>
    intro j
    unfold mk
    by_cases e : j = k
    · subst e
      split
      · rename_i h; rw [Nat.testBit_or, ih, Nat.testBit_two_pow]; simp [h]
      · rename_i h; rw [ih]; simp at h; simp [h]
    · rw [show decide (j < k + 1) = decide (j < k) from by rw [decide_eq_decide]; omega]
      split
      · rw [Nat.testBit_or, ih, Nat.testBit_two_pow]; simp [show ¬ k = j from fun h => e h.symm]
      · exact ih j
theorem lw1 : ∀ v : Nat, v < 6 → ∀ j : Nat, j < 64 → j.testBit v = true → (j + 2 ^ v).testBit v = false := by decide +kernel
theorem lw2 : ∀ v : Nat, v < 6 → ∀ j : Nat, j < 64 → j.testBit v = false → (j + 2 ^ v).testBit v = true ∧ j + 2 ^ v < 64 := by decide +kernel
theorem lw3 : ∀ v : Nat, v < 6 → ∀ j : Nat, j < 64 → j.testBit v = true → (j - 2 ^ v).testBit v = false ∧ 2 ^ v ≤ j := by decide +kernel
theorem lw4 : ∀ v : Nat, v < 6 → ∀ j : Nat, j < 64 → j.testBit v = false → 2 ^ v ≤ j → (j - 2 ^ v).testBit v = true := by decide +kernel
theorem low_wth2 : ∀ v : Nat, v < 6 → ∀ x : Nat, x < 256 → wth x v true = (if (x % 64).testBit v then x else x + 2 ^ v) ∧ wth x v false = (if (x % 64).testBit v then x - 2 ^ v else x) := by decide +kernel
theorem pow64 : (2 : Nat) ^ 64 = 18446744073709551616 := by decide
theorem high64 {n j : Nat} (hn : n < 18446744073709551616) (hj : ¬ j < 64) : n.testBit j = false := by
  have hp : 18446744073709551616 ≤ 2 ^ j := by
    have : 2 ^ 64 ≤ 2 ^ j := Nat.pow_le_pow_right (by omega) (by omega)
    simpa using this
  exact Nat.testBit_lt_two_pow (by omega)
theorem fix_low_true (f : T) (v c : Nat) (hv : v < 6) (hc : c < 4) :
    bits .or .u64 (bits .and .u64 (wd f c) (mk v 64 : Int)) (bits .and .u64 (wd f c) (mk v 64 : Int) / 2 ^ (2 ^ v)) = wd (fix f (v : Int) true) c := by
  have h1 := wd_lo f c
  have h2 := wd_hi f c
  have h3 := wd_lo (fix f (v : Int) true) c
  have h4 := wd_hi (fix f (v : Int) true) c
  have hm : mk v 64 < 18446744073709551616 := by have := mk_lt v 64; rwa [pow64] at this
  generalize hW : (wd f c).toNat = W
  have hWl : W < 18446744073709551616 := by omega
  rw [show wd f c = (W : Int) from by omega, bits_and_u64_nat W _ hWl hm]
  have hA : W &&& mk v 64 < 18446744073709551616 := Nat.lt_of_le_of_lt Nat.and_le_left hWl
  have hS : (W &&& mk v 64) / 2 ^ 2 ^ v < 18446744073709551616 := Nat.lt_of_le_of_lt (Nat.div_le_self _ _) hA
  have e : (((W &&& mk v 64 : Nat) : Int) / 2 ^ 2 ^ v) = (((W &&& mk v 64) / 2 ^ 2 ^ v : Nat) : Int) := by norm_cast
  rw [e, bits_or_u64_nat _ _ hA hS]
  have : ((W &&& mk v 64) ||| ((W &&& mk v 64) / 2 ^ 2 ^ v)) = (wd (fix f (v : Int) true) c).toNat := by
    apply Nat.eq_of_testBit_eq
    intro j
    by_cases hj : j < 64
    · rw [wd_testBit _ c j hj, fix_get (by omega) (by omega), Nat.testBit_or, Nat.testBit_and, Nat.testBit_div_two_pow, Nat.testBit_and, mk_bit, mk_bit, ← hW]
      have l4 := (low_wth2 v hv (64 * c + j) (by omega)).1
      rw [show (64 * c + j) % 64 = j from by omega] at l4
      rw [l4]
      cases hb : j.testBit v
      · obtain ⟨q1, q2⟩ := lw2 v hv j hj hb
        rw [show j + 2 ^ v = j + 2 ^ v from rfl]
        simp only [q1, q2, Bool.and_false, Bool.false_or, decide_true, Bool.and_true, Bool.false_eq_true, if_false]
        rw [wd_testBit f c _ q2, Nat.add_assoc]
      · have q1 := lw1 v hv j hj hb
        rw [wd_testBit f c j hj]
        by_cases h64 : j + 2 ^ v < 64
        · simp [hj, q1]
        · simp [hj, h64]
    · rw [Nat.testBit_or, high64 hA hj, high64 hS hj, high64 (n := (wd (fix f (v : Int) true) c).toNat) (by omega) hj]; rfl
  omega
theorem fix_low_false (f : T) (v c : Nat) (hv : v < 6) (hc : c < 4) :
    bits .or .u64 (bits .andNot .u64 (wd f c) (mk v 64 : Int)) (IntKind.u64.wrap (bits .andNot .u64 (wd f c) (mk v 64 : Int) * 2 ^ (2 ^ v))) = wd (fix f (v : Int) false) c := by
  have h1 := wd_lo f c
  have h2 := wd_hi f c
  have h3 := wd_lo (fix f (v : Int) false) c
  have h4 := wd_hi (fix f (v : Int) false) c
  have hm : mk v 64 < 18446744073709551616 := by have := mk_lt v 64; rwa [pow64] at this
  generalize hW : (wd f c).toNat = W
  have hWl : W < 18446744073709551616 := by omega
  rw [show wd f c = (W : Int) from by omega, u64_andNot_nat W _ hWl hm]
  have hA : W &&& (18446744073709551615 - mk v 64) < 18446744073709551616 := Nat.lt_of_le_of_lt Nat.and_le_left hWl
  have hS : (W &&& (18446744073709551615 - mk v 64)) * 2 ^ 2 ^ v % 18446744073709551616 < 18446744073709551616 := Nat.mod_lt _ (by decide)
  have e : IntKind.u64.wrap (((W &&& (18446744073709551615 - mk v 64) : Nat) : Int) * 2 ^ 2 ^ v) = (((W &&& (18446744073709551615 - mk v 64)) * 2 ^ 2 ^ v % 18446744073709551616 : Nat) : Int) := by
    rw [IntKind.wrap_u64]; simp only [Int.natCast_emod, Int.natCast_mul, Int.natCast_pow]; rfl
  rw [e, bits_or_u64_nat _ _ hA hS]
  have hcomp : ∀ i, i < 64 → (18446744073709551615 - mk v 64).testBit i = !(i.testBit v) := fun i hi => by
    have := Nat.testBit_two_pow_sub_succ (x := mk v 64) (n := 64) (by rw [pow64]; exact hm) i
    rw [pow64, show 18446744073709551616 - (mk v 64 + 1) = 18446744073709551615 - mk v 64 from by omega] at this
    rw [this, mk_bit]; simp [hi]
  have : ((W &&& (18446744073709551615 - mk v 64)) ||| ((W &&& (18446744073709551615 - mk v 64)) * 2 ^ 2 ^ v % 18446744073709551616)) = (wd (fix f (v : Int) false) c).toNat := by
    apply Nat.eq_of_testBit_eq
    intro j
    by_cases hj : j < 64
    · have hmod : ((W &&& (18446744073709551615 - mk v 64)) * 2 ^ 2 ^ v % 18446744073709551616).testBit j = (decide (2 ^ v ≤ j) && (W &&& (18446744073709551615 - mk v 64)).testBit (j - 2 ^ v)) := by
        rw [← pow64, Nat.testBit_mod_two_pow, Nat.testBit_mul_two_pow]
        simp [hj]
      have l4 := (low_wth2 v hv (64 * c + j) (by omega)).2
      rw [show (64 * c + j) % 64 = j from by omega] at l4
      rw [wd_testBit _ c j hj, fix_get (by omega) (by omega), Nat.testBit_or, hmod, Nat.testBit_and, hcomp j hj, l4]
      cases hb : j.testBit v
      · by_cases hp : 2 ^ v ≤ j
        · have q1 := lw4 v hv j hj hb hp
          rw [Nat.testBit_and, hcomp _ (Nat.lt_of_le_of_lt (Nat.sub_le _ _) hj), q1, ← hW, wd_testBit f c j hj]
          simp
        · rw [← hW, wd_testBit f c j hj]
          simp [hp]
      · obtain ⟨q1, q2⟩ := lw3 v hv j hj hb
        rw [Nat.testBit_and, hcomp _ (Nat.lt_of_le_of_lt (Nat.sub_le _ _) hj), q1, ← hW, wd_testBit f c (j - 2 ^ v) (Nat.lt_of_le_of_lt (Nat.sub_le _ _) hj)]
        rw [show 64 * c + j - 2 ^ v = 64 * c + (j - 2 ^ v) from Nat.add_sub_assoc q2 _]
        simp [q2]
    · rw [Nat.testBit_or, high64 hA hj, high64 hS hj, high64 (n := (wd (fix f (v : Int) false) c).toNat) (by omega) hj]; rfl
  omega
attribute [irreducible] mk
end Tb
end Go.Proofs.YtfkefgelceaimaaDoor
