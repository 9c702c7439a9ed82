/-
  How many assignments make a table true: the laws of TruthCountsUp. No program in sight.
-/
import Derived.Test.YtfkefgelceaimaaDoorCtzPlain
import Derived.Test.YtfkefgelceaimaaDoorOnesPlain
import Derived.Test.YtfkefgelceaimaaDoorQuantPlain
namespace Go.Proofs.YtfkefgelceaimaaDoor
set_option linter.unusedVariables false
theorem Oc.pc_count : ∀ m, m ≤ 64 → ∀ n, n < 2 ^ m → Bt.pc n = (List.range m).countP (fun i => n.testBit i) := by
  intro m
  induction m with
  | zero =>
    intro _ n hn
    obtain rfl : n = 0 := by simpa using hn
    have := Oc.pc_two 0 (by decide)
    decide +kernel
  | succ m ih =>
    intro hm n hn
    have hlt : n < 18446744073709551616 := Nat.lt_of_lt_of_le hn (by have := Nat.pow_le_pow_right (show 0 < 2 by omega) hm; simpa using this)
    rw [Oc.pc_two n hlt, ih (by omega) (n / 2) (by rw [Nat.pow_succ] at hn; omega), List.range_succ_eq_map, List.countP_cons, List.countP_map]
    have e : ((fun i => n.testBit i) ∘ Nat.succ) = fun i => (n / 2).testBit i := by
      funext i; simp [Nat.testBit_succ]
    rw [e, Nat.testBit_zero]
    have : n % 2 = 0 ∨ n % 2 = 1 := by omega
    rcases this with h | h <;> simp [h] <;> omega
namespace Tb
theorem cnt_eq (f : T) : cnt f = (List.range 256).countP (fun x => f.getLsbD x) := by
  have hw : ∀ c, Bt.pc (wd f c).toNat = (List.range 64).countP (fun j => f.getLsbD (64 * c + j)) := fun c => by
    rw [Oc.pc_count 64 (by omega) _ (by have := wd_lo f c; have := wd_hi f c; omega)]
    refine List.countP_congr fun j hj => ?_
    rw [wd_testBit f c j (by simpa using hj)]
  have hr : List.range 256 = (List.range 64).map (fun j => 64 * 0 + j) ++ ((List.range 64).map (fun j => 64 * 1 + j) ++ ((List.range 64).map (fun j => 64 * 2 + j) ++ (List.range 64).map (fun j => 64 * 3 + j))) := by decide +kernel
  unfold cnt
  rw [hw, hw, hw, hw, hr, List.countP_append, List.countP_append, List.countP_append, List.countP_map, List.countP_map, List.countP_map, List.countP_map]
  simp only [Function.comp_def]
  omega
theorem cnt_le (f : T) : cnt f ≤ 256 := by
  rw [cnt_eq]
  have := List.countP_le_length (p := fun x => f.getLsbD x) (l := List.range 256)
  simpa using this
theorem countP_two (p q : Nat → Bool) (l : List Nat) : l.countP (fun x => p x && q x) + l.countP (fun x => p x || q x) = l.countP p + l.countP q := by
  induction l with
  | nil => rfl
  | cons a l ih =>
    simp only [List.countP_cons]
    cases p a <;> cases q a <;> simp <;> omega
theorem countP_half (p q : Nat → Bool) (l : List Nat) : l.countP (fun x => p x && q x) + l.countP (fun x => p x && !(q x)) = l.countP p := by
  induction l with
  | nil => rfl
  | cons a l ih =>
    simp only [List.countP_cons]
    cases p a <;> cases q a <;> simp <;> omega
theorem cnt_not (f : T) : cnt f + cnt (~~~f) = 256 := by
  rw [cnt_eq, cnt_eq]
  have h := countP_half (fun _ => true) (fun x => f.getLsbD x) (List.range 256)
  simp only [Bool.true_and] at h
  have e : (List.range 256).countP (fun x => (~~~f).getLsbD x) = (List.range 256).countP (fun x => !f.getLsbD x) :=
    List.countP_congr fun x hx => by rw [BitVec.getLsbD_not]; simp [show x < 256 from by simpa using hx]
  rw [e, h]; simp
theorem cnt_two (f g : T) : cnt (f &&& g) + cnt (f ||| g) = cnt f + cnt g := by
  rw [cnt_eq, cnt_eq, cnt_eq, cnt_eq, ← countP_two (fun x => f.getLsbD x) (fun x => g.getLsbD x)]
  congr 1
  · exact List.countP_congr fun x _ => by rw [BitVec.getLsbD_and]
  · exact List.countP_congr fun x _ => by rw [BitVec.getLsbD_or]
theorem cnt_half (f g : T) : cnt (f &&& g) + cnt (f &&& ~~~g) = cnt f := by
  rw [cnt_eq, cnt_eq, cnt_eq, ← countP_half (fun x => f.getLsbD x) (fun x => g.getLsbD x)]
  congr 1
  · exact List.countP_congr fun x _ => by rw [BitVec.getLsbD_and]
  · exact List.countP_congr fun x hx => by rw [BitVec.getLsbD_and, BitVec.getLsbD_not]; simp [show x < 256 from by simpa using hx]
theorem swap_perm : ∀ k : Nat, k < 8 → ((List.range 256).map fun x => x ^^^ 2 ^ k).Perm (List.range 256) := by decide +kernel
theorem cnt_swap (p : Nat → Bool) (k : Nat) (hk : k < 8) : (List.range 256).countP (fun x => p (x ^^^ 2 ^ k)) = (List.range 256).countP p := by
  rw [← (swap_perm k hk).countP_eq p, List.countP_map]; rfl
theorem swap_wth : ∀ x : Nat, x < 256 → ∀ k : Nat, k < 8 → (wth x k true = if x.testBit k then x else x ^^^ 2 ^ k) ∧ (x ^^^ 2 ^ k).testBit k = !x.testBit k ∧ (x ^^^ 2 ^ k) ^^^ 2 ^ k = x ∧ x ^^^ 2 ^ k < 256 := by decide +kernel
theorem kn_nat {k : Nat} (hk : k < 8) : kn (k : Int) = true := by unfold kn; simp; omega
theorem var_bit {k x : Nat} (hk : k < 8) (hx : x < 256) : (var (k : Int)).getLsbD x = x.testBit k := by
  rw [var_get _ _ hx, kn_nat hk]; simp
theorem cnt_fix (f : T) (k : Nat) (hk : k < 8) : cnt (fix f (k : Int) true) = 2 * cnt (f &&& var (k : Int)) := by
  have h := cnt_half (fix f (k : Int) true) (var (k : Int))
  have e1 : cnt (fix f (k : Int) true &&& var (k : Int)) = cnt (f &&& var (k : Int)) := by
    rw [cnt_eq, cnt_eq]
    refine List.countP_congr fun x hx => ?_
    have hx : x < 256 := by simpa using hx
    rw [BitVec.getLsbD_and, BitVec.getLsbD_and, fix_get hk hx, var_bit hk hx, (swap_wth x hx k hk).1]
    cases x.testBit k <;> simp
  have e2 : cnt (fix f (k : Int) true &&& ~~~ var (k : Int)) = cnt (f &&& var (k : Int)) := by
    rw [cnt_eq, cnt_eq, ← cnt_swap (fun x => (f &&& var (k : Int)).getLsbD x) k hk]
    refine List.countP_congr fun x hx => ?_
    have hx : x < 256 := by simpa using hx
    obtain ⟨h1, h2, h3, h4⟩ := swap_wth x hx k hk
    rw [BitVec.getLsbD_and, BitVec.getLsbD_not, BitVec.getLsbD_and, fix_get hk hx, var_bit hk hx, var_bit hk h4, h1, h2]
    cases x.testBit k <;> simp [hx]
  omega
theorem sup_bit : ∀ n : Nat, n < 256 → ∀ k : Nat, k < 8 → decide ((n / 2 ^ k) &&& 1 = 1) = n.testBit k := by decide +kernel
theorem sup_fix (f : T) (k : Nat) (hk : k < 8) : decide ((support f / 2 ^ k) &&& 1 = 1) = decide (fix f (k : Int) true ≠ fix f (k : Int) false) := by
  rw [sup_bit _ (support_lt f) k hk, support_bit]
  simp only [hk, decide_true, Bool.true_and, decide_eq_decide]
  exact ne_comm
end Tb
end Go.Proofs.YtfkefgelceaimaaDoor
