/-
  What the document's quantifiers, Next and Prev come to. No program in sight.
-/
import Derived.Test.YtfkefgelceaimaaDoorStepPlain
import Derived.Test.YtfkefgelceaimaaDoorFixPlain
namespace Go.Proofs.YtfkefgelceaimaaDoor
set_option linter.unusedVariables false
namespace Tb
theorem not_exs_not (f : T) (m : Nat) : ~~~ (halves (fun F G => F ||| G) (~~~f) m) = halves (fun F G => F &&& G) f m := by
  refine ext_iff fun x hx => ?_
  rw [all_get _ _ hx, BitVec.getLsbD_not]
  simp only [hx, decide_true, Bool.true_and, Bool.not_eq_true']
  rw [← Bool.not_eq_true, exs_get _ _ hx]
  constructor
  · intro h y hy ha
    cases e : f.getLsbD y
    · exact absurd ⟨y, hy, by rw [BitVec.getLsbD_not, e]; simp [hy], ha⟩ h
    · rfl
  · rintro h ⟨y, hy, hn, ha⟩
    rw [BitVec.getLsbD_not, h y hy ha] at hn
    simp at hn
/-- variables set one by one -/
def rstTo (f : T) (m v : Nat) : Nat → T
  | 0 => f
  | k + 1 => if m.testBit k then fix (rstTo f m v k) (k : Int) (v.testBit k) else rstTo f m v k
theorem rstTo_get (f : T) (m v : Nat) : ∀ k, k ≤ 8 → ∀ x y, x < 256 → y < 256 → (∀ i, i < 8 → y.testBit i = if i < k ∧ m.testBit i = true then v.testBit i else x.testBit i) → (rstTo f m v k).getLsbD x = f.getLsbD y := by
  intro k
  induction k with
  | zero =>
    intro _ x y hx hy h
    rw [rstTo, eq_of_bits hy hx fun i hi => by rw [h i hi]; simp]
  | succ k ih =>
    intro hk x y hx hy h
    rw [rstTo]
    split
    · rename_i hm
      rw [fix_get (by omega) hx]
      refine ih (by omega) _ y (wth_lt x hx k (by omega) _) hy fun i hi => ?_
      rw [h i hi, wth_bit x hx k (by omega) _ i hi]
      by_cases e : i = k
      · subst e; simp [hm]
      · by_cases h2 : i < k
        · simp [show i < k + 1 from by omega, h2, e]
        · simp [show ¬ i < k + 1 from by omega, h2, e]
    · rename_i hm
      refine ih (by omega) x y hx hy fun i hi => ?_
      rw [h i hi]
      by_cases e : i = k
      · subst e; simp at hm; simp [hm]
      · by_cases h2 : i < k
        · simp [show i < k + 1 from by omega, h2]
        · simp [show ¬ i < k + 1 from by omega, h2]
theorem rstTo_all (f : T) (m v : Nat) (hm : m < 256) (hv : v < 256) : rstTo f m v 8 = restrict f m v := ext_get fun x hx => by
  rw [restrict_get _ _ _ hx]
  refine rstTo_get f m v 8 (by omega) x _ hx (rstx_lt _ _ _ hx hv) fun i hi => ?_
  rw [rstx_bit _ _ _ hm i hi]
  simp [hi]
theorem rstTo_zero (f : T) (m v : Nat) : rstTo f m v 0 = f := by rw [rstTo]
theorem rstTo_yes {f : T} {m v k : Nat} (h : m.testBit k = true) : rstTo f m v (k + 1) = fix (rstTo f m v k) (k : Int) (v.testBit k) := by rw [rstTo]; simp [h]
theorem rstTo_no {f : T} {m v k : Nat} (h : m.testBit k = false) : rstTo f m v (k + 1) = rstTo f m v k := by rw [rstTo]; simp [h]
/-- the even bits, packed -/
def hf (y : Nat) : Nat := (y &&& 1) ||| (y / 2 &&& 2) ||| (y / 4 &&& 4) ||| (y / 8 &&& 8)
def unhf (n : Nat) : Nat := (n &&& 1) ||| ((n &&& 2) * 2) ||| ((n &&& 4) * 4) ||| ((n &&& 8) * 8)
theorem hf_lt : ∀ y : Nat, y < 256 → hf y < 16 := by decide +kernel
theorem hf_un : ∀ y : Nat, y < 256 → unhf (hf y) = (y &&& 85) := by decide +kernel
theorem hf_and : ∀ y : Nat, y < 256 → hf y = hf (y &&& 85) := by decide +kernel
theorem hf_walk : ∀ y : Nat, y < 256 → bits .or .i64 (bits .or .i64 (bits .or .i64 (bits .and .i64 (y : Int) 1) (bits .and .i64 ((y : Int) / 2) 2)) (bits .and .i64 ((y : Int) / 4) 4)) (bits .and .i64 ((y : Int) / 8) 8) = (hf y : Int) := by decide +kernel
theorem hf_eq {x y : Nat} (hx : x < 256) (hy : y < 256) : (hf y == hf x) = ((y &&& 85) == (x &&& 85)) := by
  rw [Bool.eq_iff_iff, beq_iff_eq, beq_iff_eq]
  exact ⟨fun h => by rw [← hf_un y hy, ← hf_un x hx, h], fun h => by rw [hf_and y hy, hf_and x hx, h]⟩
/-- who leads there, told by what is packed -/
def cameR (s r : T) (j : Nat) : Nat → Bool := fun y => s.getLsbD y && r.getLsbD y && (hf (y / 2) == j)
def goesR (s r : T) (x : Nat) : Nat → Bool := fun y => (hf y == hf x) && r.getLsbD y && s.getLsbD (half y)
theorem any_congr {p q : Nat → Bool} {n : Nat} (h : ∀ y, y < n → p y = q y) : anyTo p n = anyTo q n := by
  rw [Bool.eq_iff_iff, anyTo_spec, anyTo_spec]
  exact ⟨fun ⟨k, hk, e⟩ => ⟨k, hk, by rw [← h k hk]; exact e⟩, fun ⟨k, hk, e⟩ => ⟨k, hk, by rw [h k hk]; exact e⟩⟩
theorem next_ref (s r : T) {x : Nat} (hx : x < 256) : (next s r).getLsbD x = anyTo (cameR s r (hf x)) 256 := by
  rw [next_came s r hx]
  refine any_congr fun y hy => ?_
  unfold came cameR
  rw [hf_eq hx (show y / 2 < 256 from by omega), half_and y hy]
  cases s.getLsbD y <;> cases r.getLsbD y <;> rfl
theorem prev_ref (s r : T) {x : Nat} (hx : x < 256) : (prev s r).getLsbD x = anyTo (goesR s r x) 256 := by
  rw [prev_goes s r hx]
  refine any_congr fun y hy => ?_
  unfold goes goesR
  rw [hf_eq hx hy]
  cases s.getLsbD (half y) <;> cases r.getLsbD y <;> simp
theorem tab_next (s r : T) : tab (fun x => anyTo (cameR s r (hf x)) 256) = next s r := tab_eq fun x hx => (next_ref s r hx).symm
theorem tab_prev (s r : T) : tab (fun x => anyTo (goesR s r x) 256) = prev s r := tab_eq fun x hx => (prev_ref s r hx).symm
theorem i64_even : ∀ y : Nat, y < 256 → bits .and .i64 ((y : Int) / 2) 85 = (half y : Int) := by unfold half; decide +kernel
attribute [irreducible] hf rstTo cameR goesR
end Tb
end Go.Proofs.YtfkefgelceaimaaDoor
