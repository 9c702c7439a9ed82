/-
  Texts on which the laws of this seat rest, part 4 of 11.
-/
import Derived.Test.YthbifeoohphnpaaBa3
import Derived.Laws.BitsAllLaws
/-
  Tables of 256 bits: their words, and what is done with them word by word. No program in sight.
-/
namespace Go.Proofs.Ythbifeoohphnpaa
set_option linter.unusedVariables false
open Go.RowKit
namespace Tb

abbrev T := BitVec 256

/-- word i of a table -/
def wd (f : T) (i : Nat) : Int := ((f.extractLsb' (64 * i) 64).toNat : Int)

theorem wd_lo (f : T) (i : Nat) : 0 ≤ wd f i := by unfold wd; omega
theorem wd_hi (f : T) (i : Nat) : wd f i < 18446744073709551616 := by
  unfold wd; have := (f.extractLsb' (64 * i) 64).isLt; omega

/-- a table as Go's value: four words -/
abbrev tv (f : T) : Value := .agg #[.int .u64 (wd f 0), .int .u64 (wd f 1), .int .u64 (wd f 2), .int .u64 (wd f 3)]
abbrev tcells (f : T) : Array Value := #[.int .u64 (wd f 0), .int .u64 (wd f 1), .int .u64 (wd f 2), .int .u64 (wd f 3)]

theorem wd_inj {f g : T} {i : Nat} (h : wd f i = wd g i) : f.extractLsb' (64 * i) 64 = g.extractLsb' (64 * i) 64 := by
  unfold wd at h; exact BitVec.eq_of_toNat_eq (by omega)

theorem ext4 {f g : T} (h0 : wd f 0 = wd g 0) (h1 : wd f 1 = wd g 1) (h2 : wd f 2 = wd g 2) (h3 : wd f 3 = wd g 3) : f = g := by
  apply BitVec.eq_of_getLsbD_eq
  intro i hi
  have key : ∀ c, wd f c = wd g c → 64 * c ≤ i → i < 64 * c + 64 → f.getLsbD i = g.getLsbD i := by
    intro c hc h1 h2
    have := congrArg (fun b => b.getLsbD (i - 64 * c)) (wd_inj hc)
    simp only [BitVec.getLsbD_extractLsb', show i - 64 * c < 64 from by omega, decide_true, Bool.true_and, show 64 * c + (i - 64 * c) = i from by omega] at this
    exact this
  by_cases a0 : i < 64
  · exact key 0 h0 (by omega) (by omega)
  by_cases a1 : i < 128
  · exact key 1 h1 (by omega) (by omega)
  by_cases a2 : i < 192
  · exact key 2 h2 (by omega) (by omega)
  · exact key 3 h3 (by omega) (by omega)

theorem wd_and (f g : T) (i : Nat) : wd (f &&& g) i = bits .and .u64 (wd f i) (wd g i) := by
  unfold wd
  rw [bits_and_u64_nat _ _ (BitVec.isLt _) (BitVec.isLt _), BitVec.extractLsb'_and, BitVec.toNat_and]
theorem wd_or (f g : T) (i : Nat) : wd (f ||| g) i = bits .or .u64 (wd f i) (wd g i) := by
  unfold wd
  rw [bits_or_u64_nat _ _ (BitVec.isLt _) (BitVec.isLt _), BitVec.extractLsb'_or, BitVec.toNat_or]
theorem wd_xor (f g : T) (i : Nat) : wd (f ^^^ g) i = bits .xor .u64 (wd f i) (wd g i) := by
  unfold wd
  rw [bits_xor_u64_nat _ _ (BitVec.isLt _) (BitVec.isLt _), BitVec.extractLsb'_xor, BitVec.toNat_xor]
theorem wd_not (f : T) (i : Nat) (hi : i < 4) : wd (~~~f) i = bits .xor .u64 IntKind.u64.max (wd f i) := by
  have e : (~~~f).extractLsb' (64 * i) 64 = BitVec.allOnes 64 ^^^ f.extractLsb' (64 * i) 64 := by
    apply BitVec.eq_of_getLsbD_eq
    intro j hj
    rw [BitVec.getLsbD_extractLsb', BitVec.getLsbD_xor, BitVec.getLsbD_allOnes, BitVec.getLsbD_extractLsb', BitVec.getLsbD_not]
    simp only [hj, show 64 * i + j < 256 from by omega, decide_true, Bool.true_and, Bool.true_xor]
  unfold wd
  rw [e, BitVec.toNat_xor, show IntKind.u64.max = ((BitVec.allOnes 64).toNat : Int) from by decide, bits_xor_u64_nat _ _ (BitVec.isLt _) (BitVec.isLt _)]

theorem getLsbD_wd (f : T) (x : Nat) (hx : x < 256) : f.getLsbD x = ((wd f (x / 64)).toNat.testBit (x % 64)) := by
  unfold wd
  rw [Int.toNat_natCast, BitVec.testBit_toNat, BitVec.getLsbD_extractLsb', show 64 * (x / 64) + x % 64 = x from by omega]
  simp [Nat.mod_lt]

/-- a table out of what is asked of each assignment, up to one -/
def tabTo (p : Nat → Bool) : Nat → T
  | 0 => 0#256
  | k + 1 => if p k then tabTo p k ||| (1#256 <<< k) else tabTo p k
def tab (p : Nat → Bool) : T := tabTo p 256

theorem one_shift (k x : Nat) : (1#256 <<< k).getLsbD x = (decide (x < 256) && decide (x = k)) := by
  rw [BitVec.getLsbD_shiftLeft]
  by_cases h : x = k
  · subst h; simp
  · by_cases h2 : x < k
    · simp [h2, h]
    · simp [h2, h, show x - k ≠ 0 from by omega]

theorem tabTo_get (p : Nat → Bool) (k x : Nat) (hk : k ≤ 256) : (tabTo p k).getLsbD x = (decide (x < k) && p x) := by
  induction k with
  | zero => simp [tabTo]
  | succ k ih =>
    have ih := ih (by omega)
    simp only [tabTo]
    by_cases hp : p k = true
    · rw [if_pos hp, BitVec.getLsbD_or, ih, one_shift]
      by_cases e : x = k
      · subst e; simp [hp, show x < 256 from by omega]
      · simp [e, show (x < k + 1) ↔ (x < k) from by omega]
    · rw [if_neg hp, ih]
      by_cases e : x = k
      · subst e; simp at hp; simp [hp]
      · simp [show (x < k + 1) ↔ (x < k) from by omega]

theorem tab_get (p : Nat → Bool) (x : Nat) : (tab p).getLsbD x = (decide (x < 256) && p x) := tabTo_get p 256 x (by omega)

theorem ext_get {f g : T} (h : ∀ x, x < 256 → f.getLsbD x = g.getLsbD x) : f = g := BitVec.eq_of_getLsbD_eq h

theorem tab_eq {p : Nat → Bool} {f : T} (h : ∀ x, x < 256 → p x = f.getLsbD x) : tab p = f := by
  apply ext_get
  intro x hx
  rw [tab_get, h x hx]; simp [hx]

theorem tab_congr {p q : Nat → Bool} (h : ∀ x, x < 256 → p x = q x) : tab p = tab q := by
  apply tab_eq
  intro x hx
  rw [tab_get, h x hx]; simp [hx]

theorem wd_testBit (f : T) (c j : Nat) (hj : j < 64) : (wd f c).toNat.testBit j = f.getLsbD (64 * c + j) := by
  unfold wd
  rw [Int.toNat_natCast, BitVec.testBit_toNat, BitVec.getLsbD_extractLsb']; simp [hj]

/-- setting a bit, word by word -/
theorem wd_set (f : T) (k c : Nat) (hk : k < 256) (hc : c < 4) : wd (f ||| (1#256 <<< k)) c = if c = k / 64 then bits .or .u64 (wd f c) (2 ^ (k % 64)) else wd f c := by
  have hs : wd (1#256 <<< k) c = if c = k / 64 then 2 ^ (k % 64) else 0 := by
    have hn : (wd (1#256 <<< k) c) = (((if c = k / 64 then 2 ^ (k % 64) else 0 : Nat)) : Int) := by
      have h64 : k % 64 < 64 := Nat.mod_lt _ (by omega)
      have hlt : (if c = k / 64 then 2 ^ (k % 64) else 0 : Nat) < 2 ^ 64 := by
        split
        · exact Nat.pow_lt_pow_right (by omega) h64
        · exact Nat.two_pow_pos 64
      unfold wd
      congr 1
      apply Nat.eq_of_testBit_eq
      intro j
      rw [BitVec.testBit_toNat, BitVec.getLsbD_extractLsb', one_shift]
      by_cases hj : j < 64
      · by_cases e : c = k / 64
        · subst e
          rw [if_pos rfl, Nat.testBit_two_pow]
          simp only [hj, decide_true, Bool.true_and]
          rw [decide_eq_true (show 64 * (k / 64) + j < 256 from by omega), Bool.true_and, decide_eq_decide]
          omega
        · rw [if_neg e, Nat.zero_testBit]
          simp only [hj, decide_true, Bool.true_and]
          rw [show decide (64 * c + j = k) = false from by simp; omega]
          simp
      · simp only [hj, decide_false, Bool.false_and]
        symm
        apply Nat.testBit_lt_two_pow
        exact Nat.lt_of_lt_of_le hlt (Nat.pow_le_pow_right (by omega) (by omega))
    rw [hn]
    split
    · rw [Int.natCast_pow]; rfl
    · rfl
  rw [wd_or, hs]
  split
  · rfl
  · have e := bits_or_u64_nat (f.extractLsb' (64 * c) 64).toNat 0 (BitVec.isLt _) (by omega)
    rw [Nat.or_zero] at e
    exact e

/-- the cells of a table, a bit set -/
theorem tcells_set (f : T) (k : Nat) (hk : k < 256) :
    (tcells f).setIfInBounds (k / 64) (.int .u64 (bits .or .u64 (wd f (k / 64)) (2 ^ (k % 64)))) = tcells (f ||| (1#256 <<< k)) := by
  have h : k / 64 = 0 ∨ k / 64 = 1 ∨ k / 64 = 2 ∨ k / 64 = 3 := by omega
  have e0 := wd_set f k 0 hk (by omega)
  have e1 := wd_set f k 1 hk (by omega)
  have e2 := wd_set f k 2 hk (by omega)
  have e3 := wd_set f k 3 hk (by omega)
  unfold tcells
  rw [e0, e1, e2, e3]
  rcases h with h | h | h | h <;> rw [h] <;> simp
theorem tcells_at (f : T) (k : Nat) (hk : k < 256) : (tcells f)[k / 64]? = some (.int .u64 (wd f (k / 64))) := by
  have h : k / 64 = 0 ∨ k / 64 = 1 ∨ k / 64 = 2 ∨ k / 64 = 3 := by omega
  rcases h with h | h | h | h <;> rw [h] <;> rfl

theorem wd_zero (i : Nat) : wd 0#256 i = 0 := by
  unfold wd
  rw [show (0#256).extractLsb' (64 * i) 64 = 0#64 from by apply BitVec.eq_of_getLsbD_eq; intro j hj; simp]
  rfl
theorem tcells_zero : tcells 0#256 = #[.int .u64 0, .int .u64 0, .int .u64 0, .int .u64 0] := by
  unfold tcells; simp only [wd_zero]

theorem tabTo_zero (p : Nat → Bool) : tabTo p 0 = 0#256 := rfl
theorem tabTo_yes {p : Nat → Bool} {k : Nat} (h : p k = true) : tabTo p (k + 1) = tabTo p k ||| (1#256 <<< k) := by simp [tabTo, h]
theorem tabTo_no {p : Nat → Bool} {k : Nat} (h : p k = false) : tabTo p (k + 1) = tabTo p k := by simp [tabTo, h]
theorem tab_def (p : Nat → Bool) : tab p = tabTo p 256 := rfl

theorem wrap_pow (k : Nat) : IntKind.u64.wrap (2 ^ (k % 64)) = (2 : Int) ^ (k % 64) := by
  have h : (2 : Nat) ^ (k % 64) < 2 ^ 64 := Nat.pow_lt_pow_right (by omega) (Nat.mod_lt _ (by omega))
  have e : ((2 : Int) ^ (k % 64)) = ((2 ^ (k % 64) : Nat) : Int) := by rw [Int.natCast_pow]; rfl
  rw [IntKind.wrap_u64, e]
  generalize (2 : Nat) ^ (k % 64) = m at *
  omega

/-- a word turned -/
def nt (x : Int) : Int := bits .xor .u64 IntKind.u64.max x
theorem nt_op (x : Int) : Op.unary .xor (.int .u64 x) = pure (.int .u64 (nt x)) := rfl
theorem nt_wd (f : T) (i : Nat) (hi : i < 4) : nt (wd f i) = wd (~~~f) i := (wd_not f i hi).symm

/-- a constant's table -/
def cst (b : Bool) : T := if b then BitVec.allOnes 256 else 0#256
theorem cst_get (b : Bool) (x : Nat) (hx : x < 256) : (cst b).getLsbD x = b := by
  cases b
  · simp [cst]
  · show (BitVec.allOnes 256).getLsbD x = true
    rw [BitVec.getLsbD_allOnes]; simp [hx]
theorem tab_cst (b : Bool) : tab (fun _ => b) = cst b := tab_eq fun x hx => (cst_get b x hx).symm

/-- is there such a variable? -/
def kn (v : Int) : Bool := decide (0 ≤ v) && decide (v < 8)
/-- a variable's table -/
def var (v : Int) : T := tab fun x => kn v && x.testBit v.toNat
theorem var_get (v : Int) (x : Nat) (hx : x < 256) : (var v).getLsbD x = (kn v && x.testBit v.toNat) := by
  unfold var; rw [tab_get]; simp [hx]

theorem u8_bit : ∀ x : Nat, x < 256 → ∀ v : Nat, v < 8 → (bits .and .u8 ((x : Int) / 2 ^ v) 1 == 1) = x.testBit v := by decide +kernel

theorem u64_bit (f : T) (x : Nat) (hx : x < 256) : (bits .and .u64 (wd f (x / 64) / 2 ^ (x % 64)) 1 == 1) = f.getLsbD x := by
  rw [getLsbD_wd f x hx]
  have h0 := wd_lo f (x / 64)
  have h1 := wd_hi f (x / 64)
  obtain ⟨n, hn⟩ := Int.eq_ofNat_of_zero_le h0
  rw [hn] at h1 ⊢
  have hd : (n : Int) / 2 ^ (x % 64) = ((n / 2 ^ (x % 64) : Nat) : Int) := by rw [Int.natCast_ediv]; congr 1
  have hdl : n / 2 ^ (x % 64) ≤ n := Nat.div_le_self _ _
  have e1 := bits_and_u64_nat (n / 2 ^ (x % 64)) 1 (by omega) (by omega)
  rw [Nat.and_one_is_mod] at e1
  rw [hd, show (1 : Int) = ((1 : Nat) : Int) from rfl, e1, Int.toNat_natCast, Nat.testBit_eq_decide_div_mod_eq]
  rw [Bool.eq_iff_iff, beq_iff_eq, decide_eq_true_eq]
  omega

/-- an assignment with a variable set -/
def wth (x v : Nat) (b : Bool) : Nat := if b then x ||| 2 ^ v else x - (if x.testBit v then 2 ^ v else 0)
theorem wth_or : ∀ x : Nat, x < 256 → ∀ v : Nat, v < 8 → bits .or .u8 (x : Int) (IntKind.u8.wrap (2 ^ v)) = (wth x v true : Int) := by decide +kernel
theorem wth_andNot : ∀ x : Nat, x < 256 → ∀ v : Nat, v < 8 → bits .andNot .u8 (x : Int) (IntKind.u8.wrap (2 ^ v)) = (wth x v false : Int) := by decide +kernel
theorem wth_lt : ∀ x : Nat, x < 256 → ∀ v : Nat, v < 8 → ∀ b, wth x v b < 256 := by decide +kernel
theorem wth_bit : ∀ x : Nat, x < 256 → ∀ v : Nat, v < 8 → ∀ b, ∀ i : Nat, i < 8 → (wth x v b).testBit i = (if i = v then b else x.testBit i) := by decide +kernel

/-- a variable set for good -/
def fix (f : T) (v : Int) (b : Bool) : T := if kn v then tab (fun x => f.getLsbD (wth x v.toNat b)) else f
theorem fix_yes {v : Int} (h : kn v = true) (f : T) (b : Bool) : fix f v b = tab (fun x => f.getLsbD (wth x v.toNat b)) := by simp [fix, h]
theorem fix_no {v : Int} (h : kn v = false) (f : T) (b : Bool) : fix f v b = f := by simp [fix, h]

/-- both halves joined, variable by variable -/
def halvesTo (J : T → T → T) (f : T) (mask : Nat) : Nat → T
  | 0 => f
  | k + 1 => if mask.testBit k then J (fix (halvesTo J f mask k) (k : Int) false) (fix (halvesTo J f mask k) (k : Int) true) else halvesTo J f mask k
def halves (J : T → T → T) (f : T) (mask : Nat) : T := halvesTo J f mask 8
theorem halvesTo_zero (J : T → T → T) (f : T) (mask : Nat) : halvesTo J f mask 0 = f := rfl
theorem halvesTo_yes {J : T → T → T} {f : T} {mask k : Nat} (h : mask.testBit k = true) : halvesTo J f mask (k + 1) = J (fix (halvesTo J f mask k) (k : Int) false) (fix (halvesTo J f mask k) (k : Int) true) := by simp [halvesTo, h]
theorem halvesTo_no {J : T → T → T} {f : T} {mask k : Nat} (h : mask.testBit k = false) : halvesTo J f mask (k + 1) = halvesTo J f mask k := by simp [halvesTo, h]
theorem halves_def (J : T → T → T) (f : T) (mask : Nat) : halves J f mask = halvesTo J f mask 8 := rfl

/-- an assignment with a mask's variables set -/
def rstx (x m v : Nat) : Nat := (x &&& (255 - m)) ||| (v &&& m)
theorem rstx_lt (x m v : Nat) (hx : x < 256) (hv : v < 256) : rstx x m v < 256 :=
  Nat.or_lt_two_pow (n := 8) (Nat.lt_of_le_of_lt Nat.and_le_left (by omega)) (Nat.lt_of_le_of_lt Nat.and_le_left (by omega))
theorem rstx_walk (x m v : Nat) (hx : x < 256) (hm : m < 256) (hv : v < 256) :
    bits .or .u8 (bits .andNot .u8 (x : Int) (m : Int)) (bits .and .u8 (v : Int) (m : Int)) = (rstx x m v : Int) := by
  rw [u8_andNot_nat x m hx hm, u8_and_nat v m hv hm, u8_or_nat _ _ (Nat.lt_of_le_of_lt Nat.and_le_left hx) (Nat.lt_of_le_of_lt Nat.and_le_left hv)]
  rfl
def restrict (f : T) (m v : Nat) : T := tab fun x => f.getLsbD (rstx x m v)
theorem restrict_def (f : T) (m v : Nat) : restrict f m v = tab fun x => f.getLsbD (rstx x m v) := rfl

/-- is it so for some below? -/
def anyTo (q : Nat → Bool) : Nat → Bool
  | 0 => false
  | k + 1 => anyTo q k || q k
theorem anyTo_hit {q : Nat → Bool} {k n : Nat} (h : q k = true) (hk : k < n) : anyTo q n = true := by
  induction n with
  | zero => omega
  | succ n ih =>
    simp only [anyTo]
    by_cases e : k = n
    · subst e; simp [h]
    · rw [ih (by omega)]; rfl
theorem anyTo_spec {q : Nat → Bool} {n : Nat} : anyTo q n = true ↔ ∃ k, k < n ∧ q k = true := by
  constructor
  · intro h
    induction n with
    | zero => cases h
    | succ n ih =>
      simp only [anyTo, Bool.or_eq_true] at h
      rcases h with h | h
      · obtain ⟨k, hk, hq⟩ := ih h; exact ⟨k, by omega, hq⟩
      · exact ⟨n, by omega, h⟩
  · rintro ⟨k, hk, hq⟩; exact anyTo_hit hq hk
theorem anyTo_no {q : Nat → Bool} {k : Nat} (h : anyTo q k = false) (hq : q k = false) : anyTo q (k + 1) = false := by simp [anyTo, h, hq]

/-- y's odd variables are x's even ones -/
def nx (x y : Nat) : Bool := y &&& 170 == (x &&& 85) * 2
theorem nx_walk (x y : Nat) (hx : x < 256) (hy : y < 256) : (bits .and .u8 (y : Int) 170 == bits .and .u8 (x : Int) 85 * 2 % 256) = nx x y := by
  have e1 := u8_and_nat y 170 hy (by omega)
  have e2 := u8_and_nat x 85 hx (by omega)
  rw [show (170 : Int) = ((170 : Nat) : Int) from rfl, e1, show (85 : Int) = ((85 : Nat) : Int) from rfl, e2]
  have hl : x &&& 85 ≤ 85 := Nat.and_le_right
  unfold nx
  rw [Bool.eq_iff_iff, beq_iff_eq, beq_iff_eq]
  omega
def next (s r : T) : T := tab fun x => anyTo (fun y => nx x y && (s &&& r).getLsbD y) 256
theorem next_def (s r : T) : next s r = tab fun x => anyTo (fun y => nx x y && (s &&& r).getLsbD y) 256 := rfl

/-- y's even variables are x's -/
def pv (x y : Nat) : Bool := y &&& 85 == x &&& 85
theorem pv_walk (x y : Nat) (hx : x < 256) (hy : y < 256) : (bits .and .u8 (y : Int) 85 == bits .and .u8 (x : Int) 85) = pv x y := by
  have e1 := u8_and_nat y 85 hy (by omega)
  have e2 := u8_and_nat x 85 hx (by omega)
  rw [show (85 : Int) = ((85 : Nat) : Int) from rfl, e1, e2]
  unfold pv
  rw [Bool.eq_iff_iff, beq_iff_eq, beq_iff_eq]
  omega
/-- y's odd variables, as even ones -/
def half (y : Nat) : Nat := (y &&& 170) / 2
theorem half_lt (y : Nat) : half y < 256 := by have : y &&& 170 ≤ 170 := Nat.and_le_right; unfold half; omega
theorem half_walk (y : Nat) (hy : y < 256) : bits .and .u8 (y : Int) 170 / 2 = (half y : Int) := by
  have e1 := u8_and_nat y 170 hy (by omega)
  rw [show (170 : Int) = ((170 : Nat) : Int) from rfl, e1]
  unfold half; omega
def prev (s r : T) : T := tab fun x => anyTo (fun y => pv x y && r.getLsbD y && s.getLsbD (half y)) 256
theorem prev_def (s r : T) : prev s r = tab fun x => anyTo (fun y => pv x y && r.getLsbD y && s.getLsbD (half y)) 256 := rfl

/-- the variables on which it hangs -/
def supTo (f : T) : Nat → Nat
  | 0 => 0
  | k + 1 => if fix f (k : Int) false = fix f (k : Int) true then supTo f k else supTo f k ||| 2 ^ k
def support (f : T) : Nat := supTo f 8
theorem support_def (f : T) : support f = supTo f 8 := rfl
theorem supTo_lt (f : T) (k : Nat) (hk : k ≤ 8) : supTo f k < 256 := by
  induction k with
  | zero => simp [supTo]
  | succ k ih =>
    simp only [supTo]
    split
    · exact ih (by omega)
    · refine Nat.or_lt_two_pow (n := 8) (ih (by omega)) (Nat.pow_lt_pow_right (by omega) (by omega))

attribute [irreducible] wd nt tab tabTo cst kn var wth fix halvesTo halves rstx restrict anyTo nx next pv half prev supTo support

end Tb
end Go.Proofs.Ythbifeoohphnpaa

/-
  What a handle says: a table. No program in sight.
-/
namespace Go.Proofs.Ythbifeoohphnpaa
set_option linter.unusedVariables false
open Go.RowKit
/-- where a variable is true the one, else the other -/
def Tb.mux (v : Int) (f g : Tb.T) : Tb.T := (Tb.var v &&& g) ||| (~~~(Tb.var v) &&& f)
/-- a handle's table, so deep -/
def Sto.den (S : Sto) : Nat → Nat → Tb.T
  | 0, h => if h = 1 then ~~~(0#256) else 0#256
  | k + 1, h => match S.get h with
    | none => if h = 1 then ~~~(0#256) else 0#256
    | some nd => Tb.mux ((S.vars.getD nd.l 0 : Nat) : Int) (S.den k nd.a) (S.den k nd.b)
/-- a handle's table -/
def Sto.tab (S : Sto) (h : Nat) : Tb.T := S.den 9 h
theorem Sto.den_none {S : Sto} {h : Nat} (hg : S.get h = none) : ∀ k, S.den k h = if h = 1 then ~~~(0#256) else 0#256
  | 0 => rfl
  | k + 1 => by unfold Sto.den; rw [hg]
theorem Sto.get_small {S : Sto} {h : Nat} (h2 : h < 2) : S.get h = none := by unfold Sto.get; rw [if_pos h2]
theorem Sto.tab_zero (S : Sto) : S.tab 0 = 0#256 := by unfold Sto.tab; rw [Sto.den_none (Sto.get_small (by omega))]; rfl
theorem Sto.tab_one (S : Sto) : S.tab 1 = ~~~(0#256) := by unfold Sto.tab; rw [Sto.den_none (Sto.get_small (by omega))]; rfl
theorem Sto.lev_nd {S : Sto} {h : Nat} {nd : Nd} (hg : S.get h = some nd) : S.lev h = (nd.l : Int) := by
  have := Sto.get_lt hg
  unfold Sto.lev
  rw [if_neg (by omega), hg]
namespace Sto.Wf
variable {S : Sto}
theorem den_stable (W : S.Wf) : ∀ (k h j : Nat), (S.n : Int) - S.lev h ≤ (k : Int) → k ≤ j → S.is h = true → S.den j h = S.den k h := by
  intro k
  induction k with
  | zero =>
    intro h j hk hj hi
    have hg : S.get h = none := by
      cases hg : S.get h with
      | none => rfl
      | some nd => have := (W.kid h nd hg).1; rw [Sto.lev_nd hg] at hk; omega
    rw [Sto.den_none hg, Sto.den_none hg]
  | succ k ih =>
    intro h j hk hj hi
    obtain ⟨j', rfl⟩ : ∃ j', j = j' + 1 := ⟨j - 1, by omega⟩
    cases hg : S.get h with
    | none => rw [Sto.den_none hg, Sto.den_none hg]
    | some nd =>
      obtain ⟨h1, h2, h3, h4, h5⟩ := W.kid h nd hg
      rw [Sto.lev_nd hg] at hk
      unfold Sto.den
      rw [hg]
      simp only
      rw [ih nd.a j' (by omega) (by omega) h2, ih nd.b j' (by omega) (by omega) h3]
theorem tab_nd (W : S.Wf) {h : Nat} {nd : Nd} (hg : S.get h = some nd) : S.tab h = Tb.mux ((S.vars.getD nd.l 0 : Nat) : Int) (S.tab nd.a) (S.tab nd.b) := by
  obtain ⟨h1, h2, h3, h4, h5⟩ := W.kid h nd hg
  have := W.n8
  unfold Sto.tab
  rw [W.den_stable 8 nd.a 9 (by omega) (by omega) h2, W.den_stable 8 nd.b 9 (by omega) (by omega) h3]
  conv => lhs; unfold Sto.den
  rw [hg]
end Sto.Wf
/-- a store with all nodes of another one -/
structure Sto.Ext (S S' : Sto) : Prop where
  n : S'.n = S.n
  vars : S'.vars = S.vars
  levels : S'.levels = S.levels
  room : S'.room = S.room
  off : S'.off = S.off
  get : ∀ h nd, S.get h = some nd → S'.get h = some nd
namespace Sto.Ext
variable {S S' S'' : Sto}
theorem refl (S : Sto) : Sto.Ext S S := ⟨rfl, rfl, rfl, rfl, rfl, fun _ _ h => h⟩
theorem trans (h : Sto.Ext S S') (k : Sto.Ext S' S'') : Sto.Ext S S'' := ⟨k.n.trans h.n, k.vars.trans h.vars, k.levels.trans h.levels, k.room.trans h.room, k.off.trans h.off, fun x nd hx => k.get x nd (h.get x nd hx)⟩
theorem is (h : Sto.Ext S S') {x : Nat} (hx : S.is x = true) : S'.is x = true := by
  unfold Sto.is at hx ⊢
  rw [Bool.or_eq_true] at hx ⊢
  rcases hx with hx | hx
  · exact .inl hx
  · right
    cases hg : S.get x with
    | none => rw [hg] at hx; cases hx
    | some nd => rw [h.get x nd hg]; rfl
theorem lev (h : Sto.Ext S S') {x : Nat} (hx : S.is x = true) : S'.lev x = S.lev x := by
  unfold Sto.is at hx
  unfold Sto.lev
  by_cases x2 : x < 2
  · rw [if_pos x2, if_pos x2, h.n]
  · rw [if_neg x2, if_neg x2]
    simp only [x2, decide_false, Bool.false_or] at hx
    cases hg : S.get x with
    | none => rw [hg] at hx; cases hx
    | some nd => rw [h.get x nd hg]
theorem den (h : Sto.Ext S S') (W : S.Wf) : ∀ k x, S.is x = true → S'.den k x = S.den k x
  | 0, x, _ => rfl
  | k + 1, x, hx => by
    cases hg : S.get x with
    | none =>
      have h2 : x < 2 := by
        unfold Sto.is at hx
        rw [hg] at hx
        simpa using hx
      rw [Sto.den_none hg, Sto.den_none (Sto.get_small h2)]
    | some nd =>
      obtain ⟨h1, h2, h3, h4, h5⟩ := W.kid x nd hg
      unfold Sto.den
      rw [hg, h.get x nd hg, h.vars]
      simp only
      rw [h.den W k nd.a h2, h.den W k nd.b h3]
theorem tab (h : Sto.Ext S S') (W : S.Wf) {x : Nat} (hx : S.is x = true) : S'.tab x = S.tab x := h.den W 9 x hx
theorem add (W : S.Wf) (nd : Nd) : Sto.Ext S (S.add nd) := by
  obtain ⟨h1, h2, h3, h4, h5⟩ := Sto.Wf.add_same S nd
  exact ⟨h2, h3, h4, h1, h5, fun h m hg => W.add_keeps nd hg⟩
end Sto.Ext
end Go.Proofs.Ythbifeoohphnpaa

/-
  Tables with variables quantified or set: what each of them is at an assignment; the laws of TruthQuants. No program in sight.
-/
namespace Go.Proofs.Ythbifeoohphnpaa
set_option linter.unusedVariables false
namespace Tb
theorem eq_of_bits {x y : Nat} (hx : x < 256) (hy : y < 256) (h : ∀ i, i < 8 → x.testBit i = y.testBit i) : x = y := by
  apply Nat.eq_of_testBit_eq
  intro i
  by_cases hi : i < 8
  · exact h i hi
  · have hp : 256 ≤ 2 ^ i := by
      have : 2 ^ 8 ≤ 2 ^ i := Nat.pow_le_pow_right (by omega) (by omega)
      simpa using this
    rw [Nat.testBit_lt_two_pow (by omega), Nat.testBit_lt_two_pow (by omega)]
theorem fix_get {f : T} {v : Nat} {b : Bool} {x : Nat} (hv : v < 8) (hx : x < 256) : (fix f (v : Int) b).getLsbD x = f.getLsbD (wth x v b) := by
  have hk : kn (v : Int) = true := by unfold kn; simp; omega
  rw [fix_yes hk, tab_get]
  simp [hx]

theorem exsTo_get (f : T) (m : Nat) : ∀ (k : Nat), k ≤ 8 → ∀ x, x < 256 →
    ((halvesTo (fun F G => F ||| G) f m k).getLsbD x = true ↔ ∃ y, y < 256 ∧ f.getLsbD y = true ∧ ∀ i, i < 8 → ¬ (i < k ∧ m.testBit i = true) → y.testBit i = x.testBit i) := by
  intro k
  induction k with
  | zero =>
    intro _ x hx
    rw [halvesTo_zero]
    constructor
    · intro h; exact ⟨x, hx, h, fun _ _ _ => rfl⟩
    · rintro ⟨y, hy, h, hb⟩
      rw [← eq_of_bits hy hx (fun i hi => hb i hi (by omega))]; exact h
  | succ k ih =>
    intro hk x hx
    have ih := ih (by omega)
    by_cases hm : m.testBit k = true
    · rw [halvesTo_yes hm, BitVec.getLsbD_or, Bool.or_eq_true, fix_get (by omega) hx, fix_get (by omega) hx]
      have hw : ∀ b, wth x k b < 256 := wth_lt x hx k (by omega)
      have hwb := wth_bit x hx k (by omega)
      rw [ih _ (hw false), ih _ (hw true)]
      have key : ∀ b, (∃ y, y < 256 ∧ f.getLsbD y = true ∧ ∀ i, i < 8 → ¬ (i < k ∧ m.testBit i = true) → y.testBit i = (wth x k b).testBit i) → ∃ y, y < 256 ∧ f.getLsbD y = true ∧ ∀ i, i < 8 → ¬ (i < k + 1 ∧ m.testBit i = true) → y.testBit i = x.testBit i := by
        rintro b ⟨y, hy, h, hb⟩
        refine ⟨y, hy, h, fun i hi hn => ?_⟩
        have hik : i ≠ k := fun e => hn ⟨by omega, e ▸ hm⟩
        rw [hb i hi (fun ⟨h1, h2⟩ => hn ⟨by omega, h2⟩), hwb b i hi, if_neg hik]
      constructor
      · rintro (h | h)
        · exact key _ h
        · exact key _ h
      · rintro ⟨y, hy, h, hb⟩
        have h2 : ∃ y', y' < 256 ∧ f.getLsbD y' = true ∧ ∀ i, i < 8 → ¬ (i < k ∧ m.testBit i = true) → y'.testBit i = (wth x k (y.testBit k)).testBit i := by
          refine ⟨y, hy, h, fun i hi hn => ?_⟩
          rw [hwb _ i hi]
          split
          · rename_i e; rw [e]
          · rename_i e; exact hb i hi (fun ⟨h1, h2⟩ => hn ⟨by omega, h2⟩)
        revert h2
        cases y.testBit k
        · exact Or.inl
        · exact Or.inr
    · have hm' : m.testBit k = false := by simpa using hm
      rw [halvesTo_no hm', ih x hx]
      have : ∀ i, (i < k ∧ m.testBit i = true) ↔ (i < k + 1 ∧ m.testBit i = true) := fun i =>
        ⟨fun ⟨a, b⟩ => ⟨by omega, b⟩, fun ⟨a, b⟩ => ⟨by by_cases e : i = k; · subst e; exact absurd b hm
                                                        · omega, b⟩⟩
      simp only [this]
theorem allTo_get (f : T) (m : Nat) : ∀ (k : Nat), k ≤ 8 → ∀ x, x < 256 →
    ((halvesTo (fun F G => F &&& G) f m k).getLsbD x = true ↔ ∀ y, y < 256 → (∀ i, i < 8 → ¬ (i < k ∧ m.testBit i = true) → y.testBit i = x.testBit i) → f.getLsbD y = true) := by
  intro k
  induction k with
  | zero =>
    intro _ x hx
    rw [halvesTo_zero]
    constructor
    · intro h y hy hb
      rw [eq_of_bits hy hx (fun i hi => hb i hi (by omega))]; exact h
    · intro h; exact h x hx (fun _ _ _ => rfl)
  | succ k ih =>
    intro hk x hx
    have ih := ih (by omega)
    by_cases hm : m.testBit k = true
    · rw [halvesTo_yes hm, BitVec.getLsbD_and, Bool.and_eq_true, fix_get (by omega) hx, fix_get (by omega) hx]
      have hw : ∀ b, wth x k b < 256 := wth_lt x hx k (by omega)
      have hwb := wth_bit x hx k (by omega)
      rw [ih _ (hw false), ih _ (hw true)]
      constructor
      · rintro ⟨h0, h1⟩ y hy hb
        have h2 : ∀ i, i < 8 → ¬ (i < k ∧ m.testBit i = true) → y.testBit i = (wth x k (y.testBit k)).testBit i := by
          intro i hi hn
          rw [hwb _ i hi]
          split
          · rename_i e; rw [e]
          · rename_i e; exact hb i hi (fun ⟨h1, h2⟩ => hn ⟨by omega, h2⟩)
        revert h2
        cases y.testBit k
        · exact h0 y hy
        · exact h1 y hy
      · intro h
        have key : ∀ b y, y < 256 → (∀ i, i < 8 → ¬ (i < k ∧ m.testBit i = true) → y.testBit i = (wth x k b).testBit i) → f.getLsbD y = true := by
          intro b y hy hb
          refine h y hy fun i hi hn => ?_
          have hik : i ≠ k := fun e => hn ⟨by omega, e ▸ hm⟩
          rw [hb i hi (fun ⟨h1, h2⟩ => hn ⟨by omega, h2⟩), hwb b i hi, if_neg hik]
        exact ⟨key false, key true⟩
    · have hm' : m.testBit k = false := by simpa using hm
      rw [halvesTo_no hm', ih x hx]
      have : ∀ i, (i < k ∧ m.testBit i = true) ↔ (i < k + 1 ∧ m.testBit i = true) := fun i =>
        ⟨fun ⟨a, b⟩ => ⟨by omega, b⟩, fun ⟨a, b⟩ => ⟨by by_cases e : i = k; · subst e; exact absurd b hm
                                                        · omega, b⟩⟩
      simp only [this]
/-- two assignments agree but for a mask -/
def Agree (m x y : Nat) : Prop := ∀ i, i < 8 → m.testBit i = false → x.testBit i = y.testBit i
theorem Agree.refl (m x : Nat) : Agree m x x := fun _ _ _ => rfl
theorem Agree.symm {m x y : Nat} (h : Agree m x y) : Agree m y x := fun i hi hm => (h i hi hm).symm
theorem Agree.trans {m x y z : Nat} (h : Agree m x y) (h' : Agree m y z) : Agree m x z := fun i hi hm => (h i hi hm).trans (h' i hi hm)
theorem exs_get (f : T) (m : Nat) {x : Nat} (hx : x < 256) : (halves (fun F G => F ||| G) f m).getLsbD x = true ↔ ∃ y, y < 256 ∧ f.getLsbD y = true ∧ Agree m y x := by
  rw [halves_def, exsTo_get f m 8 (by omega) x hx]
  constructor
  · rintro ⟨y, hy, h, hb⟩
    exact ⟨y, hy, h, fun i hi hm => hb i hi (fun h => by rw [hm] at h; exact absurd h.2 (by simp))⟩
  · rintro ⟨y, hy, h, hb⟩
    exact ⟨y, hy, h, fun i hi hm => hb i hi (by cases e : m.testBit i; rfl; exact absurd ⟨hi, e⟩ hm)⟩
theorem all_get (f : T) (m : Nat) {x : Nat} (hx : x < 256) : (halves (fun F G => F &&& G) f m).getLsbD x = true ↔ ∀ y, y < 256 → Agree m y x → f.getLsbD y = true := by
  rw [halves_def, allTo_get f m 8 (by omega) x hx]
  constructor
  · intro h y hy hb
    exact h y hy fun i hi hm => hb i hi (by cases e : m.testBit i; rfl; exact absurd ⟨hi, e⟩ hm)
  · intro h y hy hb
    exact h y hy fun i hi hm => hb i hi (fun h => by rw [hm] at h; exact absurd h.2 (by simp))
theorem comp_bit (m : Nat) (hm : m < 256) (i : Nat) (hi : i < 8) : (255 - m).testBit i = !(m.testBit i) := by
  have := Nat.testBit_two_pow_sub_succ (x := m) (n := 8) hm i
  rw [show 2 ^ 8 - (m + 1) = 255 - m from by omega] at this
  rw [this]; simp [hi]
theorem rstx_bit (x m v : Nat) (hm : m < 256) (i : Nat) (hi : i < 8) : (rstx x m v).testBit i = if m.testBit i then v.testBit i else x.testBit i := by
  unfold rstx
  rw [Nat.testBit_or, Nat.testBit_and, Nat.testBit_and, comp_bit m hm i hi]
  cases m.testBit i <;> simp
theorem restrict_get (f : T) (m v : Nat) {x : Nat} (hx : x < 256) : (restrict f m v).getLsbD x = f.getLsbD (rstx x m v) := by
  rw [restrict_def, tab_get]; simp [hx]
theorem ext_iff {f g : T} (h : ∀ x, x < 256 → (f.getLsbD x = true ↔ g.getLsbD x = true)) : f = g := ext_get fun x hx => Bool.eq_iff_iff.2 (h x hx)
theorem or_lt {a b : Nat} (ha : a < 256) (hb : b < 256) : a ||| b < 256 := Nat.or_lt_two_pow (n := 8) ha hb
theorem andN_lt {a b : Nat} (ha : a < 256) : a &&& b < 256 := Nat.lt_of_le_of_lt Nat.and_le_left ha
theorem rstx_agree {x y m v : Nat} (hx : x < 256) (hy : y < 256) (hm : m < 256) (hv : v < 256) (h : Agree m x y) : rstx x m v = rstx y m v :=
  eq_of_bits (rstx_lt _ _ _ hx hv) (rstx_lt _ _ _ hy hv) fun i hi => by
    rw [rstx_bit _ _ _ hm i hi, rstx_bit _ _ _ hm i hi]
    cases e : m.testBit i
    · simpa using h i hi e
    · rfl
theorem agree_rstx {x m v : Nat} (hm : m < 256) : Agree m (rstx x m v) x := fun i hi e => by rw [rstx_bit _ _ _ hm i hi, e]; rfl
theorem agree_or {a b x y : Nat} (ha : a < 256) (hx : x < 256) (hy : y < 256) : Agree (a ||| b) x y ↔ ∃ z, z < 256 ∧ Agree a x z ∧ Agree b z y := by
  constructor
  · intro h
    refine ⟨rstx x a y, rstx_lt _ _ _ hx hy, (agree_rstx ha).symm, fun i hi hb => ?_⟩
    rw [rstx_bit _ _ _ ha i hi]
    cases e : a.testBit i
    · simpa using h i hi (by rw [Nat.testBit_or, e, hb]; rfl)
    · simp
  · rintro ⟨z, hz, h1, h2⟩ i hi hm
    rw [Nat.testBit_or, Bool.or_eq_false_iff] at hm
    exact (h1 i hi hm.1).trans (h2 i hi hm.2)
theorem exs_exs (f : T) (a b : Nat) (ha : a < 256) : halves (fun F G => F ||| G) (halves (fun F G => F ||| G) f a) b = halves (fun F G => F ||| G) f (a ||| b) := by
  refine ext_iff fun x hx => ?_
  rw [exs_get _ _ hx, exs_get _ _ hx]
  constructor
  · rintro ⟨y, hy, h, hb⟩
    obtain ⟨z, hz, h', hb'⟩ := (exs_get _ _ hy).1 h
    exact ⟨z, hz, h', (agree_or ha hz hx).2 ⟨y, hy, hb', hb⟩⟩
  · rintro ⟨z, hz, h, hb⟩
    obtain ⟨y, hy, h1, h2⟩ := (agree_or ha hz hx).1 hb
    exact ⟨y, hy, (exs_get _ _ hy).2 ⟨z, hz, h, h1⟩, h2⟩
theorem all_all (f : T) (a b : Nat) (ha : a < 256) : halves (fun F G => F &&& G) (halves (fun F G => F &&& G) f a) b = halves (fun F G => F &&& G) f (a ||| b) := by
  refine ext_iff fun x hx => ?_
  rw [all_get _ _ hx, all_get _ _ hx]
  constructor
  · intro h z hz hb
    obtain ⟨y, hy, h1, h2⟩ := (agree_or ha hz hx).1 hb
    exact (all_get _ _ hy).1 (h y hy h2) z hz h1
  · intro h y hy hb
    exact (all_get _ _ hy).2 fun z hz hb' => h z hz ((agree_or ha hz hx).2 ⟨y, hy, hb', hb⟩)
theorem or_exs (f : T) (a : Nat) : f ||| halves (fun F G => F ||| G) f a = halves (fun F G => F ||| G) f a := by
  refine ext_iff fun x hx => ?_
  rw [BitVec.getLsbD_or, Bool.or_eq_true]
  exact ⟨fun h => h.elim (fun h => (exs_get _ _ hx).2 ⟨x, hx, h, Agree.refl _ _⟩) id, Or.inr⟩
theorem and_all (f : T) (a : Nat) : f &&& halves (fun F G => F &&& G) f a = halves (fun F G => F &&& G) f a := by
  refine ext_iff fun x hx => ?_
  rw [BitVec.getLsbD_and, Bool.and_eq_true]
  exact ⟨And.right, fun h => ⟨(all_get _ _ hx).1 h x hx (Agree.refl _ _), h⟩⟩
/-- it doesn't hang on a mask's variables -/
def Indep (g : T) (m : Nat) : Prop := ∀ x y, x < 256 → y < 256 → Agree m x y → g.getLsbD x = true → g.getLsbD y = true
theorem indep_exs (f : T) (a : Nat) : Indep (halves (fun F G => F ||| G) f a) a := fun x y hx hy h hf => by
  obtain ⟨z, hz, h', hb⟩ := (exs_get _ _ hx).1 hf
  exact (exs_get _ _ hy).2 ⟨z, hz, h', hb.trans h⟩
theorem indep_all (f : T) (a : Nat) : Indep (halves (fun F G => F &&& G) f a) a := fun x y hx hy h hf =>
  (all_get _ _ hy).2 fun z hz hb => (all_get _ _ hx).1 hf z hz (hb.trans h.symm)
theorem indep_rst (f : T) (a v : Nat) (ha : a < 256) (hv : v < 256) : Indep (restrict f a v) a := fun x y hx hy h hf => by
  rw [restrict_get _ _ _ hy, ← rstx_agree hx hy ha hv h, ← restrict_get _ _ _ hx]; exact hf
theorem supTo_bit (f : T) (v : Nat) : ∀ k, k ≤ 8 → (supTo f k).testBit v = (decide (v < k) && decide (fix f (v : Int) false ≠ fix f (v : Int) true)) := by
  intro k
  induction k with
  | zero => intro _; simp [supTo]
  | succ k ih =>
    intro hk
    rw [supTo]
    split
    · rename_i h
      rw [ih (by omega)]
      by_cases e : v = k
      · subst e; rw [show decide (fix f (v : Int) false ≠ fix f (v : Int) true) = false from decide_eq_false (fun hn => hn h)]; simp
      · rw [show decide (v < k + 1) = decide (v < k) from by rw [decide_eq_decide]; omega]
    · rename_i h
      rw [Nat.testBit_or, ih (by omega), Nat.testBit_two_pow]
      by_cases e : v = k
      · subst e; rw [show decide (fix f (v : Int) false ≠ fix f (v : Int) true) = true from decide_eq_true h]; simp
      · rw [show decide (v < k + 1) = decide (v < k) from by rw [decide_eq_decide]; omega]
        simp [show ¬ k = v from fun h => e h.symm]
theorem support_bit (f : T) (v : Nat) : (support f).testBit v = (decide (v < 8) && decide (fix f (v : Int) false ≠ fix f (v : Int) true)) := by
  rw [support_def]; exact supTo_bit f v 8 (by omega)
theorem support_lt (f : T) : support f < 256 := by rw [support_def]; exact supTo_lt f 8 (by omega)
theorem sup_indep (g : T) (m : Nat) (h : Indep g m) : support g &&& m = 0 := by
  refine Nat.eq_of_testBit_eq fun i => ?_
  rw [Nat.testBit_and, support_bit, Nat.zero_testBit]
  by_cases hi : i < 8
  · cases e : m.testBit i
    · simp
    · have : fix g (i : Int) false = fix g (i : Int) true := ext_iff fun x hx => by
        have h0 := wth_lt x hx i hi false
        have h1 := wth_lt x hx i hi true
        rw [fix_get hi hx, fix_get hi hx]
        have ag : Agree m (wth x i false) (wth x i true) := fun j hj hm => by
          rw [wth_bit x hx i hi _ j hj, wth_bit x hx i hi _ j hj]
          by_cases ej : j = i
          · subst ej; rw [e] at hm; cases hm
          · simp [ej]
        exact ⟨h _ _ h0 h1 ag, h _ _ h1 h0 ag.symm⟩
      simp [this]
  · simp [hi]
theorem rst_exs (f : T) (a v : Nat) (ha : a < 256) (hv : v < 256) : restrict f a v &&& halves (fun F G => F ||| G) f a = restrict f a v := by
  refine ext_iff fun x hx => ?_
  rw [BitVec.getLsbD_and, Bool.and_eq_true]
  refine ⟨And.left, fun h => ⟨h, ?_⟩⟩
  rw [restrict_get _ _ _ hx] at h
  exact (exs_get _ _ hx).2 ⟨_, rstx_lt _ _ _ hx hv, h, agree_rstx ha⟩
theorem rst_all (f : T) (a v : Nat) (ha : a < 256) (hv : v < 256) : restrict f a v ||| halves (fun F G => F &&& G) f a = restrict f a v := by
  refine ext_iff fun x hx => ?_
  rw [BitVec.getLsbD_or, Bool.or_eq_true]
  refine ⟨fun h => h.elim id fun h => ?_, Or.inl⟩
  rw [restrict_get _ _ _ hx]
  exact (all_get _ _ hx).1 h _ (rstx_lt _ _ _ hx hv) (agree_rstx ha)
theorem rst_rst (f : T) (a b v : Nat) (ha : a < 256) (hb : b < 256) (hv : v < 256) : restrict (restrict f a v) (b &&& (255 - a)) v = restrict f (a ||| b) v := by
  refine ext_iff fun x hx => ?_
  have hc : b &&& (255 - a) < 256 := andN_lt hb
  have h1 := rstx_lt x (b &&& (255 - a)) v hx hv
  rw [restrict_get _ _ _ hx, restrict_get _ _ _ h1, restrict_get _ _ _ hx]
  rw [show rstx (rstx x (b &&& (255 - a)) v) a v = rstx x (a ||| b) v from eq_of_bits (rstx_lt _ _ _ h1 hv) (rstx_lt _ _ _ hx hv) fun i hi => by
    rw [rstx_bit _ _ _ ha i hi, rstx_bit _ _ _ hc i hi, rstx_bit _ _ _ (or_lt ha hb) i hi, Nat.testBit_and, Nat.testBit_or, comp_bit a ha i hi]
    cases a.testBit i <;> cases b.testBit i <;> simp]
end Tb
end Go.Proofs.Ythbifeoohphnpaa

/-
  Tables that do not hang on a variable. No program in sight.
-/
namespace Go.Proofs.Ythbifeoohphnpaa
set_option linter.unusedVariables false
namespace Tb
/-- a list without a double member is no longer than one that has all its members -/
theorem nodup_le {α : Type} [DecidableEq α] : ∀ {S L : List α}, S.Nodup → (∀ x, x ∈ S → x ∈ L) → S.length ≤ L.length
  | [], L, _, _ => by simp
  | a :: S, L, h, hs => by
    rw [List.nodup_cons] at h
    have ha : a ∈ L := hs a (by simp)
    have hl : (L.erase a).length = L.length - 1 := List.length_erase_of_mem ha
    have hpos : 0 < L.length := List.length_pos_of_mem ha
    have := nodup_le (S := S) (L := L.erase a) h.2 fun x hx => by
      have hne : x ≠ a := fun e => h.1 (e ▸ hx)
      exact (List.mem_erase_of_ne hne).2 (hs x (by simp [hx]))
    simp only [List.length_cons]
    omega
/-- it doesn't hang on a variable -/
def Free (F : T) (v : Nat) : Prop := ∀ b, fix F (v : Int) b = F
theorem free_get {F : T} {v : Nat} (hv : v < 8) : Free F v ↔ ∀ x, x < 256 → ∀ b, F.getLsbD (wth x v b) = F.getLsbD x := by
  constructor
  · intro h x hx b
    rw [← fix_get hv hx, h b]
  · intro h b
    exact ext_get fun x hx => by rw [fix_get hv hx, h x hx b]
theorem wth_same (x v : Nat) (hx : x < 256) (hv : v < 8) (b c : Bool) : wth (wth x v b) v c = wth x v c := by
  have h1 := wth_lt x hx v hv b
  refine eq_of_bits (wth_lt _ h1 v hv c) (wth_lt x hx v hv c) fun i hi => ?_
  rw [wth_bit _ h1 v hv c i hi, wth_bit x hx v hv c i hi, wth_bit x hx v hv b i hi]
  split <;> rfl
theorem wth_comm (x u v : Nat) (hx : x < 256) (hu : u < 8) (hv : v < 8) (hne : u ≠ v) (b c : Bool) : wth (wth x u b) v c = wth (wth x v c) u b := by
  have h1 := wth_lt x hx u hu b
  have h2 := wth_lt x hx v hv c
  refine eq_of_bits (wth_lt _ h1 v hv c) (wth_lt _ h2 u hu b) fun i hi => ?_
  rw [wth_bit _ h1 v hv c i hi, wth_bit _ h2 u hu b i hi, wth_bit x hx u hu b i hi, wth_bit x hx v hv c i hi]
  by_cases e : i = v
  · subst e; simp [hne.symm]
  · simp [e]
theorem free_fix_same (F : T) {v : Nat} (hv : v < 8) (b : Bool) : Free (fix F (v : Int) b) v := by
  rw [free_get hv]
  intro x hx c
  rw [fix_get hv (wth_lt x hx v hv c), fix_get hv hx, wth_same x v hx hv]
theorem free_fix {F : T} {u v : Nat} (hu : u < 8) (hv : v < 8) (h : Free F v) (b : Bool) : Free (fix F (u : Int) b) v := by
  by_cases e : u = v
  · subst e; exact free_fix_same F hu b
  · rw [free_get hv] at h ⊢
    intro x hx c
    rw [fix_get hu (wth_lt x hx v hv c), fix_get hu hx, ← wth_comm x u v hx hu hv e b c, h _ (wth_lt x hx u hu b) c]
/-- if both halves don't hang on it, the whole doesn't -/
theorem free_of_halves {F : T} {u v : Nat} (hu : u < 8) (hv : v < 8) (hne : u ≠ v) (h0 : Free (fix F (u : Int) false) v) (h1 : Free (fix F (u : Int) true) v) : Free F v := by
  rw [free_get hv] at h0 h1 ⊢
  intro x hx c
  have hx2 := wth_lt x hx v hv c
  have key : ∀ y, y < 256 → F.getLsbD y = (fix F (u : Int) (y.testBit u)).getLsbD y := fun y hy => by
    rw [fix_get hu hy]
    congr 1
    refine (eq_of_bits (wth_lt y hy u hu _) hy fun i hi => ?_).symm
    rw [wth_bit y hy u hu _ i hi]
    split
    · rename_i e; rw [e]
    · rfl
  rw [key _ hx2, key _ hx, wth_bit x hx v hv c u hu, if_neg hne]
  cases x.testBit u
  · exact h0 x hx c
  · exact h1 x hx c
/-- where some variables are free, the others tell -/
theorem free_walk {F : T} {x y : Nat} (hx : x < 256) (hy : y < 256) (h : ∀ v, v < 8 → x.testBit v = y.testBit v ∨ Free F v) : F.getLsbD x = F.getLsbD y := by
  have key : ∀ k, k ≤ 8 → ∃ z, z < 256 ∧ (∀ i, i < 8 → z.testBit i = if i < k then y.testBit i else x.testBit i) ∧ F.getLsbD z = F.getLsbD x := by
    intro k
    induction k with
    | zero => intro _; exact ⟨x, hx, fun i hi => by simp, rfl⟩
    | succ k ih =>
      intro hk
      obtain ⟨z, hz, hb, hf⟩ := ih (by omega)
      have hw := wth_lt z hz k (by omega) (y.testBit k)
      refine ⟨wth z k (y.testBit k), hw, fun i hi => ?_, ?_⟩
      · rw [wth_bit z hz k (by omega) _ i hi]
        by_cases e : i = k
        · subst e; simp
        · rw [if_neg e, hb i hi]
          by_cases h2 : i < k
          · simp [h2, show i < k + 1 from by omega]
          · simp [h2, show ¬ i < k + 1 from by omega]
      · rcases h k (by omega) with he | hfr
        · rw [← hf]
          congr 1
          refine eq_of_bits hw hz fun i hi => ?_
          rw [wth_bit z hz k (by omega) _ i hi]
          split
          · rename_i e; subst e; rw [hb i hi]; simp [he]
          · rfl
        · rw [(free_get (by omega)).1 hfr z hz, hf]
  obtain ⟨z, hz, hb, hf⟩ := key 8 (by omega)
  rw [← hf, eq_of_bits hz hy fun i hi => by rw [hb i hi]; simp [hi]]
end Tb
end Go.Proofs.Ythbifeoohphnpaa

/-
  One handle for one table; how many nodes there may be. No program in sight.
-/
namespace Go.Proofs.Ythbifeoohphnpaa
set_option linter.unusedVariables false
open Go.RowKit
namespace Tb
theorem mux_get {v : Nat} {f g : T} {x : Nat} (hv : v < 8) (hx : x < 256) : (mux (v : Int) f g).getLsbD x = if x.testBit v then g.getLsbD x else f.getLsbD x := by
  have hk : kn (v : Int) = true := by unfold kn; simp; omega
  unfold mux
  rw [BitVec.getLsbD_or, BitVec.getLsbD_and, BitVec.getLsbD_and, BitVec.getLsbD_not, var_get _ _ hx, hk]
  cases h : x.testBit v <;> simp [h, hx]
theorem free_mux {u v : Nat} {f g : T} (hu : u < 8) (hv : v < 8) (hne : u ≠ v) (hf : Free f v) (hg : Free g v) : Free (mux (u : Int) f g) v := by
  rw [free_get hv] at hf hg ⊢
  intro x hx b
  have hw := wth_lt x hx v hv b
  rw [mux_get hu hw, mux_get hu hx, wth_bit x hx v hv b u hu, if_neg hne, hf x hx b, hg x hx b]
theorem fix_mux {v : Nat} {f g : T} (hv : v < 8) (hf : Free f v) (hg : Free g v) (b : Bool) : fix (mux (v : Int) f g) (v : Int) b = if b then g else f := by
  rw [free_get hv] at hf hg
  refine ext_get fun x hx => ?_
  have hw := wth_lt x hx v hv b
  rw [fix_get hv hx, mux_get hv hw, wth_bit x hx v hv b v hv, if_pos rfl]
  cases b
  · simp [hf x hx]
  · simp [hg x hx]
theorem mux_self {v : Nat} (hv : v < 8) (f : T) : mux (v : Int) f f = f := ext_get fun x hx => by rw [mux_get hv hx]; split <;> rfl
/-- a table out of its halves -/
theorem mux_fix {v : Nat} (hv : v < 8) (f : T) : mux (v : Int) (fix f (v : Int) false) (fix f (v : Int) true) = f := ext_get fun x hx => by
  have key : ∀ b, x.testBit v = b → wth x v b = x := fun b hb => eq_of_bits (wth_lt x hx v hv b) hx fun i hi => by
    rw [wth_bit x hx v hv b i hi]
    split
    · rename_i e; rw [e, hb]
    · rfl
  rw [mux_get hv hx, fix_get hv hx, fix_get hv hx]
  cases hb : x.testBit v
  · rw [key false hb]; rfl
  · rw [key true hb]; rfl
theorem one_get {x : Nat} (hx : x < 256) : (~~~(0#256) : T).getLsbD x = true := by rw [BitVec.getLsbD_not, BitVec.getLsbD_zero]; simp [hx]
theorem free_const {F : T} (h : ∀ v, v < 8 → Free F v) : F = 0#256 ∨ F = ~~~(0#256) := by
  have h0 : ∀ x, x < 256 → F.getLsbD x = F.getLsbD 0 := fun x hx => free_walk hx (by omega) fun v hv => .inr (h v hv)
  cases hb : F.getLsbD 0
  · left
    refine ext_get fun x hx => ?_
    rw [h0 x hx, hb]; simp
  · right
    refine ext_get fun x hx => ?_
    rw [h0 x hx, hb, one_get hx]
theorem free_zero {v : Nat} (hv : v < 8) : Free (0#256) v := by rw [free_get hv]; intro x hx b; simp
theorem free_one {v : Nat} (hv : v < 8) : Free (~~~(0#256)) v := by
  rw [free_get hv]; intro x hx b
  rw [one_get (wth_lt x hx v hv b), one_get hx]
theorem zero_one : (0#256 : T) ≠ ~~~(0#256) := by decide +kernel
/-- an operation done assignment by assignment -/
def Pw (F : T → T → T → T) : Prop := ∃ f : Bool → Bool → Bool → Bool, ∀ t u v x, x < 256 → (F t u v).getLsbD x = f (t.getLsbD x) (u.getLsbD x) (v.getLsbD x)
theorem Pw.free {F : T → T → T → T} (h : Pw F) {t u v : T} {k : Nat} (hk : k < 8) (ht : Free t k) (hu : Free u k) (hv : Free v k) : Free (F t u v) k := by
  obtain ⟨f, hf⟩ := h
  rw [free_get hk] at ht hu hv ⊢
  intro x hx b
  rw [hf _ _ _ _ (wth_lt x hx k hk b), hf _ _ _ _ hx, ht x hx b, hu x hx b, hv x hx b]
theorem Pw.mux {F : T → T → T → T} (h : Pw F) {k : Nat} (hk : k < 8) (t0 t1 u0 u1 v0 v1 : T) : F (mux (k : Int) t0 t1) (mux (k : Int) u0 u1) (mux (k : Int) v0 v1) = mux (k : Int) (F t0 u0 v0) (F t1 u1 v1) := by
  obtain ⟨f, hf⟩ := h
  refine ext_get fun x hx => ?_
  rw [hf _ _ _ _ hx, mux_get hk hx, mux_get hk hx, mux_get hk hx, mux_get hk hx]
  split <;> rw [hf _ _ _ _ hx]
end Tb
/-- an order: levels and variables, one for one -/
structure Sto.Ord (S : Sto) : Prop where
  lt : ∀ l, l < S.n → S.vars.getD l 0 < S.n ∧ S.levels.getD (S.vars.getD l 0) 0 = l
  vl : ∀ v, v < S.n → S.levels.getD v 0 < S.n ∧ S.vars.getD (S.levels.getD v 0) 0 = v
  len : S.vars.length = 8 ∧ S.levels.length = 8
  n1 : 1 ≤ S.n
theorem Sto.Ord.inj {S : Sto} (h : S.Ord) {l l' : Nat} (hl : l < S.n) (hl' : l' < S.n) (e : S.vars.getD l 0 = S.vars.getD l' 0) : l = l' := by
  rw [← (h.lt l hl).2, e, (h.lt l' hl').2]
/-- a handle's half at a level -/
def Sto.sub (S : Sto) (l : Nat) (b : Bool) (h : Nat) : Nat := if S.lev h = (l : Int) then (if b then S.high h else S.low h) else h
theorem Sto.is_none {S : Sto} {h : Nat} (hi : S.is h = true) (hg : S.get h = none) : h = 0 ∨ h = 1 := by
  unfold Sto.is at hi
  rw [hg] at hi
  simp at hi
  omega
theorem Sto.is_of {S : Sto} {h : Nat} {nd : Nd} (hg : S.get h = some nd) : S.is h = true := by unfold Sto.is; rw [hg]; simp
theorem Sto.is_small {S : Sto} {h : Nat} (h2 : h < 2) : S.is h = true := by unfold Sto.is; simp [h2]
theorem Sto.lev_small {S : Sto} {h : Nat} (h2 : h < 2) : S.lev h = (S.n : Int) := by unfold Sto.lev; rw [if_pos h2]
theorem Sto.lev_le {S : Sto} (W : S.Wf) {h : Nat} (hi : S.is h = true) : 0 ≤ S.lev h ∧ S.lev h ≤ (S.n : Int) ∧ (S.lev h < (S.n : Int) → ∃ nd, S.get h = some nd ∧ S.lev h = (nd.l : Int)) := by
  cases hg : S.get h with
  | none =>
    have := S.is_none hi hg
    rw [Sto.lev_small (by omega)]
    exact ⟨by omega, by omega, fun h => by omega⟩
  | some nd =>
    have := (W.kid h nd hg).1
    rw [Sto.lev_nd hg]
    exact ⟨by omega, by omega, fun _ => ⟨nd, rfl, rfl⟩⟩
section
variable {S : Sto}
/-- it doesn't hang on what lies above -/
theorem Sto.Wf.free (W : S.Wf) (O : S.Ord) : ∀ (d h : Nat), (S.n : Int) - S.lev h ≤ (d : Int) → S.is h = true → ∀ l : Nat, (l : Int) < S.lev h → l < S.n → Tb.Free (S.tab h) (S.vars.getD l 0) := by
  intro d
  have h8 := W.n8
  induction d with
  | zero =>
    intro h hd hi l hl hn
    have hv := (O.lt l hn).1
    cases hg : S.get h with
    | none =>
      rcases S.is_none hi hg with rfl | rfl
      · rw [Sto.tab_zero]; exact Tb.free_zero (by omega)
      · rw [Sto.tab_one]; exact Tb.free_one (by omega)
    | some nd => have := (W.kid h nd hg).1; rw [Sto.lev_nd hg] at hd; omega
  | succ d ih =>
    intro h hd hi l hl hn
    have hv := (O.lt l hn).1
    cases hg : S.get h with
    | none =>
      rcases S.is_none hi hg with rfl | rfl
      · rw [Sto.tab_zero]; exact Tb.free_zero (by omega)
      · rw [Sto.tab_one]; exact Tb.free_one (by omega)
    | some nd =>
      obtain ⟨k1, k2, k3, k4, k5⟩ := W.kid h nd hg
      rw [Sto.lev_nd hg] at hd hl
      rw [W.tab_nd hg]
      have hu := (O.lt nd.l k1).1
      exact Tb.free_mux (by omega) (by omega) (fun e => by have := O.inj k1 hn e; omega) (ih nd.a (by omega) k2 l (by omega) hn) (ih nd.b (by omega) k3 l (by omega) hn)
theorem Sto.Wf.free' (W : S.Wf) (O : S.Ord) {h : Nat} (hi : S.is h = true) {l : Nat} (hl : (l : Int) < S.lev h) (hn : l < S.n) : Tb.Free (S.tab h) (S.vars.getD l 0) :=
  W.free O (S.n + 1) h (by have := (Sto.lev_le W hi).1; omega) hi l hl hn
/-- .. nor on variables that aren't there -/
theorem Sto.Wf.free_out (W : S.Wf) (O : S.Ord) : ∀ (d h : Nat), (S.n : Int) - S.lev h ≤ (d : Int) → S.is h = true → ∀ v : Nat, S.n ≤ v → v < 8 → Tb.Free (S.tab h) v := by
  intro d
  have h8 := W.n8
  induction d with
  | zero =>
    intro h hd hi v hv hn
    cases hg : S.get h with
    | none =>
      rcases S.is_none hi hg with rfl | rfl
      · rw [Sto.tab_zero]; exact Tb.free_zero (by omega)
      · rw [Sto.tab_one]; exact Tb.free_one (by omega)
    | some nd => have := (W.kid h nd hg).1; rw [Sto.lev_nd hg] at hd; omega
  | succ d ih =>
    intro h hd hi v hv hn
    cases hg : S.get h with
    | none =>
      rcases S.is_none hi hg with rfl | rfl
      · rw [Sto.tab_zero]; exact Tb.free_zero (by omega)
      · rw [Sto.tab_one]; exact Tb.free_one (by omega)
    | some nd =>
      obtain ⟨k1, k2, k3, k4, k5⟩ := W.kid h nd hg
      rw [Sto.lev_nd hg] at hd
      rw [W.tab_nd hg]
      have hu := (O.lt nd.l k1).1
      exact Tb.free_mux (by omega) (by omega) (by omega) (ih nd.a (by omega) k2 v hv hn) (ih nd.b (by omega) k3 v hv hn)
theorem Sto.Wf.free_out' (W : S.Wf) (O : S.Ord) {h : Nat} (hi : S.is h = true) {v : Nat} (hv : S.n ≤ v) (h8 : v < 8) : Tb.Free (S.tab h) v :=
  W.free_out O (S.n + 1) h (by have := (Sto.lev_le W hi).1; omega) hi v hv h8
/-- halves: nodes that lie deeper, and their tables -/
theorem Sto.Wf.sub_ok (W : S.Wf) (O : S.Ord) {h l : Nat} (hi : S.is h = true) (hl : (l : Int) ≤ S.lev h) (hn : l < S.n) (b : Bool) :
    S.is (S.sub l b h) = true ∧ (l : Int) < S.lev (S.sub l b h) ∧ S.tab (S.sub l b h) = Tb.fix (S.tab h) ((S.vars.getD l 0 : Nat) : Int) b := by
  have h8 := W.n8
  have hv := (O.lt l hn).1
  unfold Sto.sub
  by_cases e : S.lev h = (l : Int)
  · rw [if_pos e]
    obtain ⟨nd, hg, hl2⟩ := (Sto.lev_le W hi).2.2 (by omega)
    obtain ⟨k1, k2, k3, k4, k5⟩ := W.kid h nd hg
    obtain rfl : nd.l = l := by omega
    have f1 := W.free' O k2 (l := nd.l) (by omega) hn
    have f2 := W.free' O k3 (l := nd.l) (by omega) hn
    rw [W.tab_nd hg, Tb.fix_mux (by omega) f1 f2]
    have e1 : S.high h = nd.b := by unfold Sto.high; rw [hg]
    have e2 : S.low h = nd.a := by unfold Sto.low; rw [hg]
    cases b
    · simp only [Bool.false_eq_true, if_false]; rw [e2]; exact ⟨k2, k4, rfl⟩
    · simp only [if_true]; rw [e1]; exact ⟨k3, k5, rfl⟩
  · rw [if_neg e]
    exact ⟨hi, by omega, (W.free' O hi (by omega) hn b).symm⟩
/-- a handle's table out of its halves' -/
theorem Sto.Wf.tab_sub (W : S.Wf) (O : S.Ord) {h l : Nat} (hi : S.is h = true) (hl : (l : Int) ≤ S.lev h) (hn : l < S.n) :
    S.tab h = Tb.mux ((S.vars.getD l 0 : Nat) : Int) (S.tab (S.sub l false h)) (S.tab (S.sub l true h)) := by
  have h8 := W.n8
  have hv := (O.lt l hn).1
  rw [(W.sub_ok O hi hl hn false).2.2, (W.sub_ok O hi hl hn true).2.2, Tb.mux_fix (by omega)]
/-- one handle for one table -/
theorem Sto.Wf.one (W : S.Wf) (O : S.Ord) : ∀ (d h h' : Nat), (S.n : Int) - S.lev h ≤ (d : Int) → (S.n : Int) - S.lev h' ≤ (d : Int) → S.is h = true → S.is h' = true → S.tab h = S.tab h' → h = h' := by
  have small : ∀ x y, S.get x = none → S.get y = none → S.is x = true → S.is y = true → S.tab x = S.tab y → x = y := by
    intro x y hx hy ix iy e
    rcases S.is_none ix hx with rfl | rfl <;> rcases S.is_none iy hy with rfl | rfl
    · rfl
    · rw [Sto.tab_zero, Sto.tab_one] at e; exact absurd e Tb.zero_one
    · rw [Sto.tab_zero, Sto.tab_one] at e; exact absurd e.symm Tb.zero_one
    · rfl
  intro d
  induction d with
  | zero =>
    intro h h' hd hd' hi hi' e
    have g1 : S.get h = none := by
      cases hg : S.get h with
      | none => rfl
      | some nd => have := (W.kid h nd hg).1; rw [Sto.lev_nd hg] at hd; omega
    have g2 : S.get h' = none := by
      cases hg : S.get h' with
      | none => rfl
      | some nd => have := (W.kid h' nd hg).1; rw [Sto.lev_nd hg] at hd'; omega
    exact small h h' g1 g2 hi hi' e
  | succ d ih =>
    have h8 := W.n8
    -- the one that lies above
    have key : ∀ x y nd, S.get x = some nd → (nd.l : Int) ≤ S.lev y → (S.n : Int) - S.lev x ≤ ((d + 1 : Nat) : Int) → S.is x = true → S.is y = true → S.tab x = S.tab y → x = y := by
      intro x y nd hg hle hd ix iy e
      obtain ⟨k1, k2, k3, k4, k5⟩ := W.kid x nd hg
      have hlx := Sto.lev_nd hg
      obtain ⟨a1, a2, a3⟩ := W.sub_ok O ix (l := nd.l) (by omega) k1 false
      obtain ⟨b1, b2, b3⟩ := W.sub_ok O ix (l := nd.l) (by omega) k1 true
      obtain ⟨c1, c2, c3⟩ := W.sub_ok O iy hle k1 false
      obtain ⟨d1, d2, d3⟩ := W.sub_ok O iy hle k1 true
      have e0 := ih _ _ (by omega) (by omega) a1 c1 (by rw [a3, c3, e])
      have e1 := ih _ _ (by omega) (by omega) b1 d1 (by rw [b3, d3, e])
      have x0 : S.sub nd.l false x = nd.a := by unfold Sto.sub Sto.low; rw [if_pos hlx, hg]; rfl
      have x1 : S.sub nd.l true x = nd.b := by unfold Sto.sub Sto.high; rw [if_pos hlx, hg]; rfl
      rw [x0] at e0
      rw [x1] at e1
      by_cases hy : S.lev y = (nd.l : Int)
      · obtain ⟨nd', hg', hl'⟩ := (Sto.lev_le W iy).2.2 (by omega)
        have y0 : S.sub nd.l false y = nd'.a := by unfold Sto.sub Sto.low; rw [if_pos hy, hg']; rfl
        have y1 : S.sub nd.l true y = nd'.b := by unfold Sto.sub Sto.high; rw [if_pos hy, hg']; rfl
        rw [y0] at e0
        rw [y1] at e1
        have : nd' = nd := by
          have hl3 : nd'.l = nd.l := by omega
          cases nd; cases nd'; simp_all
        rw [this] at hg'
        exact W.uq x y nd hg hg'
      · have y0 : S.sub nd.l false y = y := by unfold Sto.sub; rw [if_neg hy]
        have y1 : S.sub nd.l true y = y := by unfold Sto.sub; rw [if_neg hy]
        rw [y0] at e0
        rw [y1] at e1
        exact absurd (e0.trans e1.symm) (W.ab x nd hg)
    intro h h' hd hd' hi hi' e
    cases hg : S.get h with
    | none =>
      cases hg' : S.get h' with
      | none => exact small h h' hg hg' hi hi' e
      | some nd' =>
        have := (W.kid h' nd' hg').1
        have := S.is_none hi hg
        exact (key h' h nd' hg' (by rw [Sto.lev_small (show h < 2 by omega)]; omega) hd' hi' hi e.symm).symm
    | some nd =>
      by_cases hle : (nd.l : Int) ≤ S.lev h'
      · exact key h h' nd hg hle hd hi hi' e
      · obtain ⟨nd', hg', hl'⟩ := (Sto.lev_le W hi').2.2 (by have := (W.kid h nd hg).1; omega)
        exact (key h' h nd' hg' (by rw [Sto.lev_nd hg]; omega) hd' hi' hi e.symm).symm
theorem Sto.Wf.eq (W : S.Wf) (O : S.Ord) {h h' : Nat} (hi : S.is h = true) (hi' : S.is h' = true) (e : S.tab h = S.tab h') : h = h' :=
  W.one O (S.n + 1) h h' (by have := (Sto.lev_le W hi).1; omega) (by have := (Sto.lev_le W hi').1; omega) hi hi' e
/-- what doesn't hang on the upper variables lies deep -/
theorem Sto.Wf.lev_ge (W : S.Wf) (O : S.Ord) {h k : Nat} (hi : S.is h = true) (hk : k ≤ S.n) (hf : ∀ l, l < k → Tb.Free (S.tab h) (S.vars.getD l 0)) : (k : Int) ≤ S.lev h := by
  rcases Int.lt_or_le (S.lev h) (k : Int) with hlt | hle
  · exfalso
    obtain ⟨nd, hg, hl⟩ := (Sto.lev_le W hi).2.2 (by omega)
    obtain ⟨k1, k2, k3, k4, k5⟩ := W.kid h nd hg
    have hfr := hf nd.l (by omega)
    have h8 := W.n8
    have hv := (O.lt nd.l k1).1
    have f1 := W.free' O k2 (l := nd.l) (by omega) k1
    have f2 := W.free' O k3 (l := nd.l) (by omega) k1
    have e0 := hfr false
    have e1 := hfr true
    rw [W.tab_nd hg, Tb.fix_mux (by omega) f1 f2] at e0 e1
    simp only [Bool.false_eq_true, if_false, if_true] at e0 e1
    exact W.ab h nd hg (W.eq O k2 k3 (e0.trans e1.symm))
  · exact hle
end
end Go.Proofs.Ythbifeoohphnpaa

/-
  A node made.
-/
namespace Go.Proofs.Ythbifeoohphnpaa
set_option linter.unusedVariables false
open Go.RowKit
section
variable {u : World} {a : Act} {o : Oper} {x y : Operand}
theorem exec_geI {m n : Nat} {d : Bool} (hd : d = decide (n ≤ m)) (hop : o.op = .binOp .geq 3 x y 3) (hx : a.eval x = .int .i64 (m : Int)) (hy : a.eval y = .int .i64 (n : Int)) :
    (execOp a.eval o).run Try.prog u = .ok (.value (.bool d)) u := by
  unfold execOp
  simp only [hop, hx, hy]
  subst hd
  by_cases e : n ≤ m
  · have e2 : (m : Int) ≥ (n : Int) := by omega
    simp only [e, decide_true]
    go_simp
  · have e2 : ¬ (m : Int) ≥ (n : Int) := by omega
    simp only [e, decide_false]
    go_simp
theorem exec_gtI {m n : Nat} {d : Bool} (hd : d = decide (n < m)) (hop : o.op = .binOp .gtr 3 x y 3) (hx : a.eval x = .int .i64 (m : Int)) (hy : a.eval y = .int .i64 (n : Int)) :
    (execOp a.eval o).run Try.prog u = .ok (.value (.bool d)) u := by
  unfold execOp
  simp only [hop, hx, hy]
  subst hd
  by_cases e : n < m
  · have e2 : (m : Int) > (n : Int) := by omega
    simp only [e, decide_true]
    go_simp
  · have e2 : ¬ (m : Int) > (n : Int) := by omega
    simp only [e, decide_false]
    go_simp
theorem exec_dblk {n k : Nat} (hn : k = 2 * n) (h : k < 1000000) (hop : o.op = .binOp .mul 3 x y 3) (hx : a.eval x = .int .i64 2) (hy : a.eval y = .int .i64 (n : Int)) :
    (execOp a.eval o).run Try.prog u = .ok (.value (.int .i64 (k : Int))) u := by
  subst hn
  unfold execOp
  simp only [hop, hx, hy]
  go_simp
  rw [IntKind.wrap_i64]
  omega
theorem exec_ld_TP {p off : Nat} {v : Value} (hop : o.op = .load 79 x) (hx : a.eval x = .pointer (some ⟨p, off, none⟩)) (hc : u.cell? ⟨p, off, none⟩ = some v) :
    (execOp a.eval o).run Try.prog u = .ok (.value v) u := by
  unfold execOp
  simp only [hop, hx]
  go_simp
end
/-- a store in memory, its table holding its nodes -/
structure StW (w : World) (base : Nat) (B : Bk) (S : Sto) : Prop where
  ex : ∃ L, StAt w base B S L ∧ L.Perm S.all
  sl : 2 * S.len ≤ B.xs.length ∧ 32 ≤ B.xs.length
def retHE (h n : Nat) : Ending := .returned (.tuple #[.int .u32 (h : Int), .int .i64 (n : Int)])
/-- what Mk tells and leaves -/
def MkIs (S : Sto) (nd : Nd) (e : Ending) (S' : Sto) : Prop :=
  (nd.a = nd.b ∧ e = retHE nd.a 0 ∧ S' = S) ∨ (nd.a ≠ nd.b ∧ ∃ h, S.get h = some nd ∧ e = retHE h 0 ∧ S' = S) ∨
  (nd.a ≠ nd.b ∧ (∀ h, S.get h ≠ some nd) ∧ S.room ≤ S.len ∧ e = retHE 0 60 ∧ S' = S) ∨
  (nd.a ≠ nd.b ∧ (∀ h, S.get h ≠ some nd) ∧ S.len < S.room ∧ e = retHE S.next 0 ∧ S' = S.add nd)
/-- a store's step from a beginning -/
abbrev StS (base : Nat) (B0 : Bk) (w0 : World) (B : Bk) (S : Sto) (L : List Nat) (u : World) : Prop := StAt u base B S L ∧ Stp B0 w0 B u
theorem StS.fr {base : Nat} {B0 B : Bk} {w0 u v : World} {S : Sto} {L : List Nat} (h : StS base B0 w0 B S L u) (hf : Fr [] u v) : StS base B0 w0 B S L v :=
  ⟨h.1.fr hf (by simp), ⟨h.2.fr.trans hf (by simp), h.2.sub, h.2.s⟩⟩
theorem StS.drew {base : Nat} {B0 B : Bk} {w0 u : World} {S : Sto} {L : List Nat} (h : StS base B0 w0 B S L u) : StS base B0 w0 B S L u.drew := h.fr ((Fr.refl _ _).drew)
theorem StS.drewN {base : Nat} {B0 B : Bk} {w0 u : World} {S : Sto} {L : List Nat} (h : StS base B0 w0 B S L u) (n : Nat) : StS base B0 w0 B S L (u.drewN n) := h.fr ((Fr.refl _ _).drewN n)
/-- a look-up in a store's table -/
theorem StAt.has_no {w : World} {base : Nat} {B : Bk} {S : Sto} {L : List Nat} (h : StAt w base B S L) (hL : ∀ x, x ∈ L ↔ S.get x ≠ none) {nd : Nd} (hn : Ut.key nd.l nd.a nd.b ∉ (L.map fun h => (h, S.keyOf h)).map Prod.snd) : ∀ x, S.get x ≠ some nd := fun x hx => by
  apply hn
  rw [List.map_map, List.mem_map]
  exact ⟨x, (hL x).2 (by rw [hx]; simp), by simp only [Function.comp]; exact Sto.keyOf_some hx⟩
theorem StAt.has_yes {w : World} {base : Nat} {B : Bk} {S : Sto} {L : List Nat} (h : StAt w base B S L) (hL : ∀ x, x ∈ L ↔ S.get x ≠ none) (F : S.Fit) {nd : Nd} (h1 : nd.l < 256) (h2 : nd.a < 65536) (h3 : nd.b < 65536) {hd : Nat} (hm : (hd, Ut.key nd.l nd.a nd.b) ∈ (L.map fun h => (h, S.keyOf h))) : S.get hd = some nd := by
  obtain ⟨x, hx, e⟩ := List.mem_map.1 hm
  injection e with e1 e2
  subst e1
  cases hg : S.get x with
  | none => exact absurd hg ((hL x).1 hx)
  | some nx =>
    rw [Sto.keyOf_some hg] at e2
    have hf := F.nd x nx hg
    obtain ⟨k1, k2, k3⟩ := Ut.key_inj (by omega) (by omega) (by omega) (by omega) e2
    have : nx = nd := by cases nx; cases nd; simp_all
    rw [this]
/-- the table's map of slots forgets nothing that matters -/
theorem StS.tab {base : Nat} {B0 B : Bk} {w0 u v : World} {S : Sto} {L : List Nat} (h : StS base B0 w0 B S L u) (hf : Fr [B.m] u v) (ht : TabMem v B.t B.m B.c B.sl B.xs B.f (L.map fun h => (h, S.keyOf h))) : StS base B0 w0 B S L v := by
  have hp := StAt.put_tab h.1 (xs' := B.xs) (f' := B.f) (hf.mono (S' := [B.m, B.c, B.sl]) (by simp)) ht
  exact ⟨hp.1, h.2.trans hp.2⟩
/-- a handle, whichever -/
theorem handle_any (base : Nat) (B : Bk) (S : Sto) (L : List Nat) (w : World) (hs : StAt w base B S L) (hb : base ≤ w.heap.size) (W : S.Wf) (hL : ∀ x ∈ L, S.get x ≠ none) (hr : S.len < S.room) :
    Calls Try.prog 90 #[.pointer (some ⟨B.s, 0, none⟩)] w fun e w' => ∃ i S3 B3, e = .returned (.int .u32 ((i + 2 : Nat) : Int)) ∧ S.next = i + 2 ∧ i < S3.nodes.length ∧ (∀ nd, S.add nd = { S3 with nodes := S3.nodes.set i (some nd) }) ∧ (B3.xs = B.xs ∧ B3.ys = B.ys) ∧ StAt w' base B3 S3 L ∧ Stp B w B3 w' := by
  have hfl := W.fl
  have hrm := W.rm
  rcases S.add_cases ⟨0, 0, 0⟩ with ⟨fr, h, hf, hn, _⟩ | ⟨hf, hn, _⟩
  · have hm := (W.fm h).1 (by rw [hf]; simp)
    refine (handle_pop base B S L w hs hb fr h hf (by omega)).mono ?_
    rintro e w' ⟨rfl, fv', h1, h2⟩
    refine ⟨h - 2, { S with free := fr }, { B with fv := fv' }, ?_, by rw [hn]; omega, ?_, ?_, ⟨rfl, rfl⟩, h1, h2⟩
    · rw [show h - 2 + 2 = h from by omega]
    · show h - 2 < S.nodes.length; omega
    · intro nd
      rcases S.add_cases nd with ⟨fr2, h', hf2, hn2, e⟩ | ⟨hf2, _, _⟩
      · rw [hf] at hf2
        obtain ⟨e1, e2⟩ := List.append_inj' hf2 rfl
        obtain rfl := List.singleton_inj.1 e2
        subst e1
        rw [e]
      · rw [hf2] at hf; simp at hf
  · refine (handle_new base B S L w hs hb hf (fun x hx => ?_) ?_).mono ?_
    · cases hg : S.get x with
      | none => exact absurd hg (hL x hx)
      | some nd => have := Sto.get_lt hg; omega
    · unfold Sto.len at hr; rw [hf] at hr; simp at hr; omega
    · rintro e w' ⟨rfl, nv', h1, h2⟩
      refine ⟨S.nodes.length, { S with nodes := S.nodes ++ [none] }, { B with nv := nv' }, rfl, hn, by simp, ?_, ⟨rfl, rfl⟩, h1, h2⟩
      intro nd
      rcases S.add_cases nd with ⟨fr2, h', hf2, hn2, e⟩ | ⟨hf2, _, e⟩
      · rw [hf2] at hf; simp at hf
      · rw [e]; simp
set_option maxRecDepth 100000 in
set_option maxHeartbeats 4000000 in
theorem mk_any (base : Nat) (B : Bk) (S : Sto) (nd : Nd) (w : World) (hs : StW w base B S) (hb : base ≤ w.heap.size) (W : S.Wf) (hl : nd.l < S.n) (ha : S.is nd.a = true) (hbb : S.is nd.b = true) (la : (nd.l : Int) < S.lev nd.a) (lb : (nd.l : Int) < S.lev nd.b) :
    Calls Try.prog 74 #[.pointer (some ⟨B.s, 0, none⟩), .int .i64 (nd.l : Int), .int .u32 (nd.a : Int), .int .u32 (nd.b : Int)] w fun e w' => ∃ S' B', MkIs S nd e S' ∧ StW w' base B' S' ∧ Stp B w B' w' ∧ B'.ys = B.ys := by
  obtain ⟨⟨L, hst, hperm⟩, hsl, hs32⟩ := hs
  have HL : Bx (∀ x, x ∈ L ↔ S.get x ≠ none) := ⟨fun x => by rw [hperm.mem_iff]; exact Sto.mem_all⟩
  have HLL : Bx (L.length = S.len) := ⟨by rw [hperm.length_eq, W.slen]⟩
  have HV := Bx.mk (vars_any base B S L w hst)
  have hia := is_any base B S L w hst nd.a (by have := Sto.is_lt ha; have := W.rm; omega)
  have hib := is_any base B S L w hst nd.b (by have := Sto.is_lt hbb; have := W.rm; omega)
  have hla := level_any base B S L w hst nd.a (by have := Sto.is_lt ha; have := W.rm; omega)
  have hlb := level_any base B S L w hst nd.b (by have := Sto.is_lt hbb; have := W.rm; omega)
  rw [ha] at hia
  rw [hbb] at hib
  have HIA := Bx.mk hia
  have HIB := Bx.mk hib
  have HLA := Bx.mk hla
  have HLB := Bx.mk hlb
  have HWF := Bx.mk W
  have HA := Bx.mk (And.intro ha (And.intro hbb (And.intro la lb)))
  have HST : Bx (StS base B w B S L w) := ⟨⟨hst, Stp.refl _ _⟩⟩
  have HPERM := Bx.mk hperm
  have HSL := Bx.mk (And.intro hsl hs32)
  have q0 : ¬ (nd.l : Int) < 0 := by omega
  have q1 : ¬ (nd.l : Int) ≥ (S.n : Int) := by omega
  have q2 : ¬ (S.lev nd.a) ≤ (nd.l : Int) := by omega
  have q3 : ¬ (S.lev nd.b) ≤ (nd.l : Int) := by omega
  have HN : Bx (nd.l < S.n) := ⟨hl⟩
  clear hia hib hla hlb W ha hbb la lb hst hsl hs32 hperm hl
  generalize hlev1 : S.lev nd.a = l1 at *
  generalize hlev2 : S.lev nd.b = l2 at *
  have HLEV := Bx.mk (And.intro hlev1 hlev2)
  clear hlev1 hlev2
  go_enter Try.func74, Try.ntmps74
  go_wp2_with fail
  refine HV.out.mono ?_
  rintro e w1 ⟨rfl, rfl⟩
  go_wp2_with fail
  refine HIA.out.mono ?_
  rintro e w1 ⟨rfl, rfl⟩
  go_wp2_with fail
  refine HIB.out.mono ?_
  rintro e w1 ⟨rfl, rfl⟩
  go_wp2_with fail
  refine HLA.out.mono ?_
  rintro e w1 ⟨rfl, rfl⟩
  go_wp2_with fail
  refine HLB.out.mono ?_
  rintro e w1 ⟨rfl, rfl⟩
  clear HV HIA HIB HLA HLB
  by_cases hab : nd.a = nd.b
  · have k0 : ((nd.a : Int) == (nd.b : Int)) = true := by rw [beq_iff_eq]; omega
    go_wp2_with fail
    go_ret2
    exact ⟨S, B, .inl ⟨hab, by rw [hab]; rfl, rfl⟩, ⟨⟨L, HST.out.1, HPERM.out⟩, HSL.out⟩, Stp.refl _ _, rfl⟩
  · have k0 : ((nd.a : Int) == (nd.b : Int)) = false := by rw [beq_eq_false_iff_ne]; omega
    go_wp2_with fail
    have hk1 : nd.l < 256 ∧ nd.a < 65536 ∧ nd.b < 65536 := by
      have := HN.out; have := HWF.out.n8; have := HWF.out.rm
      have := Sto.is_lt HA.out.1; have := Sto.is_lt HA.out.2.1
      omega
    have HK := Bx.mk hk1
    have hkey := key_any nd.l nd.a nd.b w1 hk1.1 (by omega) (by omega)
    have hkp := Ut.key_pos (l := nd.l) hab
    have hk2 := Ut.key_lt hk1.1 (show nd.a < 268435456 by omega) (show nd.b < 268435456 by omega)
    have hnd := nd9_a (nodup9 HST.out.1.nd).1
    have hne : B.s ≠ B.m ∧ B.s ≠ B.c ∧ B.s ≠ B.sl := by
      have := hnd B.s (by simp)
      simpa [not_or] using this
    have HHAS := Bx.mk (has_any B.s B.t B.m B.c B.sl S.room B.o B.ca B.nv B.fv S.off B.xs B.f _ (Ut.key nd.l nd.a nd.b) w1 HST.out.1.hd HST.out.1.tab hne (by omega) hk2 (by rw [List.length_map, HLL.out]; have := HSL.out; omega))
    have HKEY := Bx.mk hkey
    have HNE := Bx.mk hne
    clear hkey hkp hk2 hnd hne hk1
    refine HKEY.out.mono ?_
    rintro e w2 ⟨rfl, rfl⟩
    go_wp2_with fail
    refine HHAS.out.mono ?_
    rintro e w3 ⟨hh, htm, hf⟩
    have HST2 : Bx (StS base B w2 B S L w3) := ⟨HST.out.tab hf htm⟩
    clear htm hf HHAS HKEY k0
    rcases hh with ⟨hd, hm, rfl⟩ | ⟨hn, rfl⟩
    · have hget := HST.out.1.has_yes HL.out HWF.out.fit HK.out.1 HK.out.2.1 HK.out.2.2 hm
      clear hm
      go_wp2_with fail
      go_ret2
      exact ⟨S, B, .inr (.inl ⟨hab, hd, hget, rfl, rfl⟩), ⟨⟨L, HST2.out.1, HPERM.out⟩, HSL.out⟩, HST2.out.2, rfl⟩
    · have HNO := Bx.mk (HST.out.1.has_no HL.out hn)
      clear hn HST
      have hfl := HWF.out.fl
      obtain ⟨d, hd⟩ : ∃ d, d = decide (S.room ≤ S.len) := ⟨_, rfl⟩
      have HD := Bx.mk hd
      clear hd
      have hln : S.len < 40000 := by have := HWF.out.rm; unfold Sto.len; omega
      go_wp2_with fail
-- ⟦MK13
      refine region_any 100 (fun u => StS base B w2 B S L u) (by kernel_rfl) ?_
      generalize hu : World.drew _ = u0
      have hS0 : StS base B w2 B S L u0 := by rw [← hu]; exact HST2.out.drew
      refine any_take (i := 0) (.pointer (some ⟨B.s, 0, none⟩)) rfl rfl (by kernel_rfl) (by kernel_rfl) (by kernel_rfl) (by kernel_rfl) (fun _ _ d _ _ h => by cases d <;> exact h) (fun u hS => rfl) hS0 ?_
      (try simp only [Act.put]); (try simp only [List.getElem_toArray]); (try simp only [List.getElem_cons_succ]); (try simp only [List.getElem_cons_zero]); (try simp only [List.setIfInBounds_toArray]); (try simp only [List.set_cons_succ]); (try simp only [List.set_cons_zero])
      refine any_take (i := 2) (.pointer (some ⟨B.s, 0, none⟩)) rfl rfl (by kernel_rfl) (by kernel_rfl) (by kernel_rfl) (by kernel_rfl) (fun _ _ d _ _ h => by cases d <;> exact h) (fun u hS => rfl) hS0 ?_
      (try simp only [Act.put]); (try simp only [List.getElem_toArray]); (try simp only [List.getElem_cons_succ]); (try simp only [List.getElem_cons_zero]); (try simp only [List.setIfInBounds_toArray]); (try simp only [List.set_cons_succ]); (try simp only [List.set_cons_zero])
      refine any_take (i := 3) (.pointer (some ⟨B.s, 0, none⟩)) rfl rfl (by kernel_rfl) (by kernel_rfl) (by kernel_rfl) (by kernel_rfl) (fun _ _ d _ _ h => by cases d <;> exact h) (fun u hS => rfl) hS0 ?_
      (try simp only [Act.put]); (try simp only [List.getElem_toArray]); (try simp only [List.getElem_cons_succ]); (try simp only [List.getElem_cons_zero]); (try simp only [List.setIfInBounds_toArray]); (try simp only [List.set_cons_succ]); (try simp only [List.set_cons_zero])
      refine any_take (i := 4) (.pointer (some ⟨B.s, 0, none⟩)) rfl rfl (by kernel_rfl) (by kernel_rfl) (by kernel_rfl) (by kernel_rfl) (fun _ _ d _ _ h => by cases d <;> exact h) (fun u hS => rfl) hS0 ?_
      (try simp only [Act.put]); (try simp only [List.getElem_toArray]); (try simp only [List.getElem_cons_succ]); (try simp only [List.getElem_cons_zero]); (try simp only [List.setIfInBounds_toArray]); (try simp only [List.set_cons_succ]); (try simp only [List.set_cons_zero])
      refine any_take (i := 5) (.int .i64 (S.room : Int)) rfl rfl (by kernel_rfl) (by kernel_rfl) (by kernel_rfl) (by kernel_rfl) (fun _ _ d _ _ h => by cases d <;> exact h) (fun u hS => exec_ld_I rfl rfl (hS.1.hd.cell 0)) hS0 ?_
      (try simp only [Act.put]); (try simp only [List.getElem_toArray]); (try simp only [List.getElem_cons_succ]); (try simp only [List.getElem_cons_zero]); (try simp only [List.setIfInBounds_toArray]); (try simp only [List.set_cons_succ]); (try simp only [List.set_cons_zero])
      refine any_branch [1] (by kernel_rfl) rfl fun ix hix => ?_
      simp only [List.mem_cons, List.not_mem_nil, or_false] at hix
      subst hix
      refine any_op rfl rfl fun K hK => ?_
      go_simp
      refine (slen_any base B S L _ hS0.1 hfl).mono ?_
      rintro e u1 ⟨rfl, nq, rfl⟩
      have hS1 := hS0.drewN nq
      refine hK _ _ (fun _ => hS1) ?_
      (try simp only [Act.put]); (try simp only [List.getElem_toArray]); (try simp only [List.getElem_cons_succ]); (try simp only [List.getElem_cons_zero]); (try simp only [List.setIfInBounds_toArray]); (try simp only [List.set_cons_succ]); (try simp only [List.set_cons_zero])
      clear hK
      refine any_take (i := 6) (.bool d) rfl rfl (by kernel_rfl) (by kernel_rfl) (by kernel_rfl) (by kernel_rfl) (fun _ _ d _ _ h => by cases d <;> exact h) (fun u hS => exec_geI HD.out rfl rfl rfl) hS1 ?_
      (try simp only [Act.put]); (try simp only [List.getElem_toArray]); (try simp only [List.getElem_cons_succ]); (try simp only [List.getElem_cons_zero]); (try simp only [List.setIfInBounds_toArray]); (try simp only [List.set_cons_succ]); (try simp only [List.set_cons_zero])
      refine any_end (by kernel_rfl) ?_
-- ⟧
      cases d
      case true =>
        have hfull : S.room ≤ S.len := by have := HD.out; simpa using this
        go_wp2_with fail
        go_ret2
        exact ⟨S, B, .inr (.inr (.inl ⟨hab, HNO.out, hfull, rfl, rfl⟩)), ⟨⟨L, hS1.1, HPERM.out⟩, HSL.out⟩, hS1.2, rfl⟩
      case false =>
        have HROOM : Bx (S.len < S.room) := ⟨by have := HD.out; simp at this; exact this⟩
        have HST3 := Bx.mk hS1
        clear hS0 hS1 hu HD HST2
        obtain ⟨d2, hd2⟩ : ∃ d2, d2 = decide (B.xs.length < 2 * (S.len + 1)) := ⟨_, rfl⟩
        have HD2 := Bx.mk hd2
        clear hd2
        go_wp2_with fail
-- ⟦MK15
        refine region_any 100 (fun u => StS base B w2 B S L u) (by kernel_rfl) ?_
        generalize hu : World.drew _ = u0
        have hS0 : StS base B w2 B S L u0 := by rw [← hu]; exact HST3.out.drew
        refine any_take (i := 0) (.pointer (some ⟨B.s, 0, none⟩)) rfl rfl (by kernel_rfl) (by kernel_rfl) (by kernel_rfl) (by kernel_rfl) (fun _ _ d _ _ h => by cases d <;> exact h) (fun u hS => rfl) hS0 ?_
        (try simp only [Act.put]); (try simp only [List.getElem_toArray]); (try simp only [List.getElem_cons_succ]); (try simp only [List.getElem_cons_zero]); (try simp only [List.setIfInBounds_toArray]); (try simp only [List.set_cons_succ]); (try simp only [List.set_cons_zero])
        refine any_take (i := 4) (.pointer (some ⟨B.s, 0, none⟩)) rfl rfl (by kernel_rfl) (by kernel_rfl) (by kernel_rfl) (by kernel_rfl) (fun _ _ d _ _ h => by cases d <;> exact h) (fun u hS => rfl) hS0 ?_
        (try simp only [Act.put]); (try simp only [List.getElem_toArray]); (try simp only [List.getElem_cons_succ]); (try simp only [List.getElem_cons_zero]); (try simp only [List.setIfInBounds_toArray]); (try simp only [List.set_cons_succ]); (try simp only [List.set_cons_zero])
        refine any_take (i := 5) (.pointer (some ⟨B.s, 0, none⟩)) rfl rfl (by kernel_rfl) (by kernel_rfl) (by kernel_rfl) (by kernel_rfl) (fun _ _ d _ _ h => by cases d <;> exact h) (fun u hS => rfl) hS0 ?_
        (try simp only [Act.put]); (try simp only [List.getElem_toArray]); (try simp only [List.getElem_cons_succ]); (try simp only [List.getElem_cons_zero]); (try simp only [List.setIfInBounds_toArray]); (try simp only [List.set_cons_succ]); (try simp only [List.set_cons_zero])
        refine any_take (i := 6) (.pointer (some ⟨B.s, 4, none⟩)) rfl rfl (by kernel_rfl) (by kernel_rfl) (by kernel_rfl) (by kernel_rfl) (fun _ _ d _ _ h => by cases d <;> exact h) (fun u hS => rfl) hS0 ?_
        (try simp only [Act.put]); (try simp only [List.getElem_toArray]); (try simp only [List.getElem_cons_succ]); (try simp only [List.getElem_cons_zero]); (try simp only [List.setIfInBounds_toArray]); (try simp only [List.set_cons_succ]); (try simp only [List.set_cons_zero])
        refine any_take (i := 7) (.pointer (some ⟨B.t, 0, none⟩)) rfl rfl (by kernel_rfl) (by kernel_rfl) (by kernel_rfl) (by kernel_rfl) (fun _ _ d _ _ h => by cases d <;> exact h) (fun u hS => exec_ld_TP rfl rfl (hS.1.hd.cell 4)) hS0 ?_
        (try simp only [Act.put]); (try simp only [List.getElem_toArray]); (try simp only [List.getElem_cons_succ]); (try simp only [List.getElem_cons_zero]); (try simp only [List.setIfInBounds_toArray]); (try simp only [List.set_cons_succ]); (try simp only [List.set_cons_zero])
        refine any_branch [1] (by kernel_rfl) rfl fun ix hix => ?_
        simp only [List.mem_cons, List.not_mem_nil, or_false] at hix
        subst hix
        refine any_op rfl rfl fun K hK => ?_
        go_simp
        refine (slen_any base B S L _ hS0.1 hfl).mono ?_
        rintro e u1 ⟨rfl, nq, rfl⟩
        have hS1 := hS0.drewN nq
        refine hK _ _ (fun _ => hS1) ?_
        (try simp only [Act.put]); (try simp only [List.getElem_toArray]); (try simp only [List.getElem_cons_succ]); (try simp only [List.getElem_cons_zero]); (try simp only [List.setIfInBounds_toArray]); (try simp only [List.set_cons_succ]); (try simp only [List.set_cons_zero])
        clear hK
        refine any_take (i := 2) (.int .i64 ((S.len + 1 : Nat) : Int)) rfl rfl (by kernel_rfl) (by kernel_rfl) (by kernel_rfl) (by kernel_rfl) (fun _ _ d _ _ h => by cases d <;> exact h) (fun u hS => exec_addk (m := S.len) (n := 1) rfl (by omega) rfl rfl rfl) hS1 ?_
        (try simp only [Act.put]); (try simp only [List.getElem_toArray]); (try simp only [List.getElem_cons_succ]); (try simp only [List.getElem_cons_zero]); (try simp only [List.setIfInBounds_toArray]); (try simp only [List.set_cons_succ]); (try simp only [List.set_cons_zero])
        refine any_take (i := 3) (.int .i64 ((2 * (S.len + 1) : Nat) : Int)) rfl rfl (by kernel_rfl) (by kernel_rfl) (by kernel_rfl) (by kernel_rfl) (fun _ _ d _ _ h => by cases d <;> exact h) (fun u hS => exec_dblk rfl (by omega) rfl rfl rfl) hS1 ?_
        (try simp only [Act.put]); (try simp only [List.getElem_toArray]); (try simp only [List.getElem_cons_succ]); (try simp only [List.getElem_cons_zero]); (try simp only [List.setIfInBounds_toArray]); (try simp only [List.set_cons_succ]); (try simp only [List.set_cons_zero])
        refine any_branch [8] (by kernel_rfl) rfl fun ix hix => ?_
        simp only [List.mem_cons, List.not_mem_nil, or_false] at hix
        subst hix
        refine any_op rfl rfl fun K hK => ?_
        go_simp
        refine (slots_any B.t B.m B.xs.length _ hS1.1.tab.ut.tab).mono ?_
        rintro e u2 ⟨rfl, rfl⟩
        have hS2 := hS1
        refine hK _ _ (fun _ => hS2) ?_
        (try simp only [Act.put]); (try simp only [List.getElem_toArray]); (try simp only [List.getElem_cons_succ]); (try simp only [List.getElem_cons_zero]); (try simp only [List.setIfInBounds_toArray]); (try simp only [List.set_cons_succ]); (try simp only [List.set_cons_zero])
        clear hK
        refine any_take (i := 9) (.bool d2) rfl rfl (by kernel_rfl) (by kernel_rfl) (by kernel_rfl) (by kernel_rfl) (fun _ _ d _ _ h => by cases d <;> exact h) (fun u hS => exec_gtI HD2.out rfl rfl rfl) hS2 ?_
        (try simp only [Act.put]); (try simp only [List.getElem_toArray]); (try simp only [List.getElem_cons_succ]); (try simp only [List.getElem_cons_zero]); (try simp only [List.setIfInBounds_toArray]); (try simp only [List.set_cons_succ]); (try simp only [List.set_cons_zero])
        refine any_end (by kernel_rfl) ?_
-- ⟧
        have HST4 := Bx.mk hS2
        clear hS0 hS1 hS2 hu HST3
        cases d2
        case' true =>
          have hslots : B.xs.length < 2 * (S.len + 1) := by have := HD2.out; simpa using this
          have hgr := grows_any base B S L (2 * B.xs.length) none [] 0 _ HST4.out.1 (Nat.le_trans hb HST4.out.2.fr.size) HWF.out.fit (by have := HSL.out; omega) (by have h1 := HWF.out.slen; have := HSL.out; unfold Sto.all at h1; rw [← h1]; omega) (HSl.nil _ _) (by simp)
          rw [show ((2 * B.xs.length : Nat) : Int) = 2 * (B.xs.length : Int) from by omega] at hgr
          have HGR := Bx.mk hgr
          have qs : (B.xs.length : Int) < 65600 := by have := HROOM.out; have := HWF.out.rm; omega
          have qs0 : (0 : Int) ≤ (B.xs.length : Int) := by omega
          have HSLOT := Bx.mk (slots_any B.t B.m B.xs.length _ HST4.out.1.tab.ut.tab)
          have c4 : (u0.drewN nq).cell? ⟨B.s, 4, none⟩ = some (.pointer (some ⟨B.t, 0, none⟩)) := HST4.out.1.hd.cell 4
          clear hgr hslots hln hfl
          generalize B.xs.length = nx at *
          have hwr : IntKind.i64.wrap (2 * (nx : Int)) = 2 * (nx : Int) := wi64 (by omega) (by omega)
          clear qs qs0
          go_wp2_with fail
          refine HSLOT.out.mono ?_
          rintro e wz ⟨rfl, rfl⟩
          go_wp2_with fail
          refine HGR.out.mono ?_
          rintro e wg ⟨rfl, t2, m2, c2, sl2, xs2, f2, hst2, hstp2, hxl2⟩
          obtain ⟨B2, L2, HX⟩ : ∃ B2 L2, Bx (StS base B w2 B2 S L2 wg ∧ L2.Perm S.all ∧ 2 * (S.len + 1) ≤ B2.xs.length ∧ 32 ≤ B2.xs.length ∧ B2.s = B.s ∧ B2.ys = B.ys) := ⟨_, _, ⟨⟨⟨hst2, HST4.out.2.trans hstp2⟩, List.Perm.refl _, by rw [hxl2]; have := HSL.out; omega, by rw [hxl2]; have := HSL.out; omega, rfl, rfl⟩⟩⟩
          clear hst2 hstp2 hxl2 HGR HST4 hwr c4 HSLOT
        case' false =>
          have hslots : 2 * (S.len + 1) ≤ B.xs.length := by have := HD2.out; simp at this; exact this
          obtain ⟨B2, L2, HX⟩ : ∃ B2 L2, Bx (StS base B w2 B2 S L2 (u0.drewN nq) ∧ L2.Perm S.all ∧ 2 * (S.len + 1) ≤ B2.xs.length ∧ 32 ≤ B2.xs.length ∧ B2.s = B.s ∧ B2.ys = B.ys) := ⟨B, L, ⟨HST4.out, HPERM.out, hslots, HSL.out.2, rfl, rfl⟩⟩
          clear hslots HST4 hln hfl
          generalize u0.drewN nq = wg at *
        all_goals
          clear HD2 HSL HL HLL HPERM HNE
          go_wp2_with fail
          rw [← HX.out.2.2.2.2.1]
          have HHD := Bx.mk (handle_any base B2 S L2 wg HX.out.1.1 (Nat.le_trans hb HX.out.1.2.fr.size) HWF.out (fun x hx => Sto.mem_all.1 (HX.out.2.1.mem_iff.1 hx)) HROOM.out)
          refine HHD.out.mono ?_
          rintro e w5 ⟨i, S3, B3, rfl, hnx, hi, hadd, ⟨hxs3, hys3⟩, hst3, hstp3⟩
          have HYS : Bx (B3.ys = B.ys) := ⟨hys3.trans HX.out.2.2.2.2.2⟩
          clear hys3
          have hs3 : B3.s = B2.s := hstp3.s
          obtain ⟨o, ho⟩ : ∃ o, S3.nodes[i]? = some o := ⟨_, List.getElem?_eq_getElem hi⟩
          obtain ⟨g, cap, hv, hg, hz, hc⟩ := hst3.at_ ho
          have hinL : i + 2 ∉ L2 := fun h => Sto.mem_all.1 (HX.out.2.1.mem_iff.1 h) (by rw [← hnx]; exact HWF.out.next_spec.2.2)
          have hset := StAt.set_nd hst3 hv i hi nd (fun x hx e => hinL (by
            have h2 := Sto.mem_all.1 (HX.out.2.1.mem_iff.1 hx)
            cases hgx : S.get x with
            | none => exact absurd hgx h2
            | some nx => have := Sto.get_lt hgx; rw [show i + 2 = x from by omega]; exact hx))
          have n0 : ∃ v, w5.cell? ⟨g, i * 4, none⟩ = some v := by
            cases o with
            | none => exact ⟨_, hc 0 _ rfl⟩
            | some m => exact ⟨_, hc 0 _ rfl⟩
          have n1 : ∃ v, w5.cell? ⟨g, i * 4 + 1, none⟩ = some v := by
            cases o with
            | none => exact ⟨_, hc 1 _ rfl⟩
            | some m => exact ⟨_, hc 1 _ rfl⟩
          have n2 : ∃ v, w5.cell? ⟨g, i * 4 + 2, none⟩ = some v := by
            cases o with
            | none => exact ⟨_, hc 2 _ rfl⟩
            | some m => exact ⟨_, hc 2 _ rfl⟩
          have n3 : ∃ v, w5.cell? ⟨g, i * 4 + 3, none⟩ = some v := by
            cases o with
            | none => exact ⟨_, hc 3 _ rfl⟩
            | some m => exact ⟨_, hc 3 _ rfl⟩
          obtain ⟨v0, n0⟩ := n0
          obtain ⟨v1, n1⟩ := n1
          obtain ⟨v2, n2⟩ := n2
          obtain ⟨v3, n3⟩ := n3
          have c2 : w5.cell? ⟨B2.s, 2, none⟩ = some B3.nv := by rw [← hs3]; exact hst3.hd.cell 2
          rw [hv] at c2
          have hgs : B2.s ≠ g := by
            intro e
            have h9 := (nodup9 hst3.nd).2.1 g (by rw [hv]; simp [Value.ownBlock])
            exact h9.1 (by rw [← e, ← hs3]; simp)
          have hsz3 := hst3.sz
          have hrow := hst3.nod
          rw [hv] at hrow
          have z1 : w5.frozen? ⟨g, i * 4 + 1, none⟩ = false := hrow.frozenAt _
          have z2 : w5.frozen? ⟨g, i * 4 + 2, none⟩ = false := hrow.frozenAt _
          have z3 : w5.frozen? ⟨g, i * 4 + 3, none⟩ = false := hrow.frozenAt _
          clear hrow
          have HSET := Bx.mk (And.intro hset (And.intro hst3 hstp3))
          have HADD := Bx.mk (And.intro hadd (And.intro hnx (And.intro hxs3 (And.intro hs3 hinL))))
          clear HHD hset hst3 hstp3 hadd hnx hxs3 hs3 hinL hc hv ho hg
          have e1 : (((i + 2 : Nat) : Int)) - 2 = (i : Int) := by omega
          have q5 : (i : Int) < (S3.nodes.length : Int) := by omega
          have q6 : (0 : Int) ≤ (i : Int) := by omega
          have q7 : (S3.nodes.length : Int) ≤ 40000 := by omega
          clear hi hsz3
          generalize S3.nodes.length = n3l at *
          go_wp2_with fail
          obtain ⟨hset, hst3, hstp3⟩ := HSET.out
          obtain ⟨hadd, hnx, hxs3, hs3, hinL⟩ := HADD.out
          have hst4 := hset.1
          rw [← hadd nd] at hst4
          have hpw := HWF.out.add HN.out HA.out.1 HA.out.2.1 (by rw [HLEV.out.1]; exact HA.out.2.2.1) (by rw [HLEV.out.2]; exact HA.out.2.2.2) hab HNO.out HROOM.out
          have hgx : (S.add nd).get (i + 2) = some nd := by rw [HWF.out.add_get, hnx, if_pos rfl]
          have hkeep : ∀ x ∈ L2, (S.add nd).get x ≠ none := fun x hx => by
            have h2 := Sto.mem_all.1 (HX.out.2.1.mem_iff.1 hx)
            cases hgs : S.get x with
            | none => exact absurd hgs h2
            | some m => rw [HWF.out.add_keeps nd hgs]; simp
          have hl2 : L2.length = S.len := by rw [HX.out.2.1.length_eq, HWF.out.slen]
          have hnd3 := nd9_a (nodup9 hst4.nd).1
          have hne3 : B3.s ≠ B3.m ∧ B3.s ≠ B3.c ∧ B3.s ≠ B3.sl := by
            have := hnd3 B3.s (by simp)
            simpa [not_or] using this
          have hlay := lays_any B3.s B3.t B3.m B3.c B3.sl _ B3.o B3.ca B3.nv B3.fv _ B3.xs B3.f _ (i + 2) nd.l nd.a nd.b _ hst4.hd hst4.tab hne3 HK.out.1 HK.out.2.1 HK.out.2.2 hab (by omega)
            (hpw.fit.key hgx hkeep hinL) (by rw [List.length_map, hxs3, hl2]; have := HX.out.2.2; omega)
          rw [hs3, show ((i + 2 : Nat) : Int) = (i : Int) + 2 from by omega] at hlay
          refine hlay.mono ?_
          rintro e w6 ⟨rfl, ⟨xs', f', hxl', htm⟩, hf6⟩
          have hput := StAt.put_tab (L' := (i + 2) :: L2) hst4 hf6 (by
            rw [List.map_cons, Sto.keyOf_some hgx]
            exact htm)
          have hperm : ((i + 2) :: L2).Perm (S.add nd).all := by
            refine (List.perm_ext_iff_of_nodup (List.nodup_cons.2 ⟨hinL, HX.out.2.1.nodup_iff.2 Sto.all_nodup⟩) Sto.all_nodup).2 fun x => ?_
            rw [List.mem_cons, HX.out.2.1.mem_iff, Sto.mem_all, Sto.mem_all, HWF.out.add_get, hnx]
            by_cases e : x = i + 2
            · simp [e]
            · simp [e]
          have HE : Bx (StW w6 base { B3 with xs := xs', f := f' } (S.add nd) ∧ Stp B w2 { B3 with xs := xs', f := f' } w6 ∧ S.next = i + 2) :=
            ⟨⟨⟨_, hput.1, hperm⟩, by show 2 * (S.add nd).len ≤ xs'.length ∧ 32 ≤ xs'.length; rw [HWF.out.add_len, hxl', hxs3]; exact ⟨HX.out.2.2.1, HX.out.2.2.2.1⟩⟩, ((HX.out.1.2.trans hstp3).trans hset.2).trans hput.2, hnx⟩
          clear hset hst3 hstp3 hadd hnx hxs3 hs3 hinL hst4 hpw hgx hkeep hl2 hnd3 hne3 hlay hput hperm htm hf6 hxl'
          go_wp2_with fail
          go_ret2
          exact ⟨S.add nd, _, .inr (.inr (.inr ⟨hab, HNO.out, HROOM.out, by rw [HE.out.2.2]; rfl, rfl⟩)), HE.out.1, HE.out.2.1, HYS.out⟩
end Go.Proofs.Ythbifeoohphnpaa

/-
  Package order: a variable laid at a level; one made.
-/
namespace Go.Proofs.Ythbifeoohphnpaa
set_option linter.unusedVariables false
open Go.RowKit
section
variable {u : World} {a : Act} {o : Oper} {x y : Operand}
theorem exec_ixO {p off i : Nat} {T : TypeId} (hT : T = 100) (hi : i < 8) (hop : o.op = .indexAddr T x y) (hx : a.eval x = .pointer (some ⟨p, off, none⟩)) (hy : a.eval y = .int .i64 (i : Int)) :
    (execOp a.eval o).run Try.prog u = .ok (.value (.pointer (some ⟨p, off + i, none⟩))) u := by
  subst hT
  have q0 : (0 : Int) ≤ (i : Int) := by omega
  have q1 : (i : Int) < 8 := by omega
  unfold execOp
  simp only [hop, hx, hy]
  go_simp
end
/-- an order's cells with a variable laid at a level -/
def putsV (vs : Array Value) (l v : Nat) : Array Value := (vs.setIfInBounds (1 + l) (.int .i64 (v : Int))).setIfInBounds (9 + v) (.int .i64 (l : Int))
set_option maxRecDepth 100000 in
theorem puts_any (o : Nat) (vs : Array Value) (l v : Nat) (wb : World) (hl8 : l < 8) (hv8 : v < 8) (hbk : Blk wb o 102 vs) (hn : vs.size = 17) :
    Calls Try.prog 79 #[.pointer (some ⟨o, 0, none⟩), .int .i64 (l : Int), .int .i64 (v : Int)] wb fun e w' => e = .returned (.tuple #[]) ∧ Blk w' o 102 (putsV vs l v) ∧ Fr [o] wb w' ∧ w'.heap.size = wb.heap.size := by
  obtain ⟨x9, hx9⟩ : ∃ x, vs[1 + l]? = some x := ⟨_, Array.getElem?_eq_getElem (by omega)⟩
  obtain ⟨x13, hx13⟩ : ∃ x, vs[9 + v]? = some x := ⟨_, Array.getElem?_eq_getElem (by omega)⟩
  go_enter Try.func79, Try.ntmps79
  go_wp2_with fail
-- ⟦PUTS
  refine region_any 100 (fun u => True) (by kernel_rfl) ?_
  generalize hu : World.drew _ = u0
  have hS0 : True := trivial
  have hb0 := hbk.drew
  rw [hu] at hb0
  have hf0 := (Fr.refl [o] wb).drew
  rw [hu] at hf0
  have hsz0 : u0.heap.size = wb.heap.size := by rw [← hu]; rfl
  clear hu
  refine any_take (i := 0) (.pointer (some ⟨o, 0, none⟩)) rfl rfl (by kernel_rfl) (by kernel_rfl) (by kernel_rfl) (by kernel_rfl) (fun _ _ d _ _ h => by cases d <;> exact h) (fun u hS => rfl) hS0 ?_
  (try simp only [Act.put]); (try simp only [List.getElem_toArray]); (try simp only [List.getElem_cons_succ]); (try simp only [List.getElem_cons_zero]); (try simp only [List.setIfInBounds_toArray]); (try simp only [List.set_cons_succ]); (try simp only [List.set_cons_zero])
  refine any_take (i := 1) (.int .i64 (l : Int)) rfl rfl (by kernel_rfl) (by kernel_rfl) (by kernel_rfl) (by kernel_rfl) (fun _ _ d _ _ h => by cases d <;> exact h) (fun u hS => rfl) hS0 ?_
  (try simp only [Act.put]); (try simp only [List.getElem_toArray]); (try simp only [List.getElem_cons_succ]); (try simp only [List.getElem_cons_zero]); (try simp only [List.setIfInBounds_toArray]); (try simp only [List.set_cons_succ]); (try simp only [List.set_cons_zero])
  refine any_take (i := 2) (.pointer (some ⟨o, 0, none⟩)) rfl rfl (by kernel_rfl) (by kernel_rfl) (by kernel_rfl) (by kernel_rfl) (fun _ _ d _ _ h => by cases d <;> exact h) (fun u hS => rfl) hS0 ?_
  (try simp only [Act.put]); (try simp only [List.getElem_toArray]); (try simp only [List.getElem_cons_succ]); (try simp only [List.getElem_cons_zero]); (try simp only [List.setIfInBounds_toArray]); (try simp only [List.set_cons_succ]); (try simp only [List.set_cons_zero])
  refine any_take (i := 3) (.int .i64 (v : Int)) rfl rfl (by kernel_rfl) (by kernel_rfl) (by kernel_rfl) (by kernel_rfl) (fun _ _ d _ _ h => by cases d <;> exact h) (fun u hS => rfl) hS0 ?_
  (try simp only [Act.put]); (try simp only [List.getElem_toArray]); (try simp only [List.getElem_cons_succ]); (try simp only [List.getElem_cons_zero]); (try simp only [List.setIfInBounds_toArray]); (try simp only [List.set_cons_succ]); (try simp only [List.set_cons_zero])
  refine any_take (i := 4) (.int .i64 (v : Int)) rfl rfl (by kernel_rfl) (by kernel_rfl) (by kernel_rfl) (by kernel_rfl) (fun _ _ d _ _ h => by cases d <;> exact h) (fun u hS => rfl) hS0 ?_
  (try simp only [Act.put]); (try simp only [List.getElem_toArray]); (try simp only [List.getElem_cons_succ]); (try simp only [List.getElem_cons_zero]); (try simp only [List.setIfInBounds_toArray]); (try simp only [List.set_cons_succ]); (try simp only [List.set_cons_zero])
  refine any_take (i := 5) (.int .i64 (l : Int)) rfl rfl (by kernel_rfl) (by kernel_rfl) (by kernel_rfl) (by kernel_rfl) (fun _ _ d _ _ h => by cases d <;> exact h) (fun u hS => rfl) hS0 ?_
  (try simp only [Act.put]); (try simp only [List.getElem_toArray]); (try simp only [List.getElem_cons_succ]); (try simp only [List.getElem_cons_zero]); (try simp only [List.setIfInBounds_toArray]); (try simp only [List.set_cons_succ]); (try simp only [List.set_cons_zero])
  refine any_take (i := 6) (.pointer (some ⟨o, 0, none⟩)) rfl rfl (by kernel_rfl) (by kernel_rfl) (by kernel_rfl) (by kernel_rfl) (fun _ _ d _ _ h => by cases d <;> exact h) (fun u hS => rfl) hS0 ?_
  (try simp only [Act.put]); (try simp only [List.getElem_toArray]); (try simp only [List.getElem_cons_succ]); (try simp only [List.getElem_cons_zero]); (try simp only [List.setIfInBounds_toArray]); (try simp only [List.set_cons_succ]); (try simp only [List.set_cons_zero])
  refine any_take (i := 7) (.pointer (some ⟨o, 1, none⟩)) rfl rfl (by kernel_rfl) (by kernel_rfl) (by kernel_rfl) (by kernel_rfl) (fun _ _ d _ _ h => by cases d <;> exact h) (fun u hS => rfl) hS0 ?_
  (try simp only [Act.put]); (try simp only [List.getElem_toArray]); (try simp only [List.getElem_cons_succ]); (try simp only [List.getElem_cons_zero]); (try simp only [List.setIfInBounds_toArray]); (try simp only [List.set_cons_succ]); (try simp only [List.set_cons_zero])
  refine any_take (i := 8) (.pointer (some ⟨o, 1 + l, none⟩)) rfl rfl (by kernel_rfl) (by kernel_rfl) (by kernel_rfl) (by kernel_rfl) (fun _ _ d _ _ h => by cases d <;> exact h) (fun u hS => exec_ixO rfl hl8 rfl rfl rfl) hS0 ?_
  (try simp only [Act.put]); (try simp only [List.getElem_toArray]); (try simp only [List.getElem_cons_succ]); (try simp only [List.getElem_cons_zero]); (try simp only [List.setIfInBounds_toArray]); (try simp only [List.set_cons_succ]); (try simp only [List.set_cons_zero])
  refine any_take (i := 10) (.pointer (some ⟨o, 0, none⟩)) rfl rfl (by kernel_rfl) (by kernel_rfl) (by kernel_rfl) (by kernel_rfl) (fun _ _ d _ _ h => by cases d <;> exact h) (fun u hS => rfl) hS0 ?_
  (try simp only [Act.put]); (try simp only [List.getElem_toArray]); (try simp only [List.getElem_cons_succ]); (try simp only [List.getElem_cons_zero]); (try simp only [List.setIfInBounds_toArray]); (try simp only [List.set_cons_succ]); (try simp only [List.set_cons_zero])
  refine any_take (i := 11) (.pointer (some ⟨o, 9, none⟩)) rfl rfl (by kernel_rfl) (by kernel_rfl) (by kernel_rfl) (by kernel_rfl) (fun _ _ d _ _ h => by cases d <;> exact h) (fun u hS => rfl) hS0 ?_
  (try simp only [Act.put]); (try simp only [List.getElem_toArray]); (try simp only [List.getElem_cons_succ]); (try simp only [List.getElem_cons_zero]); (try simp only [List.setIfInBounds_toArray]); (try simp only [List.set_cons_succ]); (try simp only [List.set_cons_zero])
  refine any_branch [9] (by kernel_rfl) rfl fun ix hix => ?_
  simp only [List.mem_cons, List.not_mem_nil, or_false] at hix
  subst hix
  refine any_op rfl rfl fun K hK => ?_
  have hz := hb0.frozen (1 + l)
  have hc := (hb0.cell (1 + l)).trans hx9
  go_simp
  have hb1 := hb0.set_same (1 + l) (.int .i64 (v : Int)) rfl
  clear hz hc
  refine hK _ _ (fun _ => trivial) ?_
  (try simp only [Act.put]); (try simp only [List.getElem_toArray]); (try simp only [List.getElem_cons_succ]); (try simp only [List.getElem_cons_zero]); (try simp only [List.setIfInBounds_toArray]); (try simp only [List.set_cons_succ]); (try simp only [List.set_cons_zero])
  clear hK
  refine any_take (i := 12) (.pointer (some ⟨o, 9 + v, none⟩)) rfl rfl (by kernel_rfl) (by kernel_rfl) (by kernel_rfl) (by kernel_rfl) (fun _ _ d _ _ h => by cases d <;> exact h) (fun u hS => exec_ixO rfl hv8 rfl rfl rfl) trivial ?_
  (try simp only [Act.put]); (try simp only [List.getElem_toArray]); (try simp only [List.getElem_cons_succ]); (try simp only [List.getElem_cons_zero]); (try simp only [List.setIfInBounds_toArray]); (try simp only [List.set_cons_succ]); (try simp only [List.set_cons_zero])
  refine any_branch [13] (by kernel_rfl) rfl fun ix hix => ?_
  simp only [List.mem_cons, List.not_mem_nil, or_false] at hix
  subst hix
  refine any_op rfl rfl fun K hK => ?_
  have hz := hb1.frozen (9 + v)
  have hc := (hb1.cell (9 + v)).trans ((Array.getElem?_setIfInBounds_ne (by omega)).trans hx13)
  go_simp
  have hb2 := hb1.set_same (9 + v) (.int .i64 (l : Int)) rfl
  clear hz hc
  refine hK _ _ (fun _ => trivial) ?_
  (try simp only [Act.put]); (try simp only [List.getElem_toArray]); (try simp only [List.getElem_cons_succ]); (try simp only [List.getElem_cons_zero]); (try simp only [List.setIfInBounds_toArray]); (try simp only [List.set_cons_succ]); (try simp only [List.set_cons_zero])
  clear hK
  refine any_end (by kernel_rfl) ?_
-- ⟧
  have HE : Bx (Blk ((u0.setCell ⟨o, 1 + l, none⟩ (.int .i64 (v : Int))).setCell ⟨o, 9 + v, none⟩ (.int .i64 (l : Int))) o 102 (putsV vs l v) ∧ Fr [o] wb ((u0.setCell ⟨o, 1 + l, none⟩ (.int .i64 (v : Int))).setCell ⟨o, 9 + v, none⟩ (.int .i64 (l : Int))) ∧ ((u0.setCell ⟨o, 1 + l, none⟩ (.int .i64 (v : Int))).setCell ⟨o, 9 + v, none⟩ (.int .i64 (l : Int))).heap.size = wb.heap.size) :=
    ⟨hb2, (hf0.setCell (fun _ => by simp) _).setCell (fun _ => by simp) _, by simp [World.setCell, hsz0]⟩
  clear hb0 hb1 hb2 hf0 hsz0
  go_wp2_with fail
  go_end0
  exact ⟨rfl, HE.out⟩
/-- the cells of an order of n variables, so many of them laid -/
def ordN (n : Nat) : Nat → Array Value
  | 0 => #[.int .i64 (n : Int), .int .i64 0, .int .i64 0, .int .i64 0, .int .i64 0, .int .i64 0, .int .i64 0, .int .i64 0, .int .i64 0, .int .i64 0, .int .i64 0, .int .i64 0, .int .i64 0, .int .i64 0, .int .i64 0, .int .i64 0, .int .i64 0]
  | k + 1 => putsV (ordN n k) k k
theorem ordN_size (n : Nat) : ∀ k, (ordN n k).size = 17
  | 0 => rfl
  | k + 1 => by unfold ordN putsV; rw [Array.size_setIfInBounds, Array.size_setIfInBounds]; exact ordN_size n k
theorem ordN_zero (n : Nat) : ∀ k, (ordN n k)[0]? = some (.int .i64 (n : Int))
  | 0 => rfl
  | k + 1 => by unfold ordN putsV; rw [Array.getElem?_setIfInBounds_ne (by omega), Array.getElem?_setIfInBounds_ne (by omega)]; exact ordN_zero n k
def idV (n : Nat) : List Nat := (List.range 8).map fun j => if j < n then j else 0
/-- a store without nodes -/
def Sto.new (n room : Nat) : Sto := ⟨room, n, idV n, idV n, [], [], false⟩
theorem ordN_new (n room : Nat) (h : n ≤ 8) : ordN n n = ordV (Sto.new n room) := by
  have : n = 0 ∨ n = 1 ∨ n = 2 ∨ n = 3 ∨ n = 4 ∨ n = 5 ∨ n = 6 ∨ n = 7 ∨ n = 8 := by omega
  rcases this with rfl | rfl | rfl | rfl | rfl | rfl | rfl | rfl | rfl <;> rfl
set_option maxRecDepth 100000 in
theorem onew_any (n : Nat) (w : World) (h1 : 1 ≤ n) (h8 : n ≤ 8) :
    Calls Try.prog 40 #[.int .i64 (n : Int)] w fun e w' => e = .returned (.pointer (some ⟨w.heap.size, 0, none⟩)) ∧ Blk w' w.heap.size 102 (ordN n n) ∧ Fr [] w w' ∧ w'.heap.size = w.heap.size + 1 := by
  have hbk0 : Blk (w.alloc (.cells (ordN n 0) 102)) w.heap.size 102 (ordN n 0) := Blk.new w 102 (ordN n 0)
  have hfa : Fr [] w (w.alloc (.cells (ordN n 0) 102)) := (Fr.refl _ _).alloc _
  have hsa : (w.alloc (.cells (ordN n 0) 102)).heap.size = w.heap.size + 1 := alloc_size _ _
  have c0 := hbk0.cellEq (ordN_zero n 0)
  have q1 : (1 : Int) ≤ (n : Int) := by omega
  have q8 : (n : Int) ≤ 8 := by omega
  have HB := Bx.mk (And.intro hbk0 (And.intro hfa hsa))
  clear hbk0 hfa hsa
  go_enter Try.func40, Try.ntmps40
  go_wp2_with fail
  clear c0
  go_loopw [14] (fun i wr => ∃ k, k ≤ n ∧ i = .int .i64 (k : Int) ∧ Blk wr w.heap.size 102 (ordN n k) ∧ Fr [] w wr ∧ wr.heap.size = w.heap.size + 1) (fun i _ => n - (intOf i).toNat)
  case atStart => exact ⟨0, Nat.zero_le _, rfl, HB.out⟩
  case round =>
    obtain ⟨k, hk, rfl, hbk, hfr, hsz⟩ := hrel
    by_cases hlt : k < n
    · have q : (k : Int) < (n : Int) := by omega
      have q0 : (0 : Int) ≤ (k : Int) := by omega
      have hl8 : k < 8 := by omega
      have hv8 : k < 8 := hl8
      have hn := ordN_size n k
      obtain ⟨x9, hx9⟩ : ∃ x, (ordN n k)[1 + k]? = some x := ⟨_, Array.getElem?_eq_getElem (by omega)⟩
      obtain ⟨x13, hx13⟩ : ∃ x, (ordN n k)[9 + k]? = some x := ⟨_, Array.getElem?_eq_getElem (by omega)⟩
      have HBK := Bx.mk (And.intro hfr hsz)
      clear hfr hsz
      go_wp2_with fail
-- ⟦ONEW
      refine region_any 100 (fun u => True) (by kernel_rfl) ?_
      generalize hu : World.drew _ = u0
      have hS0 : True := trivial
      have hb0 := hbk.drew
      rw [hu] at hb0
      have hf0 := (Fr.refl [w.heap.size] wr).drew
      rw [hu] at hf0
      have hsz0 : u0.heap.size = wr.heap.size := by rw [← hu]; rfl
      clear hu
      refine any_take (i := 0) (.pointer (some ⟨w.heap.size, 0, none⟩)) rfl rfl (by kernel_rfl) (by kernel_rfl) (by kernel_rfl) (by kernel_rfl) (fun _ _ d _ _ h => by cases d <;> exact h) (fun u hS => rfl) hS0 ?_
      (try simp only [Act.put]); (try simp only [List.getElem_toArray]); (try simp only [List.getElem_cons_succ]); (try simp only [List.getElem_cons_zero]); (try simp only [List.setIfInBounds_toArray]); (try simp only [List.set_cons_succ]); (try simp only [List.set_cons_zero])
      refine any_take (i := 1) (.int .i64 (k : Int)) rfl rfl (by kernel_rfl) (by kernel_rfl) (by kernel_rfl) (by kernel_rfl) (fun _ _ d _ _ h => by cases d <;> exact h) (fun u hS => rfl) hS0 ?_
      (try simp only [Act.put]); (try simp only [List.getElem_toArray]); (try simp only [List.getElem_cons_succ]); (try simp only [List.getElem_cons_zero]); (try simp only [List.setIfInBounds_toArray]); (try simp only [List.set_cons_succ]); (try simp only [List.set_cons_zero])
      refine any_take (i := 2) (.pointer (some ⟨w.heap.size, 0, none⟩)) rfl rfl (by kernel_rfl) (by kernel_rfl) (by kernel_rfl) (by kernel_rfl) (fun _ _ d _ _ h => by cases d <;> exact h) (fun u hS => rfl) hS0 ?_
      (try simp only [Act.put]); (try simp only [List.getElem_toArray]); (try simp only [List.getElem_cons_succ]); (try simp only [List.getElem_cons_zero]); (try simp only [List.setIfInBounds_toArray]); (try simp only [List.set_cons_succ]); (try simp only [List.set_cons_zero])
      refine any_take (i := 3) (.int .i64 (k : Int)) rfl rfl (by kernel_rfl) (by kernel_rfl) (by kernel_rfl) (by kernel_rfl) (fun _ _ d _ _ h => by cases d <;> exact h) (fun u hS => rfl) hS0 ?_
      (try simp only [Act.put]); (try simp only [List.getElem_toArray]); (try simp only [List.getElem_cons_succ]); (try simp only [List.getElem_cons_zero]); (try simp only [List.setIfInBounds_toArray]); (try simp only [List.set_cons_succ]); (try simp only [List.set_cons_zero])
      refine any_take (i := 4) (.int .i64 (k : Int)) rfl rfl (by kernel_rfl) (by kernel_rfl) (by kernel_rfl) (by kernel_rfl) (fun _ _ d _ _ h => by cases d <;> exact h) (fun u hS => rfl) hS0 ?_
      (try simp only [Act.put]); (try simp only [List.getElem_toArray]); (try simp only [List.getElem_cons_succ]); (try simp only [List.getElem_cons_zero]); (try simp only [List.setIfInBounds_toArray]); (try simp only [List.set_cons_succ]); (try simp only [List.set_cons_zero])
      refine any_take (i := 5) (.int .i64 (k : Int)) rfl rfl (by kernel_rfl) (by kernel_rfl) (by kernel_rfl) (by kernel_rfl) (fun _ _ d _ _ h => by cases d <;> exact h) (fun u hS => rfl) hS0 ?_
      (try simp only [Act.put]); (try simp only [List.getElem_toArray]); (try simp only [List.getElem_cons_succ]); (try simp only [List.getElem_cons_zero]); (try simp only [List.setIfInBounds_toArray]); (try simp only [List.set_cons_succ]); (try simp only [List.set_cons_zero])
      refine any_take (i := 6) (.pointer (some ⟨w.heap.size, 0, none⟩)) rfl rfl (by kernel_rfl) (by kernel_rfl) (by kernel_rfl) (by kernel_rfl) (fun _ _ d _ _ h => by cases d <;> exact h) (fun u hS => rfl) hS0 ?_
      (try simp only [Act.put]); (try simp only [List.getElem_toArray]); (try simp only [List.getElem_cons_succ]); (try simp only [List.getElem_cons_zero]); (try simp only [List.setIfInBounds_toArray]); (try simp only [List.set_cons_succ]); (try simp only [List.set_cons_zero])
      refine any_take (i := 7) (.pointer (some ⟨w.heap.size, 1, none⟩)) rfl rfl (by kernel_rfl) (by kernel_rfl) (by kernel_rfl) (by kernel_rfl) (fun _ _ d _ _ h => by cases d <;> exact h) (fun u hS => rfl) hS0 ?_
      (try simp only [Act.put]); (try simp only [List.getElem_toArray]); (try simp only [List.getElem_cons_succ]); (try simp only [List.getElem_cons_zero]); (try simp only [List.setIfInBounds_toArray]); (try simp only [List.set_cons_succ]); (try simp only [List.set_cons_zero])
      refine any_take (i := 8) (.pointer (some ⟨w.heap.size, 1 + k, none⟩)) rfl rfl (by kernel_rfl) (by kernel_rfl) (by kernel_rfl) (by kernel_rfl) (fun _ _ d _ _ h => by cases d <;> exact h) (fun u hS => exec_ixO rfl hl8 rfl rfl rfl) hS0 ?_
      (try simp only [Act.put]); (try simp only [List.getElem_toArray]); (try simp only [List.getElem_cons_succ]); (try simp only [List.getElem_cons_zero]); (try simp only [List.setIfInBounds_toArray]); (try simp only [List.set_cons_succ]); (try simp only [List.set_cons_zero])
      refine any_take (i := 10) (.pointer (some ⟨w.heap.size, 0, none⟩)) rfl rfl (by kernel_rfl) (by kernel_rfl) (by kernel_rfl) (by kernel_rfl) (fun _ _ d _ _ h => by cases d <;> exact h) (fun u hS => rfl) hS0 ?_
      (try simp only [Act.put]); (try simp only [List.getElem_toArray]); (try simp only [List.getElem_cons_succ]); (try simp only [List.getElem_cons_zero]); (try simp only [List.setIfInBounds_toArray]); (try simp only [List.set_cons_succ]); (try simp only [List.set_cons_zero])
      refine any_take (i := 11) (.pointer (some ⟨w.heap.size, 9, none⟩)) rfl rfl (by kernel_rfl) (by kernel_rfl) (by kernel_rfl) (by kernel_rfl) (fun _ _ d _ _ h => by cases d <;> exact h) (fun u hS => rfl) hS0 ?_
      (try simp only [Act.put]); (try simp only [List.getElem_toArray]); (try simp only [List.getElem_cons_succ]); (try simp only [List.getElem_cons_zero]); (try simp only [List.setIfInBounds_toArray]); (try simp only [List.set_cons_succ]); (try simp only [List.set_cons_zero])
      refine any_branch [9] (by kernel_rfl) rfl fun ix hix => ?_
      simp only [List.mem_cons, List.not_mem_nil, or_false] at hix
      subst hix
      refine any_op rfl rfl fun K hK => ?_
      have hz := hb0.frozen (1 + k)
      have hc := (hb0.cell (1 + k)).trans hx9
      go_simp
      have hb1 := hb0.set_same (1 + k) (.int .i64 (k : Int)) rfl
      clear hz hc
      refine hK _ _ (fun _ => trivial) ?_
      (try simp only [Act.put]); (try simp only [List.getElem_toArray]); (try simp only [List.getElem_cons_succ]); (try simp only [List.getElem_cons_zero]); (try simp only [List.setIfInBounds_toArray]); (try simp only [List.set_cons_succ]); (try simp only [List.set_cons_zero])
      clear hK
      refine any_take (i := 12) (.pointer (some ⟨w.heap.size, 9 + k, none⟩)) rfl rfl (by kernel_rfl) (by kernel_rfl) (by kernel_rfl) (by kernel_rfl) (fun _ _ d _ _ h => by cases d <;> exact h) (fun u hS => exec_ixO rfl hv8 rfl rfl rfl) trivial ?_
      (try simp only [Act.put]); (try simp only [List.getElem_toArray]); (try simp only [List.getElem_cons_succ]); (try simp only [List.getElem_cons_zero]); (try simp only [List.setIfInBounds_toArray]); (try simp only [List.set_cons_succ]); (try simp only [List.set_cons_zero])
      refine any_branch [13] (by kernel_rfl) rfl fun ix hix => ?_
      simp only [List.mem_cons, List.not_mem_nil, or_false] at hix
      subst hix
      refine any_op rfl rfl fun K hK => ?_
      have hz := hb1.frozen (9 + k)
      have hc := (hb1.cell (9 + k)).trans ((Array.getElem?_setIfInBounds_ne (by omega)).trans hx13)
      go_simp
      have hb2 := hb1.set_same (9 + k) (.int .i64 (k : Int)) rfl
      clear hz hc
      refine hK _ _ (fun _ => trivial) ?_
      (try simp only [Act.put]); (try simp only [List.getElem_toArray]); (try simp only [List.getElem_cons_succ]); (try simp only [List.getElem_cons_zero]); (try simp only [List.setIfInBounds_toArray]); (try simp only [List.set_cons_succ]); (try simp only [List.set_cons_zero])
      clear hK
      refine any_end (by kernel_rfl) ?_
-- ⟧
      have HE : Bx (Blk ((u0.setCell ⟨w.heap.size, 1 + k, none⟩ (.int .i64 (k : Int))).setCell ⟨w.heap.size, 9 + k, none⟩ (.int .i64 (k : Int))) w.heap.size 102 (ordN n (k + 1)) ∧ Fr [] w ((u0.setCell ⟨w.heap.size, 1 + k, none⟩ (.int .i64 (k : Int))).setCell ⟨w.heap.size, 9 + k, none⟩ (.int .i64 (k : Int))) ∧ ((u0.setCell ⟨w.heap.size, 1 + k, none⟩ (.int .i64 (k : Int))).setCell ⟨w.heap.size, 9 + k, none⟩ (.int .i64 (k : Int))).heap.size = w.heap.size + 1) :=
        ⟨hb2, HBK.out.1.trans ((hf0.setCell (fun _ => by simp) _).setCell (fun _ => by simp) _) (fun b hb hl => by obtain rfl := List.mem_singleton.1 hb; omega), by simp [World.setCell, hsz0, HBK.out.2]⟩
      clear hb0 hb1 hb2 hf0 hsz0 hbk hx9 hx13 hn hl8 hv8
      go_wp2_with fail
      exact ⟨⟨k + 1, hlt, by go_num, HE.out⟩, by simp [intOf]; omega⟩
    · obtain rfl : k = n := by omega
      have HE := Bx.mk (And.intro hbk (And.intro hfr hsz))
      clear hbk hfr hsz hlt hk
      go_wp2_with fail
      go_ret
      exact ⟨rfl, HE.out⟩
end Go.Proofs.Ythbifeoohphnpaa

/-
  A store made.
-/
namespace Go.Proofs.Ythbifeoohphnpaa
set_option linter.unusedVariables false
open Go.RowKit
/-- a store's cells ahead of its table -/
abbrev StoZ (room o : Nat) (ca : Value) : Array Value :=
  #[.int .i64 (room : Int), .pointer (some ⟨o, 0, none⟩), .slice none 0 0, .slice none 0 0, .pointer none, .map none, ca, .bool false]
set_option maxRecDepth 100000 in
set_option maxHeartbeats 4000000 in
theorem grows_first (s o ca room n : Nat) (w : World) (hs : Blk w s 83 (StoZ room o (.pointer (some ⟨ca, 0, none⟩)))) (hn : 0 < n ∧ n ≤ 262144) :
    Calls Try.prog 44 #[.pointer (some ⟨s, 0, none⟩), .int .i64 (n : Int), .slice none 0 0] w fun e w' => e = .returned (.tuple #[]) ∧
      Blk w' s 83 (StoV room o (.slice none 0 0) (.slice none 0 0) (w.heap.size + 2) (w.heap.size + 3) ca false) ∧
      TabMem w' (w.heap.size + 2) (w.heap.size + 1) w.heap.size (w.heap.size + 3) (List.replicate n 0) (fun _ => none) [] ∧ Fr [s] w w' := by
  have HS := Bx.mk hs
  have HM := Bx.mk (mem_new_any n w hn.2)
  have hmm := @run_makeMap Try.prog
  have HN0 := Bx.mk hn
  clear hs hn
  go_enter Try.func44, Try.ntmps44
  go_wp2_with fail
  refine HM.out.mono ?_
  rintro e w1 ⟨rfl, hm1, hf1, hsz1⟩
  have hT := tabnew_any (w.heap.size + 1) w.heap.size (List.replicate n 0) w1 hm1 (by rw [List.length_replicate]; exact HN0.out.1) (by rw [List.length_replicate]; have := HN0.out.2; omega)
  rw [List.length_replicate] at hT
  have HT := Bx.mk hT
  have hd1 := HS.out.fr hf1 (by simp)
  clear hT
  go_wp2_with fail
  refine HT.out.mono ?_
  rintro e w2 ⟨rfl, hu2, hf2, hsz2⟩
  have hd2 := hd1.fr hf2 (by simp)
  have c2 : w2.cell? ⟨s, 2, none⟩ = some (.slice none 0 0) := hd2.cell 2
  have c4 := hd2.cell 4
  have c5 := hd2.cell 5
  have z4 := hd2.frozen 4
  have z5 := hd2.frozen 5
  have hbs : s < w.heap.size := HS.out.lt
  have hw2 : w2.heap.size = w.heap.size + 3 := by omega
  have hd3 : Blk ((w2.setCell ⟨s, 4, none⟩ (.pointer (some ⟨w.heap.size + 2, 0, none⟩))).alloc (.map #[] 0)) s 83 #[.int .i64 (room : Int), .pointer (some ⟨o, 0, none⟩), .slice none 0 0, .slice none 0 0, .pointer (some ⟨w.heap.size + 2, 0, none⟩), .map none, .pointer (some ⟨ca, 0, none⟩), .bool false] := Blk.alloc (hd2.set_same 4 _ rfl) _
  have d5 := hd3.cell 5
  have y5 := hd3.frozen 5
  have hd4 : Blk (((w2.setCell ⟨s, 4, none⟩ (.pointer (some ⟨w.heap.size + 2, 0, none⟩))).alloc (.map #[] 0)).setCell ⟨s, 5, none⟩ (.map (some w2.heap.size))) s 83 (StoV room o (.slice none 0 0) (.slice none 0 0) (w.heap.size + 2) w2.heap.size ca false) := hd3.set_same 5 _ rfl
  rw [hsz1] at hu2
  have hf0 : Fr [] w w2 := hf1.trans hf2 (fun _ h _ => h)
  have hmp : SlotMap (((w2.setCell ⟨s, 4, none⟩ (.pointer (some ⟨w.heap.size + 2, 0, none⟩))).alloc (.map #[] 0)).setCell ⟨s, 5, none⟩ (.map (some w2.heap.size))) w2.heap.size (fun _ => none) := by
    have h1 := MapI.new 3 31 .i64 .u32 (w2.setCell ⟨s, 4, none⟩ (.pointer (some ⟨w.heap.size + 2, 0, none⟩)))
    have e : (w2.setCell ⟨s, 4, none⟩ (.pointer (some ⟨w.heap.size + 2, 0, none⟩))).heap.size = w2.heap.size := by simp [World.setCell]
    rw [e] at h1
    exact h1.fr ((Fr.refl [s] _).setCell (fun _ => by simp) _) (by simp; omega)
  have hfs : Fr [s] w2 (((w2.setCell ⟨s, 4, none⟩ (.pointer (some ⟨w.heap.size + 2, 0, none⟩))).alloc (.map #[] 0)).setCell ⟨s, 5, none⟩ (.map (some w2.heap.size))) := (((Fr.refl [s] _).setCell (fun _ => by simp) _).alloc _).setCell (fun _ => by simp) _
  have hzz : (((w2.setCell ⟨s, 4, none⟩ (.pointer (some ⟨w.heap.size + 2, 0, none⟩))).alloc (.map #[] 0)).setCell ⟨s, 5, none⟩ (.map (some w2.heap.size))).heap.size = w2.heap.size + 1 := by simp [World.setCell]
  have hal := (Fr.refl [] (((w2.setCell ⟨s, 4, none⟩ (.pointer (some ⟨w.heap.size + 2, 0, none⟩))).alloc (.map #[] 0)).setCell ⟨s, 5, none⟩ (.map (some w2.heap.size)))).alloc (.map #[] 0)
  have htm : TabMem _ (w.heap.size + 2) (w.heap.size + 1) w.heap.size w2.heap.size (List.replicate n 0) (fun _ => none) [] := ⟨hu2.fr hfs (by simp; omega) (by simp; omega) (by simp; omega), hmp, TabOk.empty n, by simp, by omega⟩
  have HE := Bx.mk (And.intro (hd4.fr hal (by simp)) (And.intro (htm.fr hal (by simp) (by simp) (by simp) (by simp)) ((hf0.mono (S' := [s]) (by simp)).trans (hfs.trans (hal.mono (S' := [s]) (by simp)) (fun _ h _ => h)) (fun _ h _ => h))))
  have HW := Bx.mk hw2
  clear hsz2 hf2 hd2 hu2 hw2 hm1 hf1 hd1 HT HM hmp hfs hal hd3 hd4 hf0 hzz htm
  go_wp2_with fail
  generalize (((w2.setCell ⟨s, 4, none⟩ (.pointer (some ⟨w.heap.size + 2, 0, none⟩))).alloc (.map #[] 0)).setCell ⟨s, 5, none⟩ (.map (some w2.heap.size))).alloc (.map #[] 0) = u at *
  have cF : u.cell? ⟨s, 2, none⟩ = some (.slice none 0 0) := HE.out.1.cell 2
  clear c2 c4 c5 z4 z5 d5 y5
  refine wp_loop_rounds 1 ?_
  rw [rounds_succ]
  go_wp2_with fail
  refine wp_loop_rounds 1 ?_
  rw [rounds_succ]
  go_wp2_with fail
  go_end0
  rw [← HW.out]
  exact ⟨rfl, HE.out⟩
theorem cells_any (w : World) : Calls Try.prog 43 #[.int .i64 256] w fun e w' => e = .returned (.int .i64 768) ∧ w' = w := by
  go_enter Try.func43, Try.ntmps43
  go_wp2_with fail
  go_ret
  exact ⟨rfl, rfl⟩
set_option maxRecDepth 100000 in
theorem cnew_any (m c : Nat) (w : World) (hm : MemAt w m c (List.replicate 768 0)) :
    Calls Try.prog 41 #[.pointer (some ⟨m, 0, none⟩), .int .i64 0, .int .i64 256] w fun e w' => e = .returned (.tuple #[.pointer (some ⟨w.heap.size, 0, none⟩), .int .i64 0]) ∧ Blk w' w.heap.size 128 (CacV m) ∧ Fr [] w w' ∧ w'.heap.size = w.heap.size + 1 := by
  have HL := Bx.mk (mem_len_any m c _ w hm)
  have HC := Bx.mk (cells_any w)
  have HE : Bx (Blk (w.alloc (.cells (CacV m) 128)) w.heap.size 128 (CacV m) ∧ Fr [] w (w.alloc (.cells (CacV m) 128)) ∧ (w.alloc (.cells (CacV m) 128)).heap.size = w.heap.size + 1) := ⟨Blk.new w _ _, (Fr.refl _ _).alloc _, alloc_size _ _⟩
  go_enter Try.func41, Try.ntmps41
  go_wp2_with fail
  refine HL.out.mono ?_
  rintro e w1 ⟨rfl, rfl⟩
  rw [List.length_replicate]
  go_wp2_with fail
  refine HC.out.mono ?_
  rintro e w1 ⟨rfl, rfl⟩
  go_wp2_with fail
  refine HL.out.mono ?_
  rintro e w1 ⟨rfl, rfl⟩
  rw [List.length_replicate]
  go_wp2_with fail
  go_ret2
  exact ⟨rfl, HE.out⟩
end Go.Proofs.Ythbifeoohphnpaa
