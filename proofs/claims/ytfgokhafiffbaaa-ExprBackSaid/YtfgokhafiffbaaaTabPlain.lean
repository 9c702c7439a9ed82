/-
  Tables of 256 bits: their words, and what is done with them word by word. No program in sight.
-/
import Derived.Test.YtfgokhafiffbaaaKit
import Derived.Laws.BitsAllLaws
namespace Go.Proofs.Ytfgokhafiffbaaa
set_option linter.unusedVariables false
open Go.RowKit
namespace Tb

abbrev T := BitVec 256

/-- word i of a table -/
def wd (f : T) (i : Nat) : Int := ((f.extractLsb' (64 * i) 64).toNat : Int)

theorem wd_lo (f : T) (i : Nat) : 0 ≤ wd f i := by unfold wd; omega
theorem wd_hi (f : T) (i : Nat) : wd f i < 18446744073709551616 := by
  unfold wd; have := (f.extractLsb' (64 * i) 64).isLt; omega

/-- a table as Go's value: four words -/
abbrev tv (f : T) : Value := .agg #[.int .u64 (wd f 0), .int .u64 (wd f 1), .int .u64 (wd f 2), .int .u64 (wd f 3)]
abbrev tcells (f : T) : Array Value := #[.int .u64 (wd f 0), .int .u64 (wd f 1), .int .u64 (wd f 2), .int .u64 (wd f 3)]

theorem wd_inj {f g : T} {i : Nat} (h : wd f i = wd g i) : f.extractLsb' (64 * i) 64 = g.extractLsb' (64 * i) 64 := by
  unfold wd at h; exact BitVec.eq_of_toNat_eq (by omega)

theorem ext4 {f g : T} (h0 : wd f 0 = wd g 0) (h1 : wd f 1 = wd g 1) (h2 : wd f 2 = wd g 2) (h3 : wd f 3 = wd g 3) : f = g := by
  apply BitVec.eq_of_getLsbD_eq
  intro i hi
  have key : ∀ c, wd f c = wd g c → 64 * c ≤ i → i < 64 * c + 64 → f.getLsbD i = g.getLsbD i := by
    intro c hc h1 h2
    have := congrArg (fun b => b.getLsbD (i - 64 * c)) (wd_inj hc)
    simp only [BitVec.getLsbD_extractLsb', show i - 64 * c < 64 from by omega, decide_true, Bool.true_and, show 64 * c + (i - 64 * c) = i from by omega] at this
    exact this
  by_cases a0 : i < 64
  · exact key 0 h0 (by omega) (by omega)
  by_cases a1 : i < 128
  · exact key 1 h1 (by omega) (by omega)
  by_cases a2 : i < 192
  · exact key 2 h2 (by omega) (by omega)
  · exact key 3 h3 (by omega) (by omega)

theorem wd_and (f g : T) (i : Nat) : wd (f &&& g) i = bits .and .u64 (wd f i) (wd g i) := by
  unfold wd
  rw [bits_and_u64_nat _ _ (BitVec.isLt _) (BitVec.isLt _), BitVec.extractLsb'_and, BitVec.toNat_and]
theorem wd_or (f g : T) (i : Nat) : wd (f ||| g) i = bits .or .u64 (wd f i) (wd g i) := by
  unfold wd
  rw [bits_or_u64_nat _ _ (BitVec.isLt _) (BitVec.isLt _), BitVec.extractLsb'_or, BitVec.toNat_or]
theorem wd_xor (f g : T) (i : Nat) : wd (f ^^^ g) i = bits .xor .u64 (wd f i) (wd g i) := by
  unfold wd
  rw [bits_xor_u64_nat _ _ (BitVec.isLt _) (BitVec.isLt _), BitVec.extractLsb'_xor, BitVec.toNat_xor]
theorem wd_not (f : T) (i : Nat) (hi : i < 4) : wd (~~~f) i = bits .xor .u64 IntKind.u64.max (wd f i) := by
  have e : (~~~f).extractLsb' (64 * i) 64 = BitVec.allOnes 64 ^^^ f.extractLsb' (64 * i) 64 := by
    apply BitVec.eq_of_getLsbD_eq
    intro j hj
    rw [BitVec.getLsbD_extractLsb', BitVec.getLsbD_xor, BitVec.getLsbD_allOnes, BitVec.getLsbD_extractLsb', BitVec.getLsbD_not]
    simp only [hj, show 64 * i + j < 256 from by omega, decide_true, Bool.true_and, Bool.true_xor]
  unfold wd
  rw [e, BitVec.toNat_xor, show IntKind.u64.max = ((BitVec.allOnes 64).toNat : Int) from by decide, bits_xor_u64_nat _ _ (BitVec.isLt _) (BitVec.isLt _)]

theorem getLsbD_wd (f : T) (x : Nat) (hx : x < 256) : f.getLsbD x = ((wd f (x / 64)).toNat.testBit (x % 64)) := by
  unfold wd
  rw [Int.toNat_natCast, BitVec.testBit_toNat, BitVec.getLsbD_extractLsb', show 64 * (x / 64) + x % 64 = x from by omega]
  simp [Nat.mod_lt]

/-- a table out of what is asked of each assignment, up to one -/
def tabTo (p : Nat → Bool) : Nat → T
  | 0 => 0#256
  | k + 1 => if p k then tabTo p k ||| (1#256 <<< k) else tabTo p k
def tab (p : Nat → Bool) : T := tabTo p 256

theorem one_shift (k x : Nat) : (1#256 <<< k).getLsbD x = (decide (x < 256) && decide (x = k)) := by
  rw [BitVec.getLsbD_shiftLeft]
  by_cases h : x = k
  · subst h; simp
  · by_cases h2 : x < k
    · simp [h2, h]
    · simp [h2, h, show x - k ≠ 0 from by omega]

theorem tabTo_get (p : Nat → Bool) (k x : Nat) (hk : k ≤ 256) : (tabTo p k).getLsbD x = (decide (x < k) && p x) := by
  induction k with
  | zero => simp [tabTo]
  | succ k ih =>
    have ih := ih (by omega)
    simp only [tabTo]
    by_cases hp : p k = true
    · rw [if_pos hp, BitVec.getLsbD_or, ih, one_shift]
      by_cases e : x = k
      · subst e; simp [hp, show x < 256 from by omega]
      · simp [e, show (x < k + 1) ↔ (x < k) from by omega]
    · rw [if_neg hp, ih]
      by_cases e : x = k
      · subst e; simp at hp; simp [hp]
      · simp [show (x < k + 1) ↔ (x < k) from by omega]

theorem tab_get (p : Nat → Bool) (x : Nat) : (tab p).getLsbD x = (decide (x < 256) && p x) := tabTo_get p 256 x (by omega)

theorem ext_get {f g : T} (h : ∀ x, x < 256 → f.getLsbD x = g.getLsbD x) : f = g := BitVec.eq_of_getLsbD_eq h

theorem tab_eq {p : Nat → Bool} {f : T} (h : ∀ x, x < 256 → p x = f.getLsbD x) : tab p = f := by
  apply ext_get
  intro x hx
  rw [tab_get, h x hx]; simp [hx]

theorem tab_congr {p q : Nat → Bool} (h : ∀ x, x < 256 → p x = q x) : tab p = tab q := by
  apply tab_eq
  intro x hx
  rw [tab_get, h x hx]; simp [hx]

theorem wd_testBit (f : T) (c j : Nat) (hj : j < 64) : (wd f c).toNat.testBit j = f.getLsbD (64 * c + j) := by
  unfold wd
  rw [Int.toNat_natCast, BitVec.testBit_toNat, BitVec.getLsbD_extractLsb']; simp [hj]

/-- setting a bit, word by word -/
theorem wd_set (f : T) (k c : Nat) (hk : k < 256) (hc : c < 4) : wd (f ||| (1#256 <<< k)) c = if c = k / 64 then bits .or .u64 (wd f c) (2 ^ (k % 64)) else wd f c := by
  have hs : wd (1#256 <<< k) c = if c = k / 64 then 2 ^ (k % 64) else 0 := by
    have hn : (wd (1#256 <<< k) c) = (((if c = k / 64 then 2 ^ (k % 64) else 0 : Nat)) : Int) := by
      have h64 : k % 64 < 64 := Nat.mod_lt _ (by omega)
      have hlt : (if c = k / 64 then 2 ^ (k % 64) else 0 : Nat) < 2 ^ 64 := by
        split
        · exact Nat.pow_lt_pow_right (by omega) h64
        · exact Nat.two_pow_pos 64
      unfold wd
      congr 1
      apply Nat.eq_of_testBit_eq
      intro j
      rw [BitVec.testBit_toNat, BitVec.getLsbD_extractLsb', one_shift]
      by_cases hj : j < 64
      · by_cases e : c = k / 64
        · subst e
          rw [if_pos rfl, Nat.testBit_two_pow]
          simp only [hj, decide_true, Bool.true_and]
          rw [decide_eq_true (show 64 * (k / 64) + j < 256 from by omega), Bool.true_and, decide_eq_decide]
          omega
        · rw [if_neg e, Nat.zero_testBit]
          simp only [hj, decide_true, Bool.true_and]
          rw [show decide (64 * c + j = k) = false from by simp; omega]
          simp
      · simp only [hj, decide_false, Bool.false_and]
        symm
        apply Nat.testBit_lt_two_pow
        exact Nat.lt_of_lt_of_le hlt (Nat.pow_le_pow_right (by omega) (by omega))
    rw [hn]
    split
    · rw [Int.natCast_pow]; rfl
    · rfl
  rw [wd_or, hs]
  split
  · rfl
  · have e := bits_or_u64_nat (f.extractLsb' (64 * c) 64).toNat 0 (BitVec.isLt _) (by omega)
    rw [Nat.or_zero] at e
    exact e

/-- the cells of a table, a bit set -/
theorem tcells_set (f : T) (k : Nat) (hk : k < 256) :
    (tcells f).setIfInBounds (k / 64) (.int .u64 (bits .or .u64 (wd f (k / 64)) (2 ^ (k % 64)))) = tcells (f ||| (1#256 <<< k)) := by
  have h : k / 64 = 0 ∨ k / 64 = 1 ∨ k / 64 = 2 ∨ k / 64 = 3 := by omega
  have e0 := wd_set f k 0 hk (by omega)
  have e1 := wd_set f k 1 hk (by omega)
  have e2 := wd_set f k 2 hk (by omega)
  have e3 := wd_set f k 3 hk (by omega)
  unfold tcells
  rw [e0, e1, e2, e3]
  rcases h with h | h | h | h <;> rw [h] <;> simp
theorem tcells_at (f : T) (k : Nat) (hk : k < 256) : (tcells f)[k / 64]? = some (.int .u64 (wd f (k / 64))) := by
  have h : k / 64 = 0 ∨ k / 64 = 1 ∨ k / 64 = 2 ∨ k / 64 = 3 := by omega
  rcases h with h | h | h | h <;> rw [h] <;> rfl

theorem wd_zero (i : Nat) : wd 0#256 i = 0 := by
  unfold wd
  rw [show (0#256).extractLsb' (64 * i) 64 = 0#64 from by apply BitVec.eq_of_getLsbD_eq; intro j hj; simp]
  rfl
theorem tcells_zero : tcells 0#256 = #[.int .u64 0, .int .u64 0, .int .u64 0, .int .u64 0] := by
  unfold tcells; simp only [wd_zero]

theorem tabTo_zero (p : Nat → Bool) : tabTo p 0 = 0#256 := rfl
theorem tabTo_yes {p : Nat → Bool} {k : Nat} (h : p k = true) : tabTo p (k + 1) = tabTo p k ||| (1#256 <<< k) := by simp [tabTo, h]
theorem tabTo_no {p : Nat → Bool} {k : Nat} (h : p k = false) : tabTo p (k + 1) = tabTo p k := by simp [tabTo, h]
theorem tab_def (p : Nat → Bool) : tab p = tabTo p 256 := rfl

theorem wrap_pow (k : Nat) : IntKind.u64.wrap (2 ^ (k % 64)) = (2 : Int) ^ (k % 64) := by
  have h : (2 : Nat) ^ (k % 64) < 2 ^ 64 := Nat.pow_lt_pow_right (by omega) (Nat.mod_lt _ (by omega))
  have e : ((2 : Int) ^ (k % 64)) = ((2 ^ (k % 64) : Nat) : Int) := by rw [Int.natCast_pow]; rfl
  rw [IntKind.wrap_u64, e]
  generalize (2 : Nat) ^ (k % 64) = m at *
  omega

/-- a word turned -/
def nt (x : Int) : Int := bits .xor .u64 IntKind.u64.max x
theorem nt_op (x : Int) : Op.unary .xor (.int .u64 x) = pure (.int .u64 (nt x)) := rfl
theorem nt_wd (f : T) (i : Nat) (hi : i < 4) : nt (wd f i) = wd (~~~f) i := (wd_not f i hi).symm

/-- a constant's table -/
def cst (b : Bool) : T := if b then BitVec.allOnes 256 else 0#256
theorem cst_get (b : Bool) (x : Nat) (hx : x < 256) : (cst b).getLsbD x = b := by
  cases b
  · simp [cst]
  · show (BitVec.allOnes 256).getLsbD x = true
    rw [BitVec.getLsbD_allOnes]; simp [hx]
theorem tab_cst (b : Bool) : tab (fun _ => b) = cst b := tab_eq fun x hx => (cst_get b x hx).symm

/-- is there such a variable? -/
def kn (v : Int) : Bool := decide (0 ≤ v) && decide (v < 8)
/-- a variable's table -/
def var (v : Int) : T := tab fun x => kn v && x.testBit v.toNat
theorem var_get (v : Int) (x : Nat) (hx : x < 256) : (var v).getLsbD x = (kn v && x.testBit v.toNat) := by
  unfold var; rw [tab_get]; simp [hx]

theorem u8_bit : ∀ x : Nat, x < 256 → ∀ v : Nat, v < 8 → (bits .and .u8 ((x : Int) / 2 ^ v) 1 == 1) = x.testBit v := by decide +kernel

theorem u64_bit (f : T) (x : Nat) (hx : x < 256) : (bits .and .u64 (wd f (x / 64) / 2 ^ (x % 64)) 1 == 1) = f.getLsbD x := by
  rw [getLsbD_wd f x hx]
  have h0 := wd_lo f (x / 64)
  have h1 := wd_hi f (x / 64)
  obtain ⟨n, hn⟩ := Int.eq_ofNat_of_zero_le h0
  rw [hn] at h1 ⊢
  have hd : (n : Int) / 2 ^ (x % 64) = ((n / 2 ^ (x % 64) : Nat) : Int) := by rw [Int.natCast_ediv]; congr 1
  have hdl : n / 2 ^ (x % 64) ≤ n := Nat.div_le_self _ _
  have e1 := bits_and_u64_nat (n / 2 ^ (x % 64)) 1 (by omega) (by omega)
  rw [Nat.and_one_is_mod] at e1
  rw [hd, show (1 : Int) = ((1 : Nat) : Int) from rfl, e1, Int.toNat_natCast, Nat.testBit_eq_decide_div_mod_eq]
  rw [Bool.eq_iff_iff, beq_iff_eq, decide_eq_true_eq]
  omega

/-- an assignment with a variable set -/
def wth (x v : Nat) (b : Bool) : Nat := if b then x ||| 2 ^ v else x - (if x.testBit v then 2 ^ v else 0)
theorem wth_or : ∀ x : Nat, x < 256 → ∀ v : Nat, v < 8 → bits .or .u8 (x : Int) (IntKind.u8.wrap (2 ^ v)) = (wth x v true : Int) := by decide +kernel
theorem wth_andNot : ∀ x : Nat, x < 256 → ∀ v : Nat, v < 8 → bits .andNot .u8 (x : Int) (IntKind.u8.wrap (2 ^ v)) = (wth x v false : Int) := by decide +kernel
theorem wth_lt : ∀ x : Nat, x < 256 → ∀ v : Nat, v < 8 → ∀ b, wth x v b < 256 := by decide +kernel
theorem wth_bit : ∀ x : Nat, x < 256 → ∀ v : Nat, v < 8 → ∀ b, ∀ i : Nat, i < 8 → (wth x v b).testBit i = (if i = v then b else x.testBit i) := by decide +kernel

/-- a variable set for good -/
def fix (f : T) (v : Int) (b : Bool) : T := if kn v then tab (fun x => f.getLsbD (wth x v.toNat b)) else f
theorem fix_yes {v : Int} (h : kn v = true) (f : T) (b : Bool) : fix f v b = tab (fun x => f.getLsbD (wth x v.toNat b)) := by simp [fix, h]
theorem fix_no {v : Int} (h : kn v = false) (f : T) (b : Bool) : fix f v b = f := by simp [fix, h]

/-- both halves joined, variable by variable -/
def halvesTo (J : T → T → T) (f : T) (mask : Nat) : Nat → T
  | 0 => f
  | k + 1 => if mask.testBit k then J (fix (halvesTo J f mask k) (k : Int) false) (fix (halvesTo J f mask k) (k : Int) true) else halvesTo J f mask k
def halves (J : T → T → T) (f : T) (mask : Nat) : T := halvesTo J f mask 8
theorem halvesTo_zero (J : T → T → T) (f : T) (mask : Nat) : halvesTo J f mask 0 = f := rfl
theorem halvesTo_yes {J : T → T → T} {f : T} {mask k : Nat} (h : mask.testBit k = true) : halvesTo J f mask (k + 1) = J (fix (halvesTo J f mask k) (k : Int) false) (fix (halvesTo J f mask k) (k : Int) true) := by simp [halvesTo, h]
theorem halvesTo_no {J : T → T → T} {f : T} {mask k : Nat} (h : mask.testBit k = false) : halvesTo J f mask (k + 1) = halvesTo J f mask k := by simp [halvesTo, h]
theorem halves_def (J : T → T → T) (f : T) (mask : Nat) : halves J f mask = halvesTo J f mask 8 := rfl

/-- an assignment with a mask's variables set -/
def rstx (x m v : Nat) : Nat := (x &&& (255 - m)) ||| (v &&& m)
theorem rstx_lt (x m v : Nat) (hx : x < 256) (hv : v < 256) : rstx x m v < 256 :=
  Nat.or_lt_two_pow (n := 8) (Nat.lt_of_le_of_lt Nat.and_le_left (by omega)) (Nat.lt_of_le_of_lt Nat.and_le_left (by omega))
theorem rstx_walk (x m v : Nat) (hx : x < 256) (hm : m < 256) (hv : v < 256) :
    bits .or .u8 (bits .andNot .u8 (x : Int) (m : Int)) (bits .and .u8 (v : Int) (m : Int)) = (rstx x m v : Int) := by
  rw [u8_andNot_nat x m hx hm, u8_and_nat v m hv hm, u8_or_nat _ _ (Nat.lt_of_le_of_lt Nat.and_le_left hx) (Nat.lt_of_le_of_lt Nat.and_le_left hv)]
  rfl
def restrict (f : T) (m v : Nat) : T := tab fun x => f.getLsbD (rstx x m v)
theorem restrict_def (f : T) (m v : Nat) : restrict f m v = tab fun x => f.getLsbD (rstx x m v) := rfl

/-- is it so for some below? -/
def anyTo (q : Nat → Bool) : Nat → Bool
  | 0 => false
  | k + 1 => anyTo q k || q k
theorem anyTo_hit {q : Nat → Bool} {k n : Nat} (h : q k = true) (hk : k < n) : anyTo q n = true := by
  induction n with
  | zero => omega
  | succ n ih =>
    simp only [anyTo]
    by_cases e : k = n
    · subst e; simp [h]
    · rw [ih (by omega)]; rfl
theorem anyTo_spec {q : Nat → Bool} {n : Nat} : anyTo q n = true ↔ ∃ k, k < n ∧ q k = true := by
  constructor
  · intro h
    induction n with
    | zero => cases h
    | succ n ih =>
      simp only [anyTo, Bool.or_eq_true] at h
      rcases h with h | h
      · obtain ⟨k, hk, hq⟩ := ih h; exact ⟨k, by omega, hq⟩
      · exact ⟨n, by omega, h⟩
  · rintro ⟨k, hk, hq⟩; exact anyTo_hit hq hk
theorem anyTo_no {q : Nat → Bool} {k : Nat} (h : anyTo q k = false) (hq : q k = false) : anyTo q (k + 1) = false := by simp [anyTo, h, hq]

/-- y's odd variables are x's even ones -/
def nx (x y : Nat) : Bool := y &&& 170 == (x &&& 85) * 2
theorem nx_walk (x y : Nat) (hx : x < 256) (hy : y < 256) : (bits .and .u8 (y : Int) 170 == bits .and .u8 (x : Int) 85 * 2 % 256) = nx x y := by
  have e1 := u8_and_nat y 170 hy (by omega)
  have e2 := u8_and_nat x 85 hx (by omega)
  rw [show (170 : Int) = ((170 : Nat) : Int) from rfl, e1, show (85 : Int) = ((85 : Nat) : Int) from rfl, e2]
  have hl : x &&& 85 ≤ 85 := Nat.and_le_right
  unfold nx
  rw [Bool.eq_iff_iff, beq_iff_eq, beq_iff_eq]
  omega
def next (s r : T) : T := tab fun x => anyTo (fun y => nx x y && (s &&& r).getLsbD y) 256
theorem next_def (s r : T) : next s r = tab fun x => anyTo (fun y => nx x y && (s &&& r).getLsbD y) 256 := rfl

/-- y's even variables are x's -/
def pv (x y : Nat) : Bool := y &&& 85 == x &&& 85
theorem pv_walk (x y : Nat) (hx : x < 256) (hy : y < 256) : (bits .and .u8 (y : Int) 85 == bits .and .u8 (x : Int) 85) = pv x y := by
  have e1 := u8_and_nat y 85 hy (by omega)
  have e2 := u8_and_nat x 85 hx (by omega)
  rw [show (85 : Int) = ((85 : Nat) : Int) from rfl, e1, e2]
  unfold pv
  rw [Bool.eq_iff_iff, beq_iff_eq, beq_iff_eq]
  omega
/-- y's odd variables, as even ones -/
def half (y : Nat) : Nat := (y &&& 170) / 2
theorem half_lt (y : Nat) : half y < 256 := by have : y &&& 170 ≤ 170 := Nat.and_le_right; unfold half; omega
theorem half_walk (y : Nat) (hy : y < 256) : bits .and .u8 (y : Int) 170 / 2 = (half y : Int) := by
  have e1 := u8_and_nat y 170 hy (by omega)
  rw [show (170 : Int) = ((170 : Nat) : Int) from rfl, e1]
  unfold half; omega
def prev (s r : T) : T := tab fun x => anyTo (fun y => pv x y && r.getLsbD y && s.getLsbD (half y)) 256
theorem prev_def (s r : T) : prev s r = tab fun x => anyTo (fun y => pv x y && r.getLsbD y && s.getLsbD (half y)) 256 := rfl

/-- the variables on which it hangs -/
def supTo (f : T) : Nat → Nat
  | 0 => 0
  | k + 1 => if fix f (k : Int) false = fix f (k : Int) true then supTo f k else supTo f k ||| 2 ^ k
def support (f : T) : Nat := supTo f 8
theorem support_def (f : T) : support f = supTo f 8 := rfl
theorem supTo_lt (f : T) (k : Nat) (hk : k ≤ 8) : supTo f k < 256 := by
  induction k with
  | zero => simp [supTo]
  | succ k ih =>
    simp only [supTo]
    split
    · exact ih (by omega)
    · refine Nat.or_lt_two_pow (n := 8) (ih (by omega)) (Nat.pow_lt_pow_right (by omega) (by omega))

attribute [irreducible] wd nt tab tabTo cst kn var wth fix halvesTo halves rstx restrict anyTo nx next pv half prev supTo support

end Tb
end Go.Proofs.Ytfgokhafiffbaaa
