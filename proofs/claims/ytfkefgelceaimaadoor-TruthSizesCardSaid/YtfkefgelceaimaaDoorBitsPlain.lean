/-
  The plain mathematics of packing and mixing bits: no program in sight.
-/
import Derived.WalkKit
namespace Go.Proofs.YtfkefgelceaimaaDoor
set_option linter.unusedVariables false
namespace Bt

def xsB (b : BitVec 64) : BitVec 64 := b ^^^ (b >>> 33)
def mixB (b : BitVec 64) : BitVec 64 := xsB (xsB (xsB b * 0xff51afd7ed558ccd#64) * 0xc4ceb9fe1a85ec53#64)
/-- what Mix computes -/
def mix (x : Int) : Int := ((mixB (BitVec.ofInt 64 x)).toNat : Int)

theorem mix_lo (x : Int) : 0 ≤ mix x := by unfold mix; omega
theorem mix_hi (x : Int) : mix x < 18446744073709551616 := by
  unfold mix; have := (mixB (BitVec.ofInt 64 x)).isLt; omega

theorem ofInt_toNat (b : BitVec 64) : BitVec.ofInt 64 (b.toNat : Int) = b := by
  rw [BitVec.ofInt_natCast, BitVec.ofNat_toNat, BitVec.setWidth_eq]

theorem ofInt_inj {x y : Int} (h0 : 0 ≤ x) (h1 : x < 18446744073709551616) (g0 : 0 ≤ y) (g1 : y < 18446744073709551616) (h : BitVec.ofInt 64 x = BitVec.ofInt 64 y) : x = y := by
  have := congrArg BitVec.toNat h
  simp only [BitVec.toNat_ofInt] at this
  omega

theorem toNat_ofInt {x : Int} (h0 : 0 ≤ x) (h1 : x < 18446744073709551616) : ((BitVec.ofInt 64 x).toNat : Int) = x := by
  simp only [BitVec.toNat_ofInt]; omega

theorem shift33 (b : BitVec 64) : (b.toNat : Int) / (8589934592 : Int) = ((b >>> 33).toNat : Int) := by
  rw [BitVec.toNat_ushiftRight, Nat.shiftRight_eq_div_pow]; rfl

theorem xs_bits (b : BitVec 64) : bits .xor .u64 (b.toNat : Int) ((b.toNat : Int) / (8589934592 : Int)) = ((xsB b).toNat : Int) := by
  rw [shift33, bits_xor_u64_nat _ _ b.isLt (b >>> 33).isLt, xsB, BitVec.toNat_xor]

theorem mul_bits (b : BitVec 64) (c : Nat) : IntKind.u64.wrap ((b.toNat : Int) * (c : Int)) = ((b * BitVec.ofNat 64 c).toNat : Int) := by
  rw [IntKind.wrap_u64, BitVec.toNat_mul, BitVec.toNat_ofNat]
  rw [Nat.mul_mod_mod]
  omega

/-- the steps of the walk of Mix, as it leaves them -/
theorem mix_walk {x : Int} (h0 : 0 ≤ x) (h1 : x < 18446744073709551616) :
    bits .xor .u64
      (IntKind.u64.wrap (bits .xor .u64 (IntKind.u64.wrap (bits .xor .u64 x (x / 8589934592) * 18397679294719823053)) (IntKind.u64.wrap (bits .xor .u64 x (x / 8589934592) * 18397679294719823053) / 8589934592) * 14181476777654086739))
      (IntKind.u64.wrap (bits .xor .u64 (IntKind.u64.wrap (bits .xor .u64 x (x / 8589934592) * 18397679294719823053)) (IntKind.u64.wrap (bits .xor .u64 x (x / 8589934592) * 18397679294719823053) / 8589934592) * 14181476777654086739) / 8589934592) = mix x := by
  obtain ⟨b, rfl⟩ : ∃ b : BitVec 64, x = (b.toNat : Int) := ⟨BitVec.ofInt 64 x, (toNat_ofInt h0 h1).symm⟩
  have e1 : IntKind.u64.wrap (((xsB b).toNat : Int) * (18397679294719823053 : Int)) = _ := mul_bits (xsB b) 18397679294719823053
  have e2 : IntKind.u64.wrap (((xsB (xsB b * 18397679294719823053#64)).toNat : Int) * (14181476777654086739 : Int)) = _ := mul_bits (xsB (xsB b * 18397679294719823053#64)) 14181476777654086739
  rw [xs_bits, e1, xs_bits, e2, xs_bits, mix, ofInt_toNat]
  rfl

/-! ### counting -/
def pcF : Nat → Nat → Nat
  | 0, _ => 0
  | f + 1, n => n % 2 + pcF f (n / 2)
/-- how many bits are set -/
def pc (n : Nat) : Nat := pcF 64 n

theorem pcF_zero (f : Nat) : pcF f 0 = 0 := by
  induction f with
  | zero => rfl
  | succ f ih => simp [pcF, ih]

theorem pcF_le (f n : Nat) : pcF f n ≤ f := by
  induction f generalizing n with
  | zero => simp [pcF]
  | succ f ih => have := ih (n / 2); simp only [pcF]; omega

theorem pc_le (n : Nat) : pc n ≤ 64 := pcF_le 64 n

theorem land_even (k j : Nat) : (2 * k) &&& (2 * j + 1) = 2 * (k &&& j) := by
  apply Nat.eq_of_testBit_eq
  intro i
  cases i with
  | zero => simp [Nat.testBit_zero]
  | succ i => rw [Nat.testBit_and, Nat.testBit_succ, Nat.testBit_succ, Nat.testBit_succ, show 2 * k / 2 = k from by omega, show (2 * j + 1) / 2 = j from by omega, show 2 * (k &&& j) / 2 = k &&& j from by omega, Nat.testBit_and]

theorem land_odd (k : Nat) : (2 * k + 1) &&& (2 * k) = 2 * k := by
  rw [Nat.and_comm, land_even, Nat.and_self]

/-- the lowest bit goes -/
theorem pcF_drop (f : Nat) : ∀ n, 0 < n → n < 2 ^ f → pcF f (n &&& (n - 1)) + 1 = pcF f n := by
  induction f with
  | zero => intro n h0 h1; simp at h1; omega
  | succ f ih =>
    intro n h0 h1
    rcases Nat.mod_two_eq_zero_or_one n with h | h
    · obtain ⟨k, rfl⟩ : ∃ k, n = 2 * k := ⟨n / 2, by omega⟩
      obtain ⟨j, rfl⟩ : ∃ j, k = j + 1 := ⟨k - 1, by omega⟩
      rw [show 2 * (j + 1) - 1 = 2 * j + 1 from by omega, land_even]
      have e := ih (j + 1) (by omega) (by rw [Nat.pow_succ] at h1; omega)
      rw [show j + 1 - 1 = j from rfl] at e
      simp only [pcF]
      rw [show 2 * (j + 1 &&& j) % 2 = 0 from by omega, show 2 * (j + 1 &&& j) / 2 = (j + 1 &&& j) from by omega, show 2 * (j + 1) % 2 = 0 from by omega, show 2 * (j + 1) / 2 = j + 1 from by omega]
      omega
    · obtain ⟨k, rfl⟩ : ∃ k, n = 2 * k + 1 := ⟨n / 2, by omega⟩
      rw [show 2 * k + 1 - 1 = 2 * k from by omega, land_odd]
      simp only [pcF]
      rw [show 2 * k / 2 = k from by omega, show (2 * k + 1) / 2 = k from by omega]
      omega

theorem pc_drop (n : Nat) (h0 : 0 < n) (h1 : n < 18446744073709551616) : pc (n &&& (n - 1)) + 1 = pc n := pcF_drop 64 n h0 (by omega)

theorem and_lt_self (n : Nat) (h0 : 0 < n) : n &&& (n - 1) < n := by
  have := @Nat.and_le_right n (n - 1)
  omega

theorem drop_bits (y : Nat) (h0 : 0 < y) (h1 : y < 18446744073709551616) : bits .and .u64 (y : Int) (IntKind.u64.wrap ((y : Int) - 1)) = ((y &&& (y - 1) : Nat) : Int) := by
  rw [IntKind.wrap_u64, show (((y : Int) - 1) % 18446744073709551616) = ((y - 1 : Nat) : Int) from by omega]
  exact bits_and_u64_nat _ _ h1 (by omega)

/-- all bits but some: the complement has the others -/
theorem pcF_compl (f : Nat) : ∀ n, n < 2 ^ f → pcF f n + pcF f (2 ^ f - 1 - n) = f := by
  induction f with
  | zero => intro n h; simp [pcF]
  | succ f ih =>
    intro n h
    have e := ih (n / 2) (by rw [Nat.pow_succ] at h; omega)
    rw [Nat.pow_succ] at h ⊢
    simp only [pcF]
    rw [show (2 ^ f * 2 - 1 - n) / 2 = 2 ^ f - 1 - n / 2 from by omega]
    omega

/-- counting bit by bit from the lowest on -/
theorem pcF_shift (f : Nat) : ∀ n, n < 2 ^ (f + 1) → pcF (f + 1) n = n % 2 + pcF (f + 1) (n / 2) := by
  induction f with
  | zero => intro n h; simp only [Nat.zero_add, Nat.pow_one] at h; simp only [pcF]; omega
  | succ f ih =>
    intro n h
    have e := ih (n / 2) (by rw [Nat.pow_succ] at h; omega)
    show n % 2 + pcF (f + 1) (n / 2) = _
    rw [e]
    rfl

theorem pc_shift (n : Nat) (h : n < 18446744073709551616) : pc n = n % 2 + pc (n / 2) := pcF_shift 63 n (by omega)

/-! ### spreading and gathering -/
def spreadTo (x : Int) : Nat → Int
  | 0 => 0
  | k + 1 => bits .or .u16 (spreadTo x k) (IntKind.u16.wrap (IntKind.u16.wrap (bits .and .u8 (x / 2 ^ k) 1) * 2 ^ (2 * k)))
/-- what Spread computes -/
def spread (x : Int) : Int := spreadTo x 8
def gatherTo (x : Int) : Nat → Int
  | 0 => 0
  | k + 1 => bits .or .u8 (gatherTo x k) (bits .and .u16 (x / 2 ^ (2 * k)) 1 % 256 * 2 ^ k % 256)
/-- what Gather computes -/
def gather (x : Int) : Int := gatherTo x 8

def bit (x i : Nat) : Nat := x / 2 ^ i % 2
def spN (x : Nat) : Nat := bit x 0 + bit x 1 * 4 + bit x 2 * 16 + bit x 3 * 64 + bit x 4 * 256 + bit x 5 * 1024 + bit x 6 * 4096 + bit x 7 * 16384
def gaN (x : Nat) : Nat := bit x 0 + bit x 2 * 2 + bit x 4 * 4 + bit x 6 * 8 + bit x 8 * 16 + bit x 10 * 32 + bit x 12 * 64 + bit x 14 * 128

theorem spread_small : ∀ x : Nat, x < 256 → spread (x : Int) = (spN x : Int) := by decide +kernel

theorem spN_lt (x : Nat) : spN x < 21846 := by unfold spN bit; omega
theorem gaN_lt (x : Nat) : gaN x < 256 := by unfold gaN bit; omega

theorem or_u8_nat (a b : Nat) (ha : a < 256) (hb : b < 256) : bits .or .u8 (a : Int) (b : Int) = ((a ||| b : Nat) : Int) := by
  have h1 : (BitVec.ofInt 8 (a : Int)).toNat = a := by rw [BitVec.ofInt_natCast, BitVec.toNat_ofNat]; exact Nat.mod_eq_of_lt (by omega)
  have h2 : (BitVec.ofInt 8 (b : Int)).toNat = b := by rw [BitVec.ofInt_natCast, BitVec.toNat_ofNat]; exact Nat.mod_eq_of_lt (by omega)
  have hx : a ||| b < 2 ^ 8 := Nat.or_lt_two_pow (by omega) (by omega)
  show IntKind.u8.wrap ((BitVec.ofInt 8 (a : Int) ||| BitVec.ofInt 8 (b : Int)).toNat : Int) = _
  rw [BitVec.toNat_or, h1, h2]
  simp only [IntKind.wrap, IntKind.bits, IntKind.signed]
  simp
  omega

theorem and_u16_nat (a b : Nat) (ha : a < 65536) (hb : b < 65536) : bits .and .u16 (a : Int) (b : Int) = ((a &&& b : Nat) : Int) := by
  have h1 : (BitVec.ofInt 16 (a : Int)).toNat = a := by rw [BitVec.ofInt_natCast, BitVec.toNat_ofNat]; exact Nat.mod_eq_of_lt (by omega)
  have h2 : (BitVec.ofInt 16 (b : Int)).toNat = b := by rw [BitVec.ofInt_natCast, BitVec.toNat_ofNat]; exact Nat.mod_eq_of_lt (by omega)
  have hx : a &&& b < 2 ^ 16 := Nat.and_lt_two_pow _ (by omega)
  show IntKind.u16.wrap ((BitVec.ofInt 16 (a : Int) &&& BitVec.ofInt 16 (b : Int)).toNat : Int) = _
  rw [BitVec.toNat_and, h1, h2]
  simp only [IntKind.wrap, IntKind.bits, IntKind.signed]
  simp
  omega

def gN (x : Nat) : Nat → Nat
  | 0 => 0
  | k + 1 => gN x k + bit x (2 * k) * 2 ^ k

theorem bit_le (x i : Nat) : bit x i ≤ 1 := by unfold bit; omega

theorem gN_lt (x k : Nat) : gN x k < 2 ^ k := by
  induction k with
  | zero => simp [gN]
  | succ k ih =>
    have hb := bit_le x (2 * k)
    have h2 : bit x (2 * k) * 2 ^ k ≤ 1 * 2 ^ k := Nat.mul_le_mul_right _ hb
    simp only [gN, Nat.pow_succ]
    omega

theorem gatherTo_nat (x : Nat) (hx : x < 65536) (k : Nat) (hk : k ≤ 8) : gatherTo (x : Int) k = (gN x k : Int) := by
  induction k with
  | zero => rfl
  | succ k ih =>
    have hb := bit_le x (2 * k)
    have hp : 2 ^ k ≤ 128 := by
      have := Nat.pow_le_pow_right (n := 2) (by omega) (show k ≤ 7 from by omega)
      simpa using this
    have h2 : bit x (2 * k) * 2 ^ k ≤ 1 * 2 ^ k := Nat.mul_le_mul_right _ hb
    have hlt := gN_lt x k
    have hd : (x : Int) / 2 ^ (2 * k) = ((x / 2 ^ (2 * k) : Nat) : Int) := by
      rw [Int.natCast_ediv]; congr 1
    have hdl : x / 2 ^ (2 * k) ≤ x := Nat.div_le_self _ _
    simp only [gatherTo]
    rw [ih (by omega), hd]
    have e1 := and_u16_nat (x / 2 ^ (2 * k)) 1 (by omega) (by omega)
    rw [Nat.and_one_is_mod] at e1
    rw [show ((1 : Nat) : Int) = 1 from rfl] at e1
    rw [e1]
    rw [show (x / 2 ^ (2 * k) % 2) = bit x (2 * k) from rfl]
    have e2 : ((bit x (2 * k) : Nat) : Int) % 256 * 2 ^ k % 256 = ((bit x (2 * k) * 2 ^ k : Nat) : Int) := by
      rw [Int.emod_eq_of_lt (a := ((bit x (2 * k) : Nat) : Int)) (by omega) (by omega)]
      rw [show ((bit x (2 * k) : Nat) : Int) * 2 ^ k = ((bit x (2 * k) * 2 ^ k : Nat) : Int) from by rw [Int.natCast_mul, Int.natCast_pow]; rfl]
      omega
    rw [e2, or_u8_nat _ _ (by omega) (by omega)]
    simp only [gN]
    have e3 := Nat.two_pow_add_eq_or_of_lt hlt (bit x (2 * k))
    rw [Nat.mul_comm, Nat.or_comm] at e3
    rw [Nat.add_comm, e3, Nat.mul_comm]

theorem gN_eight (x : Nat) : gN x 8 = gaN x := by
  simp only [gN, gaN, Nat.mul_zero, Nat.pow_zero, Nat.mul_one, Nat.zero_add]

theorem gather_small (x : Nat) (hx : x < 65536) : gather (x : Int) = (gaN x : Int) := by
  unfold gather; rw [gatherTo_nat x hx 8 (by omega), gN_eight]

theorem gaN_spN : ∀ y : Nat, y < 256 → gaN (spN y) = y := by decide +kernel
theorem pc_spN : ∀ y : Nat, y < 256 → pc (spN y) = pc y := by decide +kernel
theorem spN_odd : ∀ y : Nat, y < 256 → spN y &&& 43690 = 0 := by decide +kernel

theorem bit_testBit (x i : Nat) : bit x i = (x.testBit i).toNat := by
  unfold bit
  rw [Nat.testBit_eq_decide_div_mod_eq]
  rcases Nat.mod_two_eq_zero_or_one (x / 2 ^ i) with h | h <;> simp [h]

theorem spN_testBit : ∀ y : Nat, y < 256 → ∀ j : Nat, j < 16 → (spN y).testBit j = (j % 2 == 0 && y.testBit (j / 2)) := by decide +kernel
theorem spN_step : ∀ y : Nat, y < 255 → spN y < spN (y + 1) := by decide +kernel

theorem testBit_hi (n j : Nat) (h : n < 65536) (hj : 16 ≤ j) : n.testBit j = false := by
  apply Nat.testBit_lt_two_pow
  have := Nat.pow_le_pow_right (n := 2) (by omega) hj
  omega

theorem spN_all (y : Nat) (hy : y < 256) (j : Nat) : (spN y).testBit j = (decide (j < 16) && (j % 2 == 0 && y.testBit (j / 2))) := by
  by_cases h : j < 16
  · rw [spN_testBit y hy j h]; simp [h]
  · have := spN_lt y
    rw [testBit_hi _ _ (by omega) (by omega)]; simp [h]

theorem spN_and (a b : Nat) (ha : a < 256) (hb : b < 256) : spN (a &&& b) = spN a &&& spN b := by
  apply Nat.eq_of_testBit_eq
  intro j
  rw [Nat.testBit_and, spN_all _ (by have := @Nat.and_le_left a b; omega), spN_all a ha, spN_all b hb, Nat.testBit_and]
  cases decide (j < 16) <;> cases (j % 2 == 0) <;> simp

theorem spN_or (a b : Nat) (ha : a < 256) (hb : b < 256) : spN (a ||| b) = spN a ||| spN b := by
  apply Nat.eq_of_testBit_eq
  intro j
  rw [Nat.testBit_or, spN_all _ (Nat.or_lt_two_pow (n := 8) (by omega) (by omega)), spN_all a ha, spN_all b hb, Nat.testBit_or]
  cases decide (j < 16) <;> cases (j % 2 == 0) <;> simp

theorem spN_xor (a b : Nat) (ha : a < 256) (hb : b < 256) : spN (a ^^^ b) = spN a ^^^ spN b := by
  apply Nat.eq_of_testBit_eq
  intro j
  rw [Nat.testBit_xor, spN_all _ (Nat.xor_lt_two_pow (n := 8) (by omega) (by omega)), spN_all a ha, spN_all b hb, Nat.testBit_xor]
  cases decide (j < 16) <;> cases (j % 2 == 0) <;> simp

theorem spN_mono (a b : Nat) (hb : b < 256) (h : a < b) : spN a < spN b := by
  induction b with
  | zero => omega
  | succ b ih =>
    have h1 := spN_step b (by omega)
    by_cases e : a = b
    · subst e; exact h1
    · have := ih (by omega) (by omega); omega

theorem spN_lt_iff (a b : Nat) (ha : a < 256) (hb : b < 256) : spN a < spN b ↔ a < b := by
  constructor
  · intro h
    by_cases e : a < b
    · exact e
    · by_cases e2 : a = b
      · subst e2; omega
      · have := spN_mono b a ha (by omega); omega
  · exact spN_mono a b hb

theorem gaN_of_bits (z a : Nat) (ha : a < 256) (h : ∀ i, i < 8 → z.testBit (2 * i) = a.testBit i) : gaN z = a := by
  have e : ∀ i, i < 8 → bit z (2 * i) = bit a i := fun i hi => by rw [bit_testBit, bit_testBit, h i hi]
  have e0 := e 0 (by omega)
  have e1 := e 1 (by omega)
  have e2 := e 2 (by omega)
  have e3 := e 3 (by omega)
  have e4 := e 4 (by omega)
  have e5 := e 5 (by omega)
  have e6 := e 6 (by omega)
  have e7 := e 7 (by omega)
  simp only [Nat.mul_zero, Nat.mul_one, Nat.reduceMul] at e0 e1 e2 e3 e4 e5 e6 e7
  unfold gaN
  rw [e0, e1, e2, e3, e4, e5, e6, e7]
  unfold bit
  omega

theorem two_testBit (n j : Nat) : (2 * n).testBit (j + 1) = n.testBit j := by
  rw [Nat.testBit_succ, show 2 * n / 2 = n from by omega]

theorem two_testBit0 (n : Nat) : (2 * n).testBit 0 = false := by simp [Nat.testBit_zero]

/-- what is spread and laid on the even places is gathered, whatever lies on the odd ones -/
theorem ga_even (a b : Nat) (ha : a < 256) (hb : b < 256) : gaN (spN a ||| 2 * spN b) = a := by
  refine gaN_of_bits _ a ha fun i hi => ?_
  rw [Nat.testBit_or, spN_all a ha]
  have : (2 * spN b).testBit (2 * i) = false := by
    cases i with
    | zero => exact two_testBit0 _
    | succ i => rw [show 2 * (i + 1) = (2 * i + 1) + 1 from by omega, two_testBit, spN_all b hb]; simp [show (2 * i + 1) % 2 = 1 from by omega]
  rw [this, show 2 * i / 2 = i from by omega, show (2 * i) % 2 = 0 from by omega]
  simp [show 2 * i < 16 from by omega]

theorem ga_odd (a b : Nat) (ha : a < 256) (hb : b < 256) : gaN ((spN a ||| 2 * spN b) / 2) = b := by
  refine gaN_of_bits _ b hb fun i hi => ?_
  rw [← Nat.testBit_succ, Nat.testBit_or, spN_all a ha, two_testBit, spN_all b hb, show 2 * i / 2 = i from by omega, show (2 * i) % 2 = 0 from by omega, show (2 * i + 1) % 2 = 1 from by omega]
  simp [show 2 * i < 16 from by omega]

theorem and_u8_nat (a b : Nat) (ha : a < 256) (hb : b < 256) : bits .and .u8 (a : Int) (b : Int) = ((a &&& b : Nat) : Int) := by
  have h1 : (BitVec.ofInt 8 (a : Int)).toNat = a := by rw [BitVec.ofInt_natCast, BitVec.toNat_ofNat]; exact Nat.mod_eq_of_lt (by omega)
  have h2 : (BitVec.ofInt 8 (b : Int)).toNat = b := by rw [BitVec.ofInt_natCast, BitVec.toNat_ofNat]; exact Nat.mod_eq_of_lt (by omega)
  have hx : a &&& b < 2 ^ 8 := Nat.and_lt_two_pow _ (by omega)
  show IntKind.u8.wrap ((BitVec.ofInt 8 (a : Int) &&& BitVec.ofInt 8 (b : Int)).toNat : Int) = _
  rw [BitVec.toNat_and, h1, h2]
  simp only [IntKind.wrap, IntKind.bits, IntKind.signed]
  simp
  omega

theorem xor_u8_nat (a b : Nat) (ha : a < 256) (hb : b < 256) : bits .xor .u8 (a : Int) (b : Int) = ((a ^^^ b : Nat) : Int) := by
  have h1 : (BitVec.ofInt 8 (a : Int)).toNat = a := by rw [BitVec.ofInt_natCast, BitVec.toNat_ofNat]; exact Nat.mod_eq_of_lt (by omega)
  have h2 : (BitVec.ofInt 8 (b : Int)).toNat = b := by rw [BitVec.ofInt_natCast, BitVec.toNat_ofNat]; exact Nat.mod_eq_of_lt (by omega)
  have hx : a ^^^ b < 2 ^ 8 := Nat.xor_lt_two_pow (by omega) (by omega)
  show IntKind.u8.wrap ((BitVec.ofInt 8 (a : Int) ^^^ BitVec.ofInt 8 (b : Int)).toNat : Int) = _
  rw [BitVec.toNat_xor, h1, h2]
  simp only [IntKind.wrap, IntKind.bits, IntKind.signed]
  simp
  omega

theorem or_u16_nat (a b : Nat) (ha : a < 65536) (hb : b < 65536) : bits .or .u16 (a : Int) (b : Int) = ((a ||| b : Nat) : Int) := by
  have h1 : (BitVec.ofInt 16 (a : Int)).toNat = a := by rw [BitVec.ofInt_natCast, BitVec.toNat_ofNat]; exact Nat.mod_eq_of_lt (by omega)
  have h2 : (BitVec.ofInt 16 (b : Int)).toNat = b := by rw [BitVec.ofInt_natCast, BitVec.toNat_ofNat]; exact Nat.mod_eq_of_lt (by omega)
  have hx : a ||| b < 2 ^ 16 := Nat.or_lt_two_pow (by omega) (by omega)
  show IntKind.u16.wrap ((BitVec.ofInt 16 (a : Int) ||| BitVec.ofInt 16 (b : Int)).toNat : Int) = _
  rw [BitVec.toNat_or, h1, h2]
  simp only [IntKind.wrap, IntKind.bits, IntKind.signed]
  simp
  omega

theorem xor_u16_nat (a b : Nat) (ha : a < 65536) (hb : b < 65536) : bits .xor .u16 (a : Int) (b : Int) = ((a ^^^ b : Nat) : Int) := by
  have h1 : (BitVec.ofInt 16 (a : Int)).toNat = a := by rw [BitVec.ofInt_natCast, BitVec.toNat_ofNat]; exact Nat.mod_eq_of_lt (by omega)
  have h2 : (BitVec.ofInt 16 (b : Int)).toNat = b := by rw [BitVec.ofInt_natCast, BitVec.toNat_ofNat]; exact Nat.mod_eq_of_lt (by omega)
  have hx : a ^^^ b < 2 ^ 16 := Nat.xor_lt_two_pow (by omega) (by omega)
  show IntKind.u16.wrap ((BitVec.ofInt 16 (a : Int) ^^^ BitVec.ofInt 16 (b : Int)).toNat : Int) = _
  rw [BitVec.toNat_xor, h1, h2]
  simp only [IntKind.wrap, IntKind.bits, IntKind.signed]
  simp
  omega

/-! ### packing -/
theorem and_u32_nat (a b : Nat) (ha : a < 4294967296) (hb : b < 4294967296) : bits .and .u32 (a : Int) (b : Int) = ((a &&& b : Nat) : Int) := by
  have h1 : (BitVec.ofInt 32 (a : Int)).toNat = a := by rw [BitVec.ofInt_natCast, BitVec.toNat_ofNat]; exact Nat.mod_eq_of_lt (by omega)
  have h2 : (BitVec.ofInt 32 (b : Int)).toNat = b := by rw [BitVec.ofInt_natCast, BitVec.toNat_ofNat]; exact Nat.mod_eq_of_lt (by omega)
  have hx : a &&& b < 2 ^ 32 := Nat.and_lt_two_pow _ (by omega)
  show IntKind.u32.wrap ((BitVec.ofInt 32 (a : Int) &&& BitVec.ofInt 32 (b : Int)).toNat : Int) = _
  rw [BitVec.toNat_and, h1, h2]
  simp only [IntKind.wrap, IntKind.bits, IntKind.signed]
  simp
  omega

theorem mask28_u32 {a : Int} (h0 : 0 ≤ a) (h1 : a < 4294967296) : bits .and .u32 a 268435455 = a % 268435456 := by
  obtain ⟨n, rfl⟩ := Int.eq_ofNat_of_zero_le h0
  have e := and_u32_nat n 268435455 (by omega) (by omega)
  have e2 := Nat.and_two_pow_sub_one_eq_mod n 28
  rw [show (2 : Nat) ^ 28 - 1 = 268435455 from rfl] at e2
  rw [e2] at e
  rw [show ((268435455 : Nat) : Int) = 268435455 from rfl] at e
  rw [e]; omega

theorem mask28_u64 {a : Int} (h0 : 0 ≤ a) (h1 : a < 18446744073709551616) : bits .and .u64 a 268435455 = a % 268435456 := by
  obtain ⟨n, rfl⟩ := Int.eq_ofNat_of_zero_le h0
  have e := bits_and_u64_nat n 268435455 (by omega) (by omega)
  have e2 := Nat.and_two_pow_sub_one_eq_mod n 28
  rw [show (2 : Nat) ^ 28 - 1 = 268435455 from rfl] at e2
  rw [e2] at e
  rw [show ((268435455 : Nat) : Int) = 268435455 from rfl] at e
  rw [e]; omega

/-- or of parts that don't meet is their sum -/
theorem or_sum (hi lo k : Nat) (hlo : lo < 2 ^ k) (h : 2 ^ k * hi + lo < 18446744073709551616) : bits .or .u64 ((2 ^ k * hi : Nat) : Int) (lo : Int) = ((2 ^ k * hi + lo : Nat) : Int) := by
  rw [bits_or_u64_nat _ _ (by omega) (by omega), ← Nat.two_pow_add_eq_or_of_lt hlo hi]

/-- what Node computes -/
def node (l a b : Int) : Int := l * 72057594037927936 + (a % 268435456) * 268435456 + b % 268435456

theorem node_walk {l a b : Int} (h0 : 0 ≤ l) (h1 : l < 256) (h2 : 0 ≤ a) (h3 : a < 4294967296) (h4 : 0 ≤ b) (h5 : b < 4294967296) :
    bits .or .u64 (bits .or .u64 (l * 72057594037927936) (IntKind.u64.wrap (IntKind.u64.wrap (bits .and .u32 a 268435455) * 268435456))) (IntKind.u64.wrap (bits .and .u32 b 268435455)) = node l a b := by
  rw [mask28_u32 h2 h3, mask28_u32 h4 h5]
  simp only [IntKind.wrap_u64]
  obtain ⟨l, rfl⟩ := Int.eq_ofNat_of_zero_le h0
  obtain ⟨a, rfl⟩ := Int.eq_ofNat_of_zero_le h2
  obtain ⟨b, rfl⟩ := Int.eq_ofNat_of_zero_le h4
  have e1 := or_sum l (a % 268435456 * 268435456) 56 (by omega) (by omega)
  have e2 := or_sum (l * 268435456 + a % 268435456) (b % 268435456) 28 (by omega) (by omega)
  rw [show ((l : Int) * 72057594037927936) = ((2 ^ 56 * l : Nat) : Int) from by omega,
    show ((a : Int) % 268435456 % 18446744073709551616 * 268435456 % 18446744073709551616) = ((a % 268435456 * 268435456 : Nat) : Int) from by omega,
    show ((b : Int) % 268435456 % 18446744073709551616) = ((b % 268435456 : Nat) : Int) from by omega]
  rw [e1, show (2 ^ 56 * l + a % 268435456 * 268435456 : Nat) = 2 ^ 28 * (l * 268435456 + a % 268435456) from by omega, e2]
  unfold node
  omega

theorem node_lo {l a b : Int} (h0 : 0 ≤ l) : 0 ≤ node l a b := by unfold node; omega
theorem node_hi {l a b : Int} (h1 : l < 256) : node l a b < 18446744073709551616 := by unfold node; omega

theorem node_inj {l a b l' a' b' : Int} (h : node l a b = node l' a' b') : l = l' ∧ a % 268435456 = a' % 268435456 ∧ b % 268435456 = b' % 268435456 := by
  unfold node at h; omega

/-! ### mixing is undone -/
theorem xs_xs (b : BitVec 64) : xsB (xsB b) = b := by
  unfold xsB
  apply BitVec.eq_of_getLsbD_eq
  intro i hi
  simp only [BitVec.getLsbD_xor, BitVec.getLsbD_ushiftRight]
  have : b.getLsbD (33 + (33 + i)) = false := BitVec.getLsbD_of_ge _ _ (by omega)
  rw [this]
  cases b.getLsbD i <;> cases b.getLsbD (33 + i) <;> rfl

theorem mul_inv1 (b : BitVec 64) : b * 0xff51afd7ed558ccd#64 * 0x4f74430c22a54005#64 = b := by
  rw [BitVec.mul_assoc, show (0xff51afd7ed558ccd#64 * 0x4f74430c22a54005#64) = 1#64 from by decide, BitVec.mul_one]
theorem mul_inv2 (b : BitVec 64) : b * 0xc4ceb9fe1a85ec53#64 * 0x9cb4b2f8129337db#64 = b := by
  rw [BitVec.mul_assoc, show (0xc4ceb9fe1a85ec53#64 * 0x9cb4b2f8129337db#64) = 1#64 from by decide, BitVec.mul_one]

def unB (b : BitVec 64) : BitVec 64 := xsB (xsB (xsB b * 0x9cb4b2f8129337db#64) * 0x4f74430c22a54005#64)
theorem un_mix (b : BitVec 64) : unB (mixB b) = b := by
  unfold unB mixB
  rw [xs_xs, mul_inv2, xs_xs, mul_inv1, xs_xs]

theorem mix_inj {x y : Int} (h0 : 0 ≤ x) (h1 : x < 18446744073709551616) (g0 : 0 ≤ y) (g1 : y < 18446744073709551616) (h : mix x = mix y) : x = y := by
  apply ofInt_inj h0 h1 g0 g1
  unfold mix at h
  have : mixB (BitVec.ofInt 64 x) = mixB (BitVec.ofInt 64 y) := BitVec.eq_of_toNat_eq (by omega)
  rw [← un_mix (BitVec.ofInt 64 x), this, un_mix]

/-- the steps of the law that undoes the mixing, as its walk leaves them -/
theorem unmix_walk {x : Int} (h0 : 0 ≤ x) (h1 : x < 18446744073709551616) :
    bits .xor .u64
      (IntKind.u64.wrap (bits .xor .u64 (IntKind.u64.wrap (bits .xor .u64 (mix x) (mix x / 8589934592) * 11291846944257947611)) (IntKind.u64.wrap (bits .xor .u64 (mix x) (mix x / 8589934592) * 11291846944257947611) / 8589934592) * 5725274745694666757))
      (IntKind.u64.wrap (bits .xor .u64 (IntKind.u64.wrap (bits .xor .u64 (mix x) (mix x / 8589934592) * 11291846944257947611)) (IntKind.u64.wrap (bits .xor .u64 (mix x) (mix x / 8589934592) * 11291846944257947611) / 8589934592) * 5725274745694666757) / 8589934592) = x := by
  unfold mix
  generalize hb : mixB (BitVec.ofInt 64 x) = b
  have e1 : IntKind.u64.wrap (((xsB b).toNat : Int) * (11291846944257947611 : Int)) = _ := mul_bits (xsB b) 11291846944257947611
  have e2 : IntKind.u64.wrap (((xsB (xsB b * 11291846944257947611#64)).toNat : Int) * (5725274745694666757 : Int)) = _ := mul_bits (xsB (xsB b * 11291846944257947611#64)) 5725274745694666757
  rw [xs_bits, e1, xs_bits, e2, xs_bits]
  have hu := un_mix (BitVec.ofInt 64 x)
  rw [hb] at hu
  rw [show xsB (xsB (xsB b * 11291846944257947611#64) * 5725274745694666757#64) = unB b from rfl, hu, toNat_ofInt h0 h1]

theorem not_u64 {x : Int} (h0 : 0 ≤ x) (h1 : x < 18446744073709551616) : bits .xor .u64 18446744073709551615 x = 18446744073709551615 - x := by
  obtain ⟨n, rfl⟩ := Int.eq_ofNat_of_zero_le h0
  have e := bits_xor_u64_nat 18446744073709551615 n (by omega) (by omega)
  have e2 : (BitVec.allOnes 64 ^^^ BitVec.ofNat 64 n).toNat = 18446744073709551615 - n := by
    rw [BitVec.allOnes_xor, BitVec.toNat_not, BitVec.toNat_ofNat, Nat.mod_eq_of_lt (by omega)]
  rw [BitVec.toNat_xor, BitVec.toNat_ofNat, Nat.mod_eq_of_lt (by omega), show (BitVec.allOnes 64).toNat = 18446744073709551615 from by decide] at e2
  rw [e2] at e
  rw [show ((18446744073709551615 : Nat) : Int) = 18446744073709551615 from rfl] at e
  rw [e]; omega

theorem pc_not {x : Int} (h0 : 0 ≤ x) (h1 : x < 18446744073709551616) : (pc x.toNat : Int) + (pc (18446744073709551615 - x).toNat : Int) = 64 := by
  have := pcF_compl 64 x.toNat (by omega)
  unfold pc
  rw [show (18446744073709551615 - x).toNat = 2 ^ 64 - 1 - x.toNat from by omega]
  omega

theorem spread_def (x : Int) : spread x = spreadTo x 8 := rfl
theorem gather_def (x : Int) : gather x = gatherTo x 8 := rfl

attribute [irreducible] pc spread gather mix spN gaN

end Bt
end Go.Proofs.YtfkefgelceaimaaDoor
