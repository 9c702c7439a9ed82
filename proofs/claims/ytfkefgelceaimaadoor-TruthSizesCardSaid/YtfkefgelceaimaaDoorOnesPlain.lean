/-
  Counting bits in parallel: what math/bits.OnesCount64 computes is how many bits are set. No program in sight.
-/
import Derived.Test.YtfkefgelceaimaaDoorBitsPlain
namespace Go.Proofs.YtfkefgelceaimaaDoor
set_option linter.unusedVariables false
namespace Oc
open Bt

def rep (c : Nat) : Nat → Nat
  | 0 => 0
  | n + 1 => c + 256 * rep c n

theorem and_split (a b c d : Nat) (ha : a < 256) (hc : c < 256) : (a + 256 * b) &&& (c + 256 * d) = (a &&& c) + 256 * (b &&& d) := by
  have h1 : ∀ u v : Nat, u < 256 → u + 256 * v = 2 ^ 8 * v ||| u := fun u v hu => by
    rw [Nat.add_comm, ← Nat.two_pow_add_eq_or_of_lt (i := 8) (by omega)]
  have hac : a &&& c < 256 := Nat.lt_of_le_of_lt Nat.and_le_left ha
  apply Nat.eq_of_testBit_eq
  intro i
  rw [Nat.testBit_and, h1 a b ha, h1 c d hc, h1 _ _ hac]
  simp only [Nat.testBit_or, Nat.testBit_and, Nat.testBit_two_pow_mul]
  by_cases hi : 8 ≤ i
  · have e1 : a.testBit i = false := Nat.testBit_lt_two_pow (Nat.lt_of_lt_of_le ha (Nat.pow_le_pow_right (n := 2) (by omega) hi))
    have e2 : c.testBit i = false := Nat.testBit_lt_two_pow (Nat.lt_of_lt_of_le hc (Nat.pow_le_pow_right (n := 2) (by omega) hi))
    simp [e1, e2, hi]
  · simp [hi]

def f1 (n x : Nat) : Nat := ((x / 2) &&& rep 85 n) + (x &&& rep 85 n)
def f2 (n x : Nat) : Nat := ((x / 4) &&& rep 51 n) + (x &&& rep 51 n)
def f3 (n x : Nat) : Nat := (x / 16 + x) &&& rep 15 n

theorem d1 : ∀ b : Nat, b < 256 → ∀ k : Nat, k < 2 → (b / 2 + 128 * k) &&& 85 = (b / 2) &&& 85 := by decide +kernel
theorem d2 : ∀ b : Nat, b < 256 → ∀ k : Nat, k < 4 → (b / 4 + 64 * k) &&& 51 = (b / 4) &&& 51 := by decide +kernel
theorem d3 : ∀ b : Nat, b < 69 → ∀ k : Nat, k < 16 → k < 5 → (b / 16 + b + 16 * k) &&& 15 = (b / 16 + b) &&& 15 := by decide +kernel

theorem f1_succ (n x : Nat) : f1 (n + 1) x = f1 1 (x % 256) + 256 * f1 n (x / 256) := by
  have e1 : x / 2 = ((x % 256) / 2 + 128 * (x / 256 % 2)) + 256 * (x / 256 / 2) := by omega
  have e2 : x = x % 256 + 256 * (x / 256) := by omega
  have a1 := and_split ((x % 256) / 2 + 128 * (x / 256 % 2)) (x / 256 / 2) 85 (rep 85 n) (by omega) (by omega)
  have a2 := and_split (x % 256) (x / 256) 85 (rep 85 n) (by omega) (by omega)
  have h := d1 (x % 256) (by omega) (x / 256 % 2) (by omega)
  unfold f1
  simp only [rep, Nat.mul_zero, Nat.add_zero]
  rw [← e1] at a1
  rw [← e2] at a2
  rw [a1, a2, h]
  omega
theorem f2_succ (n x : Nat) : f2 (n + 1) x = f2 1 (x % 256) + 256 * f2 n (x / 256) := by
  have e1 : x / 4 = ((x % 256) / 4 + 64 * (x / 256 % 4)) + 256 * (x / 256 / 4) := by omega
  have e2 : x = x % 256 + 256 * (x / 256) := by omega
  have a1 := and_split ((x % 256) / 4 + 64 * (x / 256 % 4)) (x / 256 / 4) 51 (rep 51 n) (by omega) (by omega)
  have a2 := and_split (x % 256) (x / 256) 51 (rep 51 n) (by omega) (by omega)
  have h := d2 (x % 256) (by omega) (x / 256 % 4) (by omega)
  unfold f2
  simp only [rep, Nat.mul_zero, Nat.add_zero]
  rw [← e1] at a1
  rw [← e2] at a2
  rw [a1, a2, h]
  omega
theorem f3_succ (n x : Nat) (hb : x % 256 < 69) (hk : x / 256 % 16 < 5) : f3 (n + 1) x = f3 1 (x % 256) + 256 * f3 n (x / 256) := by
  have e1 : x / 16 + x = ((x % 256) / 16 + x % 256 + 16 * (x / 256 % 16)) + 256 * (x / 256 / 16 + x / 256) := by omega
  have a1 := and_split ((x % 256) / 16 + x % 256 + 16 * (x / 256 % 16)) (x / 256 / 16 + x / 256) 15 (rep 15 n) (by omega) (by omega)
  have h := d3 (x % 256) hb (x / 256 % 16) (by omega) hk
  unfold f3
  simp only [rep, Nat.mul_zero, Nat.add_zero]
  rw [e1, a1, h]

theorem byte1 : ∀ b : Nat, b < 256 → f1 1 b < 171 := by decide +kernel
theorem byte2 : ∀ b : Nat, b < 256 → f2 1 (f1 1 b) < 69 ∧ f2 1 (f1 1 b) % 16 < 5 := by decide +kernel
theorem byte3 : ∀ b : Nat, b < 256 → f3 1 (f2 1 (f1 1 b)) = pc b := by decide +kernel

/-- all three steps, byte by byte -/
theorem three (n : Nat) : ∀ x, f3 (n + 1) (f2 (n + 1) (f1 (n + 1) x)) = pc (x % 256) + 256 * f3 n (f2 n (f1 n (x / 256))) ∧ f2 n (f1 n x) % 16 < 5 := by
  have low : ∀ n x, f1 (n + 1) x % 256 = f1 1 (x % 256) ∧ f1 (n + 1) x / 256 = f1 n (x / 256) := fun n x => by
    have := byte1 (x % 256) (by omega)
    rw [f1_succ]; omega
  have low2 : ∀ n x, f2 (n + 1) (f1 (n + 1) x) = f2 1 (f1 1 (x % 256)) + 256 * f2 n (f1 n (x / 256)) := fun n x => by
    rw [f2_succ, (low n x).1, (low n x).2]
  have nib : ∀ n x, f2 n (f1 n x) % 16 < 5 := fun n x => by
    cases n with
    | zero => simp [f2, rep]
    | succ n => rw [low2]; have := byte2 (x % 256) (by omega); omega
  intro x
  refine ⟨?_, nib n x⟩
  have hb := byte2 (x % 256) (by omega)
  have hn := nib n (x / 256)
  have e := low2 n x
  have e1 : f2 (n + 1) (f1 (n + 1) x) % 256 = f2 1 (f1 1 (x % 256)) := by omega
  have e2 : f2 (n + 1) (f1 (n + 1) x) / 256 = f2 n (f1 n (x / 256)) := by omega
  rw [f3_succ n _ (by omega) (by omega), e1, e2, byte3 (x % 256) (by omega)]

theorem pcF_zero' (f : Nat) : pcF f 0 = 0 := pcF_zero f
theorem pc_two (n : Nat) (h : n < 18446744073709551616) : pc n = n % 2 + pc (n / 2) := pc_shift n h

/-- a number's bits, byte by byte -/
theorem pc_byte (x : Nat) (h : x < 18446744073709551616) : pc x = pc (x % 256) + pc (x / 256) := by
  have s : ∀ n, n < 18446744073709551616 → pc n = n % 2 + n / 2 % 2 + n / 4 % 2 + n / 8 % 2 + n / 16 % 2 + n / 32 % 2 + n / 64 % 2 + n / 128 % 2 + pc (n / 256) := fun n h => by
    rw [pc_two n h, pc_two (n / 2) (by omega), pc_two (n / 2 / 2) (by omega), pc_two (n / 2 / 2 / 2) (by omega), pc_two (n / 2 / 2 / 2 / 2) (by omega), pc_two (n / 2 / 2 / 2 / 2 / 2) (by omega), pc_two (n / 2 / 2 / 2 / 2 / 2 / 2) (by omega), pc_two (n / 2 / 2 / 2 / 2 / 2 / 2 / 2) (by omega)]
    rw [show n / 2 / 2 / 2 / 2 / 2 / 2 / 2 / 2 = n / 256 from by omega]
    omega
  have h0 : pc 0 = 0 := by decide +kernel
  rw [s x h, s (x % 256) (by omega), show x % 256 / 256 = 0 from by omega, h0]
  omega

theorem pc_le8 : ∀ b : Nat, b < 256 → pc b ≤ 8 := by decide +kernel

def oc (x : Nat) : Nat :=
  let x3 := f3 8 (f2 8 (f1 8 x))
  let x4 := x3 + x3 / 256
  let x5 := x4 + x4 / 65536
  let x6 := x5 + x5 / 4294967296
  x6 % 128

theorem f3_zero (x : Nat) : f3 0 x = 0 := by simp [f3, rep]

theorem dig1 (a t : Nat) (ha : a < 256) : (a + 256 * t) / 256 = t := by omega
theorem dig2 (a b t : Nat) (ha : a < 256) (hb : b < 256) : (a + 256 * (b + 256 * t)) / 65536 = t := by omega
theorem dig4 (a b c d t : Nat) (ha : a < 256) (hb : b < 256) (hc : c < 256) (hd : d < 256) : (a + 256 * (b + 256 * (c + 256 * (d + 256 * t)))) / 4294967296 = t := by omega
theorem low7 (a t : Nat) (ha : a ≤ 64) : (a + 256 * t) % 128 = a := by omega

theorem sum8 (c0 c1 c2 c3 c4 c5 c6 c7 t1 t2 t3 t4 t5 t6 t7 : Nat) (l0 : c0 ≤ 8) (l1 : c1 ≤ 8) (l2 : c2 ≤ 8) (l3 : c3 ≤ 8) (l4 : c4 ≤ 8) (l5 : c5 ≤ 8) (l6 : c6 ≤ 8) (l7 : c7 ≤ 8)
    (h1 : t1 = c1 + 256 * t2) (h2 : t2 = c2 + 256 * t3) (h3 : t3 = c3 + 256 * t4) (h4 : t4 = c4 + 256 * t5) (h5 : t5 = c5 + 256 * t6) (h6 : t6 = c6 + 256 * t7) (h7 : t7 = c7) :
    (let x3 := c0 + 256 * t1; let x4 := x3 + x3 / 256; let x5 := x4 + x4 / 65536; let x6 := x5 + x5 / 4294967296; x6 % 128) = c0 + (c1 + (c2 + (c3 + (c4 + (c5 + (c6 + (c7 + 0))))))) := by
  show (((c0 + 256 * t1 + (c0 + 256 * t1) / 256) + (c0 + 256 * t1 + (c0 + 256 * t1) / 256) / 65536) + ((c0 + 256 * t1 + (c0 + 256 * t1) / 256) + (c0 + 256 * t1 + (c0 + 256 * t1) / 256) / 65536) / 4294967296) % 128 = _
  rw [dig1 c0 t1 (by omega)]
  have e4 : c0 + 256 * t1 + t1 = (c0 + c1) + 256 * ((c1 + c2) + 256 * (t2 + t3)) := by omega
  rw [e4, dig2 (c0 + c1) (c1 + c2) (t2 + t3) (by omega) (by omega)]
  have e5 : (c0 + c1) + 256 * ((c1 + c2) + 256 * (t2 + t3)) + (t2 + t3) = (c0 + c1 + c2 + c3) + 256 * ((c1 + c2 + c3 + c4) + 256 * ((c2 + c3 + c4 + c5) + 256 * ((c3 + c4 + c5 + c6) + 256 * (t4 + t5 + t6 + t7)))) := by omega
  rw [e5, dig4 (c0 + c1 + c2 + c3) (c1 + c2 + c3 + c4) (c2 + c3 + c4 + c5) (c3 + c4 + c5 + c6) (t4 + t5 + t6 + t7) (by omega) (by omega) (by omega) (by omega)]
  have e6 : (c0 + c1 + c2 + c3) + 256 * ((c1 + c2 + c3 + c4) + 256 * ((c2 + c3 + c4 + c5) + 256 * ((c3 + c4 + c5 + c6) + 256 * (t4 + t5 + t6 + t7)))) + (t4 + t5 + t6 + t7) =
      (c0 + (c1 + (c2 + (c3 + (c4 + (c5 + (c6 + (c7 + 0)))))))) + 256 * ((c1 + c2 + c3 + c4) + 256 * ((c2 + c3 + c4 + c5) + 256 * ((c3 + c4 + c5 + c6) + 256 * (t4 + t5 + t6 + t7))) + (t5 + t6 + t7)) := by omega
  rw [e6]
  exact low7 _ _ (by omega)

theorem oc_pc (x : Nat) (h : x < 18446744073709551616) : oc x = pc x := by
  have t0 := (three 7 x).1
  have t1 := (three 6 (x / 256)).1
  have t2 := (three 5 (x / 256 / 256)).1
  have t3 := (three 4 (x / 256 / 256 / 256)).1
  have t4 := (three 3 (x / 256 / 256 / 256 / 256)).1
  have t5 := (three 2 (x / 256 / 256 / 256 / 256 / 256)).1
  have t6 := (three 1 (x / 256 / 256 / 256 / 256 / 256 / 256)).1
  have t7 := (three 0 (x / 256 / 256 / 256 / 256 / 256 / 256 / 256)).1
  rw [f3_zero] at t7
  have p0 := pc_byte x h
  have p1 := pc_byte (x / 256) (by omega)
  have p2 := pc_byte (x / 256 / 256) (by omega)
  have p3 := pc_byte (x / 256 / 256 / 256) (by omega)
  have p4 := pc_byte (x / 256 / 256 / 256 / 256) (by omega)
  have p5 := pc_byte (x / 256 / 256 / 256 / 256 / 256) (by omega)
  have p6 := pc_byte (x / 256 / 256 / 256 / 256 / 256 / 256) (by omega)
  have p7 := pc_byte (x / 256 / 256 / 256 / 256 / 256 / 256 / 256) (by omega)
  have hz : x / 256 / 256 / 256 / 256 / 256 / 256 / 256 / 256 = 0 := by omega
  have h0 : pc 0 = 0 := by decide +kernel
  rw [hz, h0] at p7
  have l0 := pc_le8 (x % 256) (by omega)
  have l1 := pc_le8 (x / 256 % 256) (by omega)
  have l2 := pc_le8 (x / 256 / 256 % 256) (by omega)
  have l3 := pc_le8 (x / 256 / 256 / 256 % 256) (by omega)
  have l4 := pc_le8 (x / 256 / 256 / 256 / 256 % 256) (by omega)
  have l5 := pc_le8 (x / 256 / 256 / 256 / 256 / 256 % 256) (by omega)
  have l6 := pc_le8 (x / 256 / 256 / 256 / 256 / 256 / 256 % 256) (by omega)
  have l7 := pc_le8 (x / 256 / 256 / 256 / 256 / 256 / 256 / 256 % 256) (by omega)
  simp only [Nat.reduceAdd] at t0 t1 t2 t3 t4 t5 t6 t7
  show (let x3 := f3 8 (f2 8 (f1 8 x)); let x4 := x3 + x3 / 256; let x5 := x4 + x4 / 65536; let x6 := x5 + x5 / 4294967296; x6 % 128) = pc x
  rw [p0, p1, p2, p3, p4, p5, p6, p7]
  rw [t0, t1, t2, t3, t4, t5, t6, t7]
  clear t0 t1 t2 t3 t4 t5 t6 t7 p0 p1 p2 p3 p4 p5 p6 p7 hz h0 h
  generalize pc (x % 256) = c0 at *
  generalize pc (x / 256 % 256) = c1 at *
  generalize pc (x / 256 / 256 % 256) = c2 at *
  generalize pc (x / 256 / 256 / 256 % 256) = c3 at *
  generalize pc (x / 256 / 256 / 256 / 256 % 256) = c4 at *
  generalize pc (x / 256 / 256 / 256 / 256 / 256 % 256) = c5 at *
  generalize pc (x / 256 / 256 / 256 / 256 / 256 / 256 % 256) = c6 at *
  generalize pc (x / 256 / 256 / 256 / 256 / 256 / 256 / 256 % 256) = c7 at *
  exact sum8 c0 c1 c2 c3 c4 c5 c6 c7 _ _ _ _ _ _ _ l0 l1 l2 l3 l4 l5 l6 l7 rfl rfl rfl rfl rfl rfl (by omega)

theorem rep85 : rep 85 8 = 6148914691236517205 := by decide
theorem rep51 : rep 51 8 = 3689348814741910323 := by decide
theorem rep15 : rep 15 8 = 1085102592571150095 := by decide
theorem u64w (n : Nat) (h : n < 18446744073709551616) : IntKind.u64.wrap (n : Int) = (n : Int) := by rw [IntKind.wrap_u64]; omega

theorem w1 (x : Nat) (h : x < 18446744073709551616) : IntKind.u64.wrap (bits .and .u64 ((x : Int) / 2) 6148914691236517205 + bits .and .u64 (x : Int) 6148914691236517205) = (f1 8 x : Int) := by
  have a := bits_and_u64_nat (x / 2) 6148914691236517205 (by omega) (by omega)
  have b := bits_and_u64_nat x 6148914691236517205 h (by omega)
  have la : x / 2 &&& 6148914691236517205 ≤ 6148914691236517205 := Nat.and_le_right
  have lb : x &&& 6148914691236517205 ≤ 6148914691236517205 := Nat.and_le_right
  rw [show ((x : Int) / 2) = ((x / 2 : Nat) : Int) from by omega, show (6148914691236517205 : Int) = ((6148914691236517205 : Nat) : Int) from rfl, a, b, ← Int.natCast_add, u64w _ (by omega)]
  unfold f1; rw [rep85]
theorem f1_le (x : Nat) : f1 8 x ≤ 12297829382473034410 := by
  have la : x / 2 &&& 6148914691236517205 ≤ 6148914691236517205 := Nat.and_le_right
  have lb : x &&& 6148914691236517205 ≤ 6148914691236517205 := Nat.and_le_right
  unfold f1; rw [rep85]; omega
theorem w2 (x : Nat) (h : x < 18446744073709551616) : IntKind.u64.wrap (bits .and .u64 ((x : Int) / 4) 3689348814741910323 + bits .and .u64 (x : Int) 3689348814741910323) = (f2 8 x : Int) := by
  have a := bits_and_u64_nat (x / 4) 3689348814741910323 (by omega) (by omega)
  have b := bits_and_u64_nat x 3689348814741910323 h (by omega)
  have la : x / 4 &&& 3689348814741910323 ≤ 3689348814741910323 := Nat.and_le_right
  have lb : x &&& 3689348814741910323 ≤ 3689348814741910323 := Nat.and_le_right
  rw [show ((x : Int) / 4) = ((x / 4 : Nat) : Int) from by omega, show (3689348814741910323 : Int) = ((3689348814741910323 : Nat) : Int) from rfl, a, b, ← Int.natCast_add, u64w _ (by omega)]
  unfold f2; rw [rep51]
theorem f2_le (x : Nat) : f2 8 x ≤ 7378697629483820646 := by
  have la : x / 4 &&& 3689348814741910323 ≤ 3689348814741910323 := Nat.and_le_right
  have lb : x &&& 3689348814741910323 ≤ 3689348814741910323 := Nat.and_le_right
  unfold f2; rw [rep51]; omega
theorem w3 (x : Nat) (h : x ≤ 7378697629483820646) : bits .and .u64 (IntKind.u64.wrap ((x : Int) / 16 + (x : Int))) 1085102592571150095 = (f3 8 x : Int) := by
  have a := bits_and_u64_nat (x / 16 + x) 1085102592571150095 (by omega) (by omega)
  rw [show ((x : Int) / 16 + (x : Int)) = ((x / 16 + x : Nat) : Int) from by omega, u64w _ (by omega), show (1085102592571150095 : Int) = ((1085102592571150095 : Nat) : Int) from rfl, a]
  unfold f3; rw [rep15]
theorem f3_le (x : Nat) : f3 8 x ≤ 1085102592571150095 := by
  have la : x / 16 + x &&& 1085102592571150095 ≤ 1085102592571150095 := Nat.and_le_right
  unfold f3; rw [rep15]; exact la
theorem w4 (u : Nat) (k : Nat) (h : u ≤ 4611686018427387904) : IntKind.u64.wrap ((u : Int) + (u : Int) / (k : Int)) = ((u + u / k : Nat) : Int) := by
  have : u / k ≤ u := Nat.div_le_self _ _
  rw [show ((u : Int) + (u : Int) / (k : Int)) = ((u + u / k : Nat) : Int) from by rw [Int.natCast_add, Int.natCast_ediv], u64w _ (by omega)]
theorem w7 (u : Nat) (h : u < 9223372036854775808) : bits .and .i64 (RowKit.wrap64 (u : Int)) 127 = ((u % 128 : Nat) : Int) := by
  rw [show RowKit.wrap64 (u : Int) = (u : Int) from by unfold RowKit.wrap64; omega]
  have h1 : (BitVec.ofInt 64 (u : Int)).toNat = u := by rw [BitVec.ofInt_natCast, BitVec.toNat_ofNat]; exact Nat.mod_eq_of_lt (by omega)
  have h2 : (BitVec.ofInt 64 (127 : Int)).toNat = 127 := by decide
  show IntKind.i64.wrap ((BitVec.ofInt 64 (u : Int) &&& BitVec.ofInt 64 (127 : Int)).toNat : Int) = _
  rw [BitVec.toNat_and, h1, h2, show (127 : Nat) = 2 ^ 7 - 1 from rfl, Nat.and_two_pow_sub_one_eq_mod]
  simp only [IntKind.wrap, IntKind.bits, IntKind.signed]
  simp
  omega

/-- the walk's last value: the count -/
theorem oc_walk (x : Nat) (h : x < 18446744073709551616) (y1 y2 y3 y4 y5 y6 : Int)
    (e1 : y1 = IntKind.u64.wrap (bits .and .u64 ((x : Int) / 2) 6148914691236517205 + bits .and .u64 (x : Int) 6148914691236517205))
    (e2 : y2 = IntKind.u64.wrap (bits .and .u64 (y1 / 4) 3689348814741910323 + bits .and .u64 y1 3689348814741910323))
    (e3 : y3 = bits .and .u64 (IntKind.u64.wrap (y2 / 16 + y2)) 1085102592571150095)
    (e4 : y4 = IntKind.u64.wrap (y3 + y3 / 256)) (e5 : y5 = IntKind.u64.wrap (y4 + y4 / 65536)) (e6 : y6 = IntKind.u64.wrap (y5 + y5 / 4294967296)) :
    bits .and .i64 (RowKit.wrap64 y6) 127 = (pc x : Int) := by
  have l1 := f1_le x
  rw [w1 x h] at e1
  subst e1
  have l2 := f2_le (f1 8 x)
  rw [w2 _ (by omega)] at e2
  subst e2
  have l3 := f3_le (f2 8 (f1 8 x))
  rw [w3 _ l2] at e3
  subst e3
  have hoc := oc_pc x h
  unfold oc at hoc
  generalize f3 8 (f2 8 (f1 8 x)) = u at *
  have k4 := w4 u 256 (by omega)
  rw [show ((256 : Nat) : Int) = 256 from rfl] at k4
  rw [k4] at e4
  subst e4
  have k5 := w4 (u + u / 256) 65536 (by omega)
  rw [show ((65536 : Nat) : Int) = 65536 from rfl] at k5
  rw [k5] at e5
  subst e5
  have k6 := w4 (u + u / 256 + (u + u / 256) / 65536) 4294967296 (by omega)
  rw [show ((4294967296 : Nat) : Int) = 4294967296 from rfl] at k6
  rw [k6] at e6
  subst e6
  rw [w7 _ (by omega)]
  exact congrArg Nat.cast hoc

end Oc
end Go.Proofs.YtfkefgelceaimaaDoor
