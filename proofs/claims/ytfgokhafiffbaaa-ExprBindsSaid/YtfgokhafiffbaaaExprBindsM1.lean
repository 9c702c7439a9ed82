/-
  Texts on which the law ExprBinds rests, part 1 of 22.
-/
import Derived.WalkKit
import Derived.WalkSpells
import Derived.WalkLawsBesides
import Derived.Lib.Hide
import Derived.StillTailTactics
import Derived.Below
import Derived.Laws.OwnMore
import Derived.Deep.Draws
import Derived.Laws.Rows
import Derived.RegionTactic
import Derived.Deep.QuietTactic
import Derived.BigQuiet
import Derived.Laws.BitsAllLaws
import Derived.Test.YtfgokhafiffbaaaRows
import Derived.Laws.Strings
import Derived.Laws.Strings2
import Derived.Laws.Strings3
import Derived.KernelRfl
/-
  Small helps for walks: a fact boxed away from the walk's simp.
-/
namespace Go.Proofs.Ytfgokhafiffbaaa
set_option linter.unusedVariables false
/-- a region whose order is open, all but its tail reading or calling quietly: the world behind the draw spelled as the walk spells it -/
theorem region_tail {P : Program} {id : Nat} {Q : Exit → Act → World → Prop} {a : Act} {w : World} {l : List Oper} (n : Nat) (hm : P.follows .mixedOrders = true) (hB : Region.lexTailB .any l.toArray n = true)
    (h : wpStill P l.toArray w.drew (fun a' => wpList P l.toArray Q (l.drop n) a' w.drew) (l.take n) a) : (Code.region id l.toArray true).wp P Q a w :=
  wp_region_still_tail n hm hB h
@[simp] theorem drew_size (w : World) : w.drew.heap.size = w.heap.size := rfl
theorem alloc_size (w : World) (o : Obj) : (w.alloc o).heap.size = w.heap.size + 1 := by simp
/-- a fact that no tactic looks into -/
structure Bx (p : Prop) : Prop where
  out : p
/-- a block that is known whole -/
structure Blk (w : World) (g : Nat) (t : TypeId) (cs : Array Value) : Prop where
  eq : w.heap[g]? = some (.cells cs t (0, 0))
section
open Go.RowKit
variable {w w' : World} {g : Nat} {t : TypeId} {cs : Array Value}
theorem Blk.lt (h : Blk w g t cs) : g < w.heap.size := by
  rcases Nat.lt_or_ge g w.heap.size with hlt | hge
  · exact hlt
  · have := h.eq; rw [Array.getElem?_eq_none hge] at this; cases this
theorem Blk.cell (h : Blk w g t cs) (i : Nat) : w.cell? ⟨g, i, none⟩ = cs[i]? := cell_of_row w g i cs t (0, 0) h.eq
theorem Blk.frozen (h : Blk w g t cs) (i : Nat) : w.frozen? ⟨g, i, none⟩ = false := by
  simp [World.frozen?, h.eq]
theorem Blk.new (w : World) (t : TypeId) (cs : Array Value) : Blk (w.alloc (.cells cs t)) w.heap.size t cs := ⟨heap_alloc_new w _⟩
theorem Blk.drew (h : Blk w g t cs) : Blk w.drew g t cs := ⟨h.eq⟩
theorem Blk.drewN (h : Blk w g t cs) (n : Nat) : Blk (w.drewN n) g t cs := ⟨h.eq⟩
theorem Blk.alloc (h : Blk w g t cs) (o : Obj) : Blk (w.alloc o) g t cs := ⟨(Below.heap_alloc w o g h.lt).trans h.eq⟩
theorem Blk.set_ (h : Blk w g t cs) (i : Nat) (u : Value) : Blk (w.setCell ⟨g, i, none⟩ u) g t (cs.setIfInBounds i u) :=
  ⟨by simp [World.setCell, Array.getElem?_modify, h.eq]⟩
theorem Blk.far (h : Blk w g t cs) {p : Addr} (hp : g ≠ p.block) (u : Value) : Blk (w.setCell p u) g t cs := ⟨(Below.heap_setCell w p u g hp).trans h.eq⟩
theorem Blk.below {B : Nat} (h : Blk w g t cs) (hb : Below B w w') (hg : g < B) : Blk w' g t cs := ⟨(hb.block g hg).trans h.eq⟩
end

/-- what a cell holds, whatever it is -/
def cval (w : World) (a : Addr) : Value := (w.cell? a).getD undef
theorem cval_ok {w : World} {a : Addr} (h : (w.cell? a).isSome = true) : w.cell? a = some (cval w a) := by
  unfold cval
  cases e : w.cell? a with
  | none => rw [e] at h; cases h
  | some v => rfl
attribute [irreducible] cval

/-- a cell that was written holds what was written, if it is a cell at all -/
theorem set_self {w : World} {b o : Nat} {v x : Value} (h : (w.setCell ⟨b, o, none⟩ v).cell? ⟨b, o, none⟩ = some x) : (w.setCell ⟨b, o, none⟩ v).cell? ⟨b, o, none⟩ = some v := by
  revert h
  simp only [World.cell?, World.setCell, Array.getElem?_modify, if_true, Option.isSome_none, Bool.false_eq_true, if_false]
  cases w.heap[b]? with
  | none => simp
  | some ob =>
    cases ob <;> simp [Array.getElem?_setIfInBounds]
    intro h _; exact h
theorem set_far {w : World} {b o b' o' : Nat} {v : Value} (h : b ≠ b' ∨ o ≠ o') : (w.setCell ⟨b, o, none⟩ v).cell? ⟨b', o', none⟩ = w.cell? ⟨b', o', none⟩ := by
  simp only [World.cell?, World.setCell, Array.getElem?_modify, Option.isSome_none, Bool.false_eq_true, if_false]
  by_cases e : b = b'
  · subst e
    rw [if_pos rfl]
    cases w.heap[b]? with
    | none => simp
    | some ob =>
      have ho : o ≠ o' := by rcases h with h | h; exact absurd rfl h; exact h
      cases ob <;> simp [ho]
  · rw [if_neg e]
/-- four cells written one behind the other -/
theorem set4 {w : World} {r : Nat} {v0 v1 v2 v3 x0 x1 x2 x3 : Value}
    (h0 : ((((w.setCell ⟨r, 0, none⟩ v0).setCell ⟨r, 1, none⟩ v1).setCell ⟨r, 2, none⟩ v2).setCell ⟨r, 3, none⟩ v3).cell? ⟨r, 0, none⟩ = some x0)
    (h1 : ((((w.setCell ⟨r, 0, none⟩ v0).setCell ⟨r, 1, none⟩ v1).setCell ⟨r, 2, none⟩ v2).setCell ⟨r, 3, none⟩ v3).cell? ⟨r, 1, none⟩ = some x1)
    (h2 : ((((w.setCell ⟨r, 0, none⟩ v0).setCell ⟨r, 1, none⟩ v1).setCell ⟨r, 2, none⟩ v2).setCell ⟨r, 3, none⟩ v3).cell? ⟨r, 2, none⟩ = some x2)
    (h3 : ((((w.setCell ⟨r, 0, none⟩ v0).setCell ⟨r, 1, none⟩ v1).setCell ⟨r, 2, none⟩ v2).setCell ⟨r, 3, none⟩ v3).cell? ⟨r, 3, none⟩ = some x3) :
    let W := ((((w.setCell ⟨r, 0, none⟩ v0).setCell ⟨r, 1, none⟩ v1).setCell ⟨r, 2, none⟩ v2).setCell ⟨r, 3, none⟩ v3)
    W.cell? ⟨r, 0, none⟩ = some v0 ∧ W.cell? ⟨r, 1, none⟩ = some v1 ∧ W.cell? ⟨r, 2, none⟩ = some v2 ∧ W.cell? ⟨r, 3, none⟩ = some v3 := by
  intro W
  refine ⟨?_, ?_, ?_, set_self h3⟩
  · rw [set_far (.inr (by omega)), set_far (.inr (by omega)), set_far (.inr (by omega))] at h0 ⊢; exact set_self h0
  · rw [set_far (.inr (by omega)), set_far (.inr (by omega))] at h1 ⊢; exact set_self h1
  · rw [set_far (.inr (by omega))] at h2 ⊢; exact set_self h2

theorem wf_u8 {a : Int} (h : (Lit.int .u8 a).wf = true) : 0 ≤ a ∧ a < 256 := by
  simp [Lit.wf, IntKind.min, IntKind.max, IntKind.signed, IntKind.bits] at h; omega
theorem wf_u16 {a : Int} (h : (Lit.int .u16 a).wf = true) : 0 ≤ a ∧ a < 65536 := by
  simp [Lit.wf, IntKind.min, IntKind.max, IntKind.signed, IntKind.bits] at h; omega
theorem wf_u32 {a : Int} (h : (Lit.int .u32 a).wf = true) : 0 ≤ a ∧ a < 4294967296 := by
  simp [Lit.wf, IntKind.min, IntKind.max, IntKind.signed, IntKind.bits] at h; omega
theorem wf_u64 {a : Int} (h : (Lit.int .u64 a).wf = true) : 0 ≤ a ∧ a < 18446744073709551616 := by
  simp [Lit.wf, IntKind.min, IntKind.max, IntKind.signed, IntKind.bits] at h; omega
theorem wf_i64 {a : Int} (h : (Lit.int .i64 a).wf = true) : -9223372036854775808 ≤ a ∧ a < 9223372036854775808 := by
  simp [Lit.wf, IntKind.min, IntKind.max, IntKind.signed, IntKind.bits] at h; omega
end Go.Proofs.Ytfgokhafiffbaaa

/-
  Tables of 256 bits: their words, and what is done with them word by word. No program in sight.
-/
namespace Go.Proofs.Ytfgokhafiffbaaa
set_option linter.unusedVariables false
open Go.RowKit
namespace Tb

abbrev T := BitVec 256

/-- word i of a table -/
def wd (f : T) (i : Nat) : Int := ((f.extractLsb' (64 * i) 64).toNat : Int)

theorem wd_lo (f : T) (i : Nat) : 0 ≤ wd f i := by unfold wd; omega
theorem wd_hi (f : T) (i : Nat) : wd f i < 18446744073709551616 := by
  unfold wd; have := (f.extractLsb' (64 * i) 64).isLt; omega

/-- a table as Go's value: four words -/
abbrev tv (f : T) : Value := .agg #[.int .u64 (wd f 0), .int .u64 (wd f 1), .int .u64 (wd f 2), .int .u64 (wd f 3)]
abbrev tcells (f : T) : Array Value := #[.int .u64 (wd f 0), .int .u64 (wd f 1), .int .u64 (wd f 2), .int .u64 (wd f 3)]

theorem wd_inj {f g : T} {i : Nat} (h : wd f i = wd g i) : f.extractLsb' (64 * i) 64 = g.extractLsb' (64 * i) 64 := by
  unfold wd at h; exact BitVec.eq_of_toNat_eq (by omega)

theorem ext4 {f g : T} (h0 : wd f 0 = wd g 0) (h1 : wd f 1 = wd g 1) (h2 : wd f 2 = wd g 2) (h3 : wd f 3 = wd g 3) : f = g := by
  apply BitVec.eq_of_getLsbD_eq
  intro i hi
  have key : ∀ c, wd f c = wd g c → 64 * c ≤ i → i < 64 * c + 64 → f.getLsbD i = g.getLsbD i := by
    intro c hc h1 h2
    have := congrArg (fun b => b.getLsbD (i - 64 * c)) (wd_inj hc)
    simp only [BitVec.getLsbD_extractLsb', show i - 64 * c < 64 from by omega, decide_true, Bool.true_and, show 64 * c + (i - 64 * c) = i from by omega] at this
    exact this
  by_cases a0 : i < 64
  · exact key 0 h0 (by omega) (by omega)
  by_cases a1 : i < 128
  · exact key 1 h1 (by omega) (by omega)
  by_cases a2 : i < 192
  · exact key 2 h2 (by omega) (by omega)
  · exact key 3 h3 (by omega) (by omega)

theorem wd_and (f g : T) (i : Nat) : wd (f &&& g) i = bits .and .u64 (wd f i) (wd g i) := by
  unfold wd
  rw [bits_and_u64_nat _ _ (BitVec.isLt _) (BitVec.isLt _), BitVec.extractLsb'_and, BitVec.toNat_and]
theorem wd_or (f g : T) (i : Nat) : wd (f ||| g) i = bits .or .u64 (wd f i) (wd g i) := by
  unfold wd
  rw [bits_or_u64_nat _ _ (BitVec.isLt _) (BitVec.isLt _), BitVec.extractLsb'_or, BitVec.toNat_or]
theorem wd_xor (f g : T) (i : Nat) : wd (f ^^^ g) i = bits .xor .u64 (wd f i) (wd g i) := by
  unfold wd
  rw [bits_xor_u64_nat _ _ (BitVec.isLt _) (BitVec.isLt _), BitVec.extractLsb'_xor, BitVec.toNat_xor]
theorem wd_not (f : T) (i : Nat) (hi : i < 4) : wd (~~~f) i = bits .xor .u64 IntKind.u64.max (wd f i) := by
  have e : (~~~f).extractLsb' (64 * i) 64 = BitVec.allOnes 64 ^^^ f.extractLsb' (64 * i) 64 := by
    apply BitVec.eq_of_getLsbD_eq
    intro j hj
    rw [BitVec.getLsbD_extractLsb', BitVec.getLsbD_xor, BitVec.getLsbD_allOnes, BitVec.getLsbD_extractLsb', BitVec.getLsbD_not]
    simp only [hj, show 64 * i + j < 256 from by omega, decide_true, Bool.true_and, Bool.true_xor]
  unfold wd
  rw [e, BitVec.toNat_xor, show IntKind.u64.max = ((BitVec.allOnes 64).toNat : Int) from by decide, bits_xor_u64_nat _ _ (BitVec.isLt _) (BitVec.isLt _)]

theorem getLsbD_wd (f : T) (x : Nat) (hx : x < 256) : f.getLsbD x = ((wd f (x / 64)).toNat.testBit (x % 64)) := by
  unfold wd
  rw [Int.toNat_natCast, BitVec.testBit_toNat, BitVec.getLsbD_extractLsb', show 64 * (x / 64) + x % 64 = x from by omega]
  simp [Nat.mod_lt]

/-- a table out of what is asked of each assignment, up to one -/
def tabTo (p : Nat → Bool) : Nat → T
  | 0 => 0#256
  | k + 1 => if p k then tabTo p k ||| (1#256 <<< k) else tabTo p k
def tab (p : Nat → Bool) : T := tabTo p 256

theorem one_shift (k x : Nat) : (1#256 <<< k).getLsbD x = (decide (x < 256) && decide (x = k)) := by
  rw [BitVec.getLsbD_shiftLeft]
  by_cases h : x = k
  · subst h; simp
  · by_cases h2 : x < k
    · simp [h2, h]
    · simp [h2, h, show x - k ≠ 0 from by omega]

theorem tabTo_get (p : Nat → Bool) (k x : Nat) (hk : k ≤ 256) : (tabTo p k).getLsbD x = (decide (x < k) && p x) := by
  induction k with
  | zero => simp [tabTo]
  | succ k ih =>
    have ih := ih (by omega)
    simp only [tabTo]
    by_cases hp : p k = true
    · rw [if_pos hp, BitVec.getLsbD_or, ih, one_shift]
      by_cases e : x = k
      · subst e; simp [hp, show x < 256 from by omega]
      · simp [e, show (x < k + 1) ↔ (x < k) from by omega]
    · rw [if_neg hp, ih]
      by_cases e : x = k
      · subst e; simp at hp; simp [hp]
      · simp [show (x < k + 1) ↔ (x < k) from by omega]

theorem tab_get (p : Nat → Bool) (x : Nat) : (tab p).getLsbD x = (decide (x < 256) && p x) := tabTo_get p 256 x (by omega)

theorem ext_get {f g : T} (h : ∀ x, x < 256 → f.getLsbD x = g.getLsbD x) : f = g := BitVec.eq_of_getLsbD_eq h

theorem tab_eq {p : Nat → Bool} {f : T} (h : ∀ x, x < 256 → p x = f.getLsbD x) : tab p = f := by
  apply ext_get
  intro x hx
  rw [tab_get, h x hx]; simp [hx]

theorem tab_congr {p q : Nat → Bool} (h : ∀ x, x < 256 → p x = q x) : tab p = tab q := by
  apply tab_eq
  intro x hx
  rw [tab_get, h x hx]; simp [hx]

theorem wd_testBit (f : T) (c j : Nat) (hj : j < 64) : (wd f c).toNat.testBit j = f.getLsbD (64 * c + j) := by
  unfold wd
  rw [Int.toNat_natCast, BitVec.testBit_toNat, BitVec.getLsbD_extractLsb']; simp [hj]

/-- setting a bit, word by word -/
theorem wd_set (f : T) (k c : Nat) (hk : k < 256) (hc : c < 4) : wd (f ||| (1#256 <<< k)) c = if c = k / 64 then bits .or .u64 (wd f c) (2 ^ (k % 64)) else wd f c := by
  have hs : wd (1#256 <<< k) c = if c = k / 64 then 2 ^ (k % 64) else 0 := by
    have hn : (wd (1#256 <<< k) c) = (((if c = k / 64 then 2 ^ (k % 64) else 0 : Nat)) : Int) := by
      have h64 : k % 64 < 64 := Nat.mod_lt _ (by omega)
      have hlt : (if c = k / 64 then 2 ^ (k % 64) else 0 : Nat) < 2 ^ 64 := by
        split
        · exact Nat.pow_lt_pow_right (by omega) h64
        · exact Nat.two_pow_pos 64
      unfold wd
      congr 1
      apply Nat.eq_of_testBit_eq
      intro j
      rw [BitVec.testBit_toNat, BitVec.getLsbD_extractLsb', one_shift]
      by_cases hj : j < 64
      · by_cases e : c = k / 64
        · subst e
          rw [if_pos rfl, Nat.testBit_two_pow]
          simp only [hj, decide_true, Bool.true_and]
          rw [decide_eq_true (show 64 * (k / 64) + j < 256 from by omega), Bool.true_and, decide_eq_decide]
          omega
        · rw [if_neg e, Nat.zero_testBit]
          simp only [hj, decide_true, Bool.true_and]
          rw [show decide (64 * c + j = k) = false from by simp; omega]
          simp
      · simp only [hj, decide_false, Bool.false_and]
        symm
        apply Nat.testBit_lt_two_pow
        exact Nat.lt_of_lt_of_le hlt (Nat.pow_le_pow_right (by omega) (by omega))
    rw [hn]
    split
    · rw [Int.natCast_pow]; rfl
    · rfl
  rw [wd_or, hs]
  split
  · rfl
  · have e := bits_or_u64_nat (f.extractLsb' (64 * c) 64).toNat 0 (BitVec.isLt _) (by omega)
    rw [Nat.or_zero] at e
    exact e

/-- the cells of a table, a bit set -/
theorem tcells_set (f : T) (k : Nat) (hk : k < 256) :
    (tcells f).setIfInBounds (k / 64) (.int .u64 (bits .or .u64 (wd f (k / 64)) (2 ^ (k % 64)))) = tcells (f ||| (1#256 <<< k)) := by
  have h : k / 64 = 0 ∨ k / 64 = 1 ∨ k / 64 = 2 ∨ k / 64 = 3 := by omega
  have e0 := wd_set f k 0 hk (by omega)
  have e1 := wd_set f k 1 hk (by omega)
  have e2 := wd_set f k 2 hk (by omega)
  have e3 := wd_set f k 3 hk (by omega)
  unfold tcells
  rw [e0, e1, e2, e3]
  rcases h with h | h | h | h <;> rw [h] <;> simp
theorem tcells_at (f : T) (k : Nat) (hk : k < 256) : (tcells f)[k / 64]? = some (.int .u64 (wd f (k / 64))) := by
  have h : k / 64 = 0 ∨ k / 64 = 1 ∨ k / 64 = 2 ∨ k / 64 = 3 := by omega
  rcases h with h | h | h | h <;> rw [h] <;> rfl

theorem wd_zero (i : Nat) : wd 0#256 i = 0 := by
  unfold wd
  rw [show (0#256).extractLsb' (64 * i) 64 = 0#64 from by apply BitVec.eq_of_getLsbD_eq; intro j hj; simp]
  rfl
theorem tcells_zero : tcells 0#256 = #[.int .u64 0, .int .u64 0, .int .u64 0, .int .u64 0] := by
  unfold tcells; simp only [wd_zero]

theorem tabTo_zero (p : Nat → Bool) : tabTo p 0 = 0#256 := rfl
theorem tabTo_yes {p : Nat → Bool} {k : Nat} (h : p k = true) : tabTo p (k + 1) = tabTo p k ||| (1#256 <<< k) := by simp [tabTo, h]
theorem tabTo_no {p : Nat → Bool} {k : Nat} (h : p k = false) : tabTo p (k + 1) = tabTo p k := by simp [tabTo, h]
theorem tab_def (p : Nat → Bool) : tab p = tabTo p 256 := rfl

theorem wrap_pow (k : Nat) : IntKind.u64.wrap (2 ^ (k % 64)) = (2 : Int) ^ (k % 64) := by
  have h : (2 : Nat) ^ (k % 64) < 2 ^ 64 := Nat.pow_lt_pow_right (by omega) (Nat.mod_lt _ (by omega))
  have e : ((2 : Int) ^ (k % 64)) = ((2 ^ (k % 64) : Nat) : Int) := by rw [Int.natCast_pow]; rfl
  rw [IntKind.wrap_u64, e]
  generalize (2 : Nat) ^ (k % 64) = m at *
  omega

/-- a word turned -/
def nt (x : Int) : Int := bits .xor .u64 IntKind.u64.max x
theorem nt_op (x : Int) : Op.unary .xor (.int .u64 x) = pure (.int .u64 (nt x)) := rfl
theorem nt_wd (f : T) (i : Nat) (hi : i < 4) : nt (wd f i) = wd (~~~f) i := (wd_not f i hi).symm

/-- a constant's table -/
def cst (b : Bool) : T := if b then BitVec.allOnes 256 else 0#256
theorem cst_get (b : Bool) (x : Nat) (hx : x < 256) : (cst b).getLsbD x = b := by
  cases b
  · simp [cst]
  · show (BitVec.allOnes 256).getLsbD x = true
    rw [BitVec.getLsbD_allOnes]; simp [hx]
theorem tab_cst (b : Bool) : tab (fun _ => b) = cst b := tab_eq fun x hx => (cst_get b x hx).symm

/-- is there such a variable? -/
def kn (v : Int) : Bool := decide (0 ≤ v) && decide (v < 8)
/-- a variable's table -/
def var (v : Int) : T := tab fun x => kn v && x.testBit v.toNat
theorem var_get (v : Int) (x : Nat) (hx : x < 256) : (var v).getLsbD x = (kn v && x.testBit v.toNat) := by
  unfold var; rw [tab_get]; simp [hx]

theorem u8_bit : ∀ x : Nat, x < 256 → ∀ v : Nat, v < 8 → (bits .and .u8 ((x : Int) / 2 ^ v) 1 == 1) = x.testBit v := by decide +kernel

theorem u64_bit (f : T) (x : Nat) (hx : x < 256) : (bits .and .u64 (wd f (x / 64) / 2 ^ (x % 64)) 1 == 1) = f.getLsbD x := by
  rw [getLsbD_wd f x hx]
  have h0 := wd_lo f (x / 64)
  have h1 := wd_hi f (x / 64)
  obtain ⟨n, hn⟩ := Int.eq_ofNat_of_zero_le h0
  rw [hn] at h1 ⊢
  have hd : (n : Int) / 2 ^ (x % 64) = ((n / 2 ^ (x % 64) : Nat) : Int) := by rw [Int.natCast_ediv]; congr 1
  have hdl : n / 2 ^ (x % 64) ≤ n := Nat.div_le_self _ _
  have e1 := bits_and_u64_nat (n / 2 ^ (x % 64)) 1 (by omega) (by omega)
  rw [Nat.and_one_is_mod] at e1
  rw [hd, show (1 : Int) = ((1 : Nat) : Int) from rfl, e1, Int.toNat_natCast, Nat.testBit_eq_decide_div_mod_eq]
  rw [Bool.eq_iff_iff, beq_iff_eq, decide_eq_true_eq]
  omega

/-- an assignment with a variable set -/
def wth (x v : Nat) (b : Bool) : Nat := if b then x ||| 2 ^ v else x - (if x.testBit v then 2 ^ v else 0)
theorem wth_or : ∀ x : Nat, x < 256 → ∀ v : Nat, v < 8 → bits .or .u8 (x : Int) (IntKind.u8.wrap (2 ^ v)) = (wth x v true : Int) := by decide +kernel
theorem wth_andNot : ∀ x : Nat, x < 256 → ∀ v : Nat, v < 8 → bits .andNot .u8 (x : Int) (IntKind.u8.wrap (2 ^ v)) = (wth x v false : Int) := by decide +kernel
theorem wth_lt : ∀ x : Nat, x < 256 → ∀ v : Nat, v < 8 → ∀ b, wth x v b < 256 := by decide +kernel
theorem wth_bit : ∀ x : Nat, x < 256 → ∀ v : Nat, v < 8 → ∀ b, ∀ i : Nat, i < 8 → (wth x v b).testBit i = (if i = v then b else x.testBit i) := by decide +kernel

/-- a variable set for good -/
def fix (f : T) (v : Int) (b : Bool) : T := if kn v then tab (fun x => f.getLsbD (wth x v.toNat b)) else f
theorem fix_yes {v : Int} (h : kn v = true) (f : T) (b : Bool) : fix f v b = tab (fun x => f.getLsbD (wth x v.toNat b)) := by simp [fix, h]
theorem fix_no {v : Int} (h : kn v = false) (f : T) (b : Bool) : fix f v b = f := by simp [fix, h]

/-- both halves joined, variable by variable -/
def halvesTo (J : T → T → T) (f : T) (mask : Nat) : Nat → T
  | 0 => f
  | k + 1 => if mask.testBit k then J (fix (halvesTo J f mask k) (k : Int) false) (fix (halvesTo J f mask k) (k : Int) true) else halvesTo J f mask k
def halves (J : T → T → T) (f : T) (mask : Nat) : T := halvesTo J f mask 8
theorem halvesTo_zero (J : T → T → T) (f : T) (mask : Nat) : halvesTo J f mask 0 = f := rfl
theorem halvesTo_yes {J : T → T → T} {f : T} {mask k : Nat} (h : mask.testBit k = true) : halvesTo J f mask (k + 1) = J (fix (halvesTo J f mask k) (k : Int) false) (fix (halvesTo J f mask k) (k : Int) true) := by simp [halvesTo, h]
theorem halvesTo_no {J : T → T → T} {f : T} {mask k : Nat} (h : mask.testBit k = false) : halvesTo J f mask (k + 1) = halvesTo J f mask k := by simp [halvesTo, h]
theorem halves_def (J : T → T → T) (f : T) (mask : Nat) : halves J f mask = halvesTo J f mask 8 := rfl

/-- an assignment with a mask's variables set -/
def rstx (x m v : Nat) : Nat := (x &&& (255 - m)) ||| (v &&& m)
theorem rstx_lt (x m v : Nat) (hx : x < 256) (hv : v < 256) : rstx x m v < 256 :=
  Nat.or_lt_two_pow (n := 8) (Nat.lt_of_le_of_lt Nat.and_le_left (by omega)) (Nat.lt_of_le_of_lt Nat.and_le_left (by omega))
theorem rstx_walk (x m v : Nat) (hx : x < 256) (hm : m < 256) (hv : v < 256) :
    bits .or .u8 (bits .andNot .u8 (x : Int) (m : Int)) (bits .and .u8 (v : Int) (m : Int)) = (rstx x m v : Int) := by
  rw [u8_andNot_nat x m hx hm, u8_and_nat v m hv hm, u8_or_nat _ _ (Nat.lt_of_le_of_lt Nat.and_le_left hx) (Nat.lt_of_le_of_lt Nat.and_le_left hv)]
  rfl
def restrict (f : T) (m v : Nat) : T := tab fun x => f.getLsbD (rstx x m v)
theorem restrict_def (f : T) (m v : Nat) : restrict f m v = tab fun x => f.getLsbD (rstx x m v) := rfl

/-- is it so for some below? -/
def anyTo (q : Nat → Bool) : Nat → Bool
  | 0 => false
  | k + 1 => anyTo q k || q k
theorem anyTo_hit {q : Nat → Bool} {k n : Nat} (h : q k = true) (hk : k < n) : anyTo q n = true := by
  induction n with
  | zero => omega
  | succ n ih =>
    simp only [anyTo]
    by_cases e : k = n
    · subst e; simp [h]
    · rw [ih (by omega)]; rfl
theorem anyTo_spec {q : Nat → Bool} {n : Nat} : anyTo q n = true ↔ ∃ k, k < n ∧ q k = true := by
  constructor
  · intro h
    induction n with
    | zero => cases h
    | succ n ih =>
      simp only [anyTo, Bool.or_eq_true] at h
      rcases h with h | h
      · obtain ⟨k, hk, hq⟩ := ih h; exact ⟨k, by omega, hq⟩
      · exact ⟨n, by omega, h⟩
  · rintro ⟨k, hk, hq⟩; exact anyTo_hit hq hk
theorem anyTo_no {q : Nat → Bool} {k : Nat} (h : anyTo q k = false) (hq : q k = false) : anyTo q (k + 1) = false := by simp [anyTo, h, hq]

/-- y's odd variables are x's even ones -/
def nx (x y : Nat) : Bool := y &&& 170 == (x &&& 85) * 2
theorem nx_walk (x y : Nat) (hx : x < 256) (hy : y < 256) : (bits .and .u8 (y : Int) 170 == bits .and .u8 (x : Int) 85 * 2 % 256) = nx x y := by
  have e1 := u8_and_nat y 170 hy (by omega)
  have e2 := u8_and_nat x 85 hx (by omega)
  rw [show (170 : Int) = ((170 : Nat) : Int) from rfl, e1, show (85 : Int) = ((85 : Nat) : Int) from rfl, e2]
  have hl : x &&& 85 ≤ 85 := Nat.and_le_right
  unfold nx
  rw [Bool.eq_iff_iff, beq_iff_eq, beq_iff_eq]
  omega
def next (s r : T) : T := tab fun x => anyTo (fun y => nx x y && (s &&& r).getLsbD y) 256
theorem next_def (s r : T) : next s r = tab fun x => anyTo (fun y => nx x y && (s &&& r).getLsbD y) 256 := rfl

/-- y's even variables are x's -/
def pv (x y : Nat) : Bool := y &&& 85 == x &&& 85
theorem pv_walk (x y : Nat) (hx : x < 256) (hy : y < 256) : (bits .and .u8 (y : Int) 85 == bits .and .u8 (x : Int) 85) = pv x y := by
  have e1 := u8_and_nat y 85 hy (by omega)
  have e2 := u8_and_nat x 85 hx (by omega)
  rw [show (85 : Int) = ((85 : Nat) : Int) from rfl, e1, e2]
  unfold pv
  rw [Bool.eq_iff_iff, beq_iff_eq, beq_iff_eq]
  omega
/-- y's odd variables, as even ones -/
def half (y : Nat) : Nat := (y &&& 170) / 2
theorem half_lt (y : Nat) : half y < 256 := by have : y &&& 170 ≤ 170 := Nat.and_le_right; unfold half; omega
theorem half_walk (y : Nat) (hy : y < 256) : bits .and .u8 (y : Int) 170 / 2 = (half y : Int) := by
  have e1 := u8_and_nat y 170 hy (by omega)
  rw [show (170 : Int) = ((170 : Nat) : Int) from rfl, e1]
  unfold half; omega
def prev (s r : T) : T := tab fun x => anyTo (fun y => pv x y && r.getLsbD y && s.getLsbD (half y)) 256
theorem prev_def (s r : T) : prev s r = tab fun x => anyTo (fun y => pv x y && r.getLsbD y && s.getLsbD (half y)) 256 := rfl

/-- the variables on which it hangs -/
def supTo (f : T) : Nat → Nat
  | 0 => 0
  | k + 1 => if fix f (k : Int) false = fix f (k : Int) true then supTo f k else supTo f k ||| 2 ^ k
def support (f : T) : Nat := supTo f 8
theorem support_def (f : T) : support f = supTo f 8 := rfl
theorem supTo_lt (f : T) (k : Nat) (hk : k ≤ 8) : supTo f k < 256 := by
  induction k with
  | zero => simp [supTo]
  | succ k ih =>
    simp only [supTo]
    split
    · exact ih (by omega)
    · refine Nat.or_lt_two_pow (n := 8) (ih (by omega)) (Nat.pow_lt_pow_right (by omega) (by omega))

attribute [irreducible] wd nt tab tabTo cst kn var wth fix halvesTo halves rstx restrict anyTo nx next pv half prev supTo support

end Tb
end Go.Proofs.Ytfgokhafiffbaaa

/-
  The walks of package truth, first part: joining tables word by word.
-/
namespace Go.Proofs.Ytfgokhafiffbaaa
set_option linter.unusedVariables false
open Go.RowKit

/-- what was there before a contract's new blocks reads as it did -/
theorem bcell {W w1 : World} (hb : Below W.heap.size W w1) : (∀ b o, b < W.heap.size → w1.cell? ⟨b, o, none⟩ = W.cell? ⟨b, o, none⟩) ∧ (∀ b o, b < W.heap.size → w1.frozen? ⟨b, o, none⟩ = W.frozen? ⟨b, o, none⟩) :=
  ⟨fun b o h => hb.cell (p := ⟨b, o, none⟩) h, fun b o h => hb.frozen (p := ⟨b, o, none⟩) h⟩

/-- a table's block, cell by cell -/
theorem tfacts {w : World} {g t : Nat} {f : Tb.T} (h : Blk w g t (Tb.tcells f)) :
    (w.cell? ⟨g, 0, none⟩ = some (.int .u64 (Tb.wd f 0)) ∧ w.cell? ⟨g, 1, none⟩ = some (.int .u64 (Tb.wd f 1)) ∧ w.cell? ⟨g, 2, none⟩ = some (.int .u64 (Tb.wd f 2)) ∧ w.cell? ⟨g, 3, none⟩ = some (.int .u64 (Tb.wd f 3))) ∧
    (w.frozen? ⟨g, 0, none⟩ = false ∧ w.frozen? ⟨g, 1, none⟩ = false ∧ w.frozen? ⟨g, 2, none⟩ = false ∧ w.frozen? ⟨g, 3, none⟩ = false) :=
  ⟨⟨h.cell 0, h.cell 1, h.cell 2, h.cell 3⟩, h.frozen 0, h.frozen 1, h.frozen 2, h.frozen 3⟩

/-- a table's block behind four stores -/
theorem blk4 {w : World} {g t : Nat} {f : Tb.T} (h : Blk w g t (Tb.tcells f)) (r : Tb.T) :
    Blk ((((w.setCell ⟨g, 0, none⟩ (.int .u64 (Tb.wd r 0))).setCell ⟨g, 1, none⟩ (.int .u64 (Tb.wd r 1))).setCell ⟨g, 2, none⟩ (.int .u64 (Tb.wd r 2))).setCell ⟨g, 3, none⟩ (.int .u64 (Tb.wd r 3))) g t (Tb.tcells r) :=
  (((h.set_ 0 _).set_ 1 _).set_ 2 _).set_ 3 _
theorem blk4_far {w : World} {g g' t : Nat} {cs : Array Value} (h : Blk w g' t cs) (hne : g' ≠ g) (r : Tb.T) :
    Blk ((((w.setCell ⟨g, 0, none⟩ (.int .u64 (Tb.wd r 0))).setCell ⟨g, 1, none⟩ (.int .u64 (Tb.wd r 1))).setCell ⟨g, 2, none⟩ (.int .u64 (Tb.wd r 2))).setCell ⟨g, 3, none⟩ (.int .u64 (Tb.wd r 3))) g' t cs :=
  (((h.far (p := ⟨g, 0, none⟩) hne _).far (p := ⟨g, 1, none⟩) hne _).far (p := ⟨g, 2, none⟩) hne _).far (p := ⟨g, 3, none⟩) hne _

/-- a function with a body is entered -/
def Enters (P : Program) (K : Nat) : Prop := ∀ args w, (callFunc K args).run P w = .ok (.enter K args) w

set_option maxHeartbeats 1000000 in
theorem each_raw (f g : Tb.T) (K : Nat) (J : Int → Int → Int) (hc : ∀ args w, (callFunc K args).run Try.prog w = .ok (.enter K args) w)
    (HJ : Bx (∀ i w, i < 4 → Calls Try.prog K #[.int .u64 (Tb.wd f i), .int .u64 (Tb.wd g i)] w fun e w' => e = .returned (.int .u64 (J (Tb.wd f i) (Tb.wd g i))) ∧ w' = w)) (w : World) :
    Calls Try.prog 68 #[Tb.tv f, Tb.tv g, .func (.func K) #[] #[]] w fun e w' =>
      e = .returned (.agg #[.int .u64 (J (Tb.wd f 0) (Tb.wd g 0)), .int .u64 (J (Tb.wd f 1) (Tb.wd g 1)), .int .u64 (J (Tb.wd f 2) (Tb.wd g 2)), .int .u64 (J (Tb.wd f 3) (Tb.wd g 3))]) ∧ Below w.heap.size w w' := by
  go_enter Try.func68, Try.ntmps68
  go_wp2_with fail
  refine wp_loop_rounds 5 ?_
  rw [rounds_succ]
  go_wp2_with fail
  refine region_tail 10 (by kernel_rfl) (by kernel_rfl) ?_
  simp only [List.take_succ_cons, List.take_zero, List.drop_succ_cons, List.drop_zero]
  repeat still_step
  still_call (HJ.out 0 _ (by omega))
  repeat still_step
  refine wpStill_nil ?_
  go_wp2_with fail
  rw [rounds_succ]
  go_wp2_with fail
  refine region_tail 10 (by kernel_rfl) (by kernel_rfl) ?_
  simp only [List.take_succ_cons, List.take_zero, List.drop_succ_cons, List.drop_zero]
  repeat still_step
  still_call (HJ.out 1 _ (by omega))
  repeat still_step
  refine wpStill_nil ?_
  go_wp2_with fail
  rw [rounds_succ]
  go_wp2_with fail
  refine region_tail 10 (by kernel_rfl) (by kernel_rfl) ?_
  simp only [List.take_succ_cons, List.take_zero, List.drop_succ_cons, List.drop_zero]
  repeat still_step
  still_call (HJ.out 2 _ (by omega))
  repeat still_step
  refine wpStill_nil ?_
  go_wp2_with fail
  rw [rounds_succ]
  go_wp2_with fail
  refine region_tail 10 (by kernel_rfl) (by kernel_rfl) ?_
  simp only [List.take_succ_cons, List.take_zero, List.drop_succ_cons, List.drop_zero]
  repeat still_step
  still_call (HJ.out 3 _ (by omega))
  repeat still_step
  refine wpStill_nil ?_
  go_wp2_with fail
  rw [rounds_succ]
  go_wp2_with fail
  refine bodyPost_ret (v := .agg #[.int .u64 (J (Tb.wd f 0) (Tb.wd g 0)), .int .u64 (J (Tb.wd f 1) (Tb.wd g 1)), .int .u64 (J (Tb.wd f 2) (Tb.wd g 2)), .int .u64 (J (Tb.wd f 3) (Tb.wd g 3))]) (by simp [results, Try.results68, go_sem]) rfl ⟨rfl, ?_⟩
  repeat (first | exact Below.refl _ _ | apply Below.drew | refine Below.setCell ?_ (by simp <;> omega) _ | refine Below.alloc ?_ (by simp <;> omega) _)


/-- each, where the joined words are a table's -/
theorem each_any (f g R : Tb.T) (K : Nat) (J : Int → Int → Int) (hc : ∀ args w, (callFunc K args).run Try.prog w = .ok (.enter K args) w)
    (HJ : ∀ i w, i < 4 → Calls Try.prog K #[.int .u64 (Tb.wd f i), .int .u64 (Tb.wd g i)] w fun e w' => e = .returned (.int .u64 (J (Tb.wd f i) (Tb.wd g i))) ∧ w' = w)
    (hR : ∀ i, i < 4 → J (Tb.wd f i) (Tb.wd g i) = Tb.wd R i) (w : World) :
    Calls Try.prog 68 #[Tb.tv f, Tb.tv g, .func (.func K) #[] #[]] w fun e w' => e = .returned (Tb.tv R) ∧ Below w.heap.size w w' := by
  have h := each_raw f g K J hc ⟨HJ⟩ w
  rw [hR 0 (by omega), hR 1 (by omega), hR 2 (by omega), hR 3 (by omega)] at h
  exact h

set_option maxHeartbeats 400000 in
theorem and1_any (x y : Int) (w : World) :
    Calls Try.prog 80 #[.int .u64 x, .int .u64 y] w fun e w' => e = .returned (.int .u64 (bits .and .u64 x y)) ∧ w' = w := by
  go_enter Try.func80, Try.ntmps80
  go_wp2_with fail
  go_ret
  exact ⟨rfl, rfl⟩

set_option maxHeartbeats 400000 in
theorem and_any (f g : Tb.T) (w : World) :
    Calls Try.prog 71 #[Tb.tv f, Tb.tv g] w fun e w' => e = .returned (Tb.tv (f &&& g)) ∧ Below w.heap.size w w' := by
  have hE := each_any f g (f &&& g) 80 (fun x y => bits .and .u64 x y) (fun _ _ => rfl) (fun i w _ => and1_any _ _ w) (fun i hi => (Tb.wd_and f g i).symm)
  have HE := Bx.mk hE
  clear hE
  go_enter Try.func71, Try.ntmps71
  go_wp2_with fail
  refine (HE.out _).mono ?_
  rintro e w1 ⟨rfl, hb⟩
  obtain ⟨hcell, hfr⟩ := bcell hb
  have hz := hb.size
  go_wp2_with fail
  refine bodyPost_ret (v := Tb.tv (f &&& g)) (by simp [results, Try.results71, go_sem, hcell]) rfl ⟨rfl, ?_⟩
  repeat (first | exact Below.refl _ _ | apply Below.drew | refine Below.setCell ?_ (by simp <;> omega) _ | refine Below.alloc ?_ (by simp <;> omega) _ | refine Below.trans ?_ (hb.mono (by simp <;> omega)))

set_option maxHeartbeats 400000 in
theorem or1_any (x y : Int) (w : World) :
    Calls Try.prog 79 #[.int .u64 x, .int .u64 y] w fun e w' => e = .returned (.int .u64 (bits .or .u64 x y)) ∧ w' = w := by
  go_enter Try.func79, Try.ntmps79
  go_wp2_with fail
  go_ret
  exact ⟨rfl, rfl⟩

set_option maxHeartbeats 400000 in
theorem or_any (f g : Tb.T) (w : World) :
    Calls Try.prog 70 #[Tb.tv f, Tb.tv g] w fun e w' => e = .returned (Tb.tv (f ||| g)) ∧ Below w.heap.size w w' := by
  have hE := each_any f g (f ||| g) 79 (fun x y => bits .or .u64 x y) (fun _ _ => rfl) (fun i w _ => or1_any _ _ w) (fun i hi => (Tb.wd_or f g i).symm)
  have HE := Bx.mk hE
  clear hE
  go_enter Try.func70, Try.ntmps70
  go_wp2_with fail
  refine (HE.out _).mono ?_
  rintro e w1 ⟨rfl, hb⟩
  obtain ⟨hcell, hfr⟩ := bcell hb
  have hz := hb.size
  go_wp2_with fail
  refine bodyPost_ret (v := Tb.tv (f ||| g)) (by simp [results, Try.results70, go_sem, hcell]) rfl ⟨rfl, ?_⟩
  repeat (first | exact Below.refl _ _ | apply Below.drew | refine Below.setCell ?_ (by simp <;> omega) _ | refine Below.alloc ?_ (by simp <;> omega) _ | refine Below.trans ?_ (hb.mono (by simp <;> omega)))

set_option maxHeartbeats 400000 in
theorem xor1_any (x y : Int) (w : World) :
    Calls Try.prog 82 #[.int .u64 x, .int .u64 y] w fun e w' => e = .returned (.int .u64 (bits .xor .u64 x y)) ∧ w' = w := by
  go_enter Try.func82, Try.ntmps82
  go_wp2_with fail
  go_ret
  exact ⟨rfl, rfl⟩

set_option maxHeartbeats 400000 in
theorem xor_any (f g : Tb.T) (w : World) :
    Calls Try.prog 73 #[Tb.tv f, Tb.tv g] w fun e w' => e = .returned (Tb.tv (f ^^^ g)) ∧ Below w.heap.size w w' := by
  have hE := each_any f g (f ^^^ g) 82 (fun x y => bits .xor .u64 x y) (fun _ _ => rfl) (fun i w _ => xor1_any _ _ w) (fun i hi => (Tb.wd_xor f g i).symm)
  have HE := Bx.mk hE
  clear hE
  go_enter Try.func73, Try.ntmps73
  go_wp2_with fail
  refine (HE.out _).mono ?_
  rintro e w1 ⟨rfl, hb⟩
  obtain ⟨hcell, hfr⟩ := bcell hb
  have hz := hb.size
  go_wp2_with fail
  refine bodyPost_ret (v := Tb.tv (f ^^^ g)) (by simp [results, Try.results73, go_sem, hcell]) rfl ⟨rfl, ?_⟩
  repeat (first | exact Below.refl _ _ | apply Below.drew | refine Below.setCell ?_ (by simp <;> omega) _ | refine Below.alloc ?_ (by simp <;> omega) _ | refine Below.trans ?_ (hb.mono (by simp <;> omega)))

set_option maxHeartbeats 400000 in
theorem not1_any (x y : Int) (w : World) :
    Calls Try.prog 69 #[.int .u64 x, .int .u64 y] w fun e w' => e = .returned (.int .u64 (Tb.nt x)) ∧ w' = w := by
  have hu : Op.unary .xor (.int .u64 x) = pure (.int .u64 (Tb.nt x)) := Tb.nt_op x
  go_enter Try.func69, Try.ntmps69
  go_wp2_with fail
  go_ret
  exact ⟨rfl, rfl⟩

set_option maxHeartbeats 400000 in
theorem not_any (f : Tb.T) (w : World) :
    Calls Try.prog 47 #[Tb.tv f] w fun e w' => e = .returned (Tb.tv (~~~f)) ∧ Below w.heap.size w w' := by
  have hE := each_any f f (~~~f) 69 (fun x y => Tb.nt x) (fun _ _ => rfl) (fun i w _ => not1_any _ _ w) (fun i hi => Tb.nt_wd f i hi)
  have HE := Bx.mk hE
  clear hE
  go_enter Try.func47, Try.ntmps47
  go_wp2_with fail
  refine (HE.out _).mono ?_
  rintro e w1 ⟨rfl, hb⟩
  obtain ⟨hcell, hfr⟩ := bcell hb
  have hz := hb.size
  go_wp2_with fail
  refine bodyPost_ret (v := Tb.tv (~~~f)) (by simp [results, Try.results47, go_sem, hcell]) rfl ⟨rfl, ?_⟩
  repeat (first | exact Below.refl _ _ | apply Below.drew | refine Below.setCell ?_ (by simp <;> omega) _ | refine Below.alloc ?_ (by simp <;> omega) _ | refine Below.trans ?_ (hb.mono (by simp <;> omega)))

end Go.Proofs.Ytfgokhafiffbaaa

/-
  Formulas: small functions.
-/
namespace Go.Proofs.Ytfgokhafiffbaaa
set_option linter.unusedVariables false
open Go.RowKit

/-- how many kids a kind has -/
def Ex.kids (k : Int) : Nat := if k = 3 ∨ k = 10 ∨ k = 11 then 1 else if 4 ≤ k ∧ k ≤ 8 then 2 else if k = 9 then 3 else 0
attribute [irreducible] Ex.kids
theorem Ex.kids1 {k : Int} (h : k = 3 ∨ k = 10 ∨ k = 11) : Ex.kids k = 1 := by unfold Ex.kids; rw [if_pos h]
theorem Ex.kids2 {k : Int} (h : 4 ≤ k ∧ k ≤ 8) : Ex.kids k = 2 := by unfold Ex.kids; rw [if_neg (by omega), if_pos h]
theorem Ex.kids3 {k : Int} (h : k = 9) : Ex.kids k = 3 := by unfold Ex.kids; rw [if_neg (by omega), if_neg (by omega), if_pos h]
theorem Ex.kids0 {k : Int} (h : k < 3 ∨ 11 < k) : Ex.kids k = 0 := by unfold Ex.kids; rw [if_neg (by omega), if_neg (by omega), if_neg (by omega)]

set_option maxHeartbeats 1000000 in
theorem kids_any (k : Int) (w : World) : Calls Try.prog 52 #[.int .i64 k] w fun e w' => e = .returned (.int .i64 (Ex.kids k : Int)) ∧ w' = w := by
  by_cases hr : 3 ≤ k ∧ k ≤ 11
  · obtain ⟨h1, h2⟩ := hr
    have hc : k = 3 ∨ k = 4 ∨ k = 5 ∨ k = 6 ∨ k = 7 ∨ k = 8 ∨ k = 9 ∨ k = 10 ∨ k = 11 := by omega
    clear h1 h2
    rcases hc with rfl | rfl | rfl | rfl | rfl | rfl | rfl | rfl | rfl
    all_goals
      (go_enter Try.func52, Try.ntmps52
       go_wp2_with fail
       go_ret
       exact ⟨by first | (rw [Ex.kids1 (by omega)]; rfl) | (rw [Ex.kids2 (by omega)]; rfl) | (rw [Ex.kids3 (by omega)]; rfl), rfl⟩)
  · have e3 : ¬ k = 3 := by omega
    have e4 : ¬ k = 4 := by omega
    have e5 : ¬ k = 5 := by omega
    have e6 : ¬ k = 6 := by omega
    have e7 : ¬ k = 7 := by omega
    have e8 : ¬ k = 8 := by omega
    have e9 : ¬ k = 9 := by omega
    have ea : ¬ k = 10 := by omega
    have eb : ¬ k = 11 := by omega
    have H := Bx.mk (Ex.kids0 (k := k) (by omega))
    clear hr
    go_enter Try.func52, Try.ntmps52
    go_wp2_with fail
    go_ret
    exact ⟨by rw [H.out]; rfl, rfl⟩

def Ex.letter (c : Nat) : Bool := (decide (97 ≤ c) && decide (c ≤ 122)) || (decide (65 ≤ c) && decide (c ≤ 90))
def Ex.number (c : Nat) : Bool := decide (48 ≤ c) && decide (c ≤ 57)
attribute [irreducible] Ex.letter Ex.number
theorem Ex.letter1 {c : Nat} (h : (97 ≤ c ∧ c ≤ 122) ∨ (65 ≤ c ∧ c ≤ 90)) : Ex.letter c = true := by unfold Ex.letter; simp; omega
theorem Ex.letter0 {c : Nat} (h : ¬ ((97 ≤ c ∧ c ≤ 122) ∨ (65 ≤ c ∧ c ≤ 90))) : Ex.letter c = false := by unfold Ex.letter; simp; omega
theorem Ex.number1 {c : Nat} (h : 48 ≤ c ∧ c ≤ 57) : Ex.number c = true := by unfold Ex.number; simp; omega
theorem Ex.number0 {c : Nat} (h : ¬ (48 ≤ c ∧ c ≤ 57)) : Ex.number c = false := by unfold Ex.number; simp; omega

set_option maxHeartbeats 1000000 in
theorem number_any (c : Nat) (hc : c < 256) (w : World) : Calls Try.prog 59 #[.int .u8 (c : Int)] w fun e w' => e = .returned (.bool (Ex.number c)) ∧ w' = w := by
  by_cases h1 : c < 48
  · have H := Bx.mk (Ex.number0 (c := c) (by omega))
    have q1 : ¬ (c : Int) ≥ 48 := by omega
    go_enter Try.func59, Try.ntmps59
    go_wp2_with fail
    go_ret
    exact ⟨by rw [H.out]; rfl, rfl⟩
  · by_cases h2 : c ≤ 57
    · have H := Bx.mk (Ex.number1 (c := c) (by omega))
      have q1 : (c : Int) ≥ 48 := by omega
      have q2 : (c : Int) ≤ 57 := by omega
      go_enter Try.func59, Try.ntmps59
      go_wp2_with fail
      go_ret
      exact ⟨by rw [H.out]; rfl, rfl⟩
    · have H := Bx.mk (Ex.number0 (c := c) (by omega))
      have q1 : (c : Int) ≥ 48 := by omega
      have q2 : ¬ (c : Int) ≤ 57 := by omega
      go_enter Try.func59, Try.ntmps59
      go_wp2_with fail
      go_ret
      exact ⟨by rw [H.out]; rfl, rfl⟩

set_option maxHeartbeats 1000000 in
theorem letter_any (c : Nat) (hc : c < 256) (w : World) : Calls Try.prog 58 #[.int .u8 (c : Int)] w fun e w' => e = .returned (.bool (Ex.letter c)) ∧ w' = w := by
  have hd : c < 65 ∨ (65 ≤ c ∧ c ≤ 90) ∨ (90 < c ∧ c < 97) ∨ (97 ≤ c ∧ c ≤ 122) ∨ 122 < c := by omega
  rcases hd with h | ⟨h, h'⟩ | ⟨h, h'⟩ | ⟨h, h'⟩ | h
  · have H := Bx.mk (Ex.letter0 (c := c) (by omega))
    have q0 : ¬ (c : Int) ≥ 97 := by omega
    have q1 : ¬ (c : Int) ≥ 65 := by omega
    go_enter Try.func58, Try.ntmps58
    go_wp2_with fail
    go_ret
    exact ⟨by rw [H.out]; rfl, rfl⟩
  · have H := Bx.mk (Ex.letter1 (c := c) (by omega))
    have q0 : ¬ (c : Int) ≥ 97 := by omega
    have q1 : (c : Int) ≥ 65 := by omega
    have q2 : (c : Int) ≤ 90 := by omega
    go_enter Try.func58, Try.ntmps58
    go_wp2_with fail
    go_ret
    exact ⟨by rw [H.out]; rfl, rfl⟩
  · have H := Bx.mk (Ex.letter0 (c := c) (by omega))
    have q0 : ¬ (c : Int) ≥ 97 := by omega
    have q1 : (c : Int) ≥ 65 := by omega
    have q2 : ¬ (c : Int) ≤ 90 := by omega
    go_enter Try.func58, Try.ntmps58
    go_wp2_with fail
    go_ret
    exact ⟨by rw [H.out]; rfl, rfl⟩
  · have H := Bx.mk (Ex.letter1 (c := c) (by omega))
    have q0 : (c : Int) ≥ 97 := by omega
    have q1 : (c : Int) ≤ 122 := by omega
    go_enter Try.func58, Try.ntmps58
    go_wp2_with fail
    go_ret
    exact ⟨by rw [H.out]; rfl, rfl⟩
  · have H := Bx.mk (Ex.letter0 (c := c) (by omega))
    have q0 : (c : Int) ≥ 97 := by omega
    have q1 : ¬ (c : Int) ≤ 122 := by omega
    have q2 : (c : Int) ≥ 65 := by omega
    have q3 : ¬ (c : Int) ≤ 90 := by omega
    go_enter Try.func58, Try.ntmps58
    go_wp2_with fail
    go_ret
    exact ⟨by rw [H.out]; rfl, rfl⟩
end Go.Proofs.Ytfgokhafiffbaaa

/-
  Formulas: small functions on strings.
-/
namespace Go.Proofs.Ytfgokhafiffbaaa
set_option linter.unusedVariables false
open Go.RowKit

set_option maxHeartbeats 1000000 in
theorem variable_len (s : ByteArray) (h : s.size ≠ 2) (w : World) : Calls Try.prog 60 #[.string s] w fun e w' => e = .returned (.bool false) ∧ w' = w := by
  have q1 : ¬ (s.size : Int) = 2 := by omega
  go_enter Try.func60, Try.ntmps60
  go_wp2_with fail
  go_ret
  exact ⟨rfl, rfl⟩
def Ex.vari (a b : Nat) : Bool := decide (a = 118) && (decide (48 ≤ b) && decide (b ≤ 55))
attribute [irreducible] Ex.vari
theorem Ex.vari1 {a b : Nat} (h : a = 118 ∧ 48 ≤ b ∧ b ≤ 55) : Ex.vari a b = true := by unfold Ex.vari; simp; omega
theorem Ex.vari0 {a b : Nat} (h : ¬ (a = 118 ∧ 48 ≤ b ∧ b ≤ 55)) : Ex.vari a b = false := by unfold Ex.vari; simp; omega
set_option maxHeartbeats 1000000 in
theorem variable_two (s : ByteArray) (h : s.size = 2) (a b : Nat) (ha : a < 256) (hb : b < 256) (w : World) (h0 : (Instr.index 9 (.string s) (.int .i64 0)).run Try.prog w = .ok (.int .u8 (a : Int)) w)
    (h1 : (Instr.index 9 (.string s) (.int .i64 1)).run Try.prog w = .ok (.int .u8 (b : Int)) w) :
    Calls Try.prog 60 #[.string s] w fun e w' => e = .returned (.bool (Ex.vari a b)) ∧ w' = w := by
  have q1 : (s.size : Int) = 2 := by omega
  have hd : ¬ a = 118 ∨ (a = 118 ∧ b < 48) ∨ (a = 118 ∧ 48 ≤ b ∧ b ≤ 55) ∨ (a = 118 ∧ 48 ≤ b ∧ ¬ b ≤ 55) := by omega
  rcases hd with d1 | ⟨d1, d2⟩ | ⟨d1, d2, d3⟩ | ⟨d1, d2, d3⟩
  · have H := Bx.mk (Ex.vari0 (a := a) (b := b) (by omega))
    have z0 : ¬ (a : Int) = 118 := by omega
    clear d1
    go_enter Try.func60, Try.ntmps60
    go_wp2_with fail
    go_ret
    exact ⟨by rw [H.out]; rfl, rfl⟩
  · have H := Bx.mk (Ex.vari0 (a := a) (b := b) (by omega))
    have z0 : (a : Int) = 118 := by omega
    have z1 : ¬ (b : Int) ≥ 48 := by omega
    clear d1 d2
    go_enter Try.func60, Try.ntmps60
    go_wp2_with fail
    go_ret
    exact ⟨by rw [H.out]; rfl, rfl⟩
  · have H := Bx.mk (Ex.vari1 (a := a) (b := b) (by omega))
    have z0 : (a : Int) = 118 := by omega
    have z1 : (b : Int) ≥ 48 := by omega
    have z2 : (b : Int) ≤ 55 := by omega
    clear d1 d2 d3
    go_enter Try.func60, Try.ntmps60
    go_wp2_with fail
    go_ret
    exact ⟨by rw [H.out]; rfl, rfl⟩
  · have H := Bx.mk (Ex.vari0 (a := a) (b := b) (by omega))
    have z0 : (a : Int) = 118 := by omega
    have z1 : (b : Int) ≥ 48 := by omega
    have z2 : ¬ (b : Int) ≤ 55 := by omega
    clear d1 d2 d3
    go_enter Try.func60, Try.ntmps60
    go_wp2_with fail
    go_ret
    exact ⟨by rw [H.out]; rfl, rfl⟩
end Go.Proofs.Ytfgokhafiffbaaa

/-
  Formulas, plain: strings as lists of numbers, tokens, the scanner.
-/
namespace Go.Proofs.Ytfgokhafiffbaaa
set_option linter.unusedVariables false
open Go.RowKit

/-- a string's bytes as numbers -/
def bl (s : ByteArray) : List Nat := s.data.toList.map UInt8.toNat
theorem bl_length (s : ByteArray) : (bl s).length = s.size := by simp [bl]
theorem bl_inj {s t : ByteArray} (h : bl s = bl t) : s = t := by
  apply ByteArray.ext
  apply Array.toList_inj.1
  exact (List.map_inj_right (fun a b h => UInt8.toNat.inj h)).1 h
theorem bl_extract (s : ByteArray) (a b : Nat) : bl (s.extract a b) = ((bl s).drop a).take (b - a) := by
  simp [bl, ByteArray.data_extract, List.map_drop, List.map_take]
theorem bl_lt {s : ByteArray} {x : Nat} (h : x ∈ bl s) : x < 256 := by
  simp [bl] at h
  obtain ⟨u, _, rfl⟩ := h
  exact u.toNat_lt
theorem bl_get {s : ByteArray} {i x : Nat} (h : (bl s)[i]? = some x) : ∃ hi : i < s.size, (s[i]'hi).toNat = x := by
  have hl : i < (bl s).length := (List.getElem?_eq_some_iff.1 h).1
  have hi : i < s.size := by rw [bl_length] at hl; exact hl
  refine ⟨hi, ?_⟩
  simp only [bl, List.getElem?_map, Array.getElem?_toList] at h
  have e : s.data[i]? = some (s.data[i]'hi) := by rw [Array.getElem?_eq_getElem hi]
  rw [e] at h
  exact Option.some.inj h
theorem run_idx {s : ByteArray} {i x : Nat} (h : (bl s)[i]? = some x) (w : World) : (Instr.index 9 (.string s) (.int .i64 (i : Int))).run Try.prog w = .ok (.int .u8 (x : Int)) w := by
  obtain ⟨hi, e⟩ := bl_get h
  rw [run_index_string (P := Try.prog) w 9 s .i64 (i : Int) Try.underlying9, dif_pos ⟨by omega, by omega⟩]
  simp only [Int.toNat_natCast, e]
theorem bl_eq (s t : ByteArray) : (s.toList == t.toList) = decide (bl s = bl t) := by
  rw [ByteArray.toList_eq, ByteArray.toList_eq]
  by_cases h : s.data.toList = t.data.toList
  · have : s = t := ByteArray.ext (Array.toList_inj.1 h)
    subst this
    simp
  · have h2 : ¬ bl s = bl t := fun e => h (by rw [bl_inj e])
    rw [decide_eq_false h2]
    exact beq_eq_false_iff_ne.2 h

/-- a string of numbers -/
def strOf (l : List Nat) : ByteArray := ⟨(l.map Nat.toUInt8).toArray⟩
theorem bl_strOf {l : List Nat} (h : ∀ x ∈ l, x < 256) : bl (strOf l) = l := by
  simp only [bl, strOf, List.map_map]
  conv => rhs; rw [← List.map_id l]
  apply List.map_congr_left
  intro x hx
  have := h x hx
  show (Nat.toUInt8 x).toNat = x
  simp [Nat.toUInt8, UInt8.toNat_ofNat', Nat.mod_eq_of_lt this]
theorem strOf_bl (s : ByteArray) : strOf (bl s) = s := bl_inj (bl_strOf fun x hx => bl_lt hx)

/-- the signs of a formula -/
inductive Tok where
  | iff | imp | not | and | or | xor | lp | rp | comma | zero | one | all | any | ite | var (n : Fin 8) | bad | eof
  deriving DecidableEq
def Tok.txt : Tok → List Nat
  | .iff => [60, 45, 62] | .imp => [45, 62] | .not => [33] | .and => [38] | .or => [124] | .xor => [94] | .lp => [40] | .rp => [41] | .comma => [44]
  | .zero => [48] | .one => [49] | .all => [97, 108, 108] | .any => [97, 110, 121] | .ite => [105, 116, 101] | .var n => [118, 48 + n.val] | .bad => [63] | .eof => []
def Tok.str (t : Tok) : ByteArray := strOf t.txt
theorem Tok.txt_lt (t : Tok) : ∀ x ∈ t.txt, x < 256 := by
  cases t <;> simp [Tok.txt]
  rename_i n; have := n.isLt; omega
theorem Tok.bl_str (t : Tok) : bl t.str = t.txt := bl_strOf t.txt_lt
theorem Tok.txt_inj {t u : Tok} (h : t.txt = u.txt) : t = u := by
  cases t <;> cases u <;> simp [Tok.txt] at h ⊢
  exact Fin.ext h
theorem Tok.str_eq (t u : Tok) : (t.str.toList == u.str.toList) = decide (t = u) := by
  rw [bl_eq, Tok.bl_str, Tok.bl_str]
  by_cases h : t = u
  · subst h; simp
  · rw [decide_eq_false h, decide_eq_false (fun e => h (Tok.txt_inj e))]
theorem Tok.txt_len (t : Tok) : t ≠ .eof → 0 < t.txt.length := by cases t <;> simp [Tok.txt]

/-- how many letters and digits stand at the front -/
def Lx.word : List Nat → Nat
  | [] => 0
  | c :: r => if Ex.letter c || Ex.number c then 1 + Lx.word r else 0
theorem Lx.word_le (l : List Nat) : Lx.word l ≤ l.length := by
  induction l with
  | nil => simp [Lx.word]
  | cons c r ih => simp only [Lx.word, List.length_cons]; split <;> omega
def Lx.vr : List Nat → Bool
  | [a, b] => Ex.vari a b
  | _ => false
/-- the word's sign -/
def Lx.kw (l : List Nat) : Tok :=
  if l = [97, 108, 108] then .all else if l = [97, 110, 121] then .any else if l = [105, 116, 101] then .ite else
  if Lx.vr l then .var (Fin.ofNat 8 (l.getD 1 0 - 48)) else .bad
theorem Lx.vr_spec {l : List Nat} (h : Lx.vr l = true) : ∃ b, l = [118, b] ∧ 48 ≤ b ∧ b ≤ 55 := by
  match l, h with
  | [a, b], h =>
    have h : Ex.vari a b = true := h
    unfold Ex.vari at h
    simp at h
    exact ⟨b, by rw [h.1], h.2.1, h.2.2⟩
  | [], h => cases h
  | [_], h => cases h
  | _ :: _ :: _ :: _, h => cases h
theorem Lx.vr_mk {b : Nat} (h1 : 48 ≤ b) (h2 : b ≤ 55) : Lx.vr [118, b] = true := by
  show Ex.vari 118 b = true
  unfold Ex.vari
  simp [h1, h2]
def Lx.pre (p l : List Nat) : Bool := decide (l.take p.length = p)
/-- the first sign of a text that begins with no blank -/
def Lx.scan (l : List Nat) : Tok :=
  if Lx.pre [60, 45, 62] l then .iff else if Lx.pre [45, 62] l then .imp else if Lx.pre [33] l then .not else if Lx.pre [38] l then .and else if Lx.pre [124] l then .or
  else if Lx.pre [94] l then .xor else if Lx.pre [40] l then .lp else if Lx.pre [41] l then .rp else if Lx.pre [44] l then .comma else
  match l with
  | [] => .eof
  | c :: r => if c = 48 then .zero else if c = 49 then .one else if Ex.letter c then Lx.kw (c :: r.take (Lx.word r)) else .bad
def Lx.blank (c : Nat) : Bool := c == 32 || c == 9 || c == 10
/-- how many blanks stand at the front -/
def Lx.skip : List Nat → Nat
  | [] => 0
  | c :: r => if Lx.blank c then 1 + Lx.skip r else 0
theorem Lx.skip_le (l : List Nat) : Lx.skip l ≤ l.length := by
  induction l with
  | nil => simp [Lx.skip]
  | cons c r ih => simp only [Lx.skip, List.length_cons]; split <;> omega
theorem Lx.pre_take {p l : List Nat} (h : Lx.pre p l = true) : l.take p.length = p := of_decide_eq_true h
theorem Lx.kw_txt (l : List Nat) (h : Lx.kw l ≠ .bad) (hl : ∀ x ∈ l, x < 256) : (Lx.kw l).txt = l := by
  unfold Lx.kw at h ⊢
  by_cases h1 : l = [97, 108, 108]
  · rw [if_pos h1]; exact h1.symm
  rw [if_neg h1] at h ⊢
  by_cases h2 : l = [97, 110, 121]
  · rw [if_pos h2]; exact h2.symm
  rw [if_neg h2] at h ⊢
  by_cases h3 : l = [105, 116, 101]
  · rw [if_pos h3]; exact h3.symm
  rw [if_neg h3] at h ⊢
  cases hv : Lx.vr l with
  | false => rw [hv] at h; exact absurd rfl h
  | true =>
    obtain ⟨b, rfl, h1, h2⟩ := Lx.vr_spec hv
    simp [Fin.ofNat, Tok.txt]
    omega
theorem Lx.scan_txt (l : List Nat) (hl : ∀ x ∈ l, x < 256) (h : Lx.scan l ≠ .bad) : l.take (Lx.scan l).txt.length = (Lx.scan l).txt := by
  revert h
  unfold Lx.scan
  by_cases h0 : Lx.pre [60, 45, 62] l = true
  · rw [if_pos h0]; intro _; exact Lx.pre_take h0
  rw [if_neg h0]
  by_cases h1 : Lx.pre [45, 62] l = true
  · rw [if_pos h1]; intro _; exact Lx.pre_take h1
  rw [if_neg h1]
  by_cases h2 : Lx.pre [33] l = true
  · rw [if_pos h2]; intro _; exact Lx.pre_take h2
  rw [if_neg h2]
  by_cases h3 : Lx.pre [38] l = true
  · rw [if_pos h3]; intro _; exact Lx.pre_take h3
  rw [if_neg h3]
  by_cases h4 : Lx.pre [124] l = true
  · rw [if_pos h4]; intro _; exact Lx.pre_take h4
  rw [if_neg h4]
  by_cases h5 : Lx.pre [94] l = true
  · rw [if_pos h5]; intro _; exact Lx.pre_take h5
  rw [if_neg h5]
  by_cases h6 : Lx.pre [40] l = true
  · rw [if_pos h6]; intro _; exact Lx.pre_take h6
  rw [if_neg h6]
  by_cases h7 : Lx.pre [41] l = true
  · rw [if_pos h7]; intro _; exact Lx.pre_take h7
  rw [if_neg h7]
  by_cases h8 : Lx.pre [44] l = true
  · rw [if_pos h8]; intro _; exact Lx.pre_take h8
  rw [if_neg h8]
  match l, hl with
  | [], _ => intro _; rfl
  | c :: r, hl =>
    simp only []
    by_cases g0 : c = 48
    · rw [if_pos g0]; intro _; subst g0; rfl
    rw [if_neg g0]
    by_cases g1 : c = 49
    · rw [if_pos g1]; intro _; subst g1; rfl
    rw [if_neg g1]
    cases g2 : Ex.letter c with
    | false => simp
    | true =>
      simp only [if_true]
      intro hb
      have := Lx.kw_txt _ hb (fun x hx => by
        rcases List.mem_cons.1 hx with rfl | hx
        · exact hl _ (List.mem_cons_self)
        · exact hl _ (List.mem_cons_of_mem _ (List.mem_of_mem_take hx)))
      rw [this]
      simp [Nat.min_eq_left (Lx.word_le r)]
theorem Lx.scan_nil : Lx.scan [] = .eof := by decide +kernel
theorem Lx.scan_len (l : List Nat) (hl : ∀ x ∈ l, x < 256) : (Lx.scan l).txt.length ≤ l.length := by
  by_cases h : Lx.scan l = .bad
  · rw [h]
    cases l with
    | nil => rw [Lx.scan_nil] at h; cases h
    | cons c r => simp [Tok.txt]
  · have := congrArg List.length (Lx.scan_txt l hl h)
    rw [List.length_take] at this
    omega
attribute [irreducible] Lx.scan Lx.kw Lx.pre Lx.word Lx.skip Lx.blank Lx.vr Tok.str Tok.txt bl strOf
end Go.Proofs.Ytfgokhafiffbaaa

/-
  Formulas: strings.HasPrefix, expr.scan.
-/
namespace Go.Proofs.Ytfgokhafiffbaaa
set_option linter.unusedVariables false
open Go.RowKit

set_option maxHeartbeats 1000000 in
theorem litePrefix_any (s k : ByteArray) (w : World) : Calls Try.prog 76 #[.string s, .string k] w fun e w' => e = .returned (.bool (Lx.pre (bl k) (bl s))) ∧ w' = w := by
  have hE : ((s.extract 0 k.size).toList == k.toList) = Lx.pre (bl k) (bl s) := by
    rw [bl_eq, bl_extract]; unfold Lx.pre; rw [bl_length]; simp
  by_cases h : k.size ≤ s.size
  · have q1 : (s.size : Int) ≥ k.size := by omega
    have q2 : (k.size : Int) ≤ s.size := by omega
    go_enter Try.func76, Try.ntmps76
    go_wp2_with fail
    go_ret
    exact ⟨rfl, rfl⟩
  · have q1 : ¬ (s.size : Int) ≥ k.size := by omega
    have hF : Lx.pre (bl k) (bl s) = false := by
      unfold Lx.pre
      refine decide_eq_false fun e => ?_
      have := congrArg List.length e
      rw [List.length_take, bl_length, bl_length] at this
      omega
    have H := Bx.mk hF
    clear hE hF
    go_enter Try.func76, Try.ntmps76
    go_wp2_with fail
    go_ret
    exact ⟨by rw [H.out]; rfl, rfl⟩
set_option maxHeartbeats 1000000 in
theorem prefix_any (s k : ByteArray) (w : World) : Calls Try.prog 57 #[.string s, .string k] w fun e w' => e = .returned (.bool (Lx.pre (bl k) (bl s))) ∧ w' = w := by
  go_enter Try.func57, Try.ntmps57
  go_wp2_with fail
  refine (litePrefix_any s k _).mono ?_
  rintro e w1 ⟨rfl, rfl⟩
  go_wp2_with fail
  go_ret
  exact ⟨rfl, rfl⟩
theorem prefix_is (s k : ByteArray) {l : List Nat} {b : Bool} (hl : bl k = l) (h : Lx.pre l (bl s) = b) (w : World) : Calls Try.prog 57 #[.string s, .string k] w fun e w' => e = .returned (.bool b) ∧ w' = w := by
  have := prefix_any s k w
  rw [hl, h] at this
  exact this
theorem bl_mk (l : List UInt8) : bl ⟨l.toArray⟩ = l.map UInt8.toNat := by simp [bl]

theorem scan_ix0 (w : World) : (Instr.index 78 (.agg #[.string { data := #[60, 45, 62] }, .string { data := #[45, 62] }, .string { data := #[33] }, .string { data := #[38] }, .string { data := #[124] }, .string { data := #[94] }, .string { data := #[40] }, .string { data := #[41] }, .string { data := #[44] }]) (.int .i64 0)).run Try.prog w = .ok (.string { data := #[60, 45, 62] }) w := by kernel_rfl
theorem scan_ix1 (w : World) : (Instr.index 78 (.agg #[.string { data := #[60, 45, 62] }, .string { data := #[45, 62] }, .string { data := #[33] }, .string { data := #[38] }, .string { data := #[124] }, .string { data := #[94] }, .string { data := #[40] }, .string { data := #[41] }, .string { data := #[44] }]) (.int .i64 1)).run Try.prog w = .ok (.string { data := #[45, 62] }) w := by kernel_rfl
theorem scan_ix2 (w : World) : (Instr.index 78 (.agg #[.string { data := #[60, 45, 62] }, .string { data := #[45, 62] }, .string { data := #[33] }, .string { data := #[38] }, .string { data := #[124] }, .string { data := #[94] }, .string { data := #[40] }, .string { data := #[41] }, .string { data := #[44] }]) (.int .i64 2)).run Try.prog w = .ok (.string { data := #[33] }) w := by kernel_rfl
theorem scan_ix3 (w : World) : (Instr.index 78 (.agg #[.string { data := #[60, 45, 62] }, .string { data := #[45, 62] }, .string { data := #[33] }, .string { data := #[38] }, .string { data := #[124] }, .string { data := #[94] }, .string { data := #[40] }, .string { data := #[41] }, .string { data := #[44] }]) (.int .i64 3)).run Try.prog w = .ok (.string { data := #[38] }) w := by kernel_rfl
theorem scan_ix4 (w : World) : (Instr.index 78 (.agg #[.string { data := #[60, 45, 62] }, .string { data := #[45, 62] }, .string { data := #[33] }, .string { data := #[38] }, .string { data := #[124] }, .string { data := #[94] }, .string { data := #[40] }, .string { data := #[41] }, .string { data := #[44] }]) (.int .i64 4)).run Try.prog w = .ok (.string { data := #[124] }) w := by kernel_rfl
theorem scan_ix5 (w : World) : (Instr.index 78 (.agg #[.string { data := #[60, 45, 62] }, .string { data := #[45, 62] }, .string { data := #[33] }, .string { data := #[38] }, .string { data := #[124] }, .string { data := #[94] }, .string { data := #[40] }, .string { data := #[41] }, .string { data := #[44] }]) (.int .i64 5)).run Try.prog w = .ok (.string { data := #[94] }) w := by kernel_rfl
theorem scan_ix6 (w : World) : (Instr.index 78 (.agg #[.string { data := #[60, 45, 62] }, .string { data := #[45, 62] }, .string { data := #[33] }, .string { data := #[38] }, .string { data := #[124] }, .string { data := #[94] }, .string { data := #[40] }, .string { data := #[41] }, .string { data := #[44] }]) (.int .i64 6)).run Try.prog w = .ok (.string { data := #[40] }) w := by kernel_rfl
theorem scan_ix7 (w : World) : (Instr.index 78 (.agg #[.string { data := #[60, 45, 62] }, .string { data := #[45, 62] }, .string { data := #[33] }, .string { data := #[38] }, .string { data := #[124] }, .string { data := #[94] }, .string { data := #[40] }, .string { data := #[41] }, .string { data := #[44] }]) (.int .i64 7)).run Try.prog w = .ok (.string { data := #[41] }) w := by kernel_rfl
theorem scan_ix8 (w : World) : (Instr.index 78 (.agg #[.string { data := #[60, 45, 62] }, .string { data := #[45, 62] }, .string { data := #[33] }, .string { data := #[38] }, .string { data := #[124] }, .string { data := #[94] }, .string { data := #[40] }, .string { data := #[41] }, .string { data := #[44] }]) (.int .i64 8)).run Try.prog w = .ok (.string { data := #[44] }) w := by kernel_rfl
theorem scan_bl0 : bl { data := #[60, 45, 62] } = [60, 45, 62] := by unfold bl; decide +kernel
theorem scan_str0 : ({ data := #[60, 45, 62] } : ByteArray) = Tok.str .iff := by unfold Tok.str Tok.txt strOf; decide +kernel
theorem scan_bl1 : bl { data := #[45, 62] } = [45, 62] := by unfold bl; decide +kernel
theorem scan_str1 : ({ data := #[45, 62] } : ByteArray) = Tok.str .imp := by unfold Tok.str Tok.txt strOf; decide +kernel
theorem scan_bl2 : bl { data := #[33] } = [33] := by unfold bl; decide +kernel
theorem scan_str2 : ({ data := #[33] } : ByteArray) = Tok.str .not := by unfold Tok.str Tok.txt strOf; decide +kernel
theorem scan_bl3 : bl { data := #[38] } = [38] := by unfold bl; decide +kernel
theorem scan_str3 : ({ data := #[38] } : ByteArray) = Tok.str .and := by unfold Tok.str Tok.txt strOf; decide +kernel
theorem scan_bl4 : bl { data := #[124] } = [124] := by unfold bl; decide +kernel
theorem scan_str4 : ({ data := #[124] } : ByteArray) = Tok.str .or := by unfold Tok.str Tok.txt strOf; decide +kernel
theorem scan_bl5 : bl { data := #[94] } = [94] := by unfold bl; decide +kernel
theorem scan_str5 : ({ data := #[94] } : ByteArray) = Tok.str .xor := by unfold Tok.str Tok.txt strOf; decide +kernel
theorem scan_bl6 : bl { data := #[40] } = [40] := by unfold bl; decide +kernel
theorem scan_str6 : ({ data := #[40] } : ByteArray) = Tok.str .lp := by unfold Tok.str Tok.txt strOf; decide +kernel
theorem scan_bl7 : bl { data := #[41] } = [41] := by unfold bl; decide +kernel
theorem scan_str7 : ({ data := #[41] } : ByteArray) = Tok.str .rp := by unfold Tok.str Tok.txt strOf; decide +kernel
theorem scan_bl8 : bl { data := #[44] } = [44] := by unfold bl; decide +kernel
theorem scan_str8 : ({ data := #[44] } : ByteArray) = Tok.str .comma := by unfold Tok.str Tok.txt strOf; decide +kernel

set_option maxHeartbeats 4000000 in
theorem scan_is0 (s : ByteArray) (w : World) (P0 : Bx (Lx.pre [60, 45, 62] (bl s) = true)) : Calls Try.prog 42 #[.string s] w fun e w' => e = .returned (.string (Tok.str .iff)) ∧ w' = w := by
  have i0 := scan_ix0
  go_enter Try.func42, Try.ntmps42
  go_wp2_with fail
  refine wp_loop_rounds 1 ?_
  rw [rounds_succ]
  go_wp2_with fail
  refine (prefix_is s _ scan_bl0 P0.out _).mono ?_
  rintro e w1 ⟨rfl, rfl⟩
  go_wp2_with fail
  go_ret
  exact ⟨by rw [← scan_str0]; rfl, rfl⟩
set_option maxHeartbeats 4000000 in
theorem scan_is1 (s : ByteArray) (w : World) (P0 : Bx (Lx.pre [60, 45, 62] (bl s) = false)) (P1 : Bx (Lx.pre [45, 62] (bl s) = true)) : Calls Try.prog 42 #[.string s] w fun e w' => e = .returned (.string (Tok.str .imp)) ∧ w' = w := by
  have i0 := scan_ix0
  have i1 := scan_ix1
  go_enter Try.func42, Try.ntmps42
  go_wp2_with fail
  refine wp_loop_rounds 2 ?_
  rw [rounds_succ]
  go_wp2_with fail
  refine (prefix_is s _ scan_bl0 P0.out _).mono ?_
  rintro e w1 ⟨rfl, rfl⟩
  go_wp2_with fail
  rw [rounds_succ]
  go_wp2_with fail
  refine (prefix_is s _ scan_bl1 P1.out _).mono ?_
  rintro e w1 ⟨rfl, rfl⟩
  go_wp2_with fail
  go_ret
  exact ⟨by rw [← scan_str1]; rfl, rfl⟩
set_option maxHeartbeats 4000000 in
theorem scan_is2 (s : ByteArray) (w : World) (P0 : Bx (Lx.pre [60, 45, 62] (bl s) = false)) (P1 : Bx (Lx.pre [45, 62] (bl s) = false)) (P2 : Bx (Lx.pre [33] (bl s) = true)) : Calls Try.prog 42 #[.string s] w fun e w' => e = .returned (.string (Tok.str .not)) ∧ w' = w := by
  have i0 := scan_ix0
  have i1 := scan_ix1
  have i2 := scan_ix2
  go_enter Try.func42, Try.ntmps42
  go_wp2_with fail
  refine wp_loop_rounds 3 ?_
  rw [rounds_succ]
  go_wp2_with fail
  refine (prefix_is s _ scan_bl0 P0.out _).mono ?_
  rintro e w1 ⟨rfl, rfl⟩
  go_wp2_with fail
  rw [rounds_succ]
  go_wp2_with fail
  refine (prefix_is s _ scan_bl1 P1.out _).mono ?_
  rintro e w1 ⟨rfl, rfl⟩
  go_wp2_with fail
  rw [rounds_succ]
  go_wp2_with fail
  refine (prefix_is s _ scan_bl2 P2.out _).mono ?_
  rintro e w1 ⟨rfl, rfl⟩
  go_wp2_with fail
  go_ret
  exact ⟨by rw [← scan_str2]; rfl, rfl⟩
set_option maxHeartbeats 4000000 in
theorem scan_is3 (s : ByteArray) (w : World) (P0 : Bx (Lx.pre [60, 45, 62] (bl s) = false)) (P1 : Bx (Lx.pre [45, 62] (bl s) = false)) (P2 : Bx (Lx.pre [33] (bl s) = false)) (P3 : Bx (Lx.pre [38] (bl s) = true)) : Calls Try.prog 42 #[.string s] w fun e w' => e = .returned (.string (Tok.str .and)) ∧ w' = w := by
  have i0 := scan_ix0
  have i1 := scan_ix1
  have i2 := scan_ix2
  have i3 := scan_ix3
  go_enter Try.func42, Try.ntmps42
  go_wp2_with fail
  refine wp_loop_rounds 4 ?_
  rw [rounds_succ]
  go_wp2_with fail
  refine (prefix_is s _ scan_bl0 P0.out _).mono ?_
  rintro e w1 ⟨rfl, rfl⟩
  go_wp2_with fail
  rw [rounds_succ]
  go_wp2_with fail
  refine (prefix_is s _ scan_bl1 P1.out _).mono ?_
  rintro e w1 ⟨rfl, rfl⟩
  go_wp2_with fail
  rw [rounds_succ]
  go_wp2_with fail
  refine (prefix_is s _ scan_bl2 P2.out _).mono ?_
  rintro e w1 ⟨rfl, rfl⟩
  go_wp2_with fail
  rw [rounds_succ]
  go_wp2_with fail
  refine (prefix_is s _ scan_bl3 P3.out _).mono ?_
  rintro e w1 ⟨rfl, rfl⟩
  go_wp2_with fail
  go_ret
  exact ⟨by rw [← scan_str3]; rfl, rfl⟩
set_option maxHeartbeats 4000000 in
theorem scan_is4 (s : ByteArray) (w : World) (P0 : Bx (Lx.pre [60, 45, 62] (bl s) = false)) (P1 : Bx (Lx.pre [45, 62] (bl s) = false)) (P2 : Bx (Lx.pre [33] (bl s) = false)) (P3 : Bx (Lx.pre [38] (bl s) = false)) (P4 : Bx (Lx.pre [124] (bl s) = true)) : Calls Try.prog 42 #[.string s] w fun e w' => e = .returned (.string (Tok.str .or)) ∧ w' = w := by
  have i0 := scan_ix0
  have i1 := scan_ix1
  have i2 := scan_ix2
  have i3 := scan_ix3
  have i4 := scan_ix4
  go_enter Try.func42, Try.ntmps42
  go_wp2_with fail
  refine wp_loop_rounds 5 ?_
  rw [rounds_succ]
  go_wp2_with fail
  refine (prefix_is s _ scan_bl0 P0.out _).mono ?_
  rintro e w1 ⟨rfl, rfl⟩
  go_wp2_with fail
  rw [rounds_succ]
  go_wp2_with fail
  refine (prefix_is s _ scan_bl1 P1.out _).mono ?_
  rintro e w1 ⟨rfl, rfl⟩
  go_wp2_with fail
  rw [rounds_succ]
  go_wp2_with fail
  refine (prefix_is s _ scan_bl2 P2.out _).mono ?_
  rintro e w1 ⟨rfl, rfl⟩
  go_wp2_with fail
  rw [rounds_succ]
  go_wp2_with fail
  refine (prefix_is s _ scan_bl3 P3.out _).mono ?_
  rintro e w1 ⟨rfl, rfl⟩
  go_wp2_with fail
  rw [rounds_succ]
  go_wp2_with fail
  refine (prefix_is s _ scan_bl4 P4.out _).mono ?_
  rintro e w1 ⟨rfl, rfl⟩
  go_wp2_with fail
  go_ret
  exact ⟨by rw [← scan_str4]; rfl, rfl⟩
set_option maxHeartbeats 4000000 in
theorem scan_is5 (s : ByteArray) (w : World) (P0 : Bx (Lx.pre [60, 45, 62] (bl s) = false)) (P1 : Bx (Lx.pre [45, 62] (bl s) = false)) (P2 : Bx (Lx.pre [33] (bl s) = false)) (P3 : Bx (Lx.pre [38] (bl s) = false)) (P4 : Bx (Lx.pre [124] (bl s) = false)) (P5 : Bx (Lx.pre [94] (bl s) = true)) : Calls Try.prog 42 #[.string s] w fun e w' => e = .returned (.string (Tok.str .xor)) ∧ w' = w := by
  have i0 := scan_ix0
  have i1 := scan_ix1
  have i2 := scan_ix2
  have i3 := scan_ix3
  have i4 := scan_ix4
  have i5 := scan_ix5
  go_enter Try.func42, Try.ntmps42
  go_wp2_with fail
  refine wp_loop_rounds 6 ?_
  rw [rounds_succ]
  go_wp2_with fail
  refine (prefix_is s _ scan_bl0 P0.out _).mono ?_
  rintro e w1 ⟨rfl, rfl⟩
  go_wp2_with fail
  rw [rounds_succ]
  go_wp2_with fail
  refine (prefix_is s _ scan_bl1 P1.out _).mono ?_
  rintro e w1 ⟨rfl, rfl⟩
  go_wp2_with fail
  rw [rounds_succ]
  go_wp2_with fail
  refine (prefix_is s _ scan_bl2 P2.out _).mono ?_
  rintro e w1 ⟨rfl, rfl⟩
  go_wp2_with fail
  rw [rounds_succ]
  go_wp2_with fail
  refine (prefix_is s _ scan_bl3 P3.out _).mono ?_
  rintro e w1 ⟨rfl, rfl⟩
  go_wp2_with fail
  rw [rounds_succ]
  go_wp2_with fail
  refine (prefix_is s _ scan_bl4 P4.out _).mono ?_
  rintro e w1 ⟨rfl, rfl⟩
  go_wp2_with fail
  rw [rounds_succ]
  go_wp2_with fail
  refine (prefix_is s _ scan_bl5 P5.out _).mono ?_
  rintro e w1 ⟨rfl, rfl⟩
  go_wp2_with fail
  go_ret
  exact ⟨by rw [← scan_str5]; rfl, rfl⟩
set_option maxHeartbeats 4000000 in
theorem scan_is6 (s : ByteArray) (w : World) (P0 : Bx (Lx.pre [60, 45, 62] (bl s) = false)) (P1 : Bx (Lx.pre [45, 62] (bl s) = false)) (P2 : Bx (Lx.pre [33] (bl s) = false)) (P3 : Bx (Lx.pre [38] (bl s) = false)) (P4 : Bx (Lx.pre [124] (bl s) = false)) (P5 : Bx (Lx.pre [94] (bl s) = false)) (P6 : Bx (Lx.pre [40] (bl s) = true)) : Calls Try.prog 42 #[.string s] w fun e w' => e = .returned (.string (Tok.str .lp)) ∧ w' = w := by
  have i0 := scan_ix0
  have i1 := scan_ix1
  have i2 := scan_ix2
  have i3 := scan_ix3
  have i4 := scan_ix4
  have i5 := scan_ix5
  have i6 := scan_ix6
  go_enter Try.func42, Try.ntmps42
  go_wp2_with fail
  refine wp_loop_rounds 7 ?_
  rw [rounds_succ]
  go_wp2_with fail
  refine (prefix_is s _ scan_bl0 P0.out _).mono ?_
  rintro e w1 ⟨rfl, rfl⟩
  go_wp2_with fail
  rw [rounds_succ]
  go_wp2_with fail
  refine (prefix_is s _ scan_bl1 P1.out _).mono ?_
  rintro e w1 ⟨rfl, rfl⟩
  go_wp2_with fail
  rw [rounds_succ]
  go_wp2_with fail
  refine (prefix_is s _ scan_bl2 P2.out _).mono ?_
  rintro e w1 ⟨rfl, rfl⟩
  go_wp2_with fail
  rw [rounds_succ]
  go_wp2_with fail
  refine (prefix_is s _ scan_bl3 P3.out _).mono ?_
  rintro e w1 ⟨rfl, rfl⟩
  go_wp2_with fail
  rw [rounds_succ]
  go_wp2_with fail
  refine (prefix_is s _ scan_bl4 P4.out _).mono ?_
  rintro e w1 ⟨rfl, rfl⟩
  go_wp2_with fail
  rw [rounds_succ]
  go_wp2_with fail
  refine (prefix_is s _ scan_bl5 P5.out _).mono ?_
  rintro e w1 ⟨rfl, rfl⟩
  go_wp2_with fail
  rw [rounds_succ]
  go_wp2_with fail
  refine (prefix_is s _ scan_bl6 P6.out _).mono ?_
  rintro e w1 ⟨rfl, rfl⟩
  go_wp2_with fail
  go_ret
  exact ⟨by rw [← scan_str6]; rfl, rfl⟩
set_option maxHeartbeats 4000000 in
theorem scan_is7 (s : ByteArray) (w : World) (P0 : Bx (Lx.pre [60, 45, 62] (bl s) = false)) (P1 : Bx (Lx.pre [45, 62] (bl s) = false)) (P2 : Bx (Lx.pre [33] (bl s) = false)) (P3 : Bx (Lx.pre [38] (bl s) = false)) (P4 : Bx (Lx.pre [124] (bl s) = false)) (P5 : Bx (Lx.pre [94] (bl s) = false)) (P6 : Bx (Lx.pre [40] (bl s) = false)) (P7 : Bx (Lx.pre [41] (bl s) = true)) : Calls Try.prog 42 #[.string s] w fun e w' => e = .returned (.string (Tok.str .rp)) ∧ w' = w := by
  have i0 := scan_ix0
  have i1 := scan_ix1
  have i2 := scan_ix2
  have i3 := scan_ix3
  have i4 := scan_ix4
  have i5 := scan_ix5
  have i6 := scan_ix6
  have i7 := scan_ix7
  go_enter Try.func42, Try.ntmps42
  go_wp2_with fail
  refine wp_loop_rounds 8 ?_
  rw [rounds_succ]
  go_wp2_with fail
  refine (prefix_is s _ scan_bl0 P0.out _).mono ?_
  rintro e w1 ⟨rfl, rfl⟩
  go_wp2_with fail
  rw [rounds_succ]
  go_wp2_with fail
  refine (prefix_is s _ scan_bl1 P1.out _).mono ?_
  rintro e w1 ⟨rfl, rfl⟩
  go_wp2_with fail
  rw [rounds_succ]
  go_wp2_with fail
  refine (prefix_is s _ scan_bl2 P2.out _).mono ?_
  rintro e w1 ⟨rfl, rfl⟩
  go_wp2_with fail
  rw [rounds_succ]
  go_wp2_with fail
  refine (prefix_is s _ scan_bl3 P3.out _).mono ?_
  rintro e w1 ⟨rfl, rfl⟩
  go_wp2_with fail
  rw [rounds_succ]
  go_wp2_with fail
  refine (prefix_is s _ scan_bl4 P4.out _).mono ?_
  rintro e w1 ⟨rfl, rfl⟩
  go_wp2_with fail
  rw [rounds_succ]
  go_wp2_with fail
  refine (prefix_is s _ scan_bl5 P5.out _).mono ?_
  rintro e w1 ⟨rfl, rfl⟩
  go_wp2_with fail
  rw [rounds_succ]
  go_wp2_with fail
  refine (prefix_is s _ scan_bl6 P6.out _).mono ?_
  rintro e w1 ⟨rfl, rfl⟩
  go_wp2_with fail
  rw [rounds_succ]
  go_wp2_with fail
  refine (prefix_is s _ scan_bl7 P7.out _).mono ?_
  rintro e w1 ⟨rfl, rfl⟩
  go_wp2_with fail
  go_ret
  exact ⟨by rw [← scan_str7]; rfl, rfl⟩
set_option maxHeartbeats 4000000 in
theorem scan_is8 (s : ByteArray) (w : World) (P0 : Bx (Lx.pre [60, 45, 62] (bl s) = false)) (P1 : Bx (Lx.pre [45, 62] (bl s) = false)) (P2 : Bx (Lx.pre [33] (bl s) = false)) (P3 : Bx (Lx.pre [38] (bl s) = false)) (P4 : Bx (Lx.pre [124] (bl s) = false)) (P5 : Bx (Lx.pre [94] (bl s) = false)) (P6 : Bx (Lx.pre [40] (bl s) = false)) (P7 : Bx (Lx.pre [41] (bl s) = false)) (P8 : Bx (Lx.pre [44] (bl s) = true)) : Calls Try.prog 42 #[.string s] w fun e w' => e = .returned (.string (Tok.str .comma)) ∧ w' = w := by
  have i0 := scan_ix0
  have i1 := scan_ix1
  have i2 := scan_ix2
  have i3 := scan_ix3
  have i4 := scan_ix4
  have i5 := scan_ix5
  have i6 := scan_ix6
  have i7 := scan_ix7
  have i8 := scan_ix8
  go_enter Try.func42, Try.ntmps42
  go_wp2_with fail
  refine wp_loop_rounds 9 ?_
  rw [rounds_succ]
  go_wp2_with fail
  refine (prefix_is s _ scan_bl0 P0.out _).mono ?_
  rintro e w1 ⟨rfl, rfl⟩
  go_wp2_with fail
  rw [rounds_succ]
  go_wp2_with fail
  refine (prefix_is s _ scan_bl1 P1.out _).mono ?_
  rintro e w1 ⟨rfl, rfl⟩
  go_wp2_with fail
  rw [rounds_succ]
  go_wp2_with fail
  refine (prefix_is s _ scan_bl2 P2.out _).mono ?_
  rintro e w1 ⟨rfl, rfl⟩
  go_wp2_with fail
  rw [rounds_succ]
  go_wp2_with fail
  refine (prefix_is s _ scan_bl3 P3.out _).mono ?_
  rintro e w1 ⟨rfl, rfl⟩
  go_wp2_with fail
  rw [rounds_succ]
  go_wp2_with fail
  refine (prefix_is s _ scan_bl4 P4.out _).mono ?_
  rintro e w1 ⟨rfl, rfl⟩
  go_wp2_with fail
  rw [rounds_succ]
  go_wp2_with fail
  refine (prefix_is s _ scan_bl5 P5.out _).mono ?_
  rintro e w1 ⟨rfl, rfl⟩
  go_wp2_with fail
  rw [rounds_succ]
  go_wp2_with fail
  refine (prefix_is s _ scan_bl6 P6.out _).mono ?_
  rintro e w1 ⟨rfl, rfl⟩
  go_wp2_with fail
  rw [rounds_succ]
  go_wp2_with fail
  refine (prefix_is s _ scan_bl7 P7.out _).mono ?_
  rintro e w1 ⟨rfl, rfl⟩
  go_wp2_with fail
  rw [rounds_succ]
  go_wp2_with fail
  refine (prefix_is s _ scan_bl8 P8.out _).mono ?_
  rintro e w1 ⟨rfl, rfl⟩
  go_wp2_with fail
  go_ret
  exact ⟨by rw [← scan_str8]; rfl, rfl⟩
end Go.Proofs.Ytfgokhafiffbaaa

/-
  Formulas: expr.scan where no sign of brackets or operators stands in front.
-/
namespace Go.Proofs.Ytfgokhafiffbaaa
set_option linter.unusedVariables false
open Go.RowKit

structure NoSign (s : ByteArray) : Prop where
  p0 : Lx.pre [60, 45, 62] (bl s) = false
  p1 : Lx.pre [45, 62] (bl s) = false
  p2 : Lx.pre [33] (bl s) = false
  p3 : Lx.pre [38] (bl s) = false
  p4 : Lx.pre [124] (bl s) = false
  p5 : Lx.pre [94] (bl s) = false
  p6 : Lx.pre [40] (bl s) = false
  p7 : Lx.pre [41] (bl s) = false
  p8 : Lx.pre [44] (bl s) = false
theorem str_bad : ({ data := #[63] } : ByteArray) = Tok.str .bad := by unfold Tok.str Tok.txt strOf; decide +kernel
theorem str_eof : ({ data := #[] } : ByteArray) = Tok.str .eof := by unfold Tok.str Tok.txt strOf; decide +kernel
theorem eql_c (s : ByteArray) (l : List UInt8) {m : List Nat} (hm : l.map UInt8.toNat = m) {b : Bool} (hb : decide (bl s = m) = b) : (s.toList == ({ data := l.toArray } : ByteArray).toList) = b := by
  rw [bl_eq, show bl ({ data := l.toArray } : ByteArray) = m from (bl_mk l).trans hm]; exact hb
set_option maxHeartbeats 4000000 in
theorem scan_nil (s : ByteArray) (w : World) (H0 : Bx (NoSign s)) (hs : s.size = 0) : Calls Try.prog 42 #[.string s] w fun e w' => e = .returned (.string (Tok.str .eof)) ∧ w' = w := by
  have z : s.toList.isEmpty = true := by rw [List.isEmpty_iff, ByteArray.toList_eq]; exact List.eq_nil_of_length_eq_zero (by simpa using hs)
  clear hs
  have i0 := scan_ix0
  have i1 := scan_ix1
  have i2 := scan_ix2
  have i3 := scan_ix3
  have i4 := scan_ix4
  have i5 := scan_ix5
  have i6 := scan_ix6
  have i7 := scan_ix7
  have i8 := scan_ix8
  have P0 := Bx.mk H0.out.p0
  have P1 := Bx.mk H0.out.p1
  have P2 := Bx.mk H0.out.p2
  have P3 := Bx.mk H0.out.p3
  have P4 := Bx.mk H0.out.p4
  have P5 := Bx.mk H0.out.p5
  have P6 := Bx.mk H0.out.p6
  have P7 := Bx.mk H0.out.p7
  have P8 := Bx.mk H0.out.p8
  clear H0
  go_enter Try.func42, Try.ntmps42
  go_wp2_with fail
  refine wp_loop_rounds 10 ?_
  rw [rounds_succ]
  go_wp2_with fail
  refine (prefix_is s _ scan_bl0 P0.out _).mono ?_
  rintro e w1 ⟨rfl, rfl⟩
  go_wp2_with fail
  rw [rounds_succ]
  go_wp2_with fail
  refine (prefix_is s _ scan_bl1 P1.out _).mono ?_
  rintro e w1 ⟨rfl, rfl⟩
  go_wp2_with fail
  rw [rounds_succ]
  go_wp2_with fail
  refine (prefix_is s _ scan_bl2 P2.out _).mono ?_
  rintro e w1 ⟨rfl, rfl⟩
  go_wp2_with fail
  rw [rounds_succ]
  go_wp2_with fail
  refine (prefix_is s _ scan_bl3 P3.out _).mono ?_
  rintro e w1 ⟨rfl, rfl⟩
  go_wp2_with fail
  rw [rounds_succ]
  go_wp2_with fail
  refine (prefix_is s _ scan_bl4 P4.out _).mono ?_
  rintro e w1 ⟨rfl, rfl⟩
  go_wp2_with fail
  rw [rounds_succ]
  go_wp2_with fail
  refine (prefix_is s _ scan_bl5 P5.out _).mono ?_
  rintro e w1 ⟨rfl, rfl⟩
  go_wp2_with fail
  rw [rounds_succ]
  go_wp2_with fail
  refine (prefix_is s _ scan_bl6 P6.out _).mono ?_
  rintro e w1 ⟨rfl, rfl⟩
  go_wp2_with fail
  rw [rounds_succ]
  go_wp2_with fail
  refine (prefix_is s _ scan_bl7 P7.out _).mono ?_
  rintro e w1 ⟨rfl, rfl⟩
  go_wp2_with fail
  rw [rounds_succ]
  go_wp2_with fail
  refine (prefix_is s _ scan_bl8 P8.out _).mono ?_
  rintro e w1 ⟨rfl, rfl⟩
  go_wp2_with fail
  rw [rounds_succ]
  go_wp2_with fail
  go_ret
  exact ⟨by rw [← str_eof]; rfl, rfl⟩
theorem not_nil {s : ByteArray} {c : Nat} (h : (bl s)[0]? = some c) : s.toList.isEmpty = false := by
  rw [ByteArray.toList_eq]
  obtain ⟨h0, _⟩ := bl_get h
  cases e : s.data.toList with
  | nil => have : s.data.toList.length = 0 := by rw [e]; rfl
           have h1 : s.size = s.data.toList.length := by simp
           omega
  | cons a r => rfl
theorem run_idx0 {s : ByteArray} {x : Nat} (h : (bl s)[0]? = some x) (w : World) : (Instr.index 9 (.string s) (.int .i64 0)).run Try.prog w = .ok (.int .u8 (x : Int)) w := run_idx h w
theorem run_idx1 {s : ByteArray} {x : Nat} (h : (bl s)[1]? = some x) (w : World) : (Instr.index 9 (.string s) (.int .i64 1)).run Try.prog w = .ok (.int .u8 (x : Int)) w := run_idx h w
set_option maxHeartbeats 4000000 in
theorem scan_zero (s : ByteArray) (w : World) (H0 : Bx (NoSign s)) (c : Nat) (hc : (bl s)[0]? = some c) (h : c = 48 ∨ c = 49) : Calls Try.prog 42 #[.string s] w fun e w' => e = .returned (.string (strOf [c])) ∧ w' = w := by
  have z := not_nil hc
  have i := run_idx0 hc
  have hsz : 1 ≤ s.size := (bl_get hc).1
  have q : (1 : Int) ≤ s.size := by omega
  have E : s.extract 0 1 = strOf [c] := by
    apply bl_inj
    rw [bl_strOf (by intro x hx; simp at hx; omega), bl_extract]
    cases hb : bl s with
    | nil => rw [hb] at hc; simp at hc
    | cons d r => rw [hb] at hc; simp at hc; subst hc; simp
  clear hsz
  have HC := Bx.mk hc
  clear hc
  rcases h with rfl | rfl
  · have i0 := scan_ix0
    have i1 := scan_ix1
    have i2 := scan_ix2
    have i3 := scan_ix3
    have i4 := scan_ix4
    have i5 := scan_ix5
    have i6 := scan_ix6
    have i7 := scan_ix7
    have i8 := scan_ix8
    have P0 := Bx.mk H0.out.p0
    have P1 := Bx.mk H0.out.p1
    have P2 := Bx.mk H0.out.p2
    have P3 := Bx.mk H0.out.p3
    have P4 := Bx.mk H0.out.p4
    have P5 := Bx.mk H0.out.p5
    have P6 := Bx.mk H0.out.p6
    have P7 := Bx.mk H0.out.p7
    have P8 := Bx.mk H0.out.p8
    clear H0
    go_enter Try.func42, Try.ntmps42
    go_wp2_with fail
    refine wp_loop_rounds 10 ?_
    rw [rounds_succ]
    go_wp2_with fail
    refine (prefix_is s _ scan_bl0 P0.out _).mono ?_
    rintro e w1 ⟨rfl, rfl⟩
    go_wp2_with fail
    rw [rounds_succ]
    go_wp2_with fail
    refine (prefix_is s _ scan_bl1 P1.out _).mono ?_
    rintro e w1 ⟨rfl, rfl⟩
    go_wp2_with fail
    rw [rounds_succ]
    go_wp2_with fail
    refine (prefix_is s _ scan_bl2 P2.out _).mono ?_
    rintro e w1 ⟨rfl, rfl⟩
    go_wp2_with fail
    rw [rounds_succ]
    go_wp2_with fail
    refine (prefix_is s _ scan_bl3 P3.out _).mono ?_
    rintro e w1 ⟨rfl, rfl⟩
    go_wp2_with fail
    rw [rounds_succ]
    go_wp2_with fail
    refine (prefix_is s _ scan_bl4 P4.out _).mono ?_
    rintro e w1 ⟨rfl, rfl⟩
    go_wp2_with fail
    rw [rounds_succ]
    go_wp2_with fail
    refine (prefix_is s _ scan_bl5 P5.out _).mono ?_
    rintro e w1 ⟨rfl, rfl⟩
    go_wp2_with fail
    rw [rounds_succ]
    go_wp2_with fail
    refine (prefix_is s _ scan_bl6 P6.out _).mono ?_
    rintro e w1 ⟨rfl, rfl⟩
    go_wp2_with fail
    rw [rounds_succ]
    go_wp2_with fail
    refine (prefix_is s _ scan_bl7 P7.out _).mono ?_
    rintro e w1 ⟨rfl, rfl⟩
    go_wp2_with fail
    rw [rounds_succ]
    go_wp2_with fail
    refine (prefix_is s _ scan_bl8 P8.out _).mono ?_
    rintro e w1 ⟨rfl, rfl⟩
    go_wp2_with fail
    rw [rounds_succ]
    go_wp2_with fail
    go_ret
    exact ⟨by rw [← E]; rfl, rfl⟩
  · have i0 := scan_ix0
    have i1 := scan_ix1
    have i2 := scan_ix2
    have i3 := scan_ix3
    have i4 := scan_ix4
    have i5 := scan_ix5
    have i6 := scan_ix6
    have i7 := scan_ix7
    have i8 := scan_ix8
    have P0 := Bx.mk H0.out.p0
    have P1 := Bx.mk H0.out.p1
    have P2 := Bx.mk H0.out.p2
    have P3 := Bx.mk H0.out.p3
    have P4 := Bx.mk H0.out.p4
    have P5 := Bx.mk H0.out.p5
    have P6 := Bx.mk H0.out.p6
    have P7 := Bx.mk H0.out.p7
    have P8 := Bx.mk H0.out.p8
    clear H0
    go_enter Try.func42, Try.ntmps42
    go_wp2_with fail
    refine wp_loop_rounds 10 ?_
    rw [rounds_succ]
    go_wp2_with fail
    refine (prefix_is s _ scan_bl0 P0.out _).mono ?_
    rintro e w1 ⟨rfl, rfl⟩
    go_wp2_with fail
    rw [rounds_succ]
    go_wp2_with fail
    refine (prefix_is s _ scan_bl1 P1.out _).mono ?_
    rintro e w1 ⟨rfl, rfl⟩
    go_wp2_with fail
    rw [rounds_succ]
    go_wp2_with fail
    refine (prefix_is s _ scan_bl2 P2.out _).mono ?_
    rintro e w1 ⟨rfl, rfl⟩
    go_wp2_with fail
    rw [rounds_succ]
    go_wp2_with fail
    refine (prefix_is s _ scan_bl3 P3.out _).mono ?_
    rintro e w1 ⟨rfl, rfl⟩
    go_wp2_with fail
    rw [rounds_succ]
    go_wp2_with fail
    refine (prefix_is s _ scan_bl4 P4.out _).mono ?_
    rintro e w1 ⟨rfl, rfl⟩
    go_wp2_with fail
    rw [rounds_succ]
    go_wp2_with fail
    refine (prefix_is s _ scan_bl5 P5.out _).mono ?_
    rintro e w1 ⟨rfl, rfl⟩
    go_wp2_with fail
    rw [rounds_succ]
    go_wp2_with fail
    refine (prefix_is s _ scan_bl6 P6.out _).mono ?_
    rintro e w1 ⟨rfl, rfl⟩
    go_wp2_with fail
    rw [rounds_succ]
    go_wp2_with fail
    refine (prefix_is s _ scan_bl7 P7.out _).mono ?_
    rintro e w1 ⟨rfl, rfl⟩
    go_wp2_with fail
    rw [rounds_succ]
    go_wp2_with fail
    refine (prefix_is s _ scan_bl8 P8.out _).mono ?_
    rintro e w1 ⟨rfl, rfl⟩
    go_wp2_with fail
    rw [rounds_succ]
    go_wp2_with fail
    go_ret
    exact ⟨by rw [← E]; rfl, rfl⟩
set_option maxHeartbeats 4000000 in
theorem scan_bad (s : ByteArray) (w : World) (H0 : Bx (NoSign s)) (c : Nat) (hc : (bl s)[0]? = some c) (h0 : ¬ c = 48) (h1 : ¬ c = 49) (hl : Ex.letter c = false) : Calls Try.prog 42 #[.string s] w fun e w' => e = .returned (.string (Tok.str .bad)) ∧ w' = w := by
  have z := not_nil hc
  have i := run_idx0 hc
  have q0 : ((c : Int) == 48) = false := by rw [beq_eq_false_iff_ne]; omega
  have q1 : ((c : Int) == 49) = false := by rw [beq_eq_false_iff_ne]; omega
  have hlt : c < 256 := bl_lt (List.mem_of_getElem? hc)
  have hL := letter_any c hlt
  rw [hl] at hL
  have HL := Bx.mk hL
  clear hL hl hlt hc h0 h1
  have i0 := scan_ix0
  have i1 := scan_ix1
  have i2 := scan_ix2
  have i3 := scan_ix3
  have i4 := scan_ix4
  have i5 := scan_ix5
  have i6 := scan_ix6
  have i7 := scan_ix7
  have i8 := scan_ix8
  have P0 := Bx.mk H0.out.p0
  have P1 := Bx.mk H0.out.p1
  have P2 := Bx.mk H0.out.p2
  have P3 := Bx.mk H0.out.p3
  have P4 := Bx.mk H0.out.p4
  have P5 := Bx.mk H0.out.p5
  have P6 := Bx.mk H0.out.p6
  have P7 := Bx.mk H0.out.p7
  have P8 := Bx.mk H0.out.p8
  clear H0
  go_enter Try.func42, Try.ntmps42
  go_wp2_with fail
  refine wp_loop_rounds 10 ?_
  rw [rounds_succ]
  go_wp2_with fail
  refine (prefix_is s _ scan_bl0 P0.out _).mono ?_
  rintro e w1 ⟨rfl, rfl⟩
  go_wp2_with fail
  rw [rounds_succ]
  go_wp2_with fail
  refine (prefix_is s _ scan_bl1 P1.out _).mono ?_
  rintro e w1 ⟨rfl, rfl⟩
  go_wp2_with fail
  rw [rounds_succ]
  go_wp2_with fail
  refine (prefix_is s _ scan_bl2 P2.out _).mono ?_
  rintro e w1 ⟨rfl, rfl⟩
  go_wp2_with fail
  rw [rounds_succ]
  go_wp2_with fail
  refine (prefix_is s _ scan_bl3 P3.out _).mono ?_
  rintro e w1 ⟨rfl, rfl⟩
  go_wp2_with fail
  rw [rounds_succ]
  go_wp2_with fail
  refine (prefix_is s _ scan_bl4 P4.out _).mono ?_
  rintro e w1 ⟨rfl, rfl⟩
  go_wp2_with fail
  rw [rounds_succ]
  go_wp2_with fail
  refine (prefix_is s _ scan_bl5 P5.out _).mono ?_
  rintro e w1 ⟨rfl, rfl⟩
  go_wp2_with fail
  rw [rounds_succ]
  go_wp2_with fail
  refine (prefix_is s _ scan_bl6 P6.out _).mono ?_
  rintro e w1 ⟨rfl, rfl⟩
  go_wp2_with fail
  rw [rounds_succ]
  go_wp2_with fail
  refine (prefix_is s _ scan_bl7 P7.out _).mono ?_
  rintro e w1 ⟨rfl, rfl⟩
  go_wp2_with fail
  rw [rounds_succ]
  go_wp2_with fail
  refine (prefix_is s _ scan_bl8 P8.out _).mono ?_
  rintro e w1 ⟨rfl, rfl⟩
  go_wp2_with fail
  rw [rounds_succ]
  go_wp2_with fail
  refine (HL.out _).mono ?_
  rintro e w1 ⟨rfl, rfl⟩
  go_wp2_with fail
  go_ret
  exact ⟨by rw [← str_bad]; rfl, rfl⟩
end Go.Proofs.Ytfgokhafiffbaaa

/-
  Formulas: expr.scan at a word; expr.scan whole.
-/
namespace Go.Proofs.Ytfgokhafiffbaaa
set_option linter.unusedVariables false
open Go.RowKit

theorem variable_any (s : ByteArray) (w : World) : Calls Try.prog 60 #[.string s] w fun e w' => e = .returned (.bool (Lx.vr (bl s))) ∧ w' = w := by
  by_cases h : s.size = 2
  · have hl : (bl s).length = 2 := by rw [bl_length]; exact h
    match hb : bl s, hl with
    | [a, b], _ =>
      have h0 : (bl s)[0]? = some a := by rw [hb]; rfl
      have h1 : (bl s)[1]? = some b := by rw [hb]; rfl
      rw [show Lx.vr [a, b] = Ex.vari a b from by unfold Lx.vr; rfl]
      exact variable_two s h a b (bl_lt (List.mem_of_getElem? h0)) (bl_lt (List.mem_of_getElem? h1)) w (run_idx0 h0 w) (run_idx1 h1 w)
  · have hl : (bl s).length ≠ 2 := by rw [bl_length]; exact h
    have hv : Lx.vr (bl s) = false := by
      cases hb : Lx.vr (bl s) with
      | false => rfl
      | true => obtain ⟨b, e, _⟩ := Lx.vr_spec hb; rw [e] at hl; exact absurd rfl hl
    rw [hv]
    exact variable_len s h w
theorem Lx.word_cons (c : Nat) (r : List Nat) : Lx.word (c :: r) = if Ex.letter c || Ex.number c then 1 + Lx.word r else 0 := by rw [Lx.word]
theorem Lx.word_nil : Lx.word [] = 0 := by rw [Lx.word]
/-- where the word's loop stands -/
structure WL (l : List Nat) (k N : Nat) : Prop where
  lo : 1 ≤ k
  hi : k ≤ l.length
  sum : k + Lx.word (l.drop k) = N
theorem WL.step {l : List Nat} {k N x : Nat} (h : WL l k N) (hx : l[k]? = some x) (hl : (Ex.letter x || Ex.number x) = true) : WL l (k + 1) N := by
  have hk : k < l.length := (List.getElem?_eq_some_iff.1 hx).1
  have hs := h.sum
  rw [List.drop_eq_getElem_cons hk, (List.getElem?_eq_some_iff.1 hx).2, Lx.word_cons, hl, if_pos rfl] at hs
  exact ⟨by omega, by omega, by omega⟩
theorem WL.stop {l : List Nat} {k N x : Nat} (h : WL l k N) (hx : l[k]? = some x) (hl : (Ex.letter x || Ex.number x) = false) : k = N := by
  have hk : k < l.length := (List.getElem?_eq_some_iff.1 hx).1
  have hs := h.sum
  rw [List.drop_eq_getElem_cons hk, (List.getElem?_eq_some_iff.1 hx).2, Lx.word_cons, hl] at hs
  simpa using hs
theorem WL.stop' {l : List Nat} {k N : Nat} (h : WL l k N) (hk : ¬ k < l.length) : k = N := by
  have hs := h.sum
  rw [List.drop_eq_nil_of_le (by omega), Lx.word_nil] at hs
  simpa using hs

set_option maxHeartbeats 8000000 in
theorem scan_word (s ws : ByteArray) (w : World) (H0 : Bx (NoSign s)) (c N : Nat) (hc : (bl s)[0]? = some c) (hl : Ex.letter c = true) (hW : Bx (WL (bl s) 1 N)) (hN : s.extract 0 N = ws)
    (hsz : s.size ≤ 4000) (b1 b2 b3 b4 : Bool) (E1 : Bx ((ws.toList == [97, 108, 108]) = b1)) (E2 : Bx ((ws.toList == [97, 110, 121]) = b2)) (E3 : Bx ((ws.toList == [105, 116, 101]) = b3))
    (hV : Lx.vr (bl ws) = b4) :
    Calls Try.prog 42 #[.string s] w fun e w' => e = .returned (.string (if b1 || b2 || b3 || b4 then ws else Tok.str .bad)) ∧ w' = w := by
  have z := not_nil hc
  have i := run_idx0 hc
  have hlt : c < 256 := bl_lt (List.mem_of_getElem? hc)
  have hL := letter_any c hlt
  rw [hl] at hL
  have HL := Bx.mk hL
  have hne : ¬ c = 48 ∧ ¬ c = 49 := by
    constructor
    · rintro rfl; revert hl; decide +kernel
    · rintro rfl; revert hl; decide +kernel
  have q0 : ((c : Int) == 48) = false := by rw [beq_eq_false_iff_ne]; omega
  have q1 : ((c : Int) == 49) = false := by rw [beq_eq_false_iff_ne]; omega
  have HV : Bx (∀ w, Calls Try.prog 60 #[.string ws] w fun e w' => e = .returned (.bool b4) ∧ w' = w) := ⟨fun w => by have := variable_any ws w; rw [hV] at this; exact this⟩
  have HN := Bx.mk hN
  clear hL hl hlt hc hne hV hN
  cases b1 with
  | true =>
    have e1 : ws.toList = [97, 108, 108] := by simpa using E1.out
    clear E1 E2 E3
    have i0 := scan_ix0
    have i1 := scan_ix1
    have i2 := scan_ix2
    have i3 := scan_ix3
    have i4 := scan_ix4
    have i5 := scan_ix5
    have i6 := scan_ix6
    have i7 := scan_ix7
    have i8 := scan_ix8
    have P0 := Bx.mk H0.out.p0
    have P1 := Bx.mk H0.out.p1
    have P2 := Bx.mk H0.out.p2
    have P3 := Bx.mk H0.out.p3
    have P4 := Bx.mk H0.out.p4
    have P5 := Bx.mk H0.out.p5
    have P6 := Bx.mk H0.out.p6
    have P7 := Bx.mk H0.out.p7
    have P8 := Bx.mk H0.out.p8
    clear H0
    go_enter Try.func42, Try.ntmps42
    go_wp2_with fail
    refine wp_loop_rounds 10 ?_
    rw [rounds_succ]
    go_wp2_with fail
    refine (prefix_is s _ scan_bl0 P0.out _).mono ?_
    rintro e w1 ⟨rfl, rfl⟩
    go_wp2_with fail
    rw [rounds_succ]
    go_wp2_with fail
    refine (prefix_is s _ scan_bl1 P1.out _).mono ?_
    rintro e w1 ⟨rfl, rfl⟩
    go_wp2_with fail
    rw [rounds_succ]
    go_wp2_with fail
    refine (prefix_is s _ scan_bl2 P2.out _).mono ?_
    rintro e w1 ⟨rfl, rfl⟩
    go_wp2_with fail
    rw [rounds_succ]
    go_wp2_with fail
    refine (prefix_is s _ scan_bl3 P3.out _).mono ?_
    rintro e w1 ⟨rfl, rfl⟩
    go_wp2_with fail
    rw [rounds_succ]
    go_wp2_with fail
    refine (prefix_is s _ scan_bl4 P4.out _).mono ?_
    rintro e w1 ⟨rfl, rfl⟩
    go_wp2_with fail
    rw [rounds_succ]
    go_wp2_with fail
    refine (prefix_is s _ scan_bl5 P5.out _).mono ?_
    rintro e w1 ⟨rfl, rfl⟩
    go_wp2_with fail
    rw [rounds_succ]
    go_wp2_with fail
    refine (prefix_is s _ scan_bl6 P6.out _).mono ?_
    rintro e w1 ⟨rfl, rfl⟩
    go_wp2_with fail
    rw [rounds_succ]
    go_wp2_with fail
    refine (prefix_is s _ scan_bl7 P7.out _).mono ?_
    rintro e w1 ⟨rfl, rfl⟩
    go_wp2_with fail
    rw [rounds_succ]
    go_wp2_with fail
    refine (prefix_is s _ scan_bl8 P8.out _).mono ?_
    rintro e w1 ⟨rfl, rfl⟩
    go_wp2_with fail
    rw [rounds_succ]
    go_wp2_with fail
    refine (HL.out _).mono ?_
    rintro e w1 ⟨rfl, rfl⟩
    go_wp2_with fail
    go_loop [5] (fun n => ∃ k : Nat, n = .int .i64 k ∧ Bx (WL (bl s) k N)) (fun n => s.size - (intOf n).toNat)
    case atStart => exact ⟨1, rfl, hW⟩
    case round =>
      obtain ⟨k, rfl, HK⟩ := hrel
      by_cases hk : k < s.size
      · have hki : (k : Int) < s.size := by omega
        have hkl : k < (bl s).length := by rw [bl_length]; exact hk
        obtain ⟨x, hx⟩ : ∃ x, (bl s)[k]? = some x := ⟨_, List.getElem?_eq_getElem hkl⟩
        have hxi := run_idx hx
        have hxl : x < 256 := bl_lt (List.mem_of_getElem? hx)
        cases hlx : Ex.letter x with
        | true =>
          have HS := Bx.mk (HK.out.step hx (by rw [hlx]; rfl))
          clear hx
          have hLx := letter_any x hxl
          rw [hlx] at hLx
          go_wp2_with fail
          refine (hLx _).mono ?_
          rintro e w1 ⟨rfl, rfl⟩
          go_wp2_with fail
          exact ⟨⟨k + 1, by go_num, HS⟩, by simp [intOf]; omega⟩
        | false =>
          cases hnx : Ex.number x with
          | true =>
            have HS := Bx.mk (HK.out.step hx (by rw [hlx, hnx]; rfl))
            clear hx
            have hLx := letter_any x hxl
            rw [hlx] at hLx
            have hNx := number_any x hxl
            rw [hnx] at hNx
            go_wp2_with fail
            refine (hLx _).mono ?_
            rintro e w1 ⟨rfl, rfl⟩
            go_wp2_with fail
            refine (hNx _).mono ?_
            rintro e w1 ⟨rfl, rfl⟩
            go_wp2_with fail
            exact ⟨⟨k + 1, by go_num, HS⟩, by simp [intOf]; omega⟩
          | false =>
            obtain rfl := HK.out.stop hx (by rw [hlx, hnx]; rfl)
            have ex := HN.out
            have hkle : (k : Int) ≤ s.size := by omega
            clear hx
            have hLx := letter_any x hxl
            rw [hlx] at hLx
            have hNx := number_any x hxl
            rw [hnx] at hNx
            go_wp2_with fail
            refine (hLx _).mono ?_
            rintro e w1 ⟨rfl, rfl⟩
            go_wp2_with fail
            refine (hNx _).mono ?_
            rintro e w1 ⟨rfl, rfl⟩
            go_wp2_with fail
            go_ret
            exact ⟨by first | rfl | (rw [← str_bad]; rfl), rfl⟩
      · have hki : ¬ (k : Int) < s.size := by omega
        obtain rfl := HK.out.stop' (by rw [bl_length]; exact hk)
        have ex := HN.out
        have hkle : (k : Int) ≤ s.size := by have := HK.out.hi; rw [bl_length] at this; omega
        go_wp2_with fail
        go_ret
        exact ⟨by first | rfl | (rw [← str_bad]; rfl), rfl⟩
  | false =>
    have e1 : ¬ ws.toList = [97, 108, 108] := by simpa using E1.out
    cases b2 with
    | true =>
      have e2 : ws.toList = [97, 110, 121] := by simpa using E2.out
      clear E1 E2 E3
      have i0 := scan_ix0
      have i1 := scan_ix1
      have i2 := scan_ix2
      have i3 := scan_ix3
      have i4 := scan_ix4
      have i5 := scan_ix5
      have i6 := scan_ix6
      have i7 := scan_ix7
      have i8 := scan_ix8
      have P0 := Bx.mk H0.out.p0
      have P1 := Bx.mk H0.out.p1
      have P2 := Bx.mk H0.out.p2
      have P3 := Bx.mk H0.out.p3
      have P4 := Bx.mk H0.out.p4
      have P5 := Bx.mk H0.out.p5
      have P6 := Bx.mk H0.out.p6
      have P7 := Bx.mk H0.out.p7
      have P8 := Bx.mk H0.out.p8
      clear H0
      go_enter Try.func42, Try.ntmps42
      go_wp2_with fail
      refine wp_loop_rounds 10 ?_
      rw [rounds_succ]
      go_wp2_with fail
      refine (prefix_is s _ scan_bl0 P0.out _).mono ?_
      rintro e w1 ⟨rfl, rfl⟩
      go_wp2_with fail
      rw [rounds_succ]
      go_wp2_with fail
      refine (prefix_is s _ scan_bl1 P1.out _).mono ?_
      rintro e w1 ⟨rfl, rfl⟩
      go_wp2_with fail
      rw [rounds_succ]
      go_wp2_with fail
      refine (prefix_is s _ scan_bl2 P2.out _).mono ?_
      rintro e w1 ⟨rfl, rfl⟩
      go_wp2_with fail
      rw [rounds_succ]
      go_wp2_with fail
      refine (prefix_is s _ scan_bl3 P3.out _).mono ?_
      rintro e w1 ⟨rfl, rfl⟩
      go_wp2_with fail
      rw [rounds_succ]
      go_wp2_with fail
      refine (prefix_is s _ scan_bl4 P4.out _).mono ?_
      rintro e w1 ⟨rfl, rfl⟩
      go_wp2_with fail
      rw [rounds_succ]
      go_wp2_with fail
      refine (prefix_is s _ scan_bl5 P5.out _).mono ?_
      rintro e w1 ⟨rfl, rfl⟩
      go_wp2_with fail
      rw [rounds_succ]
      go_wp2_with fail
      refine (prefix_is s _ scan_bl6 P6.out _).mono ?_
      rintro e w1 ⟨rfl, rfl⟩
      go_wp2_with fail
      rw [rounds_succ]
      go_wp2_with fail
      refine (prefix_is s _ scan_bl7 P7.out _).mono ?_
      rintro e w1 ⟨rfl, rfl⟩
      go_wp2_with fail
      rw [rounds_succ]
      go_wp2_with fail
      refine (prefix_is s _ scan_bl8 P8.out _).mono ?_
      rintro e w1 ⟨rfl, rfl⟩
      go_wp2_with fail
      rw [rounds_succ]
      go_wp2_with fail
      refine (HL.out _).mono ?_
      rintro e w1 ⟨rfl, rfl⟩
      go_wp2_with fail
      go_loop [5] (fun n => ∃ k : Nat, n = .int .i64 k ∧ Bx (WL (bl s) k N)) (fun n => s.size - (intOf n).toNat)
      case atStart => exact ⟨1, rfl, hW⟩
      case round =>
        obtain ⟨k, rfl, HK⟩ := hrel
        by_cases hk : k < s.size
        · have hki : (k : Int) < s.size := by omega
          have hkl : k < (bl s).length := by rw [bl_length]; exact hk
          obtain ⟨x, hx⟩ : ∃ x, (bl s)[k]? = some x := ⟨_, List.getElem?_eq_getElem hkl⟩
          have hxi := run_idx hx
          have hxl : x < 256 := bl_lt (List.mem_of_getElem? hx)
          cases hlx : Ex.letter x with
          | true =>
            have HS := Bx.mk (HK.out.step hx (by rw [hlx]; rfl))
            clear hx
            have hLx := letter_any x hxl
            rw [hlx] at hLx
            go_wp2_with fail
            refine (hLx _).mono ?_
            rintro e w1 ⟨rfl, rfl⟩
            go_wp2_with fail
            exact ⟨⟨k + 1, by go_num, HS⟩, by simp [intOf]; omega⟩
          | false =>
            cases hnx : Ex.number x with
            | true =>
              have HS := Bx.mk (HK.out.step hx (by rw [hlx, hnx]; rfl))
              clear hx
              have hLx := letter_any x hxl
              rw [hlx] at hLx
              have hNx := number_any x hxl
              rw [hnx] at hNx
              go_wp2_with fail
              refine (hLx _).mono ?_
              rintro e w1 ⟨rfl, rfl⟩
              go_wp2_with fail
              refine (hNx _).mono ?_
              rintro e w1 ⟨rfl, rfl⟩
              go_wp2_with fail
              exact ⟨⟨k + 1, by go_num, HS⟩, by simp [intOf]; omega⟩
            | false =>
              obtain rfl := HK.out.stop hx (by rw [hlx, hnx]; rfl)
              have ex := HN.out
              have hkle : (k : Int) ≤ s.size := by omega
              clear hx
              have hLx := letter_any x hxl
              rw [hlx] at hLx
              have hNx := number_any x hxl
              rw [hnx] at hNx
              go_wp2_with fail
              refine (hLx _).mono ?_
              rintro e w1 ⟨rfl, rfl⟩
              go_wp2_with fail
              refine (hNx _).mono ?_
              rintro e w1 ⟨rfl, rfl⟩
              go_wp2_with fail
              go_ret
              exact ⟨by first | rfl | (rw [← str_bad]; rfl), rfl⟩
        · have hki : ¬ (k : Int) < s.size := by omega
          obtain rfl := HK.out.stop' (by rw [bl_length]; exact hk)
          have ex := HN.out
          have hkle : (k : Int) ≤ s.size := by have := HK.out.hi; rw [bl_length] at this; omega
          go_wp2_with fail
          go_ret
          exact ⟨by first | rfl | (rw [← str_bad]; rfl), rfl⟩
    | false =>
      have e2 : ¬ ws.toList = [97, 110, 121] := by simpa using E2.out
      cases b3 with
      | true =>
        have e3 : ws.toList = [105, 116, 101] := by simpa using E3.out
        clear E1 E2 E3
        have i0 := scan_ix0
        have i1 := scan_ix1
        have i2 := scan_ix2
        have i3 := scan_ix3
        have i4 := scan_ix4
        have i5 := scan_ix5
        have i6 := scan_ix6
        have i7 := scan_ix7
        have i8 := scan_ix8
        have P0 := Bx.mk H0.out.p0
        have P1 := Bx.mk H0.out.p1
        have P2 := Bx.mk H0.out.p2
        have P3 := Bx.mk H0.out.p3
        have P4 := Bx.mk H0.out.p4
        have P5 := Bx.mk H0.out.p5
        have P6 := Bx.mk H0.out.p6
        have P7 := Bx.mk H0.out.p7
        have P8 := Bx.mk H0.out.p8
        clear H0
        go_enter Try.func42, Try.ntmps42
        go_wp2_with fail
        refine wp_loop_rounds 10 ?_
        rw [rounds_succ]
        go_wp2_with fail
        refine (prefix_is s _ scan_bl0 P0.out _).mono ?_
        rintro e w1 ⟨rfl, rfl⟩
        go_wp2_with fail
        rw [rounds_succ]
        go_wp2_with fail
        refine (prefix_is s _ scan_bl1 P1.out _).mono ?_
        rintro e w1 ⟨rfl, rfl⟩
        go_wp2_with fail
        rw [rounds_succ]
        go_wp2_with fail
        refine (prefix_is s _ scan_bl2 P2.out _).mono ?_
        rintro e w1 ⟨rfl, rfl⟩
        go_wp2_with fail
        rw [rounds_succ]
        go_wp2_with fail
        refine (prefix_is s _ scan_bl3 P3.out _).mono ?_
        rintro e w1 ⟨rfl, rfl⟩
        go_wp2_with fail
        rw [rounds_succ]
        go_wp2_with fail
        refine (prefix_is s _ scan_bl4 P4.out _).mono ?_
        rintro e w1 ⟨rfl, rfl⟩
        go_wp2_with fail
        rw [rounds_succ]
        go_wp2_with fail
        refine (prefix_is s _ scan_bl5 P5.out _).mono ?_
        rintro e w1 ⟨rfl, rfl⟩
        go_wp2_with fail
        rw [rounds_succ]
        go_wp2_with fail
        refine (prefix_is s _ scan_bl6 P6.out _).mono ?_
        rintro e w1 ⟨rfl, rfl⟩
        go_wp2_with fail
        rw [rounds_succ]
        go_wp2_with fail
        refine (prefix_is s _ scan_bl7 P7.out _).mono ?_
        rintro e w1 ⟨rfl, rfl⟩
        go_wp2_with fail
        rw [rounds_succ]
        go_wp2_with fail
        refine (prefix_is s _ scan_bl8 P8.out _).mono ?_
        rintro e w1 ⟨rfl, rfl⟩
        go_wp2_with fail
        rw [rounds_succ]
        go_wp2_with fail
        refine (HL.out _).mono ?_
        rintro e w1 ⟨rfl, rfl⟩
        go_wp2_with fail
        go_loop [5] (fun n => ∃ k : Nat, n = .int .i64 k ∧ Bx (WL (bl s) k N)) (fun n => s.size - (intOf n).toNat)
        case atStart => exact ⟨1, rfl, hW⟩
        case round =>
          obtain ⟨k, rfl, HK⟩ := hrel
          by_cases hk : k < s.size
          · have hki : (k : Int) < s.size := by omega
            have hkl : k < (bl s).length := by rw [bl_length]; exact hk
            obtain ⟨x, hx⟩ : ∃ x, (bl s)[k]? = some x := ⟨_, List.getElem?_eq_getElem hkl⟩
            have hxi := run_idx hx
            have hxl : x < 256 := bl_lt (List.mem_of_getElem? hx)
            cases hlx : Ex.letter x with
            | true =>
              have HS := Bx.mk (HK.out.step hx (by rw [hlx]; rfl))
              clear hx
              have hLx := letter_any x hxl
              rw [hlx] at hLx
              go_wp2_with fail
              refine (hLx _).mono ?_
              rintro e w1 ⟨rfl, rfl⟩
              go_wp2_with fail
              exact ⟨⟨k + 1, by go_num, HS⟩, by simp [intOf]; omega⟩
            | false =>
              cases hnx : Ex.number x with
              | true =>
                have HS := Bx.mk (HK.out.step hx (by rw [hlx, hnx]; rfl))
                clear hx
                have hLx := letter_any x hxl
                rw [hlx] at hLx
                have hNx := number_any x hxl
                rw [hnx] at hNx
                go_wp2_with fail
                refine (hLx _).mono ?_
                rintro e w1 ⟨rfl, rfl⟩
                go_wp2_with fail
                refine (hNx _).mono ?_
                rintro e w1 ⟨rfl, rfl⟩
                go_wp2_with fail
                exact ⟨⟨k + 1, by go_num, HS⟩, by simp [intOf]; omega⟩
              | false =>
                obtain rfl := HK.out.stop hx (by rw [hlx, hnx]; rfl)
                have ex := HN.out
                have hkle : (k : Int) ≤ s.size := by omega
                clear hx
                have hLx := letter_any x hxl
                rw [hlx] at hLx
                have hNx := number_any x hxl
                rw [hnx] at hNx
                go_wp2_with fail
                refine (hLx _).mono ?_
                rintro e w1 ⟨rfl, rfl⟩
                go_wp2_with fail
                refine (hNx _).mono ?_
                rintro e w1 ⟨rfl, rfl⟩
                go_wp2_with fail
                go_ret
                exact ⟨by first | rfl | (rw [← str_bad]; rfl), rfl⟩
          · have hki : ¬ (k : Int) < s.size := by omega
            obtain rfl := HK.out.stop' (by rw [bl_length]; exact hk)
            have ex := HN.out
            have hkle : (k : Int) ≤ s.size := by have := HK.out.hi; rw [bl_length] at this; omega
            go_wp2_with fail
            go_ret
            exact ⟨by first | rfl | (rw [← str_bad]; rfl), rfl⟩
      | false =>
        have g1 := E1.out
        have g2 := E2.out
        have g3 := E3.out
        have e3 : ¬ ws.toList = [105, 116, 101] := by simpa using E3.out
        clear E1 E2 E3
        cases b4 with
        | true =>
          have i0 := scan_ix0
          have i1 := scan_ix1
          have i2 := scan_ix2
          have i3 := scan_ix3
          have i4 := scan_ix4
          have i5 := scan_ix5
          have i6 := scan_ix6
          have i7 := scan_ix7
          have i8 := scan_ix8
          have P0 := Bx.mk H0.out.p0
          have P1 := Bx.mk H0.out.p1
          have P2 := Bx.mk H0.out.p2
          have P3 := Bx.mk H0.out.p3
          have P4 := Bx.mk H0.out.p4
          have P5 := Bx.mk H0.out.p5
          have P6 := Bx.mk H0.out.p6
          have P7 := Bx.mk H0.out.p7
          have P8 := Bx.mk H0.out.p8
          clear H0
          go_enter Try.func42, Try.ntmps42
          go_wp2_with fail
          refine wp_loop_rounds 10 ?_
          rw [rounds_succ]
          go_wp2_with fail
          refine (prefix_is s _ scan_bl0 P0.out _).mono ?_
          rintro e w1 ⟨rfl, rfl⟩
          go_wp2_with fail
          rw [rounds_succ]
          go_wp2_with fail
          refine (prefix_is s _ scan_bl1 P1.out _).mono ?_
          rintro e w1 ⟨rfl, rfl⟩
          go_wp2_with fail
          rw [rounds_succ]
          go_wp2_with fail
          refine (prefix_is s _ scan_bl2 P2.out _).mono ?_
          rintro e w1 ⟨rfl, rfl⟩
          go_wp2_with fail
          rw [rounds_succ]
          go_wp2_with fail
          refine (prefix_is s _ scan_bl3 P3.out _).mono ?_
          rintro e w1 ⟨rfl, rfl⟩
          go_wp2_with fail
          rw [rounds_succ]
          go_wp2_with fail
          refine (prefix_is s _ scan_bl4 P4.out _).mono ?_
          rintro e w1 ⟨rfl, rfl⟩
          go_wp2_with fail
          rw [rounds_succ]
          go_wp2_with fail
          refine (prefix_is s _ scan_bl5 P5.out _).mono ?_
          rintro e w1 ⟨rfl, rfl⟩
          go_wp2_with fail
          rw [rounds_succ]
          go_wp2_with fail
          refine (prefix_is s _ scan_bl6 P6.out _).mono ?_
          rintro e w1 ⟨rfl, rfl⟩
          go_wp2_with fail
          rw [rounds_succ]
          go_wp2_with fail
          refine (prefix_is s _ scan_bl7 P7.out _).mono ?_
          rintro e w1 ⟨rfl, rfl⟩
          go_wp2_with fail
          rw [rounds_succ]
          go_wp2_with fail
          refine (prefix_is s _ scan_bl8 P8.out _).mono ?_
          rintro e w1 ⟨rfl, rfl⟩
          go_wp2_with fail
          rw [rounds_succ]
          go_wp2_with fail
          refine (HL.out _).mono ?_
          rintro e w1 ⟨rfl, rfl⟩
          go_wp2_with fail
          go_loop [5] (fun n => ∃ k : Nat, n = .int .i64 k ∧ Bx (WL (bl s) k N)) (fun n => s.size - (intOf n).toNat)
          case atStart => exact ⟨1, rfl, hW⟩
          case round =>
            obtain ⟨k, rfl, HK⟩ := hrel
            by_cases hk : k < s.size
            · have hki : (k : Int) < s.size := by omega
              have hkl : k < (bl s).length := by rw [bl_length]; exact hk
              obtain ⟨x, hx⟩ : ∃ x, (bl s)[k]? = some x := ⟨_, List.getElem?_eq_getElem hkl⟩
              have hxi := run_idx hx
              have hxl : x < 256 := bl_lt (List.mem_of_getElem? hx)
              cases hlx : Ex.letter x with
              | true =>
                have HS := Bx.mk (HK.out.step hx (by rw [hlx]; rfl))
                clear hx
                have hLx := letter_any x hxl
                rw [hlx] at hLx
                go_wp2_with fail
                refine (hLx _).mono ?_
                rintro e w1 ⟨rfl, rfl⟩
                go_wp2_with fail
                exact ⟨⟨k + 1, by go_num, HS⟩, by simp [intOf]; omega⟩
              | false =>
                cases hnx : Ex.number x with
                | true =>
                  have HS := Bx.mk (HK.out.step hx (by rw [hlx, hnx]; rfl))
                  clear hx
                  have hLx := letter_any x hxl
                  rw [hlx] at hLx
                  have hNx := number_any x hxl
                  rw [hnx] at hNx
                  go_wp2_with fail
                  refine (hLx _).mono ?_
                  rintro e w1 ⟨rfl, rfl⟩
                  go_wp2_with fail
                  refine (hNx _).mono ?_
                  rintro e w1 ⟨rfl, rfl⟩
                  go_wp2_with fail
                  exact ⟨⟨k + 1, by go_num, HS⟩, by simp [intOf]; omega⟩
                | false =>
                  obtain rfl := HK.out.stop hx (by rw [hlx, hnx]; rfl)
                  have ex := HN.out
                  have hkle : (k : Int) ≤ s.size := by omega
                  clear hx
                  have hLx := letter_any x hxl
                  rw [hlx] at hLx
                  have hNx := number_any x hxl
                  rw [hnx] at hNx
                  go_wp2_with fail
                  refine (hLx _).mono ?_
                  rintro e w1 ⟨rfl, rfl⟩
                  go_wp2_with fail
                  refine (hNx _).mono ?_
                  rintro e w1 ⟨rfl, rfl⟩
                  go_wp2_with fail
                  refine (HV.out _).mono ?_
                  rintro e w1 ⟨rfl, rfl⟩
                  go_wp2_with fail
                  go_ret
                  exact ⟨by first | rfl | (rw [← str_bad]; rfl), rfl⟩
            · have hki : ¬ (k : Int) < s.size := by omega
              obtain rfl := HK.out.stop' (by rw [bl_length]; exact hk)
              have ex := HN.out
              have hkle : (k : Int) ≤ s.size := by have := HK.out.hi; rw [bl_length] at this; omega
              go_wp2_with fail
              refine (HV.out _).mono ?_
              rintro e w1 ⟨rfl, rfl⟩
              go_wp2_with fail
              go_ret
              exact ⟨by first | rfl | (rw [← str_bad]; rfl), rfl⟩
        | false =>
          have i0 := scan_ix0
          have i1 := scan_ix1
          have i2 := scan_ix2
          have i3 := scan_ix3
          have i4 := scan_ix4
          have i5 := scan_ix5
          have i6 := scan_ix6
          have i7 := scan_ix7
          have i8 := scan_ix8
          have P0 := Bx.mk H0.out.p0
          have P1 := Bx.mk H0.out.p1
          have P2 := Bx.mk H0.out.p2
          have P3 := Bx.mk H0.out.p3
          have P4 := Bx.mk H0.out.p4
          have P5 := Bx.mk H0.out.p5
          have P6 := Bx.mk H0.out.p6
          have P7 := Bx.mk H0.out.p7
          have P8 := Bx.mk H0.out.p8
          clear H0
          go_enter Try.func42, Try.ntmps42
          go_wp2_with fail
          refine wp_loop_rounds 10 ?_
          rw [rounds_succ]
          go_wp2_with fail
          refine (prefix_is s _ scan_bl0 P0.out _).mono ?_
          rintro e w1 ⟨rfl, rfl⟩
          go_wp2_with fail
          rw [rounds_succ]
          go_wp2_with fail
          refine (prefix_is s _ scan_bl1 P1.out _).mono ?_
          rintro e w1 ⟨rfl, rfl⟩
          go_wp2_with fail
          rw [rounds_succ]
          go_wp2_with fail
          refine (prefix_is s _ scan_bl2 P2.out _).mono ?_
          rintro e w1 ⟨rfl, rfl⟩
          go_wp2_with fail
          rw [rounds_succ]
          go_wp2_with fail
          refine (prefix_is s _ scan_bl3 P3.out _).mono ?_
          rintro e w1 ⟨rfl, rfl⟩
          go_wp2_with fail
          rw [rounds_succ]
          go_wp2_with fail
          refine (prefix_is s _ scan_bl4 P4.out _).mono ?_
          rintro e w1 ⟨rfl, rfl⟩
          go_wp2_with fail
          rw [rounds_succ]
          go_wp2_with fail
          refine (prefix_is s _ scan_bl5 P5.out _).mono ?_
          rintro e w1 ⟨rfl, rfl⟩
          go_wp2_with fail
          rw [rounds_succ]
          go_wp2_with fail
          refine (prefix_is s _ scan_bl6 P6.out _).mono ?_
          rintro e w1 ⟨rfl, rfl⟩
          go_wp2_with fail
          rw [rounds_succ]
          go_wp2_with fail
          refine (prefix_is s _ scan_bl7 P7.out _).mono ?_
          rintro e w1 ⟨rfl, rfl⟩
          go_wp2_with fail
          rw [rounds_succ]
          go_wp2_with fail
          refine (prefix_is s _ scan_bl8 P8.out _).mono ?_
          rintro e w1 ⟨rfl, rfl⟩
          go_wp2_with fail
          rw [rounds_succ]
          go_wp2_with fail
          refine (HL.out _).mono ?_
          rintro e w1 ⟨rfl, rfl⟩
          go_wp2_with fail
          go_loop [5] (fun n => ∃ k : Nat, n = .int .i64 k ∧ Bx (WL (bl s) k N)) (fun n => s.size - (intOf n).toNat)
          case atStart => exact ⟨1, rfl, hW⟩
          case round =>
            obtain ⟨k, rfl, HK⟩ := hrel
            by_cases hk : k < s.size
            · have hki : (k : Int) < s.size := by omega
              have hkl : k < (bl s).length := by rw [bl_length]; exact hk
              obtain ⟨x, hx⟩ : ∃ x, (bl s)[k]? = some x := ⟨_, List.getElem?_eq_getElem hkl⟩
              have hxi := run_idx hx
              have hxl : x < 256 := bl_lt (List.mem_of_getElem? hx)
              cases hlx : Ex.letter x with
              | true =>
                have HS := Bx.mk (HK.out.step hx (by rw [hlx]; rfl))
                clear hx
                have hLx := letter_any x hxl
                rw [hlx] at hLx
                go_wp2_with fail
                refine (hLx _).mono ?_
                rintro e w1 ⟨rfl, rfl⟩
                go_wp2_with fail
                exact ⟨⟨k + 1, by go_num, HS⟩, by simp [intOf]; omega⟩
              | false =>
                cases hnx : Ex.number x with
                | true =>
                  have HS := Bx.mk (HK.out.step hx (by rw [hlx, hnx]; rfl))
                  clear hx
                  have hLx := letter_any x hxl
                  rw [hlx] at hLx
                  have hNx := number_any x hxl
                  rw [hnx] at hNx
                  go_wp2_with fail
                  refine (hLx _).mono ?_
                  rintro e w1 ⟨rfl, rfl⟩
                  go_wp2_with fail
                  refine (hNx _).mono ?_
                  rintro e w1 ⟨rfl, rfl⟩
                  go_wp2_with fail
                  exact ⟨⟨k + 1, by go_num, HS⟩, by simp [intOf]; omega⟩
                | false =>
                  obtain rfl := HK.out.stop hx (by rw [hlx, hnx]; rfl)
                  have ex := HN.out
                  have hkle : (k : Int) ≤ s.size := by omega
                  clear hx
                  have hLx := letter_any x hxl
                  rw [hlx] at hLx
                  have hNx := number_any x hxl
                  rw [hnx] at hNx
                  go_wp2_with fail
                  refine (hLx _).mono ?_
                  rintro e w1 ⟨rfl, rfl⟩
                  go_wp2_with fail
                  refine (hNx _).mono ?_
                  rintro e w1 ⟨rfl, rfl⟩
                  go_wp2_with fail
                  refine (HV.out _).mono ?_
                  rintro e w1 ⟨rfl, rfl⟩
                  go_wp2_with fail
                  go_ret
                  exact ⟨by first | rfl | (rw [← str_bad]; rfl), rfl⟩
            · have hki : ¬ (k : Int) < s.size := by omega
              obtain rfl := HK.out.stop' (by rw [bl_length]; exact hk)
              have ex := HN.out
              have hkle : (k : Int) ≤ s.size := by have := HK.out.hi; rw [bl_length] at this; omega
              go_wp2_with fail
              refine (HV.out _).mono ?_
              rintro e w1 ⟨rfl, rfl⟩
              go_wp2_with fail
              go_ret
              exact ⟨by first | rfl | (rw [← str_bad]; rfl), rfl⟩
end Go.Proofs.Ytfgokhafiffbaaa

/-
  Formulas: expr.scan whole.
-/
namespace Go.Proofs.Ytfgokhafiffbaaa
set_option linter.unusedVariables false
open Go.RowKit

theorem Lx.scan_no {s : ByteArray} (h : NoSign s) : Lx.scan (bl s) = match bl s with
    | [] => .eof
    | c :: r => if c = 48 then .zero else if c = 49 then .one else if Ex.letter c then Lx.kw (c :: r.take (Lx.word r)) else .bad := by
  obtain ⟨p0, p1, p2, p3, p4, p5, p6, p7, p8⟩ := h
  unfold Lx.scan
  rw [p0, p1, p2, p3, p4, p5, p6, p7, p8]
  rfl
theorem kw_str (ws : ByteArray) : (if (ws.toList == [97, 108, 108]) || (ws.toList == [97, 110, 121]) || (ws.toList == [105, 116, 101]) || Lx.vr (bl ws) then ws else Tok.str .bad) = Tok.str (Lx.kw (bl ws)) := by
  have hx : ∀ (l : List UInt8) (m : List Nat), l.map UInt8.toNat = m → (ws.toList == l) = decide (bl ws = m) := fun l m h => by
    have := bl_eq ws ⟨l.toArray⟩
    have e : bl (⟨l.toArray⟩ : ByteArray) = m := (bl_mk l).trans h
    rw [ByteArray.toList_mk l, e] at this
    exact this
  rw [hx _ [97, 108, 108] rfl, hx _ [97, 110, 121] rfl, hx _ [105, 116, 101] rfl]
  by_cases hb : Lx.kw (bl ws) = .bad
  · rw [hb]
    unfold Lx.kw at hb
    by_cases h1 : bl ws = [97, 108, 108]
    · rw [if_pos h1] at hb; cases hb
    rw [if_neg h1] at hb
    by_cases h2 : bl ws = [97, 110, 121]
    · rw [if_pos h2] at hb; cases hb
    rw [if_neg h2] at hb
    by_cases h3 : bl ws = [105, 116, 101]
    · rw [if_pos h3] at hb; cases hb
    rw [if_neg h3] at hb
    have hv : Lx.vr (bl ws) = false := by
      cases hv : Lx.vr (bl ws) with
      | false => rfl
      | true => rw [hv] at hb; cases hb
    rw [decide_eq_false h1, decide_eq_false h2, decide_eq_false h3, hv]
    rfl
  · have ht := Lx.kw_txt (bl ws) hb (fun x hx => bl_lt hx)
    have e : ws = Tok.str (Lx.kw (bl ws)) := bl_inj (by rw [Tok.bl_str, ht])
    rw [← e]
    split
    · rfl
    · rename_i hn
      exfalso
      apply hb
      unfold Lx.kw
      simp only [Bool.or_eq_true, decide_eq_true_eq, not_or, Bool.not_eq_true] at hn
      obtain ⟨⟨⟨h1, h2⟩, h3⟩, hv⟩ := hn
      rw [if_neg h1, if_neg h2, if_neg h3]
      rw [hv]
      rfl
theorem scan_any (s : ByteArray) (w : World) (hsz : s.size ≤ 4000) : Calls Try.prog 42 #[.string s] w fun e w' => e = .returned (.string (Tok.str (Lx.scan (bl s)))) ∧ w' = w := by
  cases h0 : Lx.pre [60, 45, 62] (bl s) with
  | true =>
    rw [show Lx.scan (bl s) = .iff from by unfold Lx.scan; rw [h0]; rfl]
    exact scan_is0 s w ⟨h0⟩
  | false =>
  cases h1 : Lx.pre [45, 62] (bl s) with
  | true =>
    rw [show Lx.scan (bl s) = .imp from by unfold Lx.scan; rw [h0, h1]; rfl]
    exact scan_is1 s w ⟨h0⟩ ⟨h1⟩
  | false =>
  cases h2 : Lx.pre [33] (bl s) with
  | true =>
    rw [show Lx.scan (bl s) = .not from by unfold Lx.scan; rw [h0, h1, h2]; rfl]
    exact scan_is2 s w ⟨h0⟩ ⟨h1⟩ ⟨h2⟩
  | false =>
  cases h3 : Lx.pre [38] (bl s) with
  | true =>
    rw [show Lx.scan (bl s) = .and from by unfold Lx.scan; rw [h0, h1, h2, h3]; rfl]
    exact scan_is3 s w ⟨h0⟩ ⟨h1⟩ ⟨h2⟩ ⟨h3⟩
  | false =>
  cases h4 : Lx.pre [124] (bl s) with
  | true =>
    rw [show Lx.scan (bl s) = .or from by unfold Lx.scan; rw [h0, h1, h2, h3, h4]; rfl]
    exact scan_is4 s w ⟨h0⟩ ⟨h1⟩ ⟨h2⟩ ⟨h3⟩ ⟨h4⟩
  | false =>
  cases h5 : Lx.pre [94] (bl s) with
  | true =>
    rw [show Lx.scan (bl s) = .xor from by unfold Lx.scan; rw [h0, h1, h2, h3, h4, h5]; rfl]
    exact scan_is5 s w ⟨h0⟩ ⟨h1⟩ ⟨h2⟩ ⟨h3⟩ ⟨h4⟩ ⟨h5⟩
  | false =>
  cases h6 : Lx.pre [40] (bl s) with
  | true =>
    rw [show Lx.scan (bl s) = .lp from by unfold Lx.scan; rw [h0, h1, h2, h3, h4, h5, h6]; rfl]
    exact scan_is6 s w ⟨h0⟩ ⟨h1⟩ ⟨h2⟩ ⟨h3⟩ ⟨h4⟩ ⟨h5⟩ ⟨h6⟩
  | false =>
  cases h7 : Lx.pre [41] (bl s) with
  | true =>
    rw [show Lx.scan (bl s) = .rp from by unfold Lx.scan; rw [h0, h1, h2, h3, h4, h5, h6, h7]; rfl]
    exact scan_is7 s w ⟨h0⟩ ⟨h1⟩ ⟨h2⟩ ⟨h3⟩ ⟨h4⟩ ⟨h5⟩ ⟨h6⟩ ⟨h7⟩
  | false =>
  cases h8 : Lx.pre [44] (bl s) with
  | true =>
    rw [show Lx.scan (bl s) = .comma from by unfold Lx.scan; rw [h0, h1, h2, h3, h4, h5, h6, h7, h8]; rfl]
    exact scan_is8 s w ⟨h0⟩ ⟨h1⟩ ⟨h2⟩ ⟨h3⟩ ⟨h4⟩ ⟨h5⟩ ⟨h6⟩ ⟨h7⟩ ⟨h8⟩
  | false =>
  have H0 : NoSign s := ⟨h0, h1, h2, h3, h4, h5, h6, h7, h8⟩
  rw [Lx.scan_no H0]
  match hb : bl s with
  | [] => exact scan_nil s w ⟨H0⟩ (by rw [← bl_length, hb]; rfl)
  | c :: r =>
    have hc : (bl s)[0]? = some c := by rw [hb]; rfl
    by_cases g0 : c = 48
    · have := scan_zero s w ⟨H0⟩ c hc (.inl g0)
      simp only [if_pos g0]
      subst g0
      rw [show Tok.str .zero = strOf [48] from by unfold Tok.str Tok.txt; rfl]
      exact this
    by_cases g1 : c = 49
    · have := scan_zero s w ⟨H0⟩ c hc (.inr g1)
      simp only [if_neg g0, if_pos g1]
      subst g1
      rw [show Tok.str .one = strOf [49] from by unfold Tok.str Tok.txt; rfl]
      exact this
    simp only [if_neg g0, if_neg g1]
    cases hl : Ex.letter c with
    | false =>
      exact scan_bad s w ⟨H0⟩ c hc g0 g1 hl
    | true =>
      simp only [if_true]
      have hN : bl (s.extract 0 (1 + Lx.word r)) = c :: r.take (Lx.word r) := by rw [bl_extract, hb]; simp [Nat.add_comm 1]
      have := scan_word s (s.extract 0 (1 + Lx.word r)) w ⟨H0⟩ c (1 + Lx.word r) hc hl ⟨⟨Nat.le_refl _, by rw [hb]; simp, by rw [hb]; rfl⟩⟩ rfl hsz _ _ _ _ ⟨rfl⟩ ⟨rfl⟩ ⟨rfl⟩ rfl
      rw [kw_str, hN] at this
      exact this
end Go.Proofs.Ytfgokhafiffbaaa
