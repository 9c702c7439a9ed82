/-
  Texts on which the law ExprBinds rests, part 1 of 9.
-/
import Derived.WalkKit
import Derived.WalkSpells
import Derived.WalkLawsBesides
import Derived.Lib.Hide
import Derived.StillTailTactics
import Derived.Below
import Derived.Laws.OwnMore
import Derived.Deep.Draws
import Derived.Laws.Rows
import Derived.RegionTactic
import Derived.Deep.QuietTactic
import Derived.BigQuiet
import Derived.Laws.BitsAllLaws
import Derived.Test.YtfgokhafiffbaaaRows
import Derived.Laws.Strings
import Derived.Laws.Strings2
import Derived.Laws.Strings3
import Derived.KernelRfl
import Derived.Defers
import Derived.OrdersHeld
import Derived.Tactics
import Derived.Deep.RegionHeld
/-
  Small helps for walks: a fact boxed away from the walk's simp.
-/
namespace Go.Proofs.Ytfgokhafiffbaaa
set_option linter.unusedVariables false
/-- a region whose order is open, all but its tail reading or calling quietly: the world behind the draw spelled as the walk spells it -/
theorem region_tail {P : Program} {id : Nat} {Q : Exit → Act → World → Prop} {a : Act} {w : World} {l : List Oper} (n : Nat) (hm : P.follows .mixedOrders = true) (hB : Region.lexTailB .any l.toArray n = true)
    (h : wpStill P l.toArray w.drew (fun a' => wpList P l.toArray Q (l.drop n) a' w.drew) (l.take n) a) : (Code.region id l.toArray true).wp P Q a w :=
  wp_region_still_tail n hm hB h
@[simp] theorem drew_size (w : World) : w.drew.heap.size = w.heap.size := rfl
theorem alloc_size (w : World) (o : Obj) : (w.alloc o).heap.size = w.heap.size + 1 := by simp
/-- a fact that no tactic looks into -/
structure Bx (p : Prop) : Prop where
  out : p
/-- a block that is known whole -/
structure Blk (w : World) (g : Nat) (t : TypeId) (cs : Array Value) : Prop where
  eq : w.heap[g]? = some (.cells cs t (0, 0))
section
open Go.RowKit
variable {w w' : World} {g : Nat} {t : TypeId} {cs : Array Value}
theorem Blk.lt (h : Blk w g t cs) : g < w.heap.size := by
  rcases Nat.lt_or_ge g w.heap.size with hlt | hge
  · exact hlt
  · have := h.eq; rw [Array.getElem?_eq_none hge] at this; cases this
theorem Blk.cell (h : Blk w g t cs) (i : Nat) : w.cell? ⟨g, i, none⟩ = cs[i]? := cell_of_row w g i cs t (0, 0) h.eq
theorem Blk.frozen (h : Blk w g t cs) (i : Nat) : w.frozen? ⟨g, i, none⟩ = false := by
  simp [World.frozen?, h.eq]
theorem Blk.new (w : World) (t : TypeId) (cs : Array Value) : Blk (w.alloc (.cells cs t)) w.heap.size t cs := ⟨heap_alloc_new w _⟩
theorem Blk.drew (h : Blk w g t cs) : Blk w.drew g t cs := ⟨h.eq⟩
theorem Blk.drewN (h : Blk w g t cs) (n : Nat) : Blk (w.drewN n) g t cs := ⟨h.eq⟩
theorem Blk.alloc (h : Blk w g t cs) (o : Obj) : Blk (w.alloc o) g t cs := ⟨(Below.heap_alloc w o g h.lt).trans h.eq⟩
theorem Blk.set_ (h : Blk w g t cs) (i : Nat) (u : Value) : Blk (w.setCell ⟨g, i, none⟩ u) g t (cs.setIfInBounds i u) :=
  ⟨by simp [World.setCell, Array.getElem?_modify, h.eq]⟩
theorem Blk.far (h : Blk w g t cs) {p : Addr} (hp : g ≠ p.block) (u : Value) : Blk (w.setCell p u) g t cs := ⟨(Below.heap_setCell w p u g hp).trans h.eq⟩
theorem Blk.below {B : Nat} (h : Blk w g t cs) (hb : Below B w w') (hg : g < B) : Blk w' g t cs := ⟨(hb.block g hg).trans h.eq⟩
end

/-- what a cell holds, whatever it is -/
def cval (w : World) (a : Addr) : Value := (w.cell? a).getD undef
theorem cval_ok {w : World} {a : Addr} (h : (w.cell? a).isSome = true) : w.cell? a = some (cval w a) := by
  unfold cval
  cases e : w.cell? a with
  | none => rw [e] at h; cases h
  | some v => rfl
attribute [irreducible] cval

/-- a cell that was written holds what was written, if it is a cell at all -/
theorem set_self {w : World} {b o : Nat} {v x : Value} (h : (w.setCell ⟨b, o, none⟩ v).cell? ⟨b, o, none⟩ = some x) : (w.setCell ⟨b, o, none⟩ v).cell? ⟨b, o, none⟩ = some v := by
  revert h
  simp only [World.cell?, World.setCell, Array.getElem?_modify, if_true, Option.isSome_none, Bool.false_eq_true, if_false]
  cases w.heap[b]? with
  | none => simp
  | some ob =>
    cases ob <;> simp [Array.getElem?_setIfInBounds]
    intro h _; exact h
theorem set_far {w : World} {b o b' o' : Nat} {v : Value} (h : b ≠ b' ∨ o ≠ o') : (w.setCell ⟨b, o, none⟩ v).cell? ⟨b', o', none⟩ = w.cell? ⟨b', o', none⟩ := by
  simp only [World.cell?, World.setCell, Array.getElem?_modify, Option.isSome_none, Bool.false_eq_true, if_false]
  by_cases e : b = b'
  · subst e
    rw [if_pos rfl]
    cases w.heap[b]? with
    | none => simp
    | some ob =>
      have ho : o ≠ o' := by rcases h with h | h; exact absurd rfl h; exact h
      cases ob <;> simp [ho]
  · rw [if_neg e]
/-- four cells written one behind the other -/
theorem set4 {w : World} {r : Nat} {v0 v1 v2 v3 x0 x1 x2 x3 : Value}
    (h0 : ((((w.setCell ⟨r, 0, none⟩ v0).setCell ⟨r, 1, none⟩ v1).setCell ⟨r, 2, none⟩ v2).setCell ⟨r, 3, none⟩ v3).cell? ⟨r, 0, none⟩ = some x0)
    (h1 : ((((w.setCell ⟨r, 0, none⟩ v0).setCell ⟨r, 1, none⟩ v1).setCell ⟨r, 2, none⟩ v2).setCell ⟨r, 3, none⟩ v3).cell? ⟨r, 1, none⟩ = some x1)
    (h2 : ((((w.setCell ⟨r, 0, none⟩ v0).setCell ⟨r, 1, none⟩ v1).setCell ⟨r, 2, none⟩ v2).setCell ⟨r, 3, none⟩ v3).cell? ⟨r, 2, none⟩ = some x2)
    (h3 : ((((w.setCell ⟨r, 0, none⟩ v0).setCell ⟨r, 1, none⟩ v1).setCell ⟨r, 2, none⟩ v2).setCell ⟨r, 3, none⟩ v3).cell? ⟨r, 3, none⟩ = some x3) :
    let W := ((((w.setCell ⟨r, 0, none⟩ v0).setCell ⟨r, 1, none⟩ v1).setCell ⟨r, 2, none⟩ v2).setCell ⟨r, 3, none⟩ v3)
    W.cell? ⟨r, 0, none⟩ = some v0 ∧ W.cell? ⟨r, 1, none⟩ = some v1 ∧ W.cell? ⟨r, 2, none⟩ = some v2 ∧ W.cell? ⟨r, 3, none⟩ = some v3 := by
  intro W
  refine ⟨?_, ?_, ?_, set_self h3⟩
  · rw [set_far (.inr (by omega)), set_far (.inr (by omega)), set_far (.inr (by omega))] at h0 ⊢; exact set_self h0
  · rw [set_far (.inr (by omega)), set_far (.inr (by omega))] at h1 ⊢; exact set_self h1
  · rw [set_far (.inr (by omega))] at h2 ⊢; exact set_self h2

theorem wf_u8 {a : Int} (h : (Lit.int .u8 a).wf = true) : 0 ≤ a ∧ a < 256 := by
  simp [Lit.wf, IntKind.min, IntKind.max, IntKind.signed, IntKind.bits] at h; omega
theorem wf_u16 {a : Int} (h : (Lit.int .u16 a).wf = true) : 0 ≤ a ∧ a < 65536 := by
  simp [Lit.wf, IntKind.min, IntKind.max, IntKind.signed, IntKind.bits] at h; omega
theorem wf_u32 {a : Int} (h : (Lit.int .u32 a).wf = true) : 0 ≤ a ∧ a < 4294967296 := by
  simp [Lit.wf, IntKind.min, IntKind.max, IntKind.signed, IntKind.bits] at h; omega
theorem wf_u64 {a : Int} (h : (Lit.int .u64 a).wf = true) : 0 ≤ a ∧ a < 18446744073709551616 := by
  simp [Lit.wf, IntKind.min, IntKind.max, IntKind.signed, IntKind.bits] at h; omega
theorem wf_i64 {a : Int} (h : (Lit.int .i64 a).wf = true) : -9223372036854775808 ≤ a ∧ a < 9223372036854775808 := by
  simp [Lit.wf, IntKind.min, IntKind.max, IntKind.signed, IntKind.bits] at h; omega
end Go.Proofs.Ytfgokhafiffbaaa

/-
  Tables of 256 bits: their words, and what is done with them word by word. No program in sight.
-/
namespace Go.Proofs.Ytfgokhafiffbaaa
set_option linter.unusedVariables false
open Go.RowKit
namespace Tb

abbrev T := BitVec 256

/-- word i of a table -/
def wd (f : T) (i : Nat) : Int := ((f.extractLsb' (64 * i) 64).toNat : Int)

theorem wd_lo (f : T) (i : Nat) : 0 ≤ wd f i := by unfold wd; omega
theorem wd_hi (f : T) (i : Nat) : wd f i < 18446744073709551616 := by
  unfold wd; have := (f.extractLsb' (64 * i) 64).isLt; omega

/-- a table as Go's value: four words -/
abbrev tv (f : T) : Value := .agg #[.int .u64 (wd f 0), .int .u64 (wd f 1), .int .u64 (wd f 2), .int .u64 (wd f 3)]
abbrev tcells (f : T) : Array Value := #[.int .u64 (wd f 0), .int .u64 (wd f 1), .int .u64 (wd f 2), .int .u64 (wd f 3)]

theorem wd_inj {f g : T} {i : Nat} (h : wd f i = wd g i) : f.extractLsb' (64 * i) 64 = g.extractLsb' (64 * i) 64 := by
  unfold wd at h; exact BitVec.eq_of_toNat_eq (by omega)

theorem ext4 {f g : T} (h0 : wd f 0 = wd g 0) (h1 : wd f 1 = wd g 1) (h2 : wd f 2 = wd g 2) (h3 : wd f 3 = wd g 3) : f = g := by
  apply BitVec.eq_of_getLsbD_eq
  intro i hi
  have key : ∀ c, wd f c = wd g c → 64 * c ≤ i → i < 64 * c + 64 → f.getLsbD i = g.getLsbD i := by
    intro c hc h1 h2
    have := congrArg (fun b => b.getLsbD (i - 64 * c)) (wd_inj hc)
    simp only [BitVec.getLsbD_extractLsb', show i - 64 * c < 64 from by omega, decide_true, Bool.true_and, show 64 * c + (i - 64 * c) = i from by omega] at this
    exact this
  by_cases a0 : i < 64
  · exact key 0 h0 (by omega) (by omega)
  by_cases a1 : i < 128
  · exact key 1 h1 (by omega) (by omega)
  by_cases a2 : i < 192
  · exact key 2 h2 (by omega) (by omega)
  · exact key 3 h3 (by omega) (by omega)

theorem wd_and (f g : T) (i : Nat) : wd (f &&& g) i = bits .and .u64 (wd f i) (wd g i) := by
  unfold wd
  rw [bits_and_u64_nat _ _ (BitVec.isLt _) (BitVec.isLt _), BitVec.extractLsb'_and, BitVec.toNat_and]
theorem wd_or (f g : T) (i : Nat) : wd (f ||| g) i = bits .or .u64 (wd f i) (wd g i) := by
  unfold wd
  rw [bits_or_u64_nat _ _ (BitVec.isLt _) (BitVec.isLt _), BitVec.extractLsb'_or, BitVec.toNat_or]
theorem wd_xor (f g : T) (i : Nat) : wd (f ^^^ g) i = bits .xor .u64 (wd f i) (wd g i) := by
  unfold wd
  rw [bits_xor_u64_nat _ _ (BitVec.isLt _) (BitVec.isLt _), BitVec.extractLsb'_xor, BitVec.toNat_xor]
theorem wd_not (f : T) (i : Nat) (hi : i < 4) : wd (~~~f) i = bits .xor .u64 IntKind.u64.max (wd f i) := by
  have e : (~~~f).extractLsb' (64 * i) 64 = BitVec.allOnes 64 ^^^ f.extractLsb' (64 * i) 64 := by
    apply BitVec.eq_of_getLsbD_eq
    intro j hj
    rw [BitVec.getLsbD_extractLsb', BitVec.getLsbD_xor, BitVec.getLsbD_allOnes, BitVec.getLsbD_extractLsb', BitVec.getLsbD_not]
    simp only [hj, show 64 * i + j < 256 from by omega, decide_true, Bool.true_and, Bool.true_xor]
  unfold wd
  rw [e, BitVec.toNat_xor, show IntKind.u64.max = ((BitVec.allOnes 64).toNat : Int) from by decide, bits_xor_u64_nat _ _ (BitVec.isLt _) (BitVec.isLt _)]

theorem getLsbD_wd (f : T) (x : Nat) (hx : x < 256) : f.getLsbD x = ((wd f (x / 64)).toNat.testBit (x % 64)) := by
  unfold wd
  rw [Int.toNat_natCast, BitVec.testBit_toNat, BitVec.getLsbD_extractLsb', show 64 * (x / 64) + x % 64 = x from by omega]
  simp [Nat.mod_lt]

/-- a table out of what is asked of each assignment, up to one -/
def tabTo (p : Nat → Bool) : Nat → T
  | 0 => 0#256
  | k + 1 => if p k then tabTo p k ||| (1#256 <<< k) else tabTo p k
def tab (p : Nat → Bool) : T := tabTo p 256

theorem one_shift (k x : Nat) : (1#256 <<< k).getLsbD x = (decide (x < 256) && decide (x = k)) := by
  rw [BitVec.getLsbD_shiftLeft]
  by_cases h : x = k
  · subst h; simp
  · by_cases h2 : x < k
    · simp [h2, h]
    · simp [h2, h, show x - k ≠ 0 from by omega]

theorem tabTo_get (p : Nat → Bool) (k x : Nat) (hk : k ≤ 256) : (tabTo p k).getLsbD x = (decide (x < k) && p x) := by
  induction k with
  | zero => simp [tabTo]
  | succ k ih =>
    have ih := ih (by omega)
    simp only [tabTo]
    by_cases hp : p k = true
    · rw [if_pos hp, BitVec.getLsbD_or, ih, one_shift]
      by_cases e : x = k
      · subst e; simp [hp, show x < 256 from by omega]
      · simp [e, show (x < k + 1) ↔ (x < k) from by omega]
    · rw [if_neg hp, ih]
      by_cases e : x = k
      · subst e; simp at hp; simp [hp]
      · simp [show (x < k + 1) ↔ (x < k) from by omega]

theorem tab_get (p : Nat → Bool) (x : Nat) : (tab p).getLsbD x = (decide (x < 256) && p x) := tabTo_get p 256 x (by omega)

theorem ext_get {f g : T} (h : ∀ x, x < 256 → f.getLsbD x = g.getLsbD x) : f = g := BitVec.eq_of_getLsbD_eq h

theorem tab_eq {p : Nat → Bool} {f : T} (h : ∀ x, x < 256 → p x = f.getLsbD x) : tab p = f := by
  apply ext_get
  intro x hx
  rw [tab_get, h x hx]; simp [hx]

theorem tab_congr {p q : Nat → Bool} (h : ∀ x, x < 256 → p x = q x) : tab p = tab q := by
  apply tab_eq
  intro x hx
  rw [tab_get, h x hx]; simp [hx]

theorem wd_testBit (f : T) (c j : Nat) (hj : j < 64) : (wd f c).toNat.testBit j = f.getLsbD (64 * c + j) := by
  unfold wd
  rw [Int.toNat_natCast, BitVec.testBit_toNat, BitVec.getLsbD_extractLsb']; simp [hj]

/-- setting a bit, word by word -/
theorem wd_set (f : T) (k c : Nat) (hk : k < 256) (hc : c < 4) : wd (f ||| (1#256 <<< k)) c = if c = k / 64 then bits .or .u64 (wd f c) (2 ^ (k % 64)) else wd f c := by
  have hs : wd (1#256 <<< k) c = if c = k / 64 then 2 ^ (k % 64) else 0 := by
    have hn : (wd (1#256 <<< k) c) = (((if c = k / 64 then 2 ^ (k % 64) else 0 : Nat)) : Int) := by
      have h64 : k % 64 < 64 := Nat.mod_lt _ (by omega)
      have hlt : (if c = k / 64 then 2 ^ (k % 64) else 0 : Nat) < 2 ^ 64 := by
        split
        · exact Nat.pow_lt_pow_right (by omega) h64
        · exact Nat.two_pow_pos 64
      unfold wd
      congr 1
      apply Nat.eq_of_testBit_eq
      intro j
      rw [BitVec.testBit_toNat, BitVec.getLsbD_extractLsb', one_shift]
      by_cases hj : j < 64
      · by_cases e : c = k / 64
        · subst e
          rw [if_pos rfl, Nat.testBit_two_pow]
          simp only [hj, decide_true, Bool.true_and]
          rw [decide_eq_true (show 64 * (k / 64) + j < 256 from by omega), Bool.true_and, decide_eq_decide]
          omega
        · rw [if_neg e, Nat.zero_testBit]
          simp only [hj, decide_true, Bool.true_and]
          rw [show decide (64 * c + j = k) = false from by simp; omega]
          simp
      · simp only [hj, decide_false, Bool.false_and]
        symm
        apply Nat.testBit_lt_two_pow
        exact Nat.lt_of_lt_of_le hlt (Nat.pow_le_pow_right (by omega) (by omega))
    rw [hn]
    split
    · rw [Int.natCast_pow]; rfl
    · rfl
  rw [wd_or, hs]
  split
  · rfl
  · have e := bits_or_u64_nat (f.extractLsb' (64 * c) 64).toNat 0 (BitVec.isLt _) (by omega)
    rw [Nat.or_zero] at e
    exact e

/-- the cells of a table, a bit set -/
theorem tcells_set (f : T) (k : Nat) (hk : k < 256) :
    (tcells f).setIfInBounds (k / 64) (.int .u64 (bits .or .u64 (wd f (k / 64)) (2 ^ (k % 64)))) = tcells (f ||| (1#256 <<< k)) := by
  have h : k / 64 = 0 ∨ k / 64 = 1 ∨ k / 64 = 2 ∨ k / 64 = 3 := by omega
  have e0 := wd_set f k 0 hk (by omega)
  have e1 := wd_set f k 1 hk (by omega)
  have e2 := wd_set f k 2 hk (by omega)
  have e3 := wd_set f k 3 hk (by omega)
  unfold tcells
  rw [e0, e1, e2, e3]
  rcases h with h | h | h | h <;> rw [h] <;> simp
theorem tcells_at (f : T) (k : Nat) (hk : k < 256) : (tcells f)[k / 64]? = some (.int .u64 (wd f (k / 64))) := by
  have h : k / 64 = 0 ∨ k / 64 = 1 ∨ k / 64 = 2 ∨ k / 64 = 3 := by omega
  rcases h with h | h | h | h <;> rw [h] <;> rfl

theorem wd_zero (i : Nat) : wd 0#256 i = 0 := by
  unfold wd
  rw [show (0#256).extractLsb' (64 * i) 64 = 0#64 from by apply BitVec.eq_of_getLsbD_eq; intro j hj; simp]
  rfl
theorem tcells_zero : tcells 0#256 = #[.int .u64 0, .int .u64 0, .int .u64 0, .int .u64 0] := by
  unfold tcells; simp only [wd_zero]

theorem tabTo_zero (p : Nat → Bool) : tabTo p 0 = 0#256 := rfl
theorem tabTo_yes {p : Nat → Bool} {k : Nat} (h : p k = true) : tabTo p (k + 1) = tabTo p k ||| (1#256 <<< k) := by simp [tabTo, h]
theorem tabTo_no {p : Nat → Bool} {k : Nat} (h : p k = false) : tabTo p (k + 1) = tabTo p k := by simp [tabTo, h]
theorem tab_def (p : Nat → Bool) : tab p = tabTo p 256 := rfl

theorem wrap_pow (k : Nat) : IntKind.u64.wrap (2 ^ (k % 64)) = (2 : Int) ^ (k % 64) := by
  have h : (2 : Nat) ^ (k % 64) < 2 ^ 64 := Nat.pow_lt_pow_right (by omega) (Nat.mod_lt _ (by omega))
  have e : ((2 : Int) ^ (k % 64)) = ((2 ^ (k % 64) : Nat) : Int) := by rw [Int.natCast_pow]; rfl
  rw [IntKind.wrap_u64, e]
  generalize (2 : Nat) ^ (k % 64) = m at *
  omega

/-- a word turned -/
def nt (x : Int) : Int := bits .xor .u64 IntKind.u64.max x
theorem nt_op (x : Int) : Op.unary .xor (.int .u64 x) = pure (.int .u64 (nt x)) := rfl
theorem nt_wd (f : T) (i : Nat) (hi : i < 4) : nt (wd f i) = wd (~~~f) i := (wd_not f i hi).symm

/-- a constant's table -/
def cst (b : Bool) : T := if b then BitVec.allOnes 256 else 0#256
theorem cst_get (b : Bool) (x : Nat) (hx : x < 256) : (cst b).getLsbD x = b := by
  cases b
  · simp [cst]
  · show (BitVec.allOnes 256).getLsbD x = true
    rw [BitVec.getLsbD_allOnes]; simp [hx]
theorem tab_cst (b : Bool) : tab (fun _ => b) = cst b := tab_eq fun x hx => (cst_get b x hx).symm

/-- is there such a variable? -/
def kn (v : Int) : Bool := decide (0 ≤ v) && decide (v < 8)
/-- a variable's table -/
def var (v : Int) : T := tab fun x => kn v && x.testBit v.toNat
theorem var_get (v : Int) (x : Nat) (hx : x < 256) : (var v).getLsbD x = (kn v && x.testBit v.toNat) := by
  unfold var; rw [tab_get]; simp [hx]

theorem u8_bit : ∀ x : Nat, x < 256 → ∀ v : Nat, v < 8 → (bits .and .u8 ((x : Int) / 2 ^ v) 1 == 1) = x.testBit v := by decide +kernel

theorem u64_bit (f : T) (x : Nat) (hx : x < 256) : (bits .and .u64 (wd f (x / 64) / 2 ^ (x % 64)) 1 == 1) = f.getLsbD x := by
  rw [getLsbD_wd f x hx]
  have h0 := wd_lo f (x / 64)
  have h1 := wd_hi f (x / 64)
  obtain ⟨n, hn⟩ := Int.eq_ofNat_of_zero_le h0
  rw [hn] at h1 ⊢
  have hd : (n : Int) / 2 ^ (x % 64) = ((n / 2 ^ (x % 64) : Nat) : Int) := by rw [Int.natCast_ediv]; congr 1
  have hdl : n / 2 ^ (x % 64) ≤ n := Nat.div_le_self _ _
  have e1 := bits_and_u64_nat (n / 2 ^ (x % 64)) 1 (by omega) (by omega)
  rw [Nat.and_one_is_mod] at e1
  rw [hd, show (1 : Int) = ((1 : Nat) : Int) from rfl, e1, Int.toNat_natCast, Nat.testBit_eq_decide_div_mod_eq]
  rw [Bool.eq_iff_iff, beq_iff_eq, decide_eq_true_eq]
  omega

/-- an assignment with a variable set -/
def wth (x v : Nat) (b : Bool) : Nat := if b then x ||| 2 ^ v else x - (if x.testBit v then 2 ^ v else 0)
theorem wth_or : ∀ x : Nat, x < 256 → ∀ v : Nat, v < 8 → bits .or .u8 (x : Int) (IntKind.u8.wrap (2 ^ v)) = (wth x v true : Int) := by decide +kernel
theorem wth_andNot : ∀ x : Nat, x < 256 → ∀ v : Nat, v < 8 → bits .andNot .u8 (x : Int) (IntKind.u8.wrap (2 ^ v)) = (wth x v false : Int) := by decide +kernel
theorem wth_lt : ∀ x : Nat, x < 256 → ∀ v : Nat, v < 8 → ∀ b, wth x v b < 256 := by decide +kernel
theorem wth_bit : ∀ x : Nat, x < 256 → ∀ v : Nat, v < 8 → ∀ b, ∀ i : Nat, i < 8 → (wth x v b).testBit i = (if i = v then b else x.testBit i) := by decide +kernel

/-- a variable set for good -/
def fix (f : T) (v : Int) (b : Bool) : T := if kn v then tab (fun x => f.getLsbD (wth x v.toNat b)) else f
theorem fix_yes {v : Int} (h : kn v = true) (f : T) (b : Bool) : fix f v b = tab (fun x => f.getLsbD (wth x v.toNat b)) := by simp [fix, h]
theorem fix_no {v : Int} (h : kn v = false) (f : T) (b : Bool) : fix f v b = f := by simp [fix, h]

/-- both halves joined, variable by variable -/
def halvesTo (J : T → T → T) (f : T) (mask : Nat) : Nat → T
  | 0 => f
  | k + 1 => if mask.testBit k then J (fix (halvesTo J f mask k) (k : Int) false) (fix (halvesTo J f mask k) (k : Int) true) else halvesTo J f mask k
def halves (J : T → T → T) (f : T) (mask : Nat) : T := halvesTo J f mask 8
theorem halvesTo_zero (J : T → T → T) (f : T) (mask : Nat) : halvesTo J f mask 0 = f := rfl
theorem halvesTo_yes {J : T → T → T} {f : T} {mask k : Nat} (h : mask.testBit k = true) : halvesTo J f mask (k + 1) = J (fix (halvesTo J f mask k) (k : Int) false) (fix (halvesTo J f mask k) (k : Int) true) := by simp [halvesTo, h]
theorem halvesTo_no {J : T → T → T} {f : T} {mask k : Nat} (h : mask.testBit k = false) : halvesTo J f mask (k + 1) = halvesTo J f mask k := by simp [halvesTo, h]
theorem halves_def (J : T → T → T) (f : T) (mask : Nat) : halves J f mask = halvesTo J f mask 8 := rfl

/-- an assignment with a mask's variables set -/
def rstx (x m v : Nat) : Nat := (x &&& (255 - m)) ||| (v &&& m)
theorem rstx_lt (x m v : Nat) (hx : x < 256) (hv : v < 256) : rstx x m v < 256 :=
  Nat.or_lt_two_pow (n := 8) (Nat.lt_of_le_of_lt Nat.and_le_left (by omega)) (Nat.lt_of_le_of_lt Nat.and_le_left (by omega))
theorem rstx_walk (x m v : Nat) (hx : x < 256) (hm : m < 256) (hv : v < 256) :
    bits .or .u8 (bits .andNot .u8 (x : Int) (m : Int)) (bits .and .u8 (v : Int) (m : Int)) = (rstx x m v : Int) := by
  rw [u8_andNot_nat x m hx hm, u8_and_nat v m hv hm, u8_or_nat _ _ (Nat.lt_of_le_of_lt Nat.and_le_left hx) (Nat.lt_of_le_of_lt Nat.and_le_left hv)]
  rfl
def restrict (f : T) (m v : Nat) : T := tab fun x => f.getLsbD (rstx x m v)
theorem restrict_def (f : T) (m v : Nat) : restrict f m v = tab fun x => f.getLsbD (rstx x m v) := rfl

/-- is it so for some below? -/
def anyTo (q : Nat → Bool) : Nat → Bool
  | 0 => false
  | k + 1 => anyTo q k || q k
theorem anyTo_hit {q : Nat → Bool} {k n : Nat} (h : q k = true) (hk : k < n) : anyTo q n = true := by
  induction n with
  | zero => omega
  | succ n ih =>
    simp only [anyTo]
    by_cases e : k = n
    · subst e; simp [h]
    · rw [ih (by omega)]; rfl
theorem anyTo_spec {q : Nat → Bool} {n : Nat} : anyTo q n = true ↔ ∃ k, k < n ∧ q k = true := by
  constructor
  · intro h
    induction n with
    | zero => cases h
    | succ n ih =>
      simp only [anyTo, Bool.or_eq_true] at h
      rcases h with h | h
      · obtain ⟨k, hk, hq⟩ := ih h; exact ⟨k, by omega, hq⟩
      · exact ⟨n, by omega, h⟩
  · rintro ⟨k, hk, hq⟩; exact anyTo_hit hq hk
theorem anyTo_no {q : Nat → Bool} {k : Nat} (h : anyTo q k = false) (hq : q k = false) : anyTo q (k + 1) = false := by simp [anyTo, h, hq]

/-- y's odd variables are x's even ones -/
def nx (x y : Nat) : Bool := y &&& 170 == (x &&& 85) * 2
theorem nx_walk (x y : Nat) (hx : x < 256) (hy : y < 256) : (bits .and .u8 (y : Int) 170 == bits .and .u8 (x : Int) 85 * 2 % 256) = nx x y := by
  have e1 := u8_and_nat y 170 hy (by omega)
  have e2 := u8_and_nat x 85 hx (by omega)
  rw [show (170 : Int) = ((170 : Nat) : Int) from rfl, e1, show (85 : Int) = ((85 : Nat) : Int) from rfl, e2]
  have hl : x &&& 85 ≤ 85 := Nat.and_le_right
  unfold nx
  rw [Bool.eq_iff_iff, beq_iff_eq, beq_iff_eq]
  omega
def next (s r : T) : T := tab fun x => anyTo (fun y => nx x y && (s &&& r).getLsbD y) 256
theorem next_def (s r : T) : next s r = tab fun x => anyTo (fun y => nx x y && (s &&& r).getLsbD y) 256 := rfl

/-- y's even variables are x's -/
def pv (x y : Nat) : Bool := y &&& 85 == x &&& 85
theorem pv_walk (x y : Nat) (hx : x < 256) (hy : y < 256) : (bits .and .u8 (y : Int) 85 == bits .and .u8 (x : Int) 85) = pv x y := by
  have e1 := u8_and_nat y 85 hy (by omega)
  have e2 := u8_and_nat x 85 hx (by omega)
  rw [show (85 : Int) = ((85 : Nat) : Int) from rfl, e1, e2]
  unfold pv
  rw [Bool.eq_iff_iff, beq_iff_eq, beq_iff_eq]
  omega
/-- y's odd variables, as even ones -/
def half (y : Nat) : Nat := (y &&& 170) / 2
theorem half_lt (y : Nat) : half y < 256 := by have : y &&& 170 ≤ 170 := Nat.and_le_right; unfold half; omega
theorem half_walk (y : Nat) (hy : y < 256) : bits .and .u8 (y : Int) 170 / 2 = (half y : Int) := by
  have e1 := u8_and_nat y 170 hy (by omega)
  rw [show (170 : Int) = ((170 : Nat) : Int) from rfl, e1]
  unfold half; omega
def prev (s r : T) : T := tab fun x => anyTo (fun y => pv x y && r.getLsbD y && s.getLsbD (half y)) 256
theorem prev_def (s r : T) : prev s r = tab fun x => anyTo (fun y => pv x y && r.getLsbD y && s.getLsbD (half y)) 256 := rfl

/-- the variables on which it hangs -/
def supTo (f : T) : Nat → Nat
  | 0 => 0
  | k + 1 => if fix f (k : Int) false = fix f (k : Int) true then supTo f k else supTo f k ||| 2 ^ k
def support (f : T) : Nat := supTo f 8
theorem support_def (f : T) : support f = supTo f 8 := rfl
theorem supTo_lt (f : T) (k : Nat) (hk : k ≤ 8) : supTo f k < 256 := by
  induction k with
  | zero => simp [supTo]
  | succ k ih =>
    simp only [supTo]
    split
    · exact ih (by omega)
    · refine Nat.or_lt_two_pow (n := 8) (ih (by omega)) (Nat.pow_lt_pow_right (by omega) (by omega))

attribute [irreducible] wd nt tab tabTo cst kn var wth fix halvesTo halves rstx restrict anyTo nx next pv half prev supTo support

end Tb
end Go.Proofs.Ytfgokhafiffbaaa

/-
  The walks of package truth, first part: joining tables word by word.
-/
namespace Go.Proofs.Ytfgokhafiffbaaa
set_option linter.unusedVariables false
open Go.RowKit

/-- what was there before a contract's new blocks reads as it did -/
theorem bcell {W w1 : World} (hb : Below W.heap.size W w1) : (∀ b o, b < W.heap.size → w1.cell? ⟨b, o, none⟩ = W.cell? ⟨b, o, none⟩) ∧ (∀ b o, b < W.heap.size → w1.frozen? ⟨b, o, none⟩ = W.frozen? ⟨b, o, none⟩) :=
  ⟨fun b o h => hb.cell (p := ⟨b, o, none⟩) h, fun b o h => hb.frozen (p := ⟨b, o, none⟩) h⟩

/-- a table's block, cell by cell -/
theorem tfacts {w : World} {g t : Nat} {f : Tb.T} (h : Blk w g t (Tb.tcells f)) :
    (w.cell? ⟨g, 0, none⟩ = some (.int .u64 (Tb.wd f 0)) ∧ w.cell? ⟨g, 1, none⟩ = some (.int .u64 (Tb.wd f 1)) ∧ w.cell? ⟨g, 2, none⟩ = some (.int .u64 (Tb.wd f 2)) ∧ w.cell? ⟨g, 3, none⟩ = some (.int .u64 (Tb.wd f 3))) ∧
    (w.frozen? ⟨g, 0, none⟩ = false ∧ w.frozen? ⟨g, 1, none⟩ = false ∧ w.frozen? ⟨g, 2, none⟩ = false ∧ w.frozen? ⟨g, 3, none⟩ = false) :=
  ⟨⟨h.cell 0, h.cell 1, h.cell 2, h.cell 3⟩, h.frozen 0, h.frozen 1, h.frozen 2, h.frozen 3⟩

/-- a table's block behind four stores -/
theorem blk4 {w : World} {g t : Nat} {f : Tb.T} (h : Blk w g t (Tb.tcells f)) (r : Tb.T) :
    Blk ((((w.setCell ⟨g, 0, none⟩ (.int .u64 (Tb.wd r 0))).setCell ⟨g, 1, none⟩ (.int .u64 (Tb.wd r 1))).setCell ⟨g, 2, none⟩ (.int .u64 (Tb.wd r 2))).setCell ⟨g, 3, none⟩ (.int .u64 (Tb.wd r 3))) g t (Tb.tcells r) :=
  (((h.set_ 0 _).set_ 1 _).set_ 2 _).set_ 3 _
theorem blk4_far {w : World} {g g' t : Nat} {cs : Array Value} (h : Blk w g' t cs) (hne : g' ≠ g) (r : Tb.T) :
    Blk ((((w.setCell ⟨g, 0, none⟩ (.int .u64 (Tb.wd r 0))).setCell ⟨g, 1, none⟩ (.int .u64 (Tb.wd r 1))).setCell ⟨g, 2, none⟩ (.int .u64 (Tb.wd r 2))).setCell ⟨g, 3, none⟩ (.int .u64 (Tb.wd r 3))) g' t cs :=
  (((h.far (p := ⟨g, 0, none⟩) hne _).far (p := ⟨g, 1, none⟩) hne _).far (p := ⟨g, 2, none⟩) hne _).far (p := ⟨g, 3, none⟩) hne _

/-- a function with a body is entered -/
def Enters (P : Program) (K : Nat) : Prop := ∀ args w, (callFunc K args).run P w = .ok (.enter K args) w

set_option maxHeartbeats 1000000 in
theorem each_raw (f g : Tb.T) (K : Nat) (J : Int → Int → Int) (hc : ∀ args w, (callFunc K args).run Try.prog w = .ok (.enter K args) w)
    (HJ : Bx (∀ i w, i < 4 → Calls Try.prog K #[.int .u64 (Tb.wd f i), .int .u64 (Tb.wd g i)] w fun e w' => e = .returned (.int .u64 (J (Tb.wd f i) (Tb.wd g i))) ∧ w' = w)) (w : World) :
    Calls Try.prog 68 #[Tb.tv f, Tb.tv g, .func (.func K) #[] #[]] w fun e w' =>
      e = .returned (.agg #[.int .u64 (J (Tb.wd f 0) (Tb.wd g 0)), .int .u64 (J (Tb.wd f 1) (Tb.wd g 1)), .int .u64 (J (Tb.wd f 2) (Tb.wd g 2)), .int .u64 (J (Tb.wd f 3) (Tb.wd g 3))]) ∧ Below w.heap.size w w' := by
  go_enter Try.func68, Try.ntmps68
  go_wp2_with fail
  refine wp_loop_rounds 5 ?_
  rw [rounds_succ]
  go_wp2_with fail
  refine region_tail 10 (by kernel_rfl) (by kernel_rfl) ?_
  simp only [List.take_succ_cons, List.take_zero, List.drop_succ_cons, List.drop_zero]
  repeat still_step
  still_call (HJ.out 0 _ (by omega))
  repeat still_step
  refine wpStill_nil ?_
  go_wp2_with fail
  rw [rounds_succ]
  go_wp2_with fail
  refine region_tail 10 (by kernel_rfl) (by kernel_rfl) ?_
  simp only [List.take_succ_cons, List.take_zero, List.drop_succ_cons, List.drop_zero]
  repeat still_step
  still_call (HJ.out 1 _ (by omega))
  repeat still_step
  refine wpStill_nil ?_
  go_wp2_with fail
  rw [rounds_succ]
  go_wp2_with fail
  refine region_tail 10 (by kernel_rfl) (by kernel_rfl) ?_
  simp only [List.take_succ_cons, List.take_zero, List.drop_succ_cons, List.drop_zero]
  repeat still_step
  still_call (HJ.out 2 _ (by omega))
  repeat still_step
  refine wpStill_nil ?_
  go_wp2_with fail
  rw [rounds_succ]
  go_wp2_with fail
  refine region_tail 10 (by kernel_rfl) (by kernel_rfl) ?_
  simp only [List.take_succ_cons, List.take_zero, List.drop_succ_cons, List.drop_zero]
  repeat still_step
  still_call (HJ.out 3 _ (by omega))
  repeat still_step
  refine wpStill_nil ?_
  go_wp2_with fail
  rw [rounds_succ]
  go_wp2_with fail
  refine bodyPost_ret (v := .agg #[.int .u64 (J (Tb.wd f 0) (Tb.wd g 0)), .int .u64 (J (Tb.wd f 1) (Tb.wd g 1)), .int .u64 (J (Tb.wd f 2) (Tb.wd g 2)), .int .u64 (J (Tb.wd f 3) (Tb.wd g 3))]) (by simp [results, Try.results68, go_sem]) rfl ⟨rfl, ?_⟩
  repeat (first | exact Below.refl _ _ | apply Below.drew | refine Below.setCell ?_ (by simp <;> omega) _ | refine Below.alloc ?_ (by simp <;> omega) _)


/-- each, where the joined words are a table's -/
theorem each_any (f g R : Tb.T) (K : Nat) (J : Int → Int → Int) (hc : ∀ args w, (callFunc K args).run Try.prog w = .ok (.enter K args) w)
    (HJ : ∀ i w, i < 4 → Calls Try.prog K #[.int .u64 (Tb.wd f i), .int .u64 (Tb.wd g i)] w fun e w' => e = .returned (.int .u64 (J (Tb.wd f i) (Tb.wd g i))) ∧ w' = w)
    (hR : ∀ i, i < 4 → J (Tb.wd f i) (Tb.wd g i) = Tb.wd R i) (w : World) :
    Calls Try.prog 68 #[Tb.tv f, Tb.tv g, .func (.func K) #[] #[]] w fun e w' => e = .returned (Tb.tv R) ∧ Below w.heap.size w w' := by
  have h := each_raw f g K J hc ⟨HJ⟩ w
  rw [hR 0 (by omega), hR 1 (by omega), hR 2 (by omega), hR 3 (by omega)] at h
  exact h

set_option maxHeartbeats 400000 in
theorem and1_any (x y : Int) (w : World) :
    Calls Try.prog 80 #[.int .u64 x, .int .u64 y] w fun e w' => e = .returned (.int .u64 (bits .and .u64 x y)) ∧ w' = w := by
  go_enter Try.func80, Try.ntmps80
  go_wp2_with fail
  go_ret
  exact ⟨rfl, rfl⟩

set_option maxHeartbeats 400000 in
theorem and_any (f g : Tb.T) (w : World) :
    Calls Try.prog 71 #[Tb.tv f, Tb.tv g] w fun e w' => e = .returned (Tb.tv (f &&& g)) ∧ Below w.heap.size w w' := by
  have hE := each_any f g (f &&& g) 80 (fun x y => bits .and .u64 x y) (fun _ _ => rfl) (fun i w _ => and1_any _ _ w) (fun i hi => (Tb.wd_and f g i).symm)
  have HE := Bx.mk hE
  clear hE
  go_enter Try.func71, Try.ntmps71
  go_wp2_with fail
  refine (HE.out _).mono ?_
  rintro e w1 ⟨rfl, hb⟩
  obtain ⟨hcell, hfr⟩ := bcell hb
  have hz := hb.size
  go_wp2_with fail
  refine bodyPost_ret (v := Tb.tv (f &&& g)) (by simp [results, Try.results71, go_sem, hcell]) rfl ⟨rfl, ?_⟩
  repeat (first | exact Below.refl _ _ | apply Below.drew | refine Below.setCell ?_ (by simp <;> omega) _ | refine Below.alloc ?_ (by simp <;> omega) _ | refine Below.trans ?_ (hb.mono (by simp <;> omega)))

set_option maxHeartbeats 400000 in
theorem or1_any (x y : Int) (w : World) :
    Calls Try.prog 79 #[.int .u64 x, .int .u64 y] w fun e w' => e = .returned (.int .u64 (bits .or .u64 x y)) ∧ w' = w := by
  go_enter Try.func79, Try.ntmps79
  go_wp2_with fail
  go_ret
  exact ⟨rfl, rfl⟩

set_option maxHeartbeats 400000 in
theorem or_any (f g : Tb.T) (w : World) :
    Calls Try.prog 70 #[Tb.tv f, Tb.tv g] w fun e w' => e = .returned (Tb.tv (f ||| g)) ∧ Below w.heap.size w w' := by
  have hE := each_any f g (f ||| g) 79 (fun x y => bits .or .u64 x y) (fun _ _ => rfl) (fun i w _ => or1_any _ _ w) (fun i hi => (Tb.wd_or f g i).symm)
  have HE := Bx.mk hE
  clear hE
  go_enter Try.func70, Try.ntmps70
  go_wp2_with fail
  refine (HE.out _).mono ?_
  rintro e w1 ⟨rfl, hb⟩
  obtain ⟨hcell, hfr⟩ := bcell hb
  have hz := hb.size
  go_wp2_with fail
  refine bodyPost_ret (v := Tb.tv (f ||| g)) (by simp [results, Try.results70, go_sem, hcell]) rfl ⟨rfl, ?_⟩
  repeat (first | exact Below.refl _ _ | apply Below.drew | refine Below.setCell ?_ (by simp <;> omega) _ | refine Below.alloc ?_ (by simp <;> omega) _ | refine Below.trans ?_ (hb.mono (by simp <;> omega)))

set_option maxHeartbeats 400000 in
theorem xor1_any (x y : Int) (w : World) :
    Calls Try.prog 82 #[.int .u64 x, .int .u64 y] w fun e w' => e = .returned (.int .u64 (bits .xor .u64 x y)) ∧ w' = w := by
  go_enter Try.func82, Try.ntmps82
  go_wp2_with fail
  go_ret
  exact ⟨rfl, rfl⟩

set_option maxHeartbeats 400000 in
theorem xor_any (f g : Tb.T) (w : World) :
    Calls Try.prog 73 #[Tb.tv f, Tb.tv g] w fun e w' => e = .returned (Tb.tv (f ^^^ g)) ∧ Below w.heap.size w w' := by
  have hE := each_any f g (f ^^^ g) 82 (fun x y => bits .xor .u64 x y) (fun _ _ => rfl) (fun i w _ => xor1_any _ _ w) (fun i hi => (Tb.wd_xor f g i).symm)
  have HE := Bx.mk hE
  clear hE
  go_enter Try.func73, Try.ntmps73
  go_wp2_with fail
  refine (HE.out _).mono ?_
  rintro e w1 ⟨rfl, hb⟩
  obtain ⟨hcell, hfr⟩ := bcell hb
  have hz := hb.size
  go_wp2_with fail
  refine bodyPost_ret (v := Tb.tv (f ^^^ g)) (by simp [results, Try.results73, go_sem, hcell]) rfl ⟨rfl, ?_⟩
  repeat (first | exact Below.refl _ _ | apply Below.drew | refine Below.setCell ?_ (by simp <;> omega) _ | refine Below.alloc ?_ (by simp <;> omega) _ | refine Below.trans ?_ (hb.mono (by simp <;> omega)))

set_option maxHeartbeats 400000 in
theorem not1_any (x y : Int) (w : World) :
    Calls Try.prog 69 #[.int .u64 x, .int .u64 y] w fun e w' => e = .returned (.int .u64 (Tb.nt x)) ∧ w' = w := by
  have hu : Op.unary .xor (.int .u64 x) = pure (.int .u64 (Tb.nt x)) := Tb.nt_op x
  go_enter Try.func69, Try.ntmps69
  go_wp2_with fail
  go_ret
  exact ⟨rfl, rfl⟩

set_option maxHeartbeats 400000 in
theorem not_any (f : Tb.T) (w : World) :
    Calls Try.prog 47 #[Tb.tv f] w fun e w' => e = .returned (Tb.tv (~~~f)) ∧ Below w.heap.size w w' := by
  have hE := each_any f f (~~~f) 69 (fun x y => Tb.nt x) (fun _ _ => rfl) (fun i w _ => not1_any _ _ w) (fun i hi => Tb.nt_wd f i hi)
  have HE := Bx.mk hE
  clear hE
  go_enter Try.func47, Try.ntmps47
  go_wp2_with fail
  refine (HE.out _).mono ?_
  rintro e w1 ⟨rfl, hb⟩
  obtain ⟨hcell, hfr⟩ := bcell hb
  have hz := hb.size
  go_wp2_with fail
  refine bodyPost_ret (v := Tb.tv (~~~f)) (by simp [results, Try.results47, go_sem, hcell]) rfl ⟨rfl, ?_⟩
  repeat (first | exact Below.refl _ _ | apply Below.drew | refine Below.setCell ?_ (by simp <;> omega) _ | refine Below.alloc ?_ (by simp <;> omega) _ | refine Below.trans ?_ (hb.mono (by simp <;> omega)))

end Go.Proofs.Ytfgokhafiffbaaa

/-
  Formulas: small functions.
-/
namespace Go.Proofs.Ytfgokhafiffbaaa
set_option linter.unusedVariables false
open Go.RowKit

/-- how many kids a kind has -/
def Ex.kids (k : Int) : Nat := if k = 3 ∨ k = 10 ∨ k = 11 then 1 else if 4 ≤ k ∧ k ≤ 8 then 2 else if k = 9 then 3 else 0
attribute [irreducible] Ex.kids
theorem Ex.kids1 {k : Int} (h : k = 3 ∨ k = 10 ∨ k = 11) : Ex.kids k = 1 := by unfold Ex.kids; rw [if_pos h]
theorem Ex.kids2 {k : Int} (h : 4 ≤ k ∧ k ≤ 8) : Ex.kids k = 2 := by unfold Ex.kids; rw [if_neg (by omega), if_pos h]
theorem Ex.kids3 {k : Int} (h : k = 9) : Ex.kids k = 3 := by unfold Ex.kids; rw [if_neg (by omega), if_neg (by omega), if_pos h]
theorem Ex.kids0 {k : Int} (h : k < 3 ∨ 11 < k) : Ex.kids k = 0 := by unfold Ex.kids; rw [if_neg (by omega), if_neg (by omega), if_neg (by omega)]

set_option maxHeartbeats 1000000 in
theorem kids_any (k : Int) (w : World) : Calls Try.prog 52 #[.int .i64 k] w fun e w' => e = .returned (.int .i64 (Ex.kids k : Int)) ∧ w' = w := by
  by_cases hr : 3 ≤ k ∧ k ≤ 11
  · obtain ⟨h1, h2⟩ := hr
    have hc : k = 3 ∨ k = 4 ∨ k = 5 ∨ k = 6 ∨ k = 7 ∨ k = 8 ∨ k = 9 ∨ k = 10 ∨ k = 11 := by omega
    clear h1 h2
    rcases hc with rfl | rfl | rfl | rfl | rfl | rfl | rfl | rfl | rfl
    all_goals
      (go_enter Try.func52, Try.ntmps52
       go_wp2_with fail
       go_ret
       exact ⟨by first | (rw [Ex.kids1 (by omega)]; rfl) | (rw [Ex.kids2 (by omega)]; rfl) | (rw [Ex.kids3 (by omega)]; rfl), rfl⟩)
  · have e3 : ¬ k = 3 := by omega
    have e4 : ¬ k = 4 := by omega
    have e5 : ¬ k = 5 := by omega
    have e6 : ¬ k = 6 := by omega
    have e7 : ¬ k = 7 := by omega
    have e8 : ¬ k = 8 := by omega
    have e9 : ¬ k = 9 := by omega
    have ea : ¬ k = 10 := by omega
    have eb : ¬ k = 11 := by omega
    have H := Bx.mk (Ex.kids0 (k := k) (by omega))
    clear hr
    go_enter Try.func52, Try.ntmps52
    go_wp2_with fail
    go_ret
    exact ⟨by rw [H.out]; rfl, rfl⟩

def Ex.letter (c : Nat) : Bool := (decide (97 ≤ c) && decide (c ≤ 122)) || (decide (65 ≤ c) && decide (c ≤ 90))
def Ex.number (c : Nat) : Bool := decide (48 ≤ c) && decide (c ≤ 57)
attribute [irreducible] Ex.letter Ex.number
theorem Ex.letter1 {c : Nat} (h : (97 ≤ c ∧ c ≤ 122) ∨ (65 ≤ c ∧ c ≤ 90)) : Ex.letter c = true := by unfold Ex.letter; simp; omega
theorem Ex.letter0 {c : Nat} (h : ¬ ((97 ≤ c ∧ c ≤ 122) ∨ (65 ≤ c ∧ c ≤ 90))) : Ex.letter c = false := by unfold Ex.letter; simp; omega
theorem Ex.number1 {c : Nat} (h : 48 ≤ c ∧ c ≤ 57) : Ex.number c = true := by unfold Ex.number; simp; omega
theorem Ex.number0 {c : Nat} (h : ¬ (48 ≤ c ∧ c ≤ 57)) : Ex.number c = false := by unfold Ex.number; simp; omega

set_option maxHeartbeats 1000000 in
theorem number_any (c : Nat) (hc : c < 256) (w : World) : Calls Try.prog 59 #[.int .u8 (c : Int)] w fun e w' => e = .returned (.bool (Ex.number c)) ∧ w' = w := by
  by_cases h1 : c < 48
  · have H := Bx.mk (Ex.number0 (c := c) (by omega))
    have q1 : ¬ (c : Int) ≥ 48 := by omega
    go_enter Try.func59, Try.ntmps59
    go_wp2_with fail
    go_ret
    exact ⟨by rw [H.out]; rfl, rfl⟩
  · by_cases h2 : c ≤ 57
    · have H := Bx.mk (Ex.number1 (c := c) (by omega))
      have q1 : (c : Int) ≥ 48 := by omega
      have q2 : (c : Int) ≤ 57 := by omega
      go_enter Try.func59, Try.ntmps59
      go_wp2_with fail
      go_ret
      exact ⟨by rw [H.out]; rfl, rfl⟩
    · have H := Bx.mk (Ex.number0 (c := c) (by omega))
      have q1 : (c : Int) ≥ 48 := by omega
      have q2 : ¬ (c : Int) ≤ 57 := by omega
      go_enter Try.func59, Try.ntmps59
      go_wp2_with fail
      go_ret
      exact ⟨by rw [H.out]; rfl, rfl⟩

set_option maxHeartbeats 1000000 in
theorem letter_any (c : Nat) (hc : c < 256) (w : World) : Calls Try.prog 58 #[.int .u8 (c : Int)] w fun e w' => e = .returned (.bool (Ex.letter c)) ∧ w' = w := by
  have hd : c < 65 ∨ (65 ≤ c ∧ c ≤ 90) ∨ (90 < c ∧ c < 97) ∨ (97 ≤ c ∧ c ≤ 122) ∨ 122 < c := by omega
  rcases hd with h | ⟨h, h'⟩ | ⟨h, h'⟩ | ⟨h, h'⟩ | h
  · have H := Bx.mk (Ex.letter0 (c := c) (by omega))
    have q0 : ¬ (c : Int) ≥ 97 := by omega
    have q1 : ¬ (c : Int) ≥ 65 := by omega
    go_enter Try.func58, Try.ntmps58
    go_wp2_with fail
    go_ret
    exact ⟨by rw [H.out]; rfl, rfl⟩
  · have H := Bx.mk (Ex.letter1 (c := c) (by omega))
    have q0 : ¬ (c : Int) ≥ 97 := by omega
    have q1 : (c : Int) ≥ 65 := by omega
    have q2 : (c : Int) ≤ 90 := by omega
    go_enter Try.func58, Try.ntmps58
    go_wp2_with fail
    go_ret
    exact ⟨by rw [H.out]; rfl, rfl⟩
  · have H := Bx.mk (Ex.letter0 (c := c) (by omega))
    have q0 : ¬ (c : Int) ≥ 97 := by omega
    have q1 : (c : Int) ≥ 65 := by omega
    have q2 : ¬ (c : Int) ≤ 90 := by omega
    go_enter Try.func58, Try.ntmps58
    go_wp2_with fail
    go_ret
    exact ⟨by rw [H.out]; rfl, rfl⟩
  · have H := Bx.mk (Ex.letter1 (c := c) (by omega))
    have q0 : (c : Int) ≥ 97 := by omega
    have q1 : (c : Int) ≤ 122 := by omega
    go_enter Try.func58, Try.ntmps58
    go_wp2_with fail
    go_ret
    exact ⟨by rw [H.out]; rfl, rfl⟩
  · have H := Bx.mk (Ex.letter0 (c := c) (by omega))
    have q0 : (c : Int) ≥ 97 := by omega
    have q1 : ¬ (c : Int) ≤ 122 := by omega
    have q2 : (c : Int) ≥ 65 := by omega
    have q3 : ¬ (c : Int) ≤ 90 := by omega
    go_enter Try.func58, Try.ntmps58
    go_wp2_with fail
    go_ret
    exact ⟨by rw [H.out]; rfl, rfl⟩
end Go.Proofs.Ytfgokhafiffbaaa

/-
  Formulas: small functions on strings.
-/
namespace Go.Proofs.Ytfgokhafiffbaaa
set_option linter.unusedVariables false
open Go.RowKit

set_option maxHeartbeats 1000000 in
theorem variable_len (s : ByteArray) (h : s.size ≠ 2) (w : World) : Calls Try.prog 60 #[.string s] w fun e w' => e = .returned (.bool false) ∧ w' = w := by
  have q1 : ¬ (s.size : Int) = 2 := by omega
  go_enter Try.func60, Try.ntmps60
  go_wp2_with fail
  go_ret
  exact ⟨rfl, rfl⟩
def Ex.vari (a b : Nat) : Bool := decide (a = 118) && (decide (48 ≤ b) && decide (b ≤ 55))
attribute [irreducible] Ex.vari
theorem Ex.vari1 {a b : Nat} (h : a = 118 ∧ 48 ≤ b ∧ b ≤ 55) : Ex.vari a b = true := by unfold Ex.vari; simp; omega
theorem Ex.vari0 {a b : Nat} (h : ¬ (a = 118 ∧ 48 ≤ b ∧ b ≤ 55)) : Ex.vari a b = false := by unfold Ex.vari; simp; omega
set_option maxHeartbeats 1000000 in
theorem variable_two (s : ByteArray) (h : s.size = 2) (a b : Nat) (ha : a < 256) (hb : b < 256) (w : World) (h0 : (Instr.index 9 (.string s) (.int .i64 0)).run Try.prog w = .ok (.int .u8 (a : Int)) w)
    (h1 : (Instr.index 9 (.string s) (.int .i64 1)).run Try.prog w = .ok (.int .u8 (b : Int)) w) :
    Calls Try.prog 60 #[.string s] w fun e w' => e = .returned (.bool (Ex.vari a b)) ∧ w' = w := by
  have q1 : (s.size : Int) = 2 := by omega
  have hd : ¬ a = 118 ∨ (a = 118 ∧ b < 48) ∨ (a = 118 ∧ 48 ≤ b ∧ b ≤ 55) ∨ (a = 118 ∧ 48 ≤ b ∧ ¬ b ≤ 55) := by omega
  rcases hd with d1 | ⟨d1, d2⟩ | ⟨d1, d2, d3⟩ | ⟨d1, d2, d3⟩
  · have H := Bx.mk (Ex.vari0 (a := a) (b := b) (by omega))
    have z0 : ¬ (a : Int) = 118 := by omega
    clear d1
    go_enter Try.func60, Try.ntmps60
    go_wp2_with fail
    go_ret
    exact ⟨by rw [H.out]; rfl, rfl⟩
  · have H := Bx.mk (Ex.vari0 (a := a) (b := b) (by omega))
    have z0 : (a : Int) = 118 := by omega
    have z1 : ¬ (b : Int) ≥ 48 := by omega
    clear d1 d2
    go_enter Try.func60, Try.ntmps60
    go_wp2_with fail
    go_ret
    exact ⟨by rw [H.out]; rfl, rfl⟩
  · have H := Bx.mk (Ex.vari1 (a := a) (b := b) (by omega))
    have z0 : (a : Int) = 118 := by omega
    have z1 : (b : Int) ≥ 48 := by omega
    have z2 : (b : Int) ≤ 55 := by omega
    clear d1 d2 d3
    go_enter Try.func60, Try.ntmps60
    go_wp2_with fail
    go_ret
    exact ⟨by rw [H.out]; rfl, rfl⟩
  · have H := Bx.mk (Ex.vari0 (a := a) (b := b) (by omega))
    have z0 : (a : Int) = 118 := by omega
    have z1 : (b : Int) ≥ 48 := by omega
    have z2 : ¬ (b : Int) ≤ 55 := by omega
    clear d1 d2 d3
    go_enter Try.func60, Try.ntmps60
    go_wp2_with fail
    go_ret
    exact ⟨by rw [H.out]; rfl, rfl⟩
end Go.Proofs.Ytfgokhafiffbaaa

/-
  Formulas, plain: strings as lists of numbers, tokens, the scanner.
-/
namespace Go.Proofs.Ytfgokhafiffbaaa
set_option linter.unusedVariables false
open Go.RowKit

/-- a string's bytes as numbers -/
def bl (s : ByteArray) : List Nat := s.data.toList.map UInt8.toNat
theorem bl_length (s : ByteArray) : (bl s).length = s.size := by simp [bl]
theorem bl_inj {s t : ByteArray} (h : bl s = bl t) : s = t := by
  apply ByteArray.ext
  apply Array.toList_inj.1
  exact (List.map_inj_right (fun a b h => UInt8.toNat.inj h)).1 h
theorem bl_extract (s : ByteArray) (a b : Nat) : bl (s.extract a b) = ((bl s).drop a).take (b - a) := by
  simp [bl, ByteArray.data_extract, List.map_drop, List.map_take]
theorem bl_lt {s : ByteArray} {x : Nat} (h : x ∈ bl s) : x < 256 := by
  simp [bl] at h
  obtain ⟨u, _, rfl⟩ := h
  exact u.toNat_lt
theorem bl_get {s : ByteArray} {i x : Nat} (h : (bl s)[i]? = some x) : ∃ hi : i < s.size, (s[i]'hi).toNat = x := by
  have hl : i < (bl s).length := (List.getElem?_eq_some_iff.1 h).1
  have hi : i < s.size := by rw [bl_length] at hl; exact hl
  refine ⟨hi, ?_⟩
  simp only [bl, List.getElem?_map, Array.getElem?_toList] at h
  have e : s.data[i]? = some (s.data[i]'hi) := by rw [Array.getElem?_eq_getElem hi]
  rw [e] at h
  exact Option.some.inj h
theorem run_idx {s : ByteArray} {i x : Nat} (h : (bl s)[i]? = some x) (w : World) : (Instr.index 9 (.string s) (.int .i64 (i : Int))).run Try.prog w = .ok (.int .u8 (x : Int)) w := by
  obtain ⟨hi, e⟩ := bl_get h
  rw [run_index_string (P := Try.prog) w 9 s .i64 (i : Int) Try.underlying9, dif_pos ⟨by omega, by omega⟩]
  simp only [Int.toNat_natCast, e]
theorem bl_eq (s t : ByteArray) : (s.toList == t.toList) = decide (bl s = bl t) := by
  rw [ByteArray.toList_eq, ByteArray.toList_eq]
  by_cases h : s.data.toList = t.data.toList
  · have : s = t := ByteArray.ext (Array.toList_inj.1 h)
    subst this
    simp
  · have h2 : ¬ bl s = bl t := fun e => h (by rw [bl_inj e])
    rw [decide_eq_false h2]
    exact beq_eq_false_iff_ne.2 h

/-- a string of numbers -/
def strOf (l : List Nat) : ByteArray := ⟨(l.map Nat.toUInt8).toArray⟩
theorem bl_strOf {l : List Nat} (h : ∀ x ∈ l, x < 256) : bl (strOf l) = l := by
  simp only [bl, strOf, List.map_map]
  conv => rhs; rw [← List.map_id l]
  apply List.map_congr_left
  intro x hx
  have := h x hx
  show (Nat.toUInt8 x).toNat = x
  simp [Nat.toUInt8, UInt8.toNat_ofNat', Nat.mod_eq_of_lt this]
theorem strOf_bl (s : ByteArray) : strOf (bl s) = s := bl_inj (bl_strOf fun x hx => bl_lt hx)

/-- the signs of a formula -/
inductive Tok where
  | iff | imp | not | and | or | xor | lp | rp | comma | zero | one | all | any | ite | var (n : Fin 8) | bad | eof
  deriving DecidableEq
def Tok.txt : Tok → List Nat
  | .iff => [60, 45, 62] | .imp => [45, 62] | .not => [33] | .and => [38] | .or => [124] | .xor => [94] | .lp => [40] | .rp => [41] | .comma => [44]
  | .zero => [48] | .one => [49] | .all => [97, 108, 108] | .any => [97, 110, 121] | .ite => [105, 116, 101] | .var n => [118, 48 + n.val] | .bad => [63] | .eof => []
def Tok.str (t : Tok) : ByteArray := strOf t.txt
theorem Tok.txt_lt (t : Tok) : ∀ x ∈ t.txt, x < 256 := by
  cases t <;> simp [Tok.txt]
  rename_i n; have := n.isLt; omega
theorem Tok.bl_str (t : Tok) : bl t.str = t.txt := bl_strOf t.txt_lt
theorem Tok.txt_inj {t u : Tok} (h : t.txt = u.txt) : t = u := by
  cases t <;> cases u <;> simp [Tok.txt] at h ⊢
  exact Fin.ext h
theorem Tok.str_eq (t u : Tok) : (t.str.toList == u.str.toList) = decide (t = u) := by
  rw [bl_eq, Tok.bl_str, Tok.bl_str]
  by_cases h : t = u
  · subst h; simp
  · rw [decide_eq_false h, decide_eq_false (fun e => h (Tok.txt_inj e))]
theorem Tok.txt_len (t : Tok) : t ≠ .eof → 0 < t.txt.length := by cases t <;> simp [Tok.txt]

/-- how many letters and digits stand at the front -/
def Lx.word : List Nat → Nat
  | [] => 0
  | c :: r => if Ex.letter c || Ex.number c then 1 + Lx.word r else 0
theorem Lx.word_le (l : List Nat) : Lx.word l ≤ l.length := by
  induction l with
  | nil => simp [Lx.word]
  | cons c r ih => simp only [Lx.word, List.length_cons]; split <;> omega
def Lx.vr : List Nat → Bool
  | [a, b] => Ex.vari a b
  | _ => false
/-- the word's sign -/
def Lx.kw (l : List Nat) : Tok :=
  if l = [97, 108, 108] then .all else if l = [97, 110, 121] then .any else if l = [105, 116, 101] then .ite else
  if Lx.vr l then .var (Fin.ofNat 8 (l.getD 1 0 - 48)) else .bad
theorem Lx.vr_spec {l : List Nat} (h : Lx.vr l = true) : ∃ b, l = [118, b] ∧ 48 ≤ b ∧ b ≤ 55 := by
  match l, h with
  | [a, b], h =>
    have h : Ex.vari a b = true := h
    unfold Ex.vari at h
    simp at h
    exact ⟨b, by rw [h.1], h.2.1, h.2.2⟩
  | [], h => cases h
  | [_], h => cases h
  | _ :: _ :: _ :: _, h => cases h
theorem Lx.vr_mk {b : Nat} (h1 : 48 ≤ b) (h2 : b ≤ 55) : Lx.vr [118, b] = true := by
  show Ex.vari 118 b = true
  unfold Ex.vari
  simp [h1, h2]
def Lx.pre (p l : List Nat) : Bool := decide (l.take p.length = p)
/-- the first sign of a text that begins with no blank -/
def Lx.scan (l : List Nat) : Tok :=
  if Lx.pre [60, 45, 62] l then .iff else if Lx.pre [45, 62] l then .imp else if Lx.pre [33] l then .not else if Lx.pre [38] l then .and else if Lx.pre [124] l then .or
  else if Lx.pre [94] l then .xor else if Lx.pre [40] l then .lp else if Lx.pre [41] l then .rp else if Lx.pre [44] l then .comma else
  match l with
  | [] => .eof
  | c :: r => if c = 48 then .zero else if c = 49 then .one else if Ex.letter c then Lx.kw (c :: r.take (Lx.word r)) else .bad
def Lx.blank (c : Nat) : Bool := c == 32 || c == 9 || c == 10
/-- how many blanks stand at the front -/
def Lx.skip : List Nat → Nat
  | [] => 0
  | c :: r => if Lx.blank c then 1 + Lx.skip r else 0
theorem Lx.skip_le (l : List Nat) : Lx.skip l ≤ l.length := by
  induction l with
  | nil => simp [Lx.skip]
  | cons c r ih => simp only [Lx.skip, List.length_cons]; split <;> omega
theorem Lx.pre_take {p l : List Nat} (h : Lx.pre p l = true) : l.take p.length = p := of_decide_eq_true h
theorem Lx.kw_txt (l : List Nat) (h : Lx.kw l ≠ .bad) (hl : ∀ x ∈ l, x < 256) : (Lx.kw l).txt = l := by
  unfold Lx.kw at h ⊢
  by_cases h1 : l = [97, 108, 108]
  · rw [if_pos h1]; exact h1.symm
  rw [if_neg h1] at h ⊢
  by_cases h2 : l = [97, 110, 121]
  · rw [if_pos h2]; exact h2.symm
  rw [if_neg h2] at h ⊢
  by_cases h3 : l = [105, 116, 101]
  · rw [if_pos h3]; exact h3.symm
  rw [if_neg h3] at h ⊢
  cases hv : Lx.vr l with
  | false => rw [hv] at h; exact absurd rfl h
  | true =>
    obtain ⟨b, rfl, h1, h2⟩ := Lx.vr_spec hv
    simp [Fin.ofNat, Tok.txt]
    omega
theorem Lx.scan_txt (l : List Nat) (hl : ∀ x ∈ l, x < 256) (h : Lx.scan l ≠ .bad) : l.take (Lx.scan l).txt.length = (Lx.scan l).txt := by
  revert h
  unfold Lx.scan
  by_cases h0 : Lx.pre [60, 45, 62] l = true
  · rw [if_pos h0]; intro _; exact Lx.pre_take h0
  rw [if_neg h0]
  by_cases h1 : Lx.pre [45, 62] l = true
  · rw [if_pos h1]; intro _; exact Lx.pre_take h1
  rw [if_neg h1]
  by_cases h2 : Lx.pre [33] l = true
  · rw [if_pos h2]; intro _; exact Lx.pre_take h2
  rw [if_neg h2]
  by_cases h3 : Lx.pre [38] l = true
  · rw [if_pos h3]; intro _; exact Lx.pre_take h3
  rw [if_neg h3]
  by_cases h4 : Lx.pre [124] l = true
  · rw [if_pos h4]; intro _; exact Lx.pre_take h4
  rw [if_neg h4]
  by_cases h5 : Lx.pre [94] l = true
  · rw [if_pos h5]; intro _; exact Lx.pre_take h5
  rw [if_neg h5]
  by_cases h6 : Lx.pre [40] l = true
  · rw [if_pos h6]; intro _; exact Lx.pre_take h6
  rw [if_neg h6]
  by_cases h7 : Lx.pre [41] l = true
  · rw [if_pos h7]; intro _; exact Lx.pre_take h7
  rw [if_neg h7]
  by_cases h8 : Lx.pre [44] l = true
  · rw [if_pos h8]; intro _; exact Lx.pre_take h8
  rw [if_neg h8]
  match l, hl with
  | [], _ => intro _; rfl
  | c :: r, hl =>
    simp only []
    by_cases g0 : c = 48
    · rw [if_pos g0]; intro _; subst g0; rfl
    rw [if_neg g0]
    by_cases g1 : c = 49
    · rw [if_pos g1]; intro _; subst g1; rfl
    rw [if_neg g1]
    cases g2 : Ex.letter c with
    | false => simp
    | true =>
      simp only [if_true]
      intro hb
      have := Lx.kw_txt _ hb (fun x hx => by
        rcases List.mem_cons.1 hx with rfl | hx
        · exact hl _ (List.mem_cons_self)
        · exact hl _ (List.mem_cons_of_mem _ (List.mem_of_mem_take hx)))
      rw [this]
      simp [Nat.min_eq_left (Lx.word_le r)]
theorem Lx.scan_nil : Lx.scan [] = .eof := by decide +kernel
theorem Lx.scan_len (l : List Nat) (hl : ∀ x ∈ l, x < 256) : (Lx.scan l).txt.length ≤ l.length := by
  by_cases h : Lx.scan l = .bad
  · rw [h]
    cases l with
    | nil => rw [Lx.scan_nil] at h; cases h
    | cons c r => simp [Tok.txt]
  · have := congrArg List.length (Lx.scan_txt l hl h)
    rw [List.length_take] at this
    omega
attribute [irreducible] Lx.scan Lx.kw Lx.pre Lx.word Lx.skip Lx.blank Lx.vr Tok.str Tok.txt bl strOf
end Go.Proofs.Ytfgokhafiffbaaa

/-
  Formulas: strings.HasPrefix, expr.scan.
-/
namespace Go.Proofs.Ytfgokhafiffbaaa
set_option linter.unusedVariables false
open Go.RowKit

set_option maxHeartbeats 1000000 in
theorem litePrefix_any (s k : ByteArray) (w : World) : Calls Try.prog 76 #[.string s, .string k] w fun e w' => e = .returned (.bool (Lx.pre (bl k) (bl s))) ∧ w' = w := by
  have hE : ((s.extract 0 k.size).toList == k.toList) = Lx.pre (bl k) (bl s) := by
    rw [bl_eq, bl_extract]; unfold Lx.pre; rw [bl_length]; simp
  by_cases h : k.size ≤ s.size
  · have q1 : (s.size : Int) ≥ k.size := by omega
    have q2 : (k.size : Int) ≤ s.size := by omega
    go_enter Try.func76, Try.ntmps76
    go_wp2_with fail
    go_ret
    exact ⟨rfl, rfl⟩
  · have q1 : ¬ (s.size : Int) ≥ k.size := by omega
    have hF : Lx.pre (bl k) (bl s) = false := by
      unfold Lx.pre
      refine decide_eq_false fun e => ?_
      have := congrArg List.length e
      rw [List.length_take, bl_length, bl_length] at this
      omega
    have H := Bx.mk hF
    clear hE hF
    go_enter Try.func76, Try.ntmps76
    go_wp2_with fail
    go_ret
    exact ⟨by rw [H.out]; rfl, rfl⟩
set_option maxHeartbeats 1000000 in
theorem prefix_any (s k : ByteArray) (w : World) : Calls Try.prog 57 #[.string s, .string k] w fun e w' => e = .returned (.bool (Lx.pre (bl k) (bl s))) ∧ w' = w := by
  go_enter Try.func57, Try.ntmps57
  go_wp2_with fail
  refine (litePrefix_any s k _).mono ?_
  rintro e w1 ⟨rfl, rfl⟩
  go_wp2_with fail
  go_ret
  exact ⟨rfl, rfl⟩
theorem prefix_is (s k : ByteArray) {l : List Nat} {b : Bool} (hl : bl k = l) (h : Lx.pre l (bl s) = b) (w : World) : Calls Try.prog 57 #[.string s, .string k] w fun e w' => e = .returned (.bool b) ∧ w' = w := by
  have := prefix_any s k w
  rw [hl, h] at this
  exact this
theorem bl_mk (l : List UInt8) : bl ⟨l.toArray⟩ = l.map UInt8.toNat := by simp [bl]

theorem scan_ix0 (w : World) : (Instr.index 78 (.agg #[.string { data := #[60, 45, 62] }, .string { data := #[45, 62] }, .string { data := #[33] }, .string { data := #[38] }, .string { data := #[124] }, .string { data := #[94] }, .string { data := #[40] }, .string { data := #[41] }, .string { data := #[44] }]) (.int .i64 0)).run Try.prog w = .ok (.string { data := #[60, 45, 62] }) w := by kernel_rfl
theorem scan_ix1 (w : World) : (Instr.index 78 (.agg #[.string { data := #[60, 45, 62] }, .string { data := #[45, 62] }, .string { data := #[33] }, .string { data := #[38] }, .string { data := #[124] }, .string { data := #[94] }, .string { data := #[40] }, .string { data := #[41] }, .string { data := #[44] }]) (.int .i64 1)).run Try.prog w = .ok (.string { data := #[45, 62] }) w := by kernel_rfl
theorem scan_ix2 (w : World) : (Instr.index 78 (.agg #[.string { data := #[60, 45, 62] }, .string { data := #[45, 62] }, .string { data := #[33] }, .string { data := #[38] }, .string { data := #[124] }, .string { data := #[94] }, .string { data := #[40] }, .string { data := #[41] }, .string { data := #[44] }]) (.int .i64 2)).run Try.prog w = .ok (.string { data := #[33] }) w := by kernel_rfl
theorem scan_ix3 (w : World) : (Instr.index 78 (.agg #[.string { data := #[60, 45, 62] }, .string { data := #[45, 62] }, .string { data := #[33] }, .string { data := #[38] }, .string { data := #[124] }, .string { data := #[94] }, .string { data := #[40] }, .string { data := #[41] }, .string { data := #[44] }]) (.int .i64 3)).run Try.prog w = .ok (.string { data := #[38] }) w := by kernel_rfl
theorem scan_ix4 (w : World) : (Instr.index 78 (.agg #[.string { data := #[60, 45, 62] }, .string { data := #[45, 62] }, .string { data := #[33] }, .string { data := #[38] }, .string { data := #[124] }, .string { data := #[94] }, .string { data := #[40] }, .string { data := #[41] }, .string { data := #[44] }]) (.int .i64 4)).run Try.prog w = .ok (.string { data := #[124] }) w := by kernel_rfl
theorem scan_ix5 (w : World) : (Instr.index 78 (.agg #[.string { data := #[60, 45, 62] }, .string { data := #[45, 62] }, .string { data := #[33] }, .string { data := #[38] }, .string { data := #[124] }, .string { data := #[94] }, .string { data := #[40] }, .string { data := #[41] }, .string { data := #[44] }]) (.int .i64 5)).run Try.prog w = .ok (.string { data := #[94] }) w := by kernel_rfl
theorem scan_ix6 (w : World) : (Instr.index 78 (.agg #[.string { data := #[60, 45, 62] }, .string { data := #[45, 62] }, .string { data := #[33] }, .string { data := #[38] }, .string { data := #[124] }, .string { data := #[94] }, .string { data := #[40] }, .string { data := #[41] }, .string { data := #[44] }]) (.int .i64 6)).run Try.prog w = .ok (.string { data := #[40] }) w := by kernel_rfl
theorem scan_ix7 (w : World) : (Instr.index 78 (.agg #[.string { data := #[60, 45, 62] }, .string { data := #[45, 62] }, .string { data := #[33] }, .string { data := #[38] }, .string { data := #[124] }, .string { data := #[94] }, .string { data := #[40] }, .string { data := #[41] }, .string { data := #[44] }]) (.int .i64 7)).run Try.prog w = .ok (.string { data := #[41] }) w := by kernel_rfl
theorem scan_ix8 (w : World) : (Instr.index 78 (.agg #[.string { data := #[60, 45, 62] }, .string { data := #[45, 62] }, .string { data := #[33] }, .string { data := #[38] }, .string { data := #[124] }, .string { data := #[94] }, .string { data := #[40] }, .string { data := #[41] }, .string { data := #[44] }]) (.int .i64 8)).run Try.prog w = .ok (.string { data := #[44] }) w := by kernel_rfl
theorem scan_bl0 : bl { data := #[60, 45, 62] } = [60, 45, 62] := by unfold bl; decide +kernel
theorem scan_str0 : ({ data := #[60, 45, 62] } : ByteArray) = Tok.str .iff := by unfold Tok.str Tok.txt strOf; decide +kernel
theorem scan_bl1 : bl { data := #[45, 62] } = [45, 62] := by unfold bl; decide +kernel
theorem scan_str1 : ({ data := #[45, 62] } : ByteArray) = Tok.str .imp := by unfold Tok.str Tok.txt strOf; decide +kernel
theorem scan_bl2 : bl { data := #[33] } = [33] := by unfold bl; decide +kernel
theorem scan_str2 : ({ data := #[33] } : ByteArray) = Tok.str .not := by unfold Tok.str Tok.txt strOf; decide +kernel
theorem scan_bl3 : bl { data := #[38] } = [38] := by unfold bl; decide +kernel
theorem scan_str3 : ({ data := #[38] } : ByteArray) = Tok.str .and := by unfold Tok.str Tok.txt strOf; decide +kernel
theorem scan_bl4 : bl { data := #[124] } = [124] := by unfold bl; decide +kernel
theorem scan_str4 : ({ data := #[124] } : ByteArray) = Tok.str .or := by unfold Tok.str Tok.txt strOf; decide +kernel
theorem scan_bl5 : bl { data := #[94] } = [94] := by unfold bl; decide +kernel
theorem scan_str5 : ({ data := #[94] } : ByteArray) = Tok.str .xor := by unfold Tok.str Tok.txt strOf; decide +kernel
theorem scan_bl6 : bl { data := #[40] } = [40] := by unfold bl; decide +kernel
theorem scan_str6 : ({ data := #[40] } : ByteArray) = Tok.str .lp := by unfold Tok.str Tok.txt strOf; decide +kernel
theorem scan_bl7 : bl { data := #[41] } = [41] := by unfold bl; decide +kernel
theorem scan_str7 : ({ data := #[41] } : ByteArray) = Tok.str .rp := by unfold Tok.str Tok.txt strOf; decide +kernel
theorem scan_bl8 : bl { data := #[44] } = [44] := by unfold bl; decide +kernel
theorem scan_str8 : ({ data := #[44] } : ByteArray) = Tok.str .comma := by unfold Tok.str Tok.txt strOf; decide +kernel

set_option maxHeartbeats 4000000 in
theorem scan_is0 (s : ByteArray) (w : World) (P0 : Bx (Lx.pre [60, 45, 62] (bl s) = true)) : Calls Try.prog 42 #[.string s] w fun e w' => e = .returned (.string (Tok.str .iff)) ∧ w' = w := by
  have i0 := scan_ix0
  go_enter Try.func42, Try.ntmps42
  go_wp2_with fail
  refine wp_loop_rounds 1 ?_
  rw [rounds_succ]
  go_wp2_with fail
  refine (prefix_is s _ scan_bl0 P0.out _).mono ?_
  rintro e w1 ⟨rfl, rfl⟩
  go_wp2_with fail
  go_ret
  exact ⟨by rw [← scan_str0]; rfl, rfl⟩
set_option maxHeartbeats 4000000 in
theorem scan_is1 (s : ByteArray) (w : World) (P0 : Bx (Lx.pre [60, 45, 62] (bl s) = false)) (P1 : Bx (Lx.pre [45, 62] (bl s) = true)) : Calls Try.prog 42 #[.string s] w fun e w' => e = .returned (.string (Tok.str .imp)) ∧ w' = w := by
  have i0 := scan_ix0
  have i1 := scan_ix1
  go_enter Try.func42, Try.ntmps42
  go_wp2_with fail
  refine wp_loop_rounds 2 ?_
  rw [rounds_succ]
  go_wp2_with fail
  refine (prefix_is s _ scan_bl0 P0.out _).mono ?_
  rintro e w1 ⟨rfl, rfl⟩
  go_wp2_with fail
  rw [rounds_succ]
  go_wp2_with fail
  refine (prefix_is s _ scan_bl1 P1.out _).mono ?_
  rintro e w1 ⟨rfl, rfl⟩
  go_wp2_with fail
  go_ret
  exact ⟨by rw [← scan_str1]; rfl, rfl⟩
set_option maxHeartbeats 4000000 in
theorem scan_is2 (s : ByteArray) (w : World) (P0 : Bx (Lx.pre [60, 45, 62] (bl s) = false)) (P1 : Bx (Lx.pre [45, 62] (bl s) = false)) (P2 : Bx (Lx.pre [33] (bl s) = true)) : Calls Try.prog 42 #[.string s] w fun e w' => e = .returned (.string (Tok.str .not)) ∧ w' = w := by
  have i0 := scan_ix0
  have i1 := scan_ix1
  have i2 := scan_ix2
  go_enter Try.func42, Try.ntmps42
  go_wp2_with fail
  refine wp_loop_rounds 3 ?_
  rw [rounds_succ]
  go_wp2_with fail
  refine (prefix_is s _ scan_bl0 P0.out _).mono ?_
  rintro e w1 ⟨rfl, rfl⟩
  go_wp2_with fail
  rw [rounds_succ]
  go_wp2_with fail
  refine (prefix_is s _ scan_bl1 P1.out _).mono ?_
  rintro e w1 ⟨rfl, rfl⟩
  go_wp2_with fail
  rw [rounds_succ]
  go_wp2_with fail
  refine (prefix_is s _ scan_bl2 P2.out _).mono ?_
  rintro e w1 ⟨rfl, rfl⟩
  go_wp2_with fail
  go_ret
  exact ⟨by rw [← scan_str2]; rfl, rfl⟩
set_option maxHeartbeats 4000000 in
theorem scan_is3 (s : ByteArray) (w : World) (P0 : Bx (Lx.pre [60, 45, 62] (bl s) = false)) (P1 : Bx (Lx.pre [45, 62] (bl s) = false)) (P2 : Bx (Lx.pre [33] (bl s) = false)) (P3 : Bx (Lx.pre [38] (bl s) = true)) : Calls Try.prog 42 #[.string s] w fun e w' => e = .returned (.string (Tok.str .and)) ∧ w' = w := by
  have i0 := scan_ix0
  have i1 := scan_ix1
  have i2 := scan_ix2
  have i3 := scan_ix3
  go_enter Try.func42, Try.ntmps42
  go_wp2_with fail
  refine wp_loop_rounds 4 ?_
  rw [rounds_succ]
  go_wp2_with fail
  refine (prefix_is s _ scan_bl0 P0.out _).mono ?_
  rintro e w1 ⟨rfl, rfl⟩
  go_wp2_with fail
  rw [rounds_succ]
  go_wp2_with fail
  refine (prefix_is s _ scan_bl1 P1.out _).mono ?_
  rintro e w1 ⟨rfl, rfl⟩
  go_wp2_with fail
  rw [rounds_succ]
  go_wp2_with fail
  refine (prefix_is s _ scan_bl2 P2.out _).mono ?_
  rintro e w1 ⟨rfl, rfl⟩
  go_wp2_with fail
  rw [rounds_succ]
  go_wp2_with fail
  refine (prefix_is s _ scan_bl3 P3.out _).mono ?_
  rintro e w1 ⟨rfl, rfl⟩
  go_wp2_with fail
  go_ret
  exact ⟨by rw [← scan_str3]; rfl, rfl⟩
set_option maxHeartbeats 4000000 in
theorem scan_is4 (s : ByteArray) (w : World) (P0 : Bx (Lx.pre [60, 45, 62] (bl s) = false)) (P1 : Bx (Lx.pre [45, 62] (bl s) = false)) (P2 : Bx (Lx.pre [33] (bl s) = false)) (P3 : Bx (Lx.pre [38] (bl s) = false)) (P4 : Bx (Lx.pre [124] (bl s) = true)) : Calls Try.prog 42 #[.string s] w fun e w' => e = .returned (.string (Tok.str .or)) ∧ w' = w := by
  have i0 := scan_ix0
  have i1 := scan_ix1
  have i2 := scan_ix2
  have i3 := scan_ix3
  have i4 := scan_ix4
  go_enter Try.func42, Try.ntmps42
  go_wp2_with fail
  refine wp_loop_rounds 5 ?_
  rw [rounds_succ]
  go_wp2_with fail
  refine (prefix_is s _ scan_bl0 P0.out _).mono ?_
  rintro e w1 ⟨rfl, rfl⟩
  go_wp2_with fail
  rw [rounds_succ]
  go_wp2_with fail
  refine (prefix_is s _ scan_bl1 P1.out _).mono ?_
  rintro e w1 ⟨rfl, rfl⟩
  go_wp2_with fail
  rw [rounds_succ]
  go_wp2_with fail
  refine (prefix_is s _ scan_bl2 P2.out _).mono ?_
  rintro e w1 ⟨rfl, rfl⟩
  go_wp2_with fail
  rw [rounds_succ]
  go_wp2_with fail
  refine (prefix_is s _ scan_bl3 P3.out _).mono ?_
  rintro e w1 ⟨rfl, rfl⟩
  go_wp2_with fail
  rw [rounds_succ]
  go_wp2_with fail
  refine (prefix_is s _ scan_bl4 P4.out _).mono ?_
  rintro e w1 ⟨rfl, rfl⟩
  go_wp2_with fail
  go_ret
  exact ⟨by rw [← scan_str4]; rfl, rfl⟩
set_option maxHeartbeats 4000000 in
theorem scan_is5 (s : ByteArray) (w : World) (P0 : Bx (Lx.pre [60, 45, 62] (bl s) = false)) (P1 : Bx (Lx.pre [45, 62] (bl s) = false)) (P2 : Bx (Lx.pre [33] (bl s) = false)) (P3 : Bx (Lx.pre [38] (bl s) = false)) (P4 : Bx (Lx.pre [124] (bl s) = false)) (P5 : Bx (Lx.pre [94] (bl s) = true)) : Calls Try.prog 42 #[.string s] w fun e w' => e = .returned (.string (Tok.str .xor)) ∧ w' = w := by
  have i0 := scan_ix0
  have i1 := scan_ix1
  have i2 := scan_ix2
  have i3 := scan_ix3
  have i4 := scan_ix4
  have i5 := scan_ix5
  go_enter Try.func42, Try.ntmps42
  go_wp2_with fail
  refine wp_loop_rounds 6 ?_
  rw [rounds_succ]
  go_wp2_with fail
  refine (prefix_is s _ scan_bl0 P0.out _).mono ?_
  rintro e w1 ⟨rfl, rfl⟩
  go_wp2_with fail
  rw [rounds_succ]
  go_wp2_with fail
  refine (prefix_is s _ scan_bl1 P1.out _).mono ?_
  rintro e w1 ⟨rfl, rfl⟩
  go_wp2_with fail
  rw [rounds_succ]
  go_wp2_with fail
  refine (prefix_is s _ scan_bl2 P2.out _).mono ?_
  rintro e w1 ⟨rfl, rfl⟩
  go_wp2_with fail
  rw [rounds_succ]
  go_wp2_with fail
  refine (prefix_is s _ scan_bl3 P3.out _).mono ?_
  rintro e w1 ⟨rfl, rfl⟩
  go_wp2_with fail
  rw [rounds_succ]
  go_wp2_with fail
  refine (prefix_is s _ scan_bl4 P4.out _).mono ?_
  rintro e w1 ⟨rfl, rfl⟩
  go_wp2_with fail
  rw [rounds_succ]
  go_wp2_with fail
  refine (prefix_is s _ scan_bl5 P5.out _).mono ?_
  rintro e w1 ⟨rfl, rfl⟩
  go_wp2_with fail
  go_ret
  exact ⟨by rw [← scan_str5]; rfl, rfl⟩
set_option maxHeartbeats 4000000 in
theorem scan_is6 (s : ByteArray) (w : World) (P0 : Bx (Lx.pre [60, 45, 62] (bl s) = false)) (P1 : Bx (Lx.pre [45, 62] (bl s) = false)) (P2 : Bx (Lx.pre [33] (bl s) = false)) (P3 : Bx (Lx.pre [38] (bl s) = false)) (P4 : Bx (Lx.pre [124] (bl s) = false)) (P5 : Bx (Lx.pre [94] (bl s) = false)) (P6 : Bx (Lx.pre [40] (bl s) = true)) : Calls Try.prog 42 #[.string s] w fun e w' => e = .returned (.string (Tok.str .lp)) ∧ w' = w := by
  have i0 := scan_ix0
  have i1 := scan_ix1
  have i2 := scan_ix2
  have i3 := scan_ix3
  have i4 := scan_ix4
  have i5 := scan_ix5
  have i6 := scan_ix6
  go_enter Try.func42, Try.ntmps42
  go_wp2_with fail
  refine wp_loop_rounds 7 ?_
  rw [rounds_succ]
  go_wp2_with fail
  refine (prefix_is s _ scan_bl0 P0.out _).mono ?_
  rintro e w1 ⟨rfl, rfl⟩
  go_wp2_with fail
  rw [rounds_succ]
  go_wp2_with fail
  refine (prefix_is s _ scan_bl1 P1.out _).mono ?_
  rintro e w1 ⟨rfl, rfl⟩
  go_wp2_with fail
  rw [rounds_succ]
  go_wp2_with fail
  refine (prefix_is s _ scan_bl2 P2.out _).mono ?_
  rintro e w1 ⟨rfl, rfl⟩
  go_wp2_with fail
  rw [rounds_succ]
  go_wp2_with fail
  refine (prefix_is s _ scan_bl3 P3.out _).mono ?_
  rintro e w1 ⟨rfl, rfl⟩
  go_wp2_with fail
  rw [rounds_succ]
  go_wp2_with fail
  refine (prefix_is s _ scan_bl4 P4.out _).mono ?_
  rintro e w1 ⟨rfl, rfl⟩
  go_wp2_with fail
  rw [rounds_succ]
  go_wp2_with fail
  refine (prefix_is s _ scan_bl5 P5.out _).mono ?_
  rintro e w1 ⟨rfl, rfl⟩
  go_wp2_with fail
  rw [rounds_succ]
  go_wp2_with fail
  refine (prefix_is s _ scan_bl6 P6.out _).mono ?_
  rintro e w1 ⟨rfl, rfl⟩
  go_wp2_with fail
  go_ret
  exact ⟨by rw [← scan_str6]; rfl, rfl⟩
set_option maxHeartbeats 4000000 in
theorem scan_is7 (s : ByteArray) (w : World) (P0 : Bx (Lx.pre [60, 45, 62] (bl s) = false)) (P1 : Bx (Lx.pre [45, 62] (bl s) = false)) (P2 : Bx (Lx.pre [33] (bl s) = false)) (P3 : Bx (Lx.pre [38] (bl s) = false)) (P4 : Bx (Lx.pre [124] (bl s) = false)) (P5 : Bx (Lx.pre [94] (bl s) = false)) (P6 : Bx (Lx.pre [40] (bl s) = false)) (P7 : Bx (Lx.pre [41] (bl s) = true)) : Calls Try.prog 42 #[.string s] w fun e w' => e = .returned (.string (Tok.str .rp)) ∧ w' = w := by
  have i0 := scan_ix0
  have i1 := scan_ix1
  have i2 := scan_ix2
  have i3 := scan_ix3
  have i4 := scan_ix4
  have i5 := scan_ix5
  have i6 := scan_ix6
  have i7 := scan_ix7
  go_enter Try.func42, Try.ntmps42
  go_wp2_with fail
  refine wp_loop_rounds 8 ?_
  rw [rounds_succ]
  go_wp2_with fail
  refine (prefix_is s _ scan_bl0 P0.out _).mono ?_
  rintro e w1 ⟨rfl, rfl⟩
  go_wp2_with fail
  rw [rounds_succ]
  go_wp2_with fail
  refine (prefix_is s _ scan_bl1 P1.out _).mono ?_
  rintro e w1 ⟨rfl, rfl⟩
  go_wp2_with fail
  rw [rounds_succ]
  go_wp2_with fail
  refine (prefix_is s _ scan_bl2 P2.out _).mono ?_
  rintro e w1 ⟨rfl, rfl⟩
  go_wp2_with fail
  rw [rounds_succ]
  go_wp2_with fail
  refine (prefix_is s _ scan_bl3 P3.out _).mono ?_
  rintro e w1 ⟨rfl, rfl⟩
  go_wp2_with fail
  rw [rounds_succ]
  go_wp2_with fail
  refine (prefix_is s _ scan_bl4 P4.out _).mono ?_
  rintro e w1 ⟨rfl, rfl⟩
  go_wp2_with fail
  rw [rounds_succ]
  go_wp2_with fail
  refine (prefix_is s _ scan_bl5 P5.out _).mono ?_
  rintro e w1 ⟨rfl, rfl⟩
  go_wp2_with fail
  rw [rounds_succ]
  go_wp2_with fail
  refine (prefix_is s _ scan_bl6 P6.out _).mono ?_
  rintro e w1 ⟨rfl, rfl⟩
  go_wp2_with fail
  rw [rounds_succ]
  go_wp2_with fail
  refine (prefix_is s _ scan_bl7 P7.out _).mono ?_
  rintro e w1 ⟨rfl, rfl⟩
  go_wp2_with fail
  go_ret
  exact ⟨by rw [← scan_str7]; rfl, rfl⟩
set_option maxHeartbeats 4000000 in
theorem scan_is8 (s : ByteArray) (w : World) (P0 : Bx (Lx.pre [60, 45, 62] (bl s) = false)) (P1 : Bx (Lx.pre [45, 62] (bl s) = false)) (P2 : Bx (Lx.pre [33] (bl s) = false)) (P3 : Bx (Lx.pre [38] (bl s) = false)) (P4 : Bx (Lx.pre [124] (bl s) = false)) (P5 : Bx (Lx.pre [94] (bl s) = false)) (P6 : Bx (Lx.pre [40] (bl s) = false)) (P7 : Bx (Lx.pre [41] (bl s) = false)) (P8 : Bx (Lx.pre [44] (bl s) = true)) : Calls Try.prog 42 #[.string s] w fun e w' => e = .returned (.string (Tok.str .comma)) ∧ w' = w := by
  have i0 := scan_ix0
  have i1 := scan_ix1
  have i2 := scan_ix2
  have i3 := scan_ix3
  have i4 := scan_ix4
  have i5 := scan_ix5
  have i6 := scan_ix6
  have i7 := scan_ix7
  have i8 := scan_ix8
  go_enter Try.func42, Try.ntmps42
  go_wp2_with fail
  refine wp_loop_rounds 9 ?_
  rw [rounds_succ]
  go_wp2_with fail
  refine (prefix_is s _ scan_bl0 P0.out _).mono ?_
  rintro e w1 ⟨rfl, rfl⟩
  go_wp2_with fail
  rw [rounds_succ]
  go_wp2_with fail
  refine (prefix_is s _ scan_bl1 P1.out _).mono ?_
  rintro e w1 ⟨rfl, rfl⟩
  go_wp2_with fail
  rw [rounds_succ]
  go_wp2_with fail
  refine (prefix_is s _ scan_bl2 P2.out _).mono ?_
  rintro e w1 ⟨rfl, rfl⟩
  go_wp2_with fail
  rw [rounds_succ]
  go_wp2_with fail
  refine (prefix_is s _ scan_bl3 P3.out _).mono ?_
  rintro e w1 ⟨rfl, rfl⟩
  go_wp2_with fail
  rw [rounds_succ]
  go_wp2_with fail
  refine (prefix_is s _ scan_bl4 P4.out _).mono ?_
  rintro e w1 ⟨rfl, rfl⟩
  go_wp2_with fail
  rw [rounds_succ]
  go_wp2_with fail
  refine (prefix_is s _ scan_bl5 P5.out _).mono ?_
  rintro e w1 ⟨rfl, rfl⟩
  go_wp2_with fail
  rw [rounds_succ]
  go_wp2_with fail
  refine (prefix_is s _ scan_bl6 P6.out _).mono ?_
  rintro e w1 ⟨rfl, rfl⟩
  go_wp2_with fail
  rw [rounds_succ]
  go_wp2_with fail
  refine (prefix_is s _ scan_bl7 P7.out _).mono ?_
  rintro e w1 ⟨rfl, rfl⟩
  go_wp2_with fail
  rw [rounds_succ]
  go_wp2_with fail
  refine (prefix_is s _ scan_bl8 P8.out _).mono ?_
  rintro e w1 ⟨rfl, rfl⟩
  go_wp2_with fail
  go_ret
  exact ⟨by rw [← scan_str8]; rfl, rfl⟩
end Go.Proofs.Ytfgokhafiffbaaa

/-
  Formulas: expr.scan where no sign of brackets or operators stands in front.
-/
namespace Go.Proofs.Ytfgokhafiffbaaa
set_option linter.unusedVariables false
open Go.RowKit

structure NoSign (s : ByteArray) : Prop where
  p0 : Lx.pre [60, 45, 62] (bl s) = false
  p1 : Lx.pre [45, 62] (bl s) = false
  p2 : Lx.pre [33] (bl s) = false
  p3 : Lx.pre [38] (bl s) = false
  p4 : Lx.pre [124] (bl s) = false
  p5 : Lx.pre [94] (bl s) = false
  p6 : Lx.pre [40] (bl s) = false
  p7 : Lx.pre [41] (bl s) = false
  p8 : Lx.pre [44] (bl s) = false
theorem str_bad : ({ data := #[63] } : ByteArray) = Tok.str .bad := by unfold Tok.str Tok.txt strOf; decide +kernel
theorem str_eof : ({ data := #[] } : ByteArray) = Tok.str .eof := by unfold Tok.str Tok.txt strOf; decide +kernel
theorem eql_c (s : ByteArray) (l : List UInt8) {m : List Nat} (hm : l.map UInt8.toNat = m) {b : Bool} (hb : decide (bl s = m) = b) : (s.toList == ({ data := l.toArray } : ByteArray).toList) = b := by
  rw [bl_eq, show bl ({ data := l.toArray } : ByteArray) = m from (bl_mk l).trans hm]; exact hb
set_option maxHeartbeats 4000000 in
theorem scan_nil (s : ByteArray) (w : World) (H0 : Bx (NoSign s)) (hs : s.size = 0) : Calls Try.prog 42 #[.string s] w fun e w' => e = .returned (.string (Tok.str .eof)) ∧ w' = w := by
  have z : s.toList.isEmpty = true := by rw [List.isEmpty_iff, ByteArray.toList_eq]; exact List.eq_nil_of_length_eq_zero (by simpa using hs)
  clear hs
  have i0 := scan_ix0
  have i1 := scan_ix1
  have i2 := scan_ix2
  have i3 := scan_ix3
  have i4 := scan_ix4
  have i5 := scan_ix5
  have i6 := scan_ix6
  have i7 := scan_ix7
  have i8 := scan_ix8
  have P0 := Bx.mk H0.out.p0
  have P1 := Bx.mk H0.out.p1
  have P2 := Bx.mk H0.out.p2
  have P3 := Bx.mk H0.out.p3
  have P4 := Bx.mk H0.out.p4
  have P5 := Bx.mk H0.out.p5
  have P6 := Bx.mk H0.out.p6
  have P7 := Bx.mk H0.out.p7
  have P8 := Bx.mk H0.out.p8
  clear H0
  go_enter Try.func42, Try.ntmps42
  go_wp2_with fail
  refine wp_loop_rounds 10 ?_
  rw [rounds_succ]
  go_wp2_with fail
  refine (prefix_is s _ scan_bl0 P0.out _).mono ?_
  rintro e w1 ⟨rfl, rfl⟩
  go_wp2_with fail
  rw [rounds_succ]
  go_wp2_with fail
  refine (prefix_is s _ scan_bl1 P1.out _).mono ?_
  rintro e w1 ⟨rfl, rfl⟩
  go_wp2_with fail
  rw [rounds_succ]
  go_wp2_with fail
  refine (prefix_is s _ scan_bl2 P2.out _).mono ?_
  rintro e w1 ⟨rfl, rfl⟩
  go_wp2_with fail
  rw [rounds_succ]
  go_wp2_with fail
  refine (prefix_is s _ scan_bl3 P3.out _).mono ?_
  rintro e w1 ⟨rfl, rfl⟩
  go_wp2_with fail
  rw [rounds_succ]
  go_wp2_with fail
  refine (prefix_is s _ scan_bl4 P4.out _).mono ?_
  rintro e w1 ⟨rfl, rfl⟩
  go_wp2_with fail
  rw [rounds_succ]
  go_wp2_with fail
  refine (prefix_is s _ scan_bl5 P5.out _).mono ?_
  rintro e w1 ⟨rfl, rfl⟩
  go_wp2_with fail
  rw [rounds_succ]
  go_wp2_with fail
  refine (prefix_is s _ scan_bl6 P6.out _).mono ?_
  rintro e w1 ⟨rfl, rfl⟩
  go_wp2_with fail
  rw [rounds_succ]
  go_wp2_with fail
  refine (prefix_is s _ scan_bl7 P7.out _).mono ?_
  rintro e w1 ⟨rfl, rfl⟩
  go_wp2_with fail
  rw [rounds_succ]
  go_wp2_with fail
  refine (prefix_is s _ scan_bl8 P8.out _).mono ?_
  rintro e w1 ⟨rfl, rfl⟩
  go_wp2_with fail
  rw [rounds_succ]
  go_wp2_with fail
  go_ret
  exact ⟨by rw [← str_eof]; rfl, rfl⟩
theorem not_nil {s : ByteArray} {c : Nat} (h : (bl s)[0]? = some c) : s.toList.isEmpty = false := by
  rw [ByteArray.toList_eq]
  obtain ⟨h0, _⟩ := bl_get h
  cases e : s.data.toList with
  | nil => have : s.data.toList.length = 0 := by rw [e]; rfl
           have h1 : s.size = s.data.toList.length := by simp
           omega
  | cons a r => rfl
theorem run_idx0 {s : ByteArray} {x : Nat} (h : (bl s)[0]? = some x) (w : World) : (Instr.index 9 (.string s) (.int .i64 0)).run Try.prog w = .ok (.int .u8 (x : Int)) w := run_idx h w
theorem run_idx1 {s : ByteArray} {x : Nat} (h : (bl s)[1]? = some x) (w : World) : (Instr.index 9 (.string s) (.int .i64 1)).run Try.prog w = .ok (.int .u8 (x : Int)) w := run_idx h w
set_option maxHeartbeats 4000000 in
theorem scan_zero (s : ByteArray) (w : World) (H0 : Bx (NoSign s)) (c : Nat) (hc : (bl s)[0]? = some c) (h : c = 48 ∨ c = 49) : Calls Try.prog 42 #[.string s] w fun e w' => e = .returned (.string (strOf [c])) ∧ w' = w := by
  have z := not_nil hc
  have i := run_idx0 hc
  have hsz : 1 ≤ s.size := (bl_get hc).1
  have q : (1 : Int) ≤ s.size := by omega
  have E : s.extract 0 1 = strOf [c] := by
    apply bl_inj
    rw [bl_strOf (by intro x hx; simp at hx; omega), bl_extract]
    cases hb : bl s with
    | nil => rw [hb] at hc; simp at hc
    | cons d r => rw [hb] at hc; simp at hc; subst hc; simp
  clear hsz
  have HC := Bx.mk hc
  clear hc
  rcases h with rfl | rfl
  · have i0 := scan_ix0
    have i1 := scan_ix1
    have i2 := scan_ix2
    have i3 := scan_ix3
    have i4 := scan_ix4
    have i5 := scan_ix5
    have i6 := scan_ix6
    have i7 := scan_ix7
    have i8 := scan_ix8
    have P0 := Bx.mk H0.out.p0
    have P1 := Bx.mk H0.out.p1
    have P2 := Bx.mk H0.out.p2
    have P3 := Bx.mk H0.out.p3
    have P4 := Bx.mk H0.out.p4
    have P5 := Bx.mk H0.out.p5
    have P6 := Bx.mk H0.out.p6
    have P7 := Bx.mk H0.out.p7
    have P8 := Bx.mk H0.out.p8
    clear H0
    go_enter Try.func42, Try.ntmps42
    go_wp2_with fail
    refine wp_loop_rounds 10 ?_
    rw [rounds_succ]
    go_wp2_with fail
    refine (prefix_is s _ scan_bl0 P0.out _).mono ?_
    rintro e w1 ⟨rfl, rfl⟩
    go_wp2_with fail
    rw [rounds_succ]
    go_wp2_with fail
    refine (prefix_is s _ scan_bl1 P1.out _).mono ?_
    rintro e w1 ⟨rfl, rfl⟩
    go_wp2_with fail
    rw [rounds_succ]
    go_wp2_with fail
    refine (prefix_is s _ scan_bl2 P2.out _).mono ?_
    rintro e w1 ⟨rfl, rfl⟩
    go_wp2_with fail
    rw [rounds_succ]
    go_wp2_with fail
    refine (prefix_is s _ scan_bl3 P3.out _).mono ?_
    rintro e w1 ⟨rfl, rfl⟩
    go_wp2_with fail
    rw [rounds_succ]
    go_wp2_with fail
    refine (prefix_is s _ scan_bl4 P4.out _).mono ?_
    rintro e w1 ⟨rfl, rfl⟩
    go_wp2_with fail
    rw [rounds_succ]
    go_wp2_with fail
    refine (prefix_is s _ scan_bl5 P5.out _).mono ?_
    rintro e w1 ⟨rfl, rfl⟩
    go_wp2_with fail
    rw [rounds_succ]
    go_wp2_with fail
    refine (prefix_is s _ scan_bl6 P6.out _).mono ?_
    rintro e w1 ⟨rfl, rfl⟩
    go_wp2_with fail
    rw [rounds_succ]
    go_wp2_with fail
    refine (prefix_is s _ scan_bl7 P7.out _).mono ?_
    rintro e w1 ⟨rfl, rfl⟩
    go_wp2_with fail
    rw [rounds_succ]
    go_wp2_with fail
    refine (prefix_is s _ scan_bl8 P8.out _).mono ?_
    rintro e w1 ⟨rfl, rfl⟩
    go_wp2_with fail
    rw [rounds_succ]
    go_wp2_with fail
    go_ret
    exact ⟨by rw [← E]; rfl, rfl⟩
  · have i0 := scan_ix0
    have i1 := scan_ix1
    have i2 := scan_ix2
    have i3 := scan_ix3
    have i4 := scan_ix4
    have i5 := scan_ix5
    have i6 := scan_ix6
    have i7 := scan_ix7
    have i8 := scan_ix8
    have P0 := Bx.mk H0.out.p0
    have P1 := Bx.mk H0.out.p1
    have P2 := Bx.mk H0.out.p2
    have P3 := Bx.mk H0.out.p3
    have P4 := Bx.mk H0.out.p4
    have P5 := Bx.mk H0.out.p5
    have P6 := Bx.mk H0.out.p6
    have P7 := Bx.mk H0.out.p7
    have P8 := Bx.mk H0.out.p8
    clear H0
    go_enter Try.func42, Try.ntmps42
    go_wp2_with fail
    refine wp_loop_rounds 10 ?_
    rw [rounds_succ]
    go_wp2_with fail
    refine (prefix_is s _ scan_bl0 P0.out _).mono ?_
    rintro e w1 ⟨rfl, rfl⟩
    go_wp2_with fail
    rw [rounds_succ]
    go_wp2_with fail
    refine (prefix_is s _ scan_bl1 P1.out _).mono ?_
    rintro e w1 ⟨rfl, rfl⟩
    go_wp2_with fail
    rw [rounds_succ]
    go_wp2_with fail
    refine (prefix_is s _ scan_bl2 P2.out _).mono ?_
    rintro e w1 ⟨rfl, rfl⟩
    go_wp2_with fail
    rw [rounds_succ]
    go_wp2_with fail
    refine (prefix_is s _ scan_bl3 P3.out _).mono ?_
    rintro e w1 ⟨rfl, rfl⟩
    go_wp2_with fail
    rw [rounds_succ]
    go_wp2_with fail
    refine (prefix_is s _ scan_bl4 P4.out _).mono ?_
    rintro e w1 ⟨rfl, rfl⟩
    go_wp2_with fail
    rw [rounds_succ]
    go_wp2_with fail
    refine (prefix_is s _ scan_bl5 P5.out _).mono ?_
    rintro e w1 ⟨rfl, rfl⟩
    go_wp2_with fail
    rw [rounds_succ]
    go_wp2_with fail
    refine (prefix_is s _ scan_bl6 P6.out _).mono ?_
    rintro e w1 ⟨rfl, rfl⟩
    go_wp2_with fail
    rw [rounds_succ]
    go_wp2_with fail
    refine (prefix_is s _ scan_bl7 P7.out _).mono ?_
    rintro e w1 ⟨rfl, rfl⟩
    go_wp2_with fail
    rw [rounds_succ]
    go_wp2_with fail
    refine (prefix_is s _ scan_bl8 P8.out _).mono ?_
    rintro e w1 ⟨rfl, rfl⟩
    go_wp2_with fail
    rw [rounds_succ]
    go_wp2_with fail
    go_ret
    exact ⟨by rw [← E]; rfl, rfl⟩
set_option maxHeartbeats 4000000 in
theorem scan_bad (s : ByteArray) (w : World) (H0 : Bx (NoSign s)) (c : Nat) (hc : (bl s)[0]? = some c) (h0 : ¬ c = 48) (h1 : ¬ c = 49) (hl : Ex.letter c = false) : Calls Try.prog 42 #[.string s] w fun e w' => e = .returned (.string (Tok.str .bad)) ∧ w' = w := by
  have z := not_nil hc
  have i := run_idx0 hc
  have q0 : ((c : Int) == 48) = false := by rw [beq_eq_false_iff_ne]; omega
  have q1 : ((c : Int) == 49) = false := by rw [beq_eq_false_iff_ne]; omega
  have hlt : c < 256 := bl_lt (List.mem_of_getElem? hc)
  have hL := letter_any c hlt
  rw [hl] at hL
  have HL := Bx.mk hL
  clear hL hl hlt hc h0 h1
  have i0 := scan_ix0
  have i1 := scan_ix1
  have i2 := scan_ix2
  have i3 := scan_ix3
  have i4 := scan_ix4
  have i5 := scan_ix5
  have i6 := scan_ix6
  have i7 := scan_ix7
  have i8 := scan_ix8
  have P0 := Bx.mk H0.out.p0
  have P1 := Bx.mk H0.out.p1
  have P2 := Bx.mk H0.out.p2
  have P3 := Bx.mk H0.out.p3
  have P4 := Bx.mk H0.out.p4
  have P5 := Bx.mk H0.out.p5
  have P6 := Bx.mk H0.out.p6
  have P7 := Bx.mk H0.out.p7
  have P8 := Bx.mk H0.out.p8
  clear H0
  go_enter Try.func42, Try.ntmps42
  go_wp2_with fail
  refine wp_loop_rounds 10 ?_
  rw [rounds_succ]
  go_wp2_with fail
  refine (prefix_is s _ scan_bl0 P0.out _).mono ?_
  rintro e w1 ⟨rfl, rfl⟩
  go_wp2_with fail
  rw [rounds_succ]
  go_wp2_with fail
  refine (prefix_is s _ scan_bl1 P1.out _).mono ?_
  rintro e w1 ⟨rfl, rfl⟩
  go_wp2_with fail
  rw [rounds_succ]
  go_wp2_with fail
  refine (prefix_is s _ scan_bl2 P2.out _).mono ?_
  rintro e w1 ⟨rfl, rfl⟩
  go_wp2_with fail
  rw [rounds_succ]
  go_wp2_with fail
  refine (prefix_is s _ scan_bl3 P3.out _).mono ?_
  rintro e w1 ⟨rfl, rfl⟩
  go_wp2_with fail
  rw [rounds_succ]
  go_wp2_with fail
  refine (prefix_is s _ scan_bl4 P4.out _).mono ?_
  rintro e w1 ⟨rfl, rfl⟩
  go_wp2_with fail
  rw [rounds_succ]
  go_wp2_with fail
  refine (prefix_is s _ scan_bl5 P5.out _).mono ?_
  rintro e w1 ⟨rfl, rfl⟩
  go_wp2_with fail
  rw [rounds_succ]
  go_wp2_with fail
  refine (prefix_is s _ scan_bl6 P6.out _).mono ?_
  rintro e w1 ⟨rfl, rfl⟩
  go_wp2_with fail
  rw [rounds_succ]
  go_wp2_with fail
  refine (prefix_is s _ scan_bl7 P7.out _).mono ?_
  rintro e w1 ⟨rfl, rfl⟩
  go_wp2_with fail
  rw [rounds_succ]
  go_wp2_with fail
  refine (prefix_is s _ scan_bl8 P8.out _).mono ?_
  rintro e w1 ⟨rfl, rfl⟩
  go_wp2_with fail
  rw [rounds_succ]
  go_wp2_with fail
  refine (HL.out _).mono ?_
  rintro e w1 ⟨rfl, rfl⟩
  go_wp2_with fail
  go_ret
  exact ⟨by rw [← str_bad]; rfl, rfl⟩
end Go.Proofs.Ytfgokhafiffbaaa

/-
  Formulas: expr.scan at a word; expr.scan whole.
-/
namespace Go.Proofs.Ytfgokhafiffbaaa
set_option linter.unusedVariables false
open Go.RowKit

theorem variable_any (s : ByteArray) (w : World) : Calls Try.prog 60 #[.string s] w fun e w' => e = .returned (.bool (Lx.vr (bl s))) ∧ w' = w := by
  by_cases h : s.size = 2
  · have hl : (bl s).length = 2 := by rw [bl_length]; exact h
    match hb : bl s, hl with
    | [a, b], _ =>
      have h0 : (bl s)[0]? = some a := by rw [hb]; rfl
      have h1 : (bl s)[1]? = some b := by rw [hb]; rfl
      rw [show Lx.vr [a, b] = Ex.vari a b from by unfold Lx.vr; rfl]
      exact variable_two s h a b (bl_lt (List.mem_of_getElem? h0)) (bl_lt (List.mem_of_getElem? h1)) w (run_idx0 h0 w) (run_idx1 h1 w)
  · have hl : (bl s).length ≠ 2 := by rw [bl_length]; exact h
    have hv : Lx.vr (bl s) = false := by
      cases hb : Lx.vr (bl s) with
      | false => rfl
      | true => obtain ⟨b, e, _⟩ := Lx.vr_spec hb; rw [e] at hl; exact absurd rfl hl
    rw [hv]
    exact variable_len s h w
theorem Lx.word_cons (c : Nat) (r : List Nat) : Lx.word (c :: r) = if Ex.letter c || Ex.number c then 1 + Lx.word r else 0 := by rw [Lx.word]
theorem Lx.word_nil : Lx.word [] = 0 := by rw [Lx.word]
/-- where the word's loop stands -/
structure WL (l : List Nat) (k N : Nat) : Prop where
  lo : 1 ≤ k
  hi : k ≤ l.length
  sum : k + Lx.word (l.drop k) = N
theorem WL.step {l : List Nat} {k N x : Nat} (h : WL l k N) (hx : l[k]? = some x) (hl : (Ex.letter x || Ex.number x) = true) : WL l (k + 1) N := by
  have hk : k < l.length := (List.getElem?_eq_some_iff.1 hx).1
  have hs := h.sum
  rw [List.drop_eq_getElem_cons hk, (List.getElem?_eq_some_iff.1 hx).2, Lx.word_cons, hl, if_pos rfl] at hs
  exact ⟨by omega, by omega, by omega⟩
theorem WL.stop {l : List Nat} {k N x : Nat} (h : WL l k N) (hx : l[k]? = some x) (hl : (Ex.letter x || Ex.number x) = false) : k = N := by
  have hk : k < l.length := (List.getElem?_eq_some_iff.1 hx).1
  have hs := h.sum
  rw [List.drop_eq_getElem_cons hk, (List.getElem?_eq_some_iff.1 hx).2, Lx.word_cons, hl] at hs
  simpa using hs
theorem WL.stop' {l : List Nat} {k N : Nat} (h : WL l k N) (hk : ¬ k < l.length) : k = N := by
  have hs := h.sum
  rw [List.drop_eq_nil_of_le (by omega), Lx.word_nil] at hs
  simpa using hs

set_option maxHeartbeats 8000000 in
theorem scan_word (s ws : ByteArray) (w : World) (H0 : Bx (NoSign s)) (c N : Nat) (hc : (bl s)[0]? = some c) (hl : Ex.letter c = true) (hW : Bx (WL (bl s) 1 N)) (hN : s.extract 0 N = ws)
    (hsz : s.size ≤ 4000) (b1 b2 b3 b4 : Bool) (E1 : Bx ((ws.toList == [97, 108, 108]) = b1)) (E2 : Bx ((ws.toList == [97, 110, 121]) = b2)) (E3 : Bx ((ws.toList == [105, 116, 101]) = b3))
    (hV : Lx.vr (bl ws) = b4) :
    Calls Try.prog 42 #[.string s] w fun e w' => e = .returned (.string (if b1 || b2 || b3 || b4 then ws else Tok.str .bad)) ∧ w' = w := by
  have z := not_nil hc
  have i := run_idx0 hc
  have hlt : c < 256 := bl_lt (List.mem_of_getElem? hc)
  have hL := letter_any c hlt
  rw [hl] at hL
  have HL := Bx.mk hL
  have hne : ¬ c = 48 ∧ ¬ c = 49 := by
    constructor
    · rintro rfl; revert hl; decide +kernel
    · rintro rfl; revert hl; decide +kernel
  have q0 : ((c : Int) == 48) = false := by rw [beq_eq_false_iff_ne]; omega
  have q1 : ((c : Int) == 49) = false := by rw [beq_eq_false_iff_ne]; omega
  have HV : Bx (∀ w, Calls Try.prog 60 #[.string ws] w fun e w' => e = .returned (.bool b4) ∧ w' = w) := ⟨fun w => by have := variable_any ws w; rw [hV] at this; exact this⟩
  have HN := Bx.mk hN
  clear hL hl hlt hc hne hV hN
  cases b1 with
  | true =>
    have e1 : ws.toList = [97, 108, 108] := by simpa using E1.out
    clear E1 E2 E3
    have i0 := scan_ix0
    have i1 := scan_ix1
    have i2 := scan_ix2
    have i3 := scan_ix3
    have i4 := scan_ix4
    have i5 := scan_ix5
    have i6 := scan_ix6
    have i7 := scan_ix7
    have i8 := scan_ix8
    have P0 := Bx.mk H0.out.p0
    have P1 := Bx.mk H0.out.p1
    have P2 := Bx.mk H0.out.p2
    have P3 := Bx.mk H0.out.p3
    have P4 := Bx.mk H0.out.p4
    have P5 := Bx.mk H0.out.p5
    have P6 := Bx.mk H0.out.p6
    have P7 := Bx.mk H0.out.p7
    have P8 := Bx.mk H0.out.p8
    clear H0
    go_enter Try.func42, Try.ntmps42
    go_wp2_with fail
    refine wp_loop_rounds 10 ?_
    rw [rounds_succ]
    go_wp2_with fail
    refine (prefix_is s _ scan_bl0 P0.out _).mono ?_
    rintro e w1 ⟨rfl, rfl⟩
    go_wp2_with fail
    rw [rounds_succ]
    go_wp2_with fail
    refine (prefix_is s _ scan_bl1 P1.out _).mono ?_
    rintro e w1 ⟨rfl, rfl⟩
    go_wp2_with fail
    rw [rounds_succ]
    go_wp2_with fail
    refine (prefix_is s _ scan_bl2 P2.out _).mono ?_
    rintro e w1 ⟨rfl, rfl⟩
    go_wp2_with fail
    rw [rounds_succ]
    go_wp2_with fail
    refine (prefix_is s _ scan_bl3 P3.out _).mono ?_
    rintro e w1 ⟨rfl, rfl⟩
    go_wp2_with fail
    rw [rounds_succ]
    go_wp2_with fail
    refine (prefix_is s _ scan_bl4 P4.out _).mono ?_
    rintro e w1 ⟨rfl, rfl⟩
    go_wp2_with fail
    rw [rounds_succ]
    go_wp2_with fail
    refine (prefix_is s _ scan_bl5 P5.out _).mono ?_
    rintro e w1 ⟨rfl, rfl⟩
    go_wp2_with fail
    rw [rounds_succ]
    go_wp2_with fail
    refine (prefix_is s _ scan_bl6 P6.out _).mono ?_
    rintro e w1 ⟨rfl, rfl⟩
    go_wp2_with fail
    rw [rounds_succ]
    go_wp2_with fail
    refine (prefix_is s _ scan_bl7 P7.out _).mono ?_
    rintro e w1 ⟨rfl, rfl⟩
    go_wp2_with fail
    rw [rounds_succ]
    go_wp2_with fail
    refine (prefix_is s _ scan_bl8 P8.out _).mono ?_
    rintro e w1 ⟨rfl, rfl⟩
    go_wp2_with fail
    rw [rounds_succ]
    go_wp2_with fail
    refine (HL.out _).mono ?_
    rintro e w1 ⟨rfl, rfl⟩
    go_wp2_with fail
    go_loop [5] (fun n => ∃ k : Nat, n = .int .i64 k ∧ Bx (WL (bl s) k N)) (fun n => s.size - (intOf n).toNat)
    case atStart => exact ⟨1, rfl, hW⟩
    case round =>
      obtain ⟨k, rfl, HK⟩ := hrel
      by_cases hk : k < s.size
      · have hki : (k : Int) < s.size := by omega
        have hkl : k < (bl s).length := by rw [bl_length]; exact hk
        obtain ⟨x, hx⟩ : ∃ x, (bl s)[k]? = some x := ⟨_, List.getElem?_eq_getElem hkl⟩
        have hxi := run_idx hx
        have hxl : x < 256 := bl_lt (List.mem_of_getElem? hx)
        cases hlx : Ex.letter x with
        | true =>
          have HS := Bx.mk (HK.out.step hx (by rw [hlx]; rfl))
          clear hx
          have hLx := letter_any x hxl
          rw [hlx] at hLx
          go_wp2_with fail
          refine (hLx _).mono ?_
          rintro e w1 ⟨rfl, rfl⟩
          go_wp2_with fail
          exact ⟨⟨k + 1, by go_num, HS⟩, by simp [intOf]; omega⟩
        | false =>
          cases hnx : Ex.number x with
          | true =>
            have HS := Bx.mk (HK.out.step hx (by rw [hlx, hnx]; rfl))
            clear hx
            have hLx := letter_any x hxl
            rw [hlx] at hLx
            have hNx := number_any x hxl
            rw [hnx] at hNx
            go_wp2_with fail
            refine (hLx _).mono ?_
            rintro e w1 ⟨rfl, rfl⟩
            go_wp2_with fail
            refine (hNx _).mono ?_
            rintro e w1 ⟨rfl, rfl⟩
            go_wp2_with fail
            exact ⟨⟨k + 1, by go_num, HS⟩, by simp [intOf]; omega⟩
          | false =>
            obtain rfl := HK.out.stop hx (by rw [hlx, hnx]; rfl)
            have ex := HN.out
            have hkle : (k : Int) ≤ s.size := by omega
            clear hx
            have hLx := letter_any x hxl
            rw [hlx] at hLx
            have hNx := number_any x hxl
            rw [hnx] at hNx
            go_wp2_with fail
            refine (hLx _).mono ?_
            rintro e w1 ⟨rfl, rfl⟩
            go_wp2_with fail
            refine (hNx _).mono ?_
            rintro e w1 ⟨rfl, rfl⟩
            go_wp2_with fail
            go_ret
            exact ⟨by first | rfl | (rw [← str_bad]; rfl), rfl⟩
      · have hki : ¬ (k : Int) < s.size := by omega
        obtain rfl := HK.out.stop' (by rw [bl_length]; exact hk)
        have ex := HN.out
        have hkle : (k : Int) ≤ s.size := by have := HK.out.hi; rw [bl_length] at this; omega
        go_wp2_with fail
        go_ret
        exact ⟨by first | rfl | (rw [← str_bad]; rfl), rfl⟩
  | false =>
    have e1 : ¬ ws.toList = [97, 108, 108] := by simpa using E1.out
    cases b2 with
    | true =>
      have e2 : ws.toList = [97, 110, 121] := by simpa using E2.out
      clear E1 E2 E3
      have i0 := scan_ix0
      have i1 := scan_ix1
      have i2 := scan_ix2
      have i3 := scan_ix3
      have i4 := scan_ix4
      have i5 := scan_ix5
      have i6 := scan_ix6
      have i7 := scan_ix7
      have i8 := scan_ix8
      have P0 := Bx.mk H0.out.p0
      have P1 := Bx.mk H0.out.p1
      have P2 := Bx.mk H0.out.p2
      have P3 := Bx.mk H0.out.p3
      have P4 := Bx.mk H0.out.p4
      have P5 := Bx.mk H0.out.p5
      have P6 := Bx.mk H0.out.p6
      have P7 := Bx.mk H0.out.p7
      have P8 := Bx.mk H0.out.p8
      clear H0
      go_enter Try.func42, Try.ntmps42
      go_wp2_with fail
      refine wp_loop_rounds 10 ?_
      rw [rounds_succ]
      go_wp2_with fail
      refine (prefix_is s _ scan_bl0 P0.out _).mono ?_
      rintro e w1 ⟨rfl, rfl⟩
      go_wp2_with fail
      rw [rounds_succ]
      go_wp2_with fail
      refine (prefix_is s _ scan_bl1 P1.out _).mono ?_
      rintro e w1 ⟨rfl, rfl⟩
      go_wp2_with fail
      rw [rounds_succ]
      go_wp2_with fail
      refine (prefix_is s _ scan_bl2 P2.out _).mono ?_
      rintro e w1 ⟨rfl, rfl⟩
      go_wp2_with fail
      rw [rounds_succ]
      go_wp2_with fail
      refine (prefix_is s _ scan_bl3 P3.out _).mono ?_
      rintro e w1 ⟨rfl, rfl⟩
      go_wp2_with fail
      rw [rounds_succ]
      go_wp2_with fail
      refine (prefix_is s _ scan_bl4 P4.out _).mono ?_
      rintro e w1 ⟨rfl, rfl⟩
      go_wp2_with fail
      rw [rounds_succ]
      go_wp2_with fail
      refine (prefix_is s _ scan_bl5 P5.out _).mono ?_
      rintro e w1 ⟨rfl, rfl⟩
      go_wp2_with fail
      rw [rounds_succ]
      go_wp2_with fail
      refine (prefix_is s _ scan_bl6 P6.out _).mono ?_
      rintro e w1 ⟨rfl, rfl⟩
      go_wp2_with fail
      rw [rounds_succ]
      go_wp2_with fail
      refine (prefix_is s _ scan_bl7 P7.out _).mono ?_
      rintro e w1 ⟨rfl, rfl⟩
      go_wp2_with fail
      rw [rounds_succ]
      go_wp2_with fail
      refine (prefix_is s _ scan_bl8 P8.out _).mono ?_
      rintro e w1 ⟨rfl, rfl⟩
      go_wp2_with fail
      rw [rounds_succ]
      go_wp2_with fail
      refine (HL.out _).mono ?_
      rintro e w1 ⟨rfl, rfl⟩
      go_wp2_with fail
      go_loop [5] (fun n => ∃ k : Nat, n = .int .i64 k ∧ Bx (WL (bl s) k N)) (fun n => s.size - (intOf n).toNat)
      case atStart => exact ⟨1, rfl, hW⟩
      case round =>
        obtain ⟨k, rfl, HK⟩ := hrel
        by_cases hk : k < s.size
        · have hki : (k : Int) < s.size := by omega
          have hkl : k < (bl s).length := by rw [bl_length]; exact hk
          obtain ⟨x, hx⟩ : ∃ x, (bl s)[k]? = some x := ⟨_, List.getElem?_eq_getElem hkl⟩
          have hxi := run_idx hx
          have hxl : x < 256 := bl_lt (List.mem_of_getElem? hx)
          cases hlx : Ex.letter x with
          | true =>
            have HS := Bx.mk (HK.out.step hx (by rw [hlx]; rfl))
            clear hx
            have hLx := letter_any x hxl
            rw [hlx] at hLx
            go_wp2_with fail
            refine (hLx _).mono ?_
            rintro e w1 ⟨rfl, rfl⟩
            go_wp2_with fail
            exact ⟨⟨k + 1, by go_num, HS⟩, by simp [intOf]; omega⟩
          | false =>
            cases hnx : Ex.number x with
            | true =>
              have HS := Bx.mk (HK.out.step hx (by rw [hlx, hnx]; rfl))
              clear hx
              have hLx := letter_any x hxl
              rw [hlx] at hLx
              have hNx := number_any x hxl
              rw [hnx] at hNx
              go_wp2_with fail
              refine (hLx _).mono ?_
              rintro e w1 ⟨rfl, rfl⟩
              go_wp2_with fail
              refine (hNx _).mono ?_
              rintro e w1 ⟨rfl, rfl⟩
              go_wp2_with fail
              exact ⟨⟨k + 1, by go_num, HS⟩, by simp [intOf]; omega⟩
            | false =>
              obtain rfl := HK.out.stop hx (by rw [hlx, hnx]; rfl)
              have ex := HN.out
              have hkle : (k : Int) ≤ s.size := by omega
              clear hx
              have hLx := letter_any x hxl
              rw [hlx] at hLx
              have hNx := number_any x hxl
              rw [hnx] at hNx
              go_wp2_with fail
              refine (hLx _).mono ?_
              rintro e w1 ⟨rfl, rfl⟩
              go_wp2_with fail
              refine (hNx _).mono ?_
              rintro e w1 ⟨rfl, rfl⟩
              go_wp2_with fail
              go_ret
              exact ⟨by first | rfl | (rw [← str_bad]; rfl), rfl⟩
        · have hki : ¬ (k : Int) < s.size := by omega
          obtain rfl := HK.out.stop' (by rw [bl_length]; exact hk)
          have ex := HN.out
          have hkle : (k : Int) ≤ s.size := by have := HK.out.hi; rw [bl_length] at this; omega
          go_wp2_with fail
          go_ret
          exact ⟨by first | rfl | (rw [← str_bad]; rfl), rfl⟩
    | false =>
      have e2 : ¬ ws.toList = [97, 110, 121] := by simpa using E2.out
      cases b3 with
      | true =>
        have e3 : ws.toList = [105, 116, 101] := by simpa using E3.out
        clear E1 E2 E3
        have i0 := scan_ix0
        have i1 := scan_ix1
        have i2 := scan_ix2
        have i3 := scan_ix3
        have i4 := scan_ix4
        have i5 := scan_ix5
        have i6 := scan_ix6
        have i7 := scan_ix7
        have i8 := scan_ix8
        have P0 := Bx.mk H0.out.p0
        have P1 := Bx.mk H0.out.p1
        have P2 := Bx.mk H0.out.p2
        have P3 := Bx.mk H0.out.p3
        have P4 := Bx.mk H0.out.p4
        have P5 := Bx.mk H0.out.p5
        have P6 := Bx.mk H0.out.p6
        have P7 := Bx.mk H0.out.p7
        have P8 := Bx.mk H0.out.p8
        clear H0
        go_enter Try.func42, Try.ntmps42
        go_wp2_with fail
        refine wp_loop_rounds 10 ?_
        rw [rounds_succ]
        go_wp2_with fail
        refine (prefix_is s _ scan_bl0 P0.out _).mono ?_
        rintro e w1 ⟨rfl, rfl⟩
        go_wp2_with fail
        rw [rounds_succ]
        go_wp2_with fail
        refine (prefix_is s _ scan_bl1 P1.out _).mono ?_
        rintro e w1 ⟨rfl, rfl⟩
        go_wp2_with fail
        rw [rounds_succ]
        go_wp2_with fail
        refine (prefix_is s _ scan_bl2 P2.out _).mono ?_
        rintro e w1 ⟨rfl, rfl⟩
        go_wp2_with fail
        rw [rounds_succ]
        go_wp2_with fail
        refine (prefix_is s _ scan_bl3 P3.out _).mono ?_
        rintro e w1 ⟨rfl, rfl⟩
        go_wp2_with fail
        rw [rounds_succ]
        go_wp2_with fail
        refine (prefix_is s _ scan_bl4 P4.out _).mono ?_
        rintro e w1 ⟨rfl, rfl⟩
        go_wp2_with fail
        rw [rounds_succ]
        go_wp2_with fail
        refine (prefix_is s _ scan_bl5 P5.out _).mono ?_
        rintro e w1 ⟨rfl, rfl⟩
        go_wp2_with fail
        rw [rounds_succ]
        go_wp2_with fail
        refine (prefix_is s _ scan_bl6 P6.out _).mono ?_
        rintro e w1 ⟨rfl, rfl⟩
        go_wp2_with fail
        rw [rounds_succ]
        go_wp2_with fail
        refine (prefix_is s _ scan_bl7 P7.out _).mono ?_
        rintro e w1 ⟨rfl, rfl⟩
        go_wp2_with fail
        rw [rounds_succ]
        go_wp2_with fail
        refine (prefix_is s _ scan_bl8 P8.out _).mono ?_
        rintro e w1 ⟨rfl, rfl⟩
        go_wp2_with fail
        rw [rounds_succ]
        go_wp2_with fail
        refine (HL.out _).mono ?_
        rintro e w1 ⟨rfl, rfl⟩
        go_wp2_with fail
        go_loop [5] (fun n => ∃ k : Nat, n = .int .i64 k ∧ Bx (WL (bl s) k N)) (fun n => s.size - (intOf n).toNat)
        case atStart => exact ⟨1, rfl, hW⟩
        case round =>
          obtain ⟨k, rfl, HK⟩ := hrel
          by_cases hk : k < s.size
          · have hki : (k : Int) < s.size := by omega
            have hkl : k < (bl s).length := by rw [bl_length]; exact hk
            obtain ⟨x, hx⟩ : ∃ x, (bl s)[k]? = some x := ⟨_, List.getElem?_eq_getElem hkl⟩
            have hxi := run_idx hx
            have hxl : x < 256 := bl_lt (List.mem_of_getElem? hx)
            cases hlx : Ex.letter x with
            | true =>
              have HS := Bx.mk (HK.out.step hx (by rw [hlx]; rfl))
              clear hx
              have hLx := letter_any x hxl
              rw [hlx] at hLx
              go_wp2_with fail
              refine (hLx _).mono ?_
              rintro e w1 ⟨rfl, rfl⟩
              go_wp2_with fail
              exact ⟨⟨k + 1, by go_num, HS⟩, by simp [intOf]; omega⟩
            | false =>
              cases hnx : Ex.number x with
              | true =>
                have HS := Bx.mk (HK.out.step hx (by rw [hlx, hnx]; rfl))
                clear hx
                have hLx := letter_any x hxl
                rw [hlx] at hLx
                have hNx := number_any x hxl
                rw [hnx] at hNx
                go_wp2_with fail
                refine (hLx _).mono ?_
                rintro e w1 ⟨rfl, rfl⟩
                go_wp2_with fail
                refine (hNx _).mono ?_
                rintro e w1 ⟨rfl, rfl⟩
                go_wp2_with fail
                exact ⟨⟨k + 1, by go_num, HS⟩, by simp [intOf]; omega⟩
              | false =>
                obtain rfl := HK.out.stop hx (by rw [hlx, hnx]; rfl)
                have ex := HN.out
                have hkle : (k : Int) ≤ s.size := by omega
                clear hx
                have hLx := letter_any x hxl
                rw [hlx] at hLx
                have hNx := number_any x hxl
                rw [hnx] at hNx
                go_wp2_with fail
                refine (hLx _).mono ?_
                rintro e w1 ⟨rfl, rfl⟩
                go_wp2_with fail
                refine (hNx _).mono ?_
                rintro e w1 ⟨rfl, rfl⟩
                go_wp2_with fail
                go_ret
                exact ⟨by first | rfl | (rw [← str_bad]; rfl), rfl⟩
          · have hki : ¬ (k : Int) < s.size := by omega
            obtain rfl := HK.out.stop' (by rw [bl_length]; exact hk)
            have ex := HN.out
            have hkle : (k : Int) ≤ s.size := by have := HK.out.hi; rw [bl_length] at this; omega
            go_wp2_with fail
            go_ret
            exact ⟨by first | rfl | (rw [← str_bad]; rfl), rfl⟩
      | false =>
        have g1 := E1.out
        have g2 := E2.out
        have g3 := E3.out
        have e3 : ¬ ws.toList = [105, 116, 101] := by simpa using E3.out
        clear E1 E2 E3
        cases b4 with
        | true =>
          have i0 := scan_ix0
          have i1 := scan_ix1
          have i2 := scan_ix2
          have i3 := scan_ix3
          have i4 := scan_ix4
          have i5 := scan_ix5
          have i6 := scan_ix6
          have i7 := scan_ix7
          have i8 := scan_ix8
          have P0 := Bx.mk H0.out.p0
          have P1 := Bx.mk H0.out.p1
          have P2 := Bx.mk H0.out.p2
          have P3 := Bx.mk H0.out.p3
          have P4 := Bx.mk H0.out.p4
          have P5 := Bx.mk H0.out.p5
          have P6 := Bx.mk H0.out.p6
          have P7 := Bx.mk H0.out.p7
          have P8 := Bx.mk H0.out.p8
          clear H0
          go_enter Try.func42, Try.ntmps42
          go_wp2_with fail
          refine wp_loop_rounds 10 ?_
          rw [rounds_succ]
          go_wp2_with fail
          refine (prefix_is s _ scan_bl0 P0.out _).mono ?_
          rintro e w1 ⟨rfl, rfl⟩
          go_wp2_with fail
          rw [rounds_succ]
          go_wp2_with fail
          refine (prefix_is s _ scan_bl1 P1.out _).mono ?_
          rintro e w1 ⟨rfl, rfl⟩
          go_wp2_with fail
          rw [rounds_succ]
          go_wp2_with fail
          refine (prefix_is s _ scan_bl2 P2.out _).mono ?_
          rintro e w1 ⟨rfl, rfl⟩
          go_wp2_with fail
          rw [rounds_succ]
          go_wp2_with fail
          refine (prefix_is s _ scan_bl3 P3.out _).mono ?_
          rintro e w1 ⟨rfl, rfl⟩
          go_wp2_with fail
          rw [rounds_succ]
          go_wp2_with fail
          refine (prefix_is s _ scan_bl4 P4.out _).mono ?_
          rintro e w1 ⟨rfl, rfl⟩
          go_wp2_with fail
          rw [rounds_succ]
          go_wp2_with fail
          refine (prefix_is s _ scan_bl5 P5.out _).mono ?_
          rintro e w1 ⟨rfl, rfl⟩
          go_wp2_with fail
          rw [rounds_succ]
          go_wp2_with fail
          refine (prefix_is s _ scan_bl6 P6.out _).mono ?_
          rintro e w1 ⟨rfl, rfl⟩
          go_wp2_with fail
          rw [rounds_succ]
          go_wp2_with fail
          refine (prefix_is s _ scan_bl7 P7.out _).mono ?_
          rintro e w1 ⟨rfl, rfl⟩
          go_wp2_with fail
          rw [rounds_succ]
          go_wp2_with fail
          refine (prefix_is s _ scan_bl8 P8.out _).mono ?_
          rintro e w1 ⟨rfl, rfl⟩
          go_wp2_with fail
          rw [rounds_succ]
          go_wp2_with fail
          refine (HL.out _).mono ?_
          rintro e w1 ⟨rfl, rfl⟩
          go_wp2_with fail
          go_loop [5] (fun n => ∃ k : Nat, n = .int .i64 k ∧ Bx (WL (bl s) k N)) (fun n => s.size - (intOf n).toNat)
          case atStart => exact ⟨1, rfl, hW⟩
          case round =>
            obtain ⟨k, rfl, HK⟩ := hrel
            by_cases hk : k < s.size
            · have hki : (k : Int) < s.size := by omega
              have hkl : k < (bl s).length := by rw [bl_length]; exact hk
              obtain ⟨x, hx⟩ : ∃ x, (bl s)[k]? = some x := ⟨_, List.getElem?_eq_getElem hkl⟩
              have hxi := run_idx hx
              have hxl : x < 256 := bl_lt (List.mem_of_getElem? hx)
              cases hlx : Ex.letter x with
              | true =>
                have HS := Bx.mk (HK.out.step hx (by rw [hlx]; rfl))
                clear hx
                have hLx := letter_any x hxl
                rw [hlx] at hLx
                go_wp2_with fail
                refine (hLx _).mono ?_
                rintro e w1 ⟨rfl, rfl⟩
                go_wp2_with fail
                exact ⟨⟨k + 1, by go_num, HS⟩, by simp [intOf]; omega⟩
              | false =>
                cases hnx : Ex.number x with
                | true =>
                  have HS := Bx.mk (HK.out.step hx (by rw [hlx, hnx]; rfl))
                  clear hx
                  have hLx := letter_any x hxl
                  rw [hlx] at hLx
                  have hNx := number_any x hxl
                  rw [hnx] at hNx
                  go_wp2_with fail
                  refine (hLx _).mono ?_
                  rintro e w1 ⟨rfl, rfl⟩
                  go_wp2_with fail
                  refine (hNx _).mono ?_
                  rintro e w1 ⟨rfl, rfl⟩
                  go_wp2_with fail
                  exact ⟨⟨k + 1, by go_num, HS⟩, by simp [intOf]; omega⟩
                | false =>
                  obtain rfl := HK.out.stop hx (by rw [hlx, hnx]; rfl)
                  have ex := HN.out
                  have hkle : (k : Int) ≤ s.size := by omega
                  clear hx
                  have hLx := letter_any x hxl
                  rw [hlx] at hLx
                  have hNx := number_any x hxl
                  rw [hnx] at hNx
                  go_wp2_with fail
                  refine (hLx _).mono ?_
                  rintro e w1 ⟨rfl, rfl⟩
                  go_wp2_with fail
                  refine (hNx _).mono ?_
                  rintro e w1 ⟨rfl, rfl⟩
                  go_wp2_with fail
                  refine (HV.out _).mono ?_
                  rintro e w1 ⟨rfl, rfl⟩
                  go_wp2_with fail
                  go_ret
                  exact ⟨by first | rfl | (rw [← str_bad]; rfl), rfl⟩
            · have hki : ¬ (k : Int) < s.size := by omega
              obtain rfl := HK.out.stop' (by rw [bl_length]; exact hk)
              have ex := HN.out
              have hkle : (k : Int) ≤ s.size := by have := HK.out.hi; rw [bl_length] at this; omega
              go_wp2_with fail
              refine (HV.out _).mono ?_
              rintro e w1 ⟨rfl, rfl⟩
              go_wp2_with fail
              go_ret
              exact ⟨by first | rfl | (rw [← str_bad]; rfl), rfl⟩
        | false =>
          have i0 := scan_ix0
          have i1 := scan_ix1
          have i2 := scan_ix2
          have i3 := scan_ix3
          have i4 := scan_ix4
          have i5 := scan_ix5
          have i6 := scan_ix6
          have i7 := scan_ix7
          have i8 := scan_ix8
          have P0 := Bx.mk H0.out.p0
          have P1 := Bx.mk H0.out.p1
          have P2 := Bx.mk H0.out.p2
          have P3 := Bx.mk H0.out.p3
          have P4 := Bx.mk H0.out.p4
          have P5 := Bx.mk H0.out.p5
          have P6 := Bx.mk H0.out.p6
          have P7 := Bx.mk H0.out.p7
          have P8 := Bx.mk H0.out.p8
          clear H0
          go_enter Try.func42, Try.ntmps42
          go_wp2_with fail
          refine wp_loop_rounds 10 ?_
          rw [rounds_succ]
          go_wp2_with fail
          refine (prefix_is s _ scan_bl0 P0.out _).mono ?_
          rintro e w1 ⟨rfl, rfl⟩
          go_wp2_with fail
          rw [rounds_succ]
          go_wp2_with fail
          refine (prefix_is s _ scan_bl1 P1.out _).mono ?_
          rintro e w1 ⟨rfl, rfl⟩
          go_wp2_with fail
          rw [rounds_succ]
          go_wp2_with fail
          refine (prefix_is s _ scan_bl2 P2.out _).mono ?_
          rintro e w1 ⟨rfl, rfl⟩
          go_wp2_with fail
          rw [rounds_succ]
          go_wp2_with fail
          refine (prefix_is s _ scan_bl3 P3.out _).mono ?_
          rintro e w1 ⟨rfl, rfl⟩
          go_wp2_with fail
          rw [rounds_succ]
          go_wp2_with fail
          refine (prefix_is s _ scan_bl4 P4.out _).mono ?_
          rintro e w1 ⟨rfl, rfl⟩
          go_wp2_with fail
          rw [rounds_succ]
          go_wp2_with fail
          refine (prefix_is s _ scan_bl5 P5.out _).mono ?_
          rintro e w1 ⟨rfl, rfl⟩
          go_wp2_with fail
          rw [rounds_succ]
          go_wp2_with fail
          refine (prefix_is s _ scan_bl6 P6.out _).mono ?_
          rintro e w1 ⟨rfl, rfl⟩
          go_wp2_with fail
          rw [rounds_succ]
          go_wp2_with fail
          refine (prefix_is s _ scan_bl7 P7.out _).mono ?_
          rintro e w1 ⟨rfl, rfl⟩
          go_wp2_with fail
          rw [rounds_succ]
          go_wp2_with fail
          refine (prefix_is s _ scan_bl8 P8.out _).mono ?_
          rintro e w1 ⟨rfl, rfl⟩
          go_wp2_with fail
          rw [rounds_succ]
          go_wp2_with fail
          refine (HL.out _).mono ?_
          rintro e w1 ⟨rfl, rfl⟩
          go_wp2_with fail
          go_loop [5] (fun n => ∃ k : Nat, n = .int .i64 k ∧ Bx (WL (bl s) k N)) (fun n => s.size - (intOf n).toNat)
          case atStart => exact ⟨1, rfl, hW⟩
          case round =>
            obtain ⟨k, rfl, HK⟩ := hrel
            by_cases hk : k < s.size
            · have hki : (k : Int) < s.size := by omega
              have hkl : k < (bl s).length := by rw [bl_length]; exact hk
              obtain ⟨x, hx⟩ : ∃ x, (bl s)[k]? = some x := ⟨_, List.getElem?_eq_getElem hkl⟩
              have hxi := run_idx hx
              have hxl : x < 256 := bl_lt (List.mem_of_getElem? hx)
              cases hlx : Ex.letter x with
              | true =>
                have HS := Bx.mk (HK.out.step hx (by rw [hlx]; rfl))
                clear hx
                have hLx := letter_any x hxl
                rw [hlx] at hLx
                go_wp2_with fail
                refine (hLx _).mono ?_
                rintro e w1 ⟨rfl, rfl⟩
                go_wp2_with fail
                exact ⟨⟨k + 1, by go_num, HS⟩, by simp [intOf]; omega⟩
              | false =>
                cases hnx : Ex.number x with
                | true =>
                  have HS := Bx.mk (HK.out.step hx (by rw [hlx, hnx]; rfl))
                  clear hx
                  have hLx := letter_any x hxl
                  rw [hlx] at hLx
                  have hNx := number_any x hxl
                  rw [hnx] at hNx
                  go_wp2_with fail
                  refine (hLx _).mono ?_
                  rintro e w1 ⟨rfl, rfl⟩
                  go_wp2_with fail
                  refine (hNx _).mono ?_
                  rintro e w1 ⟨rfl, rfl⟩
                  go_wp2_with fail
                  exact ⟨⟨k + 1, by go_num, HS⟩, by simp [intOf]; omega⟩
                | false =>
                  obtain rfl := HK.out.stop hx (by rw [hlx, hnx]; rfl)
                  have ex := HN.out
                  have hkle : (k : Int) ≤ s.size := by omega
                  clear hx
                  have hLx := letter_any x hxl
                  rw [hlx] at hLx
                  have hNx := number_any x hxl
                  rw [hnx] at hNx
                  go_wp2_with fail
                  refine (hLx _).mono ?_
                  rintro e w1 ⟨rfl, rfl⟩
                  go_wp2_with fail
                  refine (hNx _).mono ?_
                  rintro e w1 ⟨rfl, rfl⟩
                  go_wp2_with fail
                  refine (HV.out _).mono ?_
                  rintro e w1 ⟨rfl, rfl⟩
                  go_wp2_with fail
                  go_ret
                  exact ⟨by first | rfl | (rw [← str_bad]; rfl), rfl⟩
            · have hki : ¬ (k : Int) < s.size := by omega
              obtain rfl := HK.out.stop' (by rw [bl_length]; exact hk)
              have ex := HN.out
              have hkle : (k : Int) ≤ s.size := by have := HK.out.hi; rw [bl_length] at this; omega
              go_wp2_with fail
              refine (HV.out _).mono ?_
              rintro e w1 ⟨rfl, rfl⟩
              go_wp2_with fail
              go_ret
              exact ⟨by first | rfl | (rw [← str_bad]; rfl), rfl⟩
end Go.Proofs.Ytfgokhafiffbaaa

/-
  Formulas: expr.scan whole.
-/
namespace Go.Proofs.Ytfgokhafiffbaaa
set_option linter.unusedVariables false
open Go.RowKit

theorem Lx.scan_no {s : ByteArray} (h : NoSign s) : Lx.scan (bl s) = match bl s with
    | [] => .eof
    | c :: r => if c = 48 then .zero else if c = 49 then .one else if Ex.letter c then Lx.kw (c :: r.take (Lx.word r)) else .bad := by
  obtain ⟨p0, p1, p2, p3, p4, p5, p6, p7, p8⟩ := h
  unfold Lx.scan
  rw [p0, p1, p2, p3, p4, p5, p6, p7, p8]
  rfl
theorem kw_str (ws : ByteArray) : (if (ws.toList == [97, 108, 108]) || (ws.toList == [97, 110, 121]) || (ws.toList == [105, 116, 101]) || Lx.vr (bl ws) then ws else Tok.str .bad) = Tok.str (Lx.kw (bl ws)) := by
  have hx : ∀ (l : List UInt8) (m : List Nat), l.map UInt8.toNat = m → (ws.toList == l) = decide (bl ws = m) := fun l m h => by
    have := bl_eq ws ⟨l.toArray⟩
    have e : bl (⟨l.toArray⟩ : ByteArray) = m := (bl_mk l).trans h
    rw [ByteArray.toList_mk l, e] at this
    exact this
  rw [hx _ [97, 108, 108] rfl, hx _ [97, 110, 121] rfl, hx _ [105, 116, 101] rfl]
  by_cases hb : Lx.kw (bl ws) = .bad
  · rw [hb]
    unfold Lx.kw at hb
    by_cases h1 : bl ws = [97, 108, 108]
    · rw [if_pos h1] at hb; cases hb
    rw [if_neg h1] at hb
    by_cases h2 : bl ws = [97, 110, 121]
    · rw [if_pos h2] at hb; cases hb
    rw [if_neg h2] at hb
    by_cases h3 : bl ws = [105, 116, 101]
    · rw [if_pos h3] at hb; cases hb
    rw [if_neg h3] at hb
    have hv : Lx.vr (bl ws) = false := by
      cases hv : Lx.vr (bl ws) with
      | false => rfl
      | true => rw [hv] at hb; cases hb
    rw [decide_eq_false h1, decide_eq_false h2, decide_eq_false h3, hv]
    rfl
  · have ht := Lx.kw_txt (bl ws) hb (fun x hx => bl_lt hx)
    have e : ws = Tok.str (Lx.kw (bl ws)) := bl_inj (by rw [Tok.bl_str, ht])
    rw [← e]
    split
    · rfl
    · rename_i hn
      exfalso
      apply hb
      unfold Lx.kw
      simp only [Bool.or_eq_true, decide_eq_true_eq, not_or, Bool.not_eq_true] at hn
      obtain ⟨⟨⟨h1, h2⟩, h3⟩, hv⟩ := hn
      rw [if_neg h1, if_neg h2, if_neg h3]
      rw [hv]
      rfl
theorem scan_any (s : ByteArray) (w : World) (hsz : s.size ≤ 4000) : Calls Try.prog 42 #[.string s] w fun e w' => e = .returned (.string (Tok.str (Lx.scan (bl s)))) ∧ w' = w := by
  cases h0 : Lx.pre [60, 45, 62] (bl s) with
  | true =>
    rw [show Lx.scan (bl s) = .iff from by unfold Lx.scan; rw [h0]; rfl]
    exact scan_is0 s w ⟨h0⟩
  | false =>
  cases h1 : Lx.pre [45, 62] (bl s) with
  | true =>
    rw [show Lx.scan (bl s) = .imp from by unfold Lx.scan; rw [h0, h1]; rfl]
    exact scan_is1 s w ⟨h0⟩ ⟨h1⟩
  | false =>
  cases h2 : Lx.pre [33] (bl s) with
  | true =>
    rw [show Lx.scan (bl s) = .not from by unfold Lx.scan; rw [h0, h1, h2]; rfl]
    exact scan_is2 s w ⟨h0⟩ ⟨h1⟩ ⟨h2⟩
  | false =>
  cases h3 : Lx.pre [38] (bl s) with
  | true =>
    rw [show Lx.scan (bl s) = .and from by unfold Lx.scan; rw [h0, h1, h2, h3]; rfl]
    exact scan_is3 s w ⟨h0⟩ ⟨h1⟩ ⟨h2⟩ ⟨h3⟩
  | false =>
  cases h4 : Lx.pre [124] (bl s) with
  | true =>
    rw [show Lx.scan (bl s) = .or from by unfold Lx.scan; rw [h0, h1, h2, h3, h4]; rfl]
    exact scan_is4 s w ⟨h0⟩ ⟨h1⟩ ⟨h2⟩ ⟨h3⟩ ⟨h4⟩
  | false =>
  cases h5 : Lx.pre [94] (bl s) with
  | true =>
    rw [show Lx.scan (bl s) = .xor from by unfold Lx.scan; rw [h0, h1, h2, h3, h4, h5]; rfl]
    exact scan_is5 s w ⟨h0⟩ ⟨h1⟩ ⟨h2⟩ ⟨h3⟩ ⟨h4⟩ ⟨h5⟩
  | false =>
  cases h6 : Lx.pre [40] (bl s) with
  | true =>
    rw [show Lx.scan (bl s) = .lp from by unfold Lx.scan; rw [h0, h1, h2, h3, h4, h5, h6]; rfl]
    exact scan_is6 s w ⟨h0⟩ ⟨h1⟩ ⟨h2⟩ ⟨h3⟩ ⟨h4⟩ ⟨h5⟩ ⟨h6⟩
  | false =>
  cases h7 : Lx.pre [41] (bl s) with
  | true =>
    rw [show Lx.scan (bl s) = .rp from by unfold Lx.scan; rw [h0, h1, h2, h3, h4, h5, h6, h7]; rfl]
    exact scan_is7 s w ⟨h0⟩ ⟨h1⟩ ⟨h2⟩ ⟨h3⟩ ⟨h4⟩ ⟨h5⟩ ⟨h6⟩ ⟨h7⟩
  | false =>
  cases h8 : Lx.pre [44] (bl s) with
  | true =>
    rw [show Lx.scan (bl s) = .comma from by unfold Lx.scan; rw [h0, h1, h2, h3, h4, h5, h6, h7, h8]; rfl]
    exact scan_is8 s w ⟨h0⟩ ⟨h1⟩ ⟨h2⟩ ⟨h3⟩ ⟨h4⟩ ⟨h5⟩ ⟨h6⟩ ⟨h7⟩ ⟨h8⟩
  | false =>
  have H0 : NoSign s := ⟨h0, h1, h2, h3, h4, h5, h6, h7, h8⟩
  rw [Lx.scan_no H0]
  match hb : bl s with
  | [] => exact scan_nil s w ⟨H0⟩ (by rw [← bl_length, hb]; rfl)
  | c :: r =>
    have hc : (bl s)[0]? = some c := by rw [hb]; rfl
    by_cases g0 : c = 48
    · have := scan_zero s w ⟨H0⟩ c hc (.inl g0)
      simp only [if_pos g0]
      subst g0
      rw [show Tok.str .zero = strOf [48] from by unfold Tok.str Tok.txt; rfl]
      exact this
    by_cases g1 : c = 49
    · have := scan_zero s w ⟨H0⟩ c hc (.inr g1)
      simp only [if_neg g0, if_pos g1]
      subst g1
      rw [show Tok.str .one = strOf [49] from by unfold Tok.str Tok.txt; rfl]
      exact this
    simp only [if_neg g0, if_neg g1]
    cases hl : Ex.letter c with
    | false =>
      exact scan_bad s w ⟨H0⟩ c hc g0 g1 hl
    | true =>
      simp only [if_true]
      have hN : bl (s.extract 0 (1 + Lx.word r)) = c :: r.take (Lx.word r) := by rw [bl_extract, hb]; simp [Nat.add_comm 1]
      have := scan_word s (s.extract 0 (1 + Lx.word r)) w ⟨H0⟩ c (1 + Lx.word r) hc hl ⟨⟨Nat.le_refl _, by rw [hb]; simp, by rw [hb]; rfl⟩⟩ rfl hsz _ _ _ _ ⟨rfl⟩ ⟨rfl⟩ ⟨rfl⟩ rfl
      rw [kw_str, hN] at this
      exact this
end Go.Proofs.Ytfgokhafiffbaaa

/-
  Formulas: the list of signs, the parser's state in memory; goes, bad, may, must.
-/
namespace Go.Proofs.Ytfgokhafiffbaaa
set_option linter.unusedVariables false
open Go.RowKit

/-- the signs of a text, each with its place; the last one is the end, or none -/
def Lx.lexF : Nat → List Nat → Nat → List (Tok × Nat)
  | 0, _, a => [(.eof, a)]
  | n + 1, l, a =>
    if Lx.scan (l.drop (Lx.skip l)) = .eof ∨ Lx.scan (l.drop (Lx.skip l)) = .bad then [(Lx.scan (l.drop (Lx.skip l)), a + Lx.skip l)]
    else (Lx.scan (l.drop (Lx.skip l)), a + Lx.skip l) :: Lx.lexF n ((l.drop (Lx.skip l)).drop (Lx.scan (l.drop (Lx.skip l))).txt.length) (a + Lx.skip l + (Lx.scan (l.drop (Lx.skip l))).txt.length)
theorem Lx.lexF_fuel (n : Nat) : ∀ (m : Nat) (l : List Nat) (a : Nat), l.length < n → l.length < m → Lx.lexF n l a = Lx.lexF m l a := by
  induction n with
  | zero => intro m l a h; omega
  | succ n ih =>
    intro m l a h1 h2
    cases m with
    | zero => omega
    | succ m =>
      rw [Lx.lexF, Lx.lexF]
      by_cases hb : Lx.scan (l.drop (Lx.skip l)) = .eof ∨ Lx.scan (l.drop (Lx.skip l)) = .bad
      · rw [if_pos hb, if_pos hb]
      · rw [if_neg hb, if_neg hb]
        have hp := Tok.txt_len (Lx.scan (l.drop (Lx.skip l))) (fun e => hb (.inl e))
        have hne : l.drop (Lx.skip l) ≠ [] := fun e => hb (.inl (by rw [e]; exact Lx.scan_nil))
        have hl : 0 < (l.drop (Lx.skip l)).length := List.length_pos_iff.2 hne
        have hl2 : (l.drop (Lx.skip l)).length ≤ l.length := by simp
        congr 1
        refine ih m _ _ ?_ ?_ <;> rw [List.length_drop] <;> omega
def Lx.lex (l : List Nat) (a : Nat) : List (Tok × Nat) := Lx.lexF (l.length + 1) l a
theorem Lx.lex_eq (l : List Nat) (a : Nat) : Lx.lex l a =
    if Lx.scan (l.drop (Lx.skip l)) = .eof ∨ Lx.scan (l.drop (Lx.skip l)) = .bad then [(Lx.scan (l.drop (Lx.skip l)), a + Lx.skip l)]
    else (Lx.scan (l.drop (Lx.skip l)), a + Lx.skip l) :: Lx.lex ((l.drop (Lx.skip l)).drop (Lx.scan (l.drop (Lx.skip l))).txt.length) (a + Lx.skip l + (Lx.scan (l.drop (Lx.skip l))).txt.length) := by
  unfold Lx.lex
  rw [Lx.lexF]
  by_cases hb : Lx.scan (l.drop (Lx.skip l)) = .eof ∨ Lx.scan (l.drop (Lx.skip l)) = .bad
  · rw [if_pos hb, if_pos hb]
  · rw [if_neg hb, if_neg hb]
    have hp := Tok.txt_len (Lx.scan (l.drop (Lx.skip l))) (fun e => hb (.inl e))
    have hne : l.drop (Lx.skip l) ≠ [] := fun e => hb (.inl (by rw [e]; exact Lx.scan_nil))
    have hl : 0 < (l.drop (Lx.skip l)).length := List.length_pos_iff.2 hne
    have hl2 : (l.drop (Lx.skip l)).length ≤ l.length := by simp
    congr 1
    refine Lx.lexF_fuel _ _ _ _ ?_ ?_ <;> rw [List.length_drop] <;> omega

/-- the parser's state: the signs still to come, the first of them being the one that stands; the error and its place -/
structure St where
  ts : List (Tok × Nat)
  e : Nat
  eat : Nat
  deriving DecidableEq
def St.now (s : St) : Tok := match s.ts with | [] => .eof | x :: _ => x.1
def St.at_ (s : St) : Nat := match s.ts with | [] => 0 | x :: _ => x.2
def St.goes (s : St) : St := { s with ts := s.ts.tail }
def St.bad (e : Nat) (s : St) : St := if s.e = 0 then { s with e := e, eat := s.at_ } else s
def St.may (t : Tok) (s : St) : Bool := decide (s.e = 0) && decide (s.now = t)
def St.must (t : Tok) (s : St) : St := if s.may t then s.goes else s.bad 230
attribute [irreducible] Lx.lex Lx.lexF

/-- all but block N, of what was there, is as it was -/
def Gb (N : Nat) (w w' : World) : Prop := w.grownBy w' (some N)
theorem Gb.refl (N : Nat) (w : World) : Gb N w w := World.grownBy.refl w _
theorem Gb.trans {N : Nat} {a b c : World} (h : Gb N a b) (k : Gb N b c) : Gb N a c := ⟨k.os.trans h.os, k.tape.trans h.tape, k.output.trans h.output, Nat.le_trans h.size k.size, fun i hi hn => (k.block i (Nat.lt_of_lt_of_le hi h.size) hn).trans (h.block i hi hn)⟩
theorem Gb.alloc {N : Nat} {a w : World} (h : Gb N a w) (o : Obj) : Gb N a (w.alloc o) := Gb.trans h (World.grownBy_alloc w o _)
theorem Gb.drew {N : Nat} {a w : World} (h : Gb N a w) : Gb N a w.drew := ⟨h.os, h.tape, h.output, h.size, h.block⟩
theorem Gb.set {N : Nat} {a w : World} (h : Gb N a w) {p : Addr} (hp : p.block = N ∨ a.heap.size ≤ p.block) (u : Value) : Gb N a (w.setCell p u) :=
  ⟨h.os, h.tape, h.output, by simpa [World.setCell] using h.size, fun k hk hn => (Below.heap_setCell _ _ _ _ (by rcases hp with rfl | hp; exact fun e => hn (by rw [e]); omega)).trans (h.block k hk hn)⟩
theorem Gb.below {N : Nat} {a b c : World} (h : Gb N a b) (k : Below b.heap.size b c) : Gb N a c := h.trans ⟨k.os, k.tape, k.output, k.size, fun i hi _ => k.block i hi⟩
/-- where block N is new, it is as with no block -/
theorem Gb.to_below {N : Nat} {a b c : World} (h : Below a.heap.size a b) (k : Gb N b c) (hN : a.heap.size ≤ N) : Below a.heap.size a c :=
  h.trans ⟨k.os, k.tape, k.output, k.size, fun i hi => k.block i (Nat.lt_of_lt_of_le hi h.size) (fun e => by cases e; omega)⟩
theorem Gb.blk {N g : Nat} {t : TypeId} {cs : Array Value} {a b : World} (k : Gb N a b) (h : Blk a g t cs) (hne : g ≠ N) : Blk b g t cs := ⟨(k.block g h.lt (fun e => hne (Option.some.inj e))).trans h.eq⟩

/-- the parser's block -/
def PB (s T : ByteArray) (a d e eat : Nat) : Array Value := #[.string s, .string T, .int .i64 (a : Int), .int .i64 (d : Int), .int .i64 (e : Int), .int .i64 (eat : Int)]

/-- where the blanks' loop stands -/
structure SL (l : List Nat) (q K : Nat) : Prop where
  hi : q ≤ l.length
  sum : q + Lx.skip (l.drop q) = K
theorem Lx.skip_cons (c : Nat) (r : List Nat) : Lx.skip (c :: r) = if Lx.blank c then 1 + Lx.skip r else 0 := by rw [Lx.skip]
theorem Lx.skip_nil : Lx.skip [] = 0 := by rw [Lx.skip]
theorem SL.step {l : List Nat} {q K x : Nat} (h : SL l q K) (hx : l[q]? = some x) (hl : Lx.blank x = true) : SL l (q + 1) K := by
  have hk : q < l.length := (List.getElem?_eq_some_iff.1 hx).1
  have hs := h.sum
  rw [List.drop_eq_getElem_cons hk, (List.getElem?_eq_some_iff.1 hx).2, Lx.skip_cons, hl, if_pos rfl] at hs
  exact ⟨by omega, by omega⟩
theorem SL.stop {l : List Nat} {q K x : Nat} (h : SL l q K) (hx : l[q]? = some x) (hl : Lx.blank x = false) : q = K := by
  have hk : q < l.length := (List.getElem?_eq_some_iff.1 hx).1
  have hs := h.sum
  rw [List.drop_eq_getElem_cons hk, (List.getElem?_eq_some_iff.1 hx).2, Lx.skip_cons, hl] at hs
  simpa using hs
theorem SL.stop' {l : List Nat} {q K : Nat} (h : SL l q K) (hk : ¬ q < l.length) : q = K := by
  have hs := h.sum
  rw [List.drop_eq_nil_of_le (by omega), Lx.skip_nil] at hs
  simpa using hs
theorem pb_cells {w : World} {N : Nat} {s T : ByteArray} {a d e eat : Nat} (hB : Blk w N 62 (PB s T a d e eat)) :
    w.cell? ⟨N, 0, none⟩ = some (.string s) ∧ w.cell? ⟨N, 1, none⟩ = some (.string T) ∧ w.cell? ⟨N, 2, none⟩ = some (.int .i64 (a : Int)) ∧ w.cell? ⟨N, 3, none⟩ = some (.int .i64 (d : Int)) ∧ w.cell? ⟨N, 4, none⟩ = some (.int .i64 (e : Int)) ∧ w.cell? ⟨N, 5, none⟩ = some (.int .i64 (eat : Int)) ∧
    w.frozen? ⟨N, 1, none⟩ = false ∧ w.frozen? ⟨N, 2, none⟩ = false ∧ w.frozen? ⟨N, 3, none⟩ = false ∧ w.frozen? ⟨N, 4, none⟩ = false ∧ w.frozen? ⟨N, 5, none⟩ = false :=
  ⟨hB.cell 0, hB.cell 1, hB.cell 2, hB.cell 3, hB.cell 4, hB.cell 5, hB.frozen 1, hB.frozen 2, hB.frozen 3, hB.frozen 4, hB.frozen 5⟩

theorem w64 (n : Int) (h : -9223372036854775808 ≤ n ∧ n ≤ 9223372036854775807) : wrap64 n = n := by unfold wrap64; omega
theorem blank_no {x : Nat} (h0 : ¬ x = 32) (h1 : ¬ x = 9) (h2 : ¬ x = 10) : Lx.blank x = false := by unfold Lx.blank; simp [h0, h1, h2]
set_option maxHeartbeats 4000000 in
theorem goes_any (N : Nat) (s T : ByteArray) (a d e eat K : Nat) (t : Tok) (w : World) (hB : Blk w N 62 (PB s T a d e eat)) (hsz : s.size ≤ 4000) (hT : a + T.size ≤ s.size)
    (hK : a + T.size + Lx.skip ((bl s).drop (a + T.size)) = K) (ht : Lx.scan ((bl s).drop K) = t) :
    Calls Try.prog 30 #[.pointer (some ⟨N, 0, none⟩)] w fun ee w' => ee = .returned (.tuple #[]) ∧ Blk w' N 62 (PB s t.str K d e eat) ∧ Gb N w w' := by
  obtain ⟨c0, c1, c2, c3, c4, c5, f1, f2, f3, f4, f5⟩ := pb_cells hB
  have hS : Bx (SL (bl s) (a + T.size) K) := ⟨⟨by rw [bl_length]; exact hT, hK⟩⟩
  have HB := Bx.mk hB
  have HT := Bx.mk ht
  have hw : wrap64 ((a : Int) + T.size) = ((a + T.size : Nat) : Int) := by rw [w64 _ (by omega)]; omega
  clear hB hK ht c3 c4 c5 f3 f4 f5
  go_enter Try.func30, Try.ntmps30
  go_wp2_with fail
  go_still (by kernel_rfl)
  go_wp2_with fail
  go_loop [2] (fun q => ∃ k : Nat, q = .int .i64 k ∧ Bx (SL (bl s) k K)) (fun q => s.size - (intOf q).toNat)
  case atStart => exact ⟨a + T.size, congrArg (Value.int .i64) (by rw [IntKind.wrap_i64]; omega), hS⟩
  case round =>
    clear hS
    obtain ⟨k, rfl, HK⟩ := hrel
    by_cases hk : k < s.size
    · have hki : (k : Int) < s.size := by omega
      have hkl : k < (bl s).length := by rw [bl_length]; exact hk
      obtain ⟨x, hx⟩ : ∃ x, (bl s)[k]? = some x := ⟨_, List.getElem?_eq_getElem hkl⟩
      by_cases h0 : x = 32
      · subst h0
        have hxi := run_idx hx
        have HS := Bx.mk (HK.out.step hx (by unfold Lx.blank; decide))
        clear hx
        go_wp2_with fail
        exact ⟨⟨k + 1, by go_num, HS⟩, by simp [intOf]; omega⟩
      by_cases h1 : x = 9
      · subst h1
        have hxi := run_idx hx
        have HS := Bx.mk (HK.out.step hx (by unfold Lx.blank; decide))
        clear hx
        go_wp2_with fail
        exact ⟨⟨k + 1, by go_num, HS⟩, by simp [intOf]; omega⟩
      by_cases h2 : x = 10
      · subst h2
        have hxi := run_idx hx
        have HS := Bx.mk (HK.out.step hx (by unfold Lx.blank; decide))
        clear hx
        go_wp2_with fail
        exact ⟨⟨k + 1, by go_num, HS⟩, by simp [intOf]; omega⟩
      have hxi := run_idx hx
      obtain rfl := HK.out.stop hx (blank_no h0 h1 h2)
      have q0 : ((x : Int) == 32) = false := by rw [beq_eq_false_iff_ne]; omega
      have q1 : ((x : Int) == 9) = false := by rw [beq_eq_false_iff_ne]; omega
      have q2 : ((x : Int) == 10) = false := by rw [beq_eq_false_iff_ne]; omega
      have hkle : (k : Int) ≤ s.size := by omega
      clear hx h0 h1 h2
      have HC := Bx.mk (scan_any (s.extract k s.size) w.drew (by rw [ByteArray.size_extract]; omega))
      rw [show bl (s.extract k s.size) = (bl s).drop k from by rw [bl_extract, List.take_of_length_le (by rw [List.length_drop, bl_length]; omega)], HT.out] at HC
      go_wp2_with fail
      refine HC.out.mono ?_
      rintro e w1 ⟨rfl, rfl⟩
      go_wp2_with fail
      go_end0
      refine ⟨rfl, ?_, ?_⟩
      · exact ((HB.out.drew.set_ 1 _).set_ 2 _)
      · exact (((Gb.refl _ _).set (p := ⟨N, 1, none⟩) (.inl rfl) _).set (p := ⟨N, 2, none⟩) (.inl rfl) _).drew
    · have hki : ¬ (k : Int) < s.size := by omega
      obtain rfl := HK.out.stop' (by rw [bl_length]; exact hk)
      have hkle : (k : Int) ≤ s.size := by have := HK.out.hi; rw [bl_length] at this; omega
      have HC := Bx.mk (scan_any (s.extract k s.size) w.drew (by rw [ByteArray.size_extract]; omega))
      rw [show bl (s.extract k s.size) = (bl s).drop k from by rw [bl_extract, List.take_of_length_le (by rw [List.length_drop, bl_length]; omega)], HT.out] at HC
      go_wp2_with fail
      refine HC.out.mono ?_
      rintro e w1 ⟨rfl, rfl⟩
      go_wp2_with fail
      go_end0
      refine ⟨rfl, ?_, ?_⟩
      · exact ((HB.out.drew.set_ 1 _).set_ 2 _)
      · exact (((Gb.refl _ _).set (p := ⟨N, 1, none⟩) (.inl rfl) _).set (p := ⟨N, 2, none⟩) (.inl rfl) _).drew
end Go.Proofs.Ytfgokhafiffbaaa

/-
  Formulas: the parser's state; goes, bad, may, must over it.
-/
namespace Go.Proofs.Ytfgokhafiffbaaa
set_option linter.unusedVariables false
open Go.RowKit

/-- the parser at block N reads as the plain state -/
structure PS (w : World) (N d : Nat) (s : ByteArray) (st : St) : Prop where
  blk : Blk w N 62 (PB s st.now.str st.at_ d st.e st.eat)
  len : st.at_ + st.now.txt.length ≤ s.size
  size : s.size ≤ 4000
  toks : ∃ r, st.ts = (st.now, st.at_) :: r ∧ (st.now ≠ .eof → st.now ≠ .bad → r = Lx.lex ((bl s).drop (st.at_ + st.now.txt.length)) (st.at_ + st.now.txt.length)) ∧ (st.now = .eof ∨ st.now = .bad → r = [])
theorem PS.alloc {w : World} {N d : Nat} {s : ByteArray} {st : St} (h : PS w N d s st) (o : Obj) : PS (w.alloc o) N d s st := ⟨h.blk.alloc o, h.len, h.size, h.toks⟩
theorem PS.drew {w : World} {N d : Nat} {s : ByteArray} {st : St} (h : PS w N d s st) : PS w.drew N d s st := ⟨h.blk.drew, h.len, h.size, h.toks⟩
theorem PS.far {w : World} {N d : Nat} {s : ByteArray} {st : St} (h : PS w N d s st) {p : Addr} (hp : N ≠ p.block) (u : Value) : PS (w.setCell p u) N d s st := ⟨h.blk.far hp u, h.len, h.size, h.toks⟩
theorem PS.lt {w : World} {N d : Nat} {s : ByteArray} {st : St} (h : PS w N d s st) : N < w.heap.size := h.blk.lt
theorem PS.deep {w : World} {N d : Nat} {s : ByteArray} {st : St} (h : PS w N d s st) (d' : Nat) : PS (w.setCell ⟨N, 3, none⟩ (.int .i64 (d' : Int))) N d' s st := ⟨h.blk.set_ 3 _, h.len, h.size, h.toks⟩
/-- the state that a lexed text begins with -/
theorem St.lexed {l : List Nat} {a K : Nat} {t : Tok} {e eat : Nat} (hK : a + Lx.skip l = K) (ht : Lx.scan (l.drop (Lx.skip l)) = t) :
    (⟨Lx.lex l a, e, eat⟩ : St).now = t ∧ (⟨Lx.lex l a, e, eat⟩ : St).at_ = K ∧
      ∃ r, Lx.lex l a = (t, K) :: r ∧ (t ≠ .eof → t ≠ .bad → r = Lx.lex (l.drop (Lx.skip l + t.txt.length)) (K + t.txt.length)) ∧ (t = .eof ∨ t = .bad → r = []) := by
  subst hK ht
  have hE := Lx.lex_eq l a
  by_cases hb : Lx.scan (l.drop (Lx.skip l)) = .eof ∨ Lx.scan (l.drop (Lx.skip l)) = .bad
  · rw [if_pos hb] at hE
    refine ⟨by unfold St.now; rw [hE], by unfold St.at_; rw [hE], [], hE, fun h1 h2 => ?_, fun _ => rfl⟩
    rcases hb with hb | hb
    · exact absurd hb h1
    · exact absurd hb h2
  · rw [if_neg hb] at hE
    refine ⟨by unfold St.now; rw [hE], by unfold St.at_; rw [hE], _, hE, fun h1 h2 => ?_, fun h => absurd h hb⟩
    rw [List.drop_drop]
theorem PS.fresh {w : World} {N d : Nat} {s : ByteArray} {a K e eat : Nat} {t : Tok} (hK : a + Lx.skip ((bl s).drop a) = K) (ht : Lx.scan ((bl s).drop K) = t) (hB : Blk w N 62 (PB s t.str K d e eat))
    (ha : a ≤ s.size) (hs : s.size ≤ 4000) : PS w N d s ⟨Lx.lex ((bl s).drop a) a, e, eat⟩ := by
  have ht' : Lx.scan (((bl s).drop a).drop (Lx.skip ((bl s).drop a))) = t := by rw [List.drop_drop, hK]; exact ht
  obtain ⟨h1, h2, r, h3, h4, h5⟩ := St.lexed (e := e) (eat := eat) hK ht'
  have hsk := Lx.skip_le ((bl s).drop a)
  rw [List.length_drop, bl_length] at hsk
  have hl := Lx.scan_len ((bl s).drop K) (fun x hx => bl_lt (List.mem_of_mem_drop hx))
  rw [ht, List.length_drop, bl_length] at hl
  refine ⟨by rw [h1, h2]; exact hB, by rw [h1, h2]; omega, hs, r, by rw [h1, h2]; exact h3, fun g1 g2 => ?_, fun g => h5 (by rw [h1] at g; exact g)⟩
  rw [h1] at g1 g2
  rw [h1, h2, h4 g1 g2, List.drop_drop]
  congr 2
  omega

theorem goes_st (N d : Nat) (s : ByteArray) (st : St) (w : World) (h : PS w N d s st) (h1 : st.now ≠ .eof) (h2 : st.now ≠ .bad) :
    Calls Try.prog 30 #[.pointer (some ⟨N, 0, none⟩)] w fun ee w' => ee = .returned (.tuple #[]) ∧ PS w' N d s st.goes ∧ Gb N w w' := by
  have hl : st.now.str.size = st.now.txt.length := by rw [← bl_length, Tok.bl_str]
  refine (goes_any N s st.now.str st.at_ d st.e st.eat _ _ w h.blk h.size (by rw [hl]; exact h.len) rfl rfl).mono ?_
  rintro e w' ⟨rfl, hB, hG⟩
  refine ⟨rfl, ?_, hG⟩
  obtain ⟨r, hr, hx, _⟩ := h.toks
  have := PS.fresh (a := st.at_ + st.now.txt.length) rfl rfl (by rw [← hl]; exact hB) h.len h.size
  rw [← hx h1 h2] at this
  have e : st.goes = ⟨r, st.e, st.eat⟩ := by unfold St.goes; rw [hr]; rfl
  rw [e]
  exact this

set_option maxHeartbeats 4000000 in
theorem bad_st (N d x : Nat) (s : ByteArray) (st : St) (w : World) (h : PS w N d s st) :
    Calls Try.prog 32 #[.pointer (some ⟨N, 0, none⟩), .int .i64 (x : Int)] w fun ee w' => ee = .returned (.tuple #[]) ∧ PS w' N d s (st.bad x) ∧ Gb N w w' := by
  obtain ⟨c0, c1, c2, c3, c4, c5, f1, f2, f3, f4, f5⟩ := pb_cells h.blk
  have H := Bx.mk h
  clear h
  by_cases he : st.e = 0
  · have q : (st.e : Int) = 0 := by omega
    have HE := Bx.mk he
    clear he
    go_enter Try.func32, Try.ntmps32
    go_wp2_with fail
    go_end0
    refine ⟨rfl, ?_, ((Gb.refl _ _).set (p := ⟨N, 4, none⟩) (.inl rfl) _).set (p := ⟨N, 5, none⟩) (.inl rfl) _⟩
    have e : st.bad x = { st with e := x, eat := st.at_ } := by unfold St.bad; rw [if_pos HE.out]
    rw [e]
    have := (H.out.blk.set_ 4 (.int .i64 (x : Int))).set_ 5 (.int .i64 (st.at_ : Int))
    exact ⟨this, H.out.len, H.out.size, H.out.toks⟩
  · have q : ¬ (st.e : Int) = 0 := by omega
    have e : st.bad x = st := by unfold St.bad; rw [if_neg he]
    rw [e]
    clear he e
    go_enter Try.func32, Try.ntmps32
    go_wp2_with fail
    first | go_end0 | refine bodyPost_ret (results_none rfl _ _ _) rfl ?_
    exact ⟨rfl, H.out, Gb.refl _ _⟩

set_option maxHeartbeats 4000000 in
theorem may_st (N d : Nat) (t : Tok) (k s : ByteArray) (st : St) (w : World) (h : PS w N d s st) (hk : k = t.str) (h1 : t ≠ .eof) (h2 : t ≠ .bad) :
    Calls Try.prog 61 #[.pointer (some ⟨N, 0, none⟩), .string k] w fun ee w' => ee = .returned (.bool (st.may t)) ∧ PS w' N d s (if st.may t then st.goes else st) ∧ Gb N w w' := by
  subst hk
  obtain ⟨c0, c1, c2, c3, c4, c5, f1, f2, f3, f4, f5⟩ := pb_cells h.blk
  have hT := Tok.str_eq st.now t
  by_cases he : st.e = 0
  · have q : (st.e : Int) = 0 := by omega
    by_cases hn : st.now = t
    · have hm : st.may t = true := by unfold St.may; rw [he, hn]; simp
      have HG := Bx.mk (goes_st N d s st w h (by rw [hn]; exact h1) (by rw [hn]; exact h2))
      rw [hm, if_pos rfl]
      rw [decide_eq_true hn] at hT
      clear h he hn h1 h2 hm c0 c2 c3 c5 f1 f2 f3 f4 f5
      go_enter Try.func61, Try.ntmps61
      go_wp2_with fail
      refine HG.out.mono ?_
      rintro e w1 ⟨rfl, hP, hB⟩
      have HP := Bx.mk hP
      have HB := Bx.mk hB
      clear hP hB
      go_wp2_with fail
      go_ret
      exact ⟨rfl, HP.out, HB.out⟩
    · have hm : st.may t = false := by unfold St.may; rw [decide_eq_false hn]; simp
      have H := Bx.mk h
      rw [hm, if_neg (by simp)]
      rw [decide_eq_false hn] at hT
      clear h he hn h1 h2 hm c0 c2 c3 c5 f1 f2 f3 f4 f5
      go_enter Try.func61, Try.ntmps61
      go_wp2_with fail
      go_ret
      exact ⟨rfl, H.out, Gb.refl _ _⟩
  · have q : ¬ (st.e : Int) = 0 := by omega
    have q2 : ((st.e : Int) == 0) = false := by rw [beq_eq_false_iff_ne]; omega
    have hm : st.may t = false := by unfold St.may; rw [decide_eq_false he]; simp
    have H := Bx.mk h
    rw [hm, if_neg (by simp)]
    clear h he h1 h2 hm c0 c2 c3 c5 f1 f2 f3 f4 f5 hT
    go_enter Try.func61, Try.ntmps61
    go_wp2_with fail
    go_ret
    exact ⟨rfl, H.out, Gb.refl _ _⟩

set_option maxHeartbeats 4000000 in
theorem must_st (N d : Nat) (t : Tok) (k s : ByteArray) (st : St) (w : World) (h : PS w N d s st) (hk : k = t.str) (h1 : t ≠ .eof) (h2 : t ≠ .bad) :
    Calls Try.prog 90 #[.pointer (some ⟨N, 0, none⟩), .string k] w fun ee w' => ee = .returned (.tuple #[]) ∧ PS w' N d s (st.must t) ∧ Gb N w w' := by
  have HM := Bx.mk (may_st N d t k s st w h hk h1 h2)
  clear h hk h1 h2
  cases hm : st.may t with
  | true =>
    rw [hm, if_pos rfl] at HM
    have e : st.must t = st.goes := by unfold St.must; rw [hm]; rfl
    rw [e]
    clear e hm
    go_enter Try.func90, Try.ntmps90
    go_wp2_with fail
    refine HM.out.mono ?_
    rintro e w1 ⟨rfl, hP, hB⟩
    have HP := Bx.mk hP
    have HB := Bx.mk hB
    clear hP hB
    go_wp2_with fail
    first | go_end0 | refine bodyPost_ret (results_none rfl _ _ _) rfl ?_
    exact ⟨rfl, HP.out, HB.out⟩
  | false =>
    rw [hm, if_neg (by simp)] at HM
    have e : st.must t = st.bad 230 := by unfold St.must; rw [hm]; rfl
    rw [e]
    clear e hm
    go_enter Try.func90, Try.ntmps90
    go_wp2_with fail
    refine HM.out.mono ?_
    rintro e w1 ⟨rfl, hP, hB⟩
    have HB := Bx.mk hB
    have HD := Bx.mk (bad_st N d 230 s st w1 hP)
    clear hP hB
    go_wp2_with fail
    refine HD.out.mono ?_
    rintro e w2 ⟨rfl, hP, hB⟩
    have HP := Bx.mk hP
    have HB2 := Bx.mk hB
    clear hP hB
    go_wp2_with fail
    first | go_end0 | refine bodyPost_ret (results_none rfl _ _ _) rfl ?_
    exact ⟨rfl, HP.out, HB.out.trans HB2.out⟩
end Go.Proofs.Ytfgokhafiffbaaa

/-
  Formulas: trees, how they lie in memory; the parser's plain form, first part.
-/
namespace Go.Proofs.Ytfgokhafiffbaaa
set_option linter.unusedVariables false
open Go.RowKit

/-- a list of formulas -/
inductive Fo where
  | nil
  | cons (k a v : Int) (kids rest : Fo)
  deriving DecidableEq
structure Tr where
  k : Int
  a : Int
  v : Int
  kids : Fo
  deriving DecidableEq
def Fo.len : Fo → Nat
  | .nil => 0
  | .cons _ _ _ _ r => r.len + 1
def Tr.on (t : Tr) (r : Fo) : Fo := .cons t.k t.a t.v t.kids r
def Tr.zero : Tr := ⟨0, 0, 0, .nil⟩
def Ev (t : Tr) (sl : Value) : Value := .agg #[.int .i64 t.k, .int .i64 t.a, .int .i64 t.v, sl]
def Ge (n : Nat) (g : Nat) : Prop := n ≤ g
/-- what lies at (b, o) reads as the list; all of its blocks are such as B says -/
def RdF (w : World) (B : Nat → Prop) : Fo → Nat → Nat → Prop
  | .nil, _, _ => True
  | .cons k a v kids rest, b, o => B b ∧ w.cell? ⟨b, o, none⟩ = some (.int .i64 k) ∧ w.cell? ⟨b, o + 1, none⟩ = some (.int .i64 a) ∧ w.cell? ⟨b, o + 2, none⟩ = some (.int .i64 v) ∧
      (∃ p cap b' o', w.cell? ⟨b, o + 3, none⟩ = some (.slice p kids.len cap) ∧ ((kids = .nil ∧ cap = 0) ∨ p = some ⟨b', o', none⟩) ∧ kids.len ≤ cap ∧ RdF w B kids b' o') ∧ RdF w B rest b (o + 4)
/-- the slice reads as the list -/
def SlF (w : World) (B : Nat → Prop) (v : Value) (F : Fo) : Prop :=
  ∃ p cap b o, v = .slice p F.len cap ∧ ((F = .nil ∧ cap = 0) ∨ p = some ⟨b, o, none⟩) ∧ F.len ≤ cap ∧ RdF w B F b o
theorem RdF.kept {w w' : World} {B : Nat → Prop} (h : ∀ g, B g → g < w.heap.size → w'.heap[g]? = w.heap[g]?) : ∀ (F : Fo) (b o : Nat), RdF w B F b o → RdF w' B F b o
  | .nil, _, _, _ => True.intro
  | .cons k a v kids rest, b, o, hr => by
    obtain ⟨hb, h0, h1, h2, ⟨p, cap, b', o', h3, hp, hc, hk⟩, hrest⟩ := hr
    have hlt : b < w.heap.size := World.block_lt_of_cell? w _ h0
    have e : ∀ i, w'.cell? ⟨b, i, none⟩ = w.cell? ⟨b, i, none⟩ := fun i => World.cell?_of_block (a := ⟨b, i, none⟩) (h b hb hlt)
    exact ⟨hb, (e _).trans h0, (e _).trans h1, (e _).trans h2, ⟨p, cap, b', o', (e _).trans h3, hp, hc, RdF.kept h kids b' o' hk⟩, RdF.kept h rest b (o + 4) hrest⟩
theorem RdF.mono {w : World} {B B' : Nat → Prop} (h : ∀ g, g < w.heap.size → B g → B' g) : ∀ (F : Fo) (b o : Nat), RdF w B F b o → RdF w B' F b o
  | .nil, _, _, _ => True.intro
  | .cons k a v kids rest, b, o, hr => by
    obtain ⟨hb, h0, h1, h2, ⟨p, cap, b', o', h3, hp, hc, hk⟩, hrest⟩ := hr
    exact ⟨h b (World.block_lt_of_cell? w _ h0) hb, h0, h1, h2, ⟨p, cap, b', o', h3, hp, hc, RdF.mono h kids b' o' hk⟩, RdF.mono h rest b (o + 4) hrest⟩
theorem SlF.kept {w w' : World} {B : Nat → Prop} {v : Value} {F : Fo} (hs : SlF w B v F) (h : ∀ g, B g → g < w.heap.size → w'.heap[g]? = w.heap[g]?) : SlF w' B v F := by
  obtain ⟨p, cap, b, o, h1, h2, h3, h4⟩ := hs
  exact ⟨p, cap, b, o, h1, h2, h3, RdF.kept h F b o h4⟩
theorem SlF.mono' {w : World} {B B' : Nat → Prop} {v : Value} {F : Fo} (hs : SlF w B v F) (h : ∀ g, g < w.heap.size → B g → B' g) : SlF w B' v F := by
  obtain ⟨p, cap, b, o, h1, h2, h3, h4⟩ := hs
  exact ⟨p, cap, b, o, h1, h2, h3, RdF.mono h F b o h4⟩
theorem SlF.mono {w : World} {B B' : Nat → Prop} {v : Value} {F : Fo} (hs : SlF w B v F) (h : ∀ g, B g → B' g) : SlF w B' v F := hs.mono' fun g _ => h g
theorem SlF.below {w w' : World} {B : Nat → Prop} {v : Value} {F : Fo} (hs : SlF w B v F) (h : Below w.heap.size w w') : SlF w' B v F := hs.kept fun g _ hl => h.block g hl
theorem SlF.alloc {w : World} {B : Nat → Prop} {v : Value} {F : Fo} (hs : SlF w B v F) (o : Obj) : SlF (w.alloc o) B v F := hs.kept fun g _ hl => Below.heap_alloc w o g hl
theorem SlF.drew {w : World} {B : Nat → Prop} {v : Value} {F : Fo} (hs : SlF w B v F) : SlF w.drew B v F := hs.kept fun g _ hl => rfl
theorem SlF.nil (w : World) (B : Nat → Prop) : SlF w B (.slice none 0 0) .nil := ⟨none, 0, 0, 0, rfl, .inl ⟨rfl, rfl⟩, Nat.le_refl _, True.intro⟩
theorem Fo.len_nil : Fo.nil.len = 0 := rfl
theorem Fo.len_on (t : Tr) (r : Fo) : (t.on r).len = r.len + 1 := rfl
/-- a list that lies in a block -/
theorem RdF.on {w : World} {B : Nat → Prop} {b o : Nat} {t : Tr} {sl : Value} {r : Fo} (hb : B b) (h0 : w.cell? ⟨b, o, none⟩ = some (.int .i64 t.k)) (h1 : w.cell? ⟨b, o + 1, none⟩ = some (.int .i64 t.a)) (h2 : w.cell? ⟨b, o + 2, none⟩ = some (.int .i64 t.v))
    (h3 : w.cell? ⟨b, o + 3, none⟩ = some sl) (hs : SlF w B sl t.kids) (hr : RdF w B r b (o + 4)) : RdF w B (t.on r) b o := by
  obtain ⟨p, cap, b', o', rfl, hp, hc, hk⟩ := hs
  exact ⟨hb, h0, h1, h2, ⟨p, cap, b', o', h3, hp, hc, hk⟩, hr⟩
theorem SlF.mk {w : World} {B : Nat → Prop} {b o cap : Nat} {F : Fo} (hc : F.len ≤ cap) (h : RdF w B F b o) : SlF w B (.slice (some ⟨b, o, none⟩) F.len cap) F := ⟨_, cap, b, o, rfl, .inr rfl, hc, h⟩
theorem SlF.is {w : World} {B : Nat → Prop} {v : Value} {F : Fo} (h : SlF w B v F) : ∃ p cap, v = .slice p F.len cap := by
  obtain ⟨p, cap, b, o, h1, _⟩ := h
  exact ⟨p, cap, h1⟩

/-- one deeper: at the last depth it's refused -/
def Ex.within (read : Option (St → Tr × St)) (st : St) : Tr × St :=
  match read with
  | none => (Tr.zero, st.bad 231)
  | some f => if st.e = 0 then f st else (Tr.zero, st)
def Ex.two (k : Int) (a : Nat) (x y : Tr) : Tr := ⟨k, a, 0, x.on (y.on .nil)⟩
def Ex.one (k : Int) (a : Nat) (v : Int) (x : Tr) : Tr := ⟨k, a, v, x.on .nil⟩
def Ex.chainF : Nat → Tok → Int → (St → Tr × St) → Tr → St → Tr × St
  | 0, _, _, _, x, st => (x, st)
  | n + 1, t, k, read, x, st => if st.may t then Ex.chainF n t k read (Ex.two k st.at_ x (read st.goes).1) (read st.goes).2 else (x, st)
def Ex.chain (t : Tok) (k : Int) (read : St → Tr × St) (st : St) : Tr × St := Ex.chainF (read st).2.ts.length t k read (read st).1 (read st).2
def Ex.imp (w : Option (St → Tr × St)) (read : St → Tr × St) (st : St) : Tr × St :=
  if (read st).2.may .imp then (Ex.two 7 (read st).2.at_ (read st).1 (Ex.within w (read st).2.goes).1, (Ex.within w (read st).2.goes).2) else read st
def Ex.bound (w : Option (St → Tr × St)) (k : Int) (a : Nat) (st : St) : Tr × St :=
  match st.now with
  | .var n => (Ex.one k a n.val (Ex.within w st.goes).1, (Ex.within w st.goes).2)
  | _ => (Tr.zero, st.bad 230)
def Ex.ite (w : Option (St → Tr × St)) (a : Nat) (st : St) : Tr × St :=
  let r1 := Ex.within w (st.must .lp)
  let r2 := Ex.within w (r1.2.must .comma)
  let r3 := Ex.within w (r2.2.must .comma)
  (⟨9, a, 0, r1.1.on (r2.1.on (r3.1.on .nil))⟩, r3.2.must .rp)
def Ex.prim (w : Option (St → Tr × St)) (st : St) : Tr × St :=
  match st.now with
  | .var n => (⟨1, st.at_, n.val, .nil⟩, st.goes)
  | .zero => (⟨2, st.at_, 0, .nil⟩, st.goes)
  | .one => (⟨2, st.at_, 1, .nil⟩, st.goes)
  | _ => if st.may .lp then ((Ex.within w st.goes).1, (Ex.within w st.goes).2.must .rp)
    else if st.may .ite then Ex.ite w st.at_ st.goes else (Tr.zero, st.bad 230)
def Ex.un (wu wi : Option (St → Tr × St)) (st : St) : Tr × St :=
  if st.e ≠ 0 then (Tr.zero, st)
  else if st.may .not then (Ex.one 3 st.at_ 0 (Ex.within wu st.goes).1, (Ex.within wu st.goes).2)
  else if st.may .all then Ex.bound wu 10 st.at_ st.goes
  else if st.may .any then Ex.bound wu 11 st.at_ st.goes
  else Ex.prim wi st
structure Rd where
  iff : St → Tr × St
  imp : St → Tr × St
  un : St → Tr × St
/-- the readers where so many levels are left -/
def Ex.mk (wu wi wf : Option (St → Tr × St)) : Rd :=
  let un := Ex.un wu wf
  let imp := Ex.imp wi (Ex.chain .or 5 (Ex.chain .xor 6 (Ex.chain .and 4 un)))
  ⟨Ex.chain .iff 8 imp, imp, un⟩
def Ex.lev : Nat → Rd
  | 0 => Ex.mk none none none
  | n + 1 => Ex.mk (some (Ex.lev n).un) (some (Ex.lev n).imp) (some (Ex.lev n).iff)
/-- the plain parser: tree, place, error -/
def Ex.parse (l : List Nat) : Tr × Nat × Nat :=
  if l.length > 4000 then (Tr.zero, 0, 232) else
  let r := (Ex.lev 30).iff ⟨Lx.lex l 0, 0, 0⟩
  let st := if r.2.e = 0 ∧ r.2.now ≠ .eof then r.2.bad 230 else r.2
  if st.e = 0 then (r.1, 0, 0) else (Tr.zero, st.eat, st.e)
end Go.Proofs.Ytfgokhafiffbaaa

/-
  Formulas: within, one deeper.
-/
namespace Go.Proofs.Ytfgokhafiffbaaa
set_option linter.unusedVariables false
open Go.RowKit

/-- what a reader gives: a tree, and the state behind it -/
def Gives (N d : Nat) (s : ByteArray) (w : World) (r : Tr × St) (e : Ending) (w' : World) : Prop :=
  ∃ sl, e = .returned (Ev r.1 sl) ∧ SlF w' (Ge w.heap.size) sl r.1.kids ∧ PS w' N d s r.2 ∧ Gb N w w'
def Pz (f : FuncId) (d : Nat) (p : St → Tr × St) : Prop :=
  ∀ (N : Nat) (s : ByteArray) (st : St) (w : World), PS w N d s st → Calls Try.prog f #[.pointer (some ⟨N, 0, none⟩)] w (Gives N d s w (p st))

set_option maxHeartbeats 4000000 in
theorem within1_d (bp N d : Nat) (w : World) (hd : d < 100) (hb : w.cell? ⟨bp, 0, none⟩ = some (.pointer (some ⟨N, 0, none⟩))) (hc : w.cell? ⟨N, 3, none⟩ = some (.int .i64 ((d + 1 : Nat) : Int))) (hf : w.frozen? ⟨N, 3, none⟩ = false) :
    CallsD Try.prog 78 #[.pointer (some ⟨bp, 0, none⟩)] .returning w fun e u' w' => u' = .returning ∧ (e = .returned (.tuple #[]) ∧ w' = w.setCell ⟨N, 3, none⟩ (.int .i64 (d : Int))) := by
  have hk : wrap64 (((d + 1 : Nat) : Int) - 1) = (d : Int) := by rw [w64 _ (by omega)]; omega
  go_enter_d Try.func78, Try.ntmps78
  go_wp2_with fail
  go_end0
  exact ⟨rfl, rfl⟩
theorem PS.deep' {w : World} {N d : Nat} {s : ByteArray} {st : St} (h : PS w N d s st) (d' : Nat) {x : Int} (hx : x = (d' : Int)) : PS (w.setCell ⟨N, 3, none⟩ (.int .i64 x)) N d' s st := by subst hx; exact h.deep d'
theorem cells4 {w : World} {g : Nat} {t : TypeId} {a b c d : Value} (h : Blk w g t #[a, b, c, d]) : w.cell? ⟨g, 0, none⟩ = some a ∧ w.cell? ⟨g, 1, none⟩ = some b ∧ w.cell? ⟨g, 2, none⟩ = some c ∧ w.cell? ⟨g, 3, none⟩ = some d ∧
    w.frozen? ⟨g, 0, none⟩ = false ∧ w.frozen? ⟨g, 1, none⟩ = false ∧ w.frozen? ⟨g, 2, none⟩ = false ∧ w.frozen? ⟨g, 3, none⟩ = false :=
  ⟨h.cell 0, h.cell 1, h.cell 2, h.cell 3, h.frozen 0, h.frozen 1, h.frozen 2, h.frozen 3⟩
/-- four cells of a block of one's own written -/
theorem PS.st4 {w : World} {N d R : Nat} {s : ByteArray} {st : St} (h : PS w N d s st) (hne : N ≠ R) (a b c e : Value) : PS ((((w.setCell ⟨R, 0, none⟩ a).setCell ⟨R, 1, none⟩ b).setCell ⟨R, 2, none⟩ c).setCell ⟨R, 3, none⟩ e) N d s st :=
  (((h.far (p := ⟨R, 0, none⟩) hne a).far (p := ⟨R, 1, none⟩) hne b).far (p := ⟨R, 2, none⟩) hne c).far (p := ⟨R, 3, none⟩) hne e
theorem Gb.st4 {w w' : World} {N R : Nat} (h : Gb N w w') (hR : w.heap.size ≤ R) (a b c e : Value) : Gb N w ((((w'.setCell ⟨R, 0, none⟩ a).setCell ⟨R, 1, none⟩ b).setCell ⟨R, 2, none⟩ c).setCell ⟨R, 3, none⟩ e) :=
  (((h.set (p := ⟨R, 0, none⟩) (.inr hR) a).set (p := ⟨R, 1, none⟩) (.inr hR) b).set (p := ⟨R, 2, none⟩) (.inr hR) c).set (p := ⟨R, 3, none⟩) (.inr hR) e
theorem SlF.far {w : World} {B : Nat → Prop} {v : Value} {F : Fo} (hs : SlF w B v F) {p : Addr} (hR : ¬ B p.block) (a : Value) : SlF (w.setCell p a) B v F :=
  hs.kept fun g hg hl => Below.heap_setCell _ _ _ _ (fun e => hR (e ▸ hg))
theorem SlF.st4 {w : World} {B : Nat → Prop} {R : Nat} {v : Value} {F : Fo} (hs : SlF w B v F) (hR : ¬ B R) (a b c e : Value) : SlF ((((w.setCell ⟨R, 0, none⟩ a).setCell ⟨R, 1, none⟩ b).setCell ⟨R, 2, none⟩ c).setCell ⟨R, 3, none⟩ e) B v F :=
  (((hs.far (p := ⟨R, 0, none⟩) hR a).far (p := ⟨R, 1, none⟩) hR b).far (p := ⟨R, 2, none⟩) hR c).far (p := ⟨R, 3, none⟩) hR e
theorem Blk.st4 {w : World} {R g : Nat} {t : TypeId} {cs : Array Value} (h : Blk w g t cs) (hne : g ≠ R) (a b c e : Value) : Blk ((((w.setCell ⟨R, 0, none⟩ a).setCell ⟨R, 1, none⟩ b).setCell ⟨R, 2, none⟩ c).setCell ⟨R, 3, none⟩ e) g t cs :=
  (((h.far (p := ⟨R, 0, none⟩) hne a).far (p := ⟨R, 1, none⟩) hne b).far (p := ⟨R, 2, none⟩) hne c).far (p := ⟨R, 3, none⟩) hne e
theorem Blk.own4 {w : World} {R : Nat} {t : TypeId} {x y z u : Value} (h : Blk w R t #[x, y, z, u]) (a b c e : Value) : Blk ((((w.setCell ⟨R, 0, none⟩ a).setCell ⟨R, 1, none⟩ b).setCell ⟨R, 2, none⟩ c).setCell ⟨R, 3, none⟩ e) R t #[a, b, c, e] :=
  (((h.set_ 0 a).set_ 1 b).set_ 2 c).set_ 3 e
theorem size_st4 (w : World) (R : Nat) (a b c e : Value) : ((((w.setCell ⟨R, 0, none⟩ a).setCell ⟨R, 1, none⟩ b).setCell ⟨R, 2, none⟩ c).setCell ⟨R, 3, none⟩ e).heap.size = w.heap.size := by simp [World.setCell]
theorem size_set (w : World) (p : Addr) (a : Value) : (w.setCell p a).heap.size = w.heap.size := by simp [World.setCell]
theorem SlF.gbs {w w' : World} {N : Nat} {B : Nat → Prop} {v : Value} {F : Fo} (hs : SlF w B v F) (hB : ¬ B N) (h : Gb N w w') : SlF w' B v F :=
  hs.kept fun g hg hl => h.block g hl (fun e => hB ((Option.some.inj e) ▸ hg))
/-- the cells that hold the zero formula -/
def z4 : Array Value := #[.int .i64 0, .int .i64 0, .int .i64 0, .slice none 0 0]
theorem bad_ne (x : Nat) (hx : x ≠ 0) (st : St) : (st.bad x).e ≠ 0 := by
  unfold St.bad
  split
  · exact hx
  · assumption

set_option maxHeartbeats 4000000 in
theorem within_no (N d : Nat) (s : ByteArray) (st : St) (w : World) (f : Value) (h : PS w N d s st) (hd : d < 30) (he : ¬ st.e = 0) :
    Calls Try.prog 63 #[.pointer (some ⟨N, 0, none⟩), f] w (Gives N d s w (Tr.zero, st)) := by
  have hmf : ∀ (fn : Fn) (first cap : Array Value) (w : World), (Instr.makeFunc fn first cap).run Try.prog w = .ok (.func fn first cap) w := fun _ _ _ _ => rfl
  obtain ⟨c0, c1, c2, c3, c4, c5, f1, f2, f3, f4, f5⟩ := pb_cells h.blk
  have q : ¬ (st.e : Int) = 0 := by omega
  have q2 : ¬ ((d : Int) + 1) > 30 := by omega
  have hk : wrap64 ((d : Int) + 1) = (d : Int) + 1 := by rw [w64 _ (by omega)]
  have hlt := h.lt
  have HP := Bx.mk (((h.deep' (d + 1) (x := (d : Int) + 1) (by omega)).alloc (Obj.cells #[.pointer (some ⟨N, 0, none⟩)] 58)).alloc (Obj.cells #[.int .i64 0, .int .i64 0, .int .i64 0, .slice none 0 0] 36))
  have HG := Bx.mk ((((Gb.refl N w).set (p := ⟨N, 3, none⟩) (.inl rfl) (.int .i64 ((d : Int) + 1))).alloc (Obj.cells #[.pointer (some ⟨N, 0, none⟩)] 58)).alloc (Obj.cells #[.int .i64 0, .int .i64 0, .int .i64 0, .slice none 0 0] 36))
  clear h he c0 c1 c2 c5 f1 f2 f4 f5
  go_enter_defers Try.func63, Try.ntmps63
  go_wp2_with fail
  refine leaves_cons (f := 78) (args := #[.pointer (some ⟨w.heap.size, 0, none⟩)]) (by simp) (by simp [go_sem]) ?_
  refine (within1_d w.heap.size N d _ (by omega) ?_ (HP.out.blk.cell 3) (HP.out.blk.frozen 3)).mono ?_
  · go_simp
  rintro e u' w'' ⟨rfl, rfl, rfl⟩
  refine ⟨Ev Tr.zero (.slice none 0 0), ?_, .slice none 0 0, rfl, SlF.nil _ _, HP.out.deep d, HG.out.set (p := ⟨N, 3, none⟩) (.inl rfl) _⟩
  simp [results, Try.results63, go_sem]
  rfl

set_option maxHeartbeats 4000000 in
theorem within_deep (N d : Nat) (s : ByteArray) (st : St) (w : World) (f : Value) (h : PS w N d s st) (hd : d = 30) :
    Calls Try.prog 63 #[.pointer (some ⟨N, 0, none⟩), f] w (Gives N d s w (Tr.zero, st.bad 231)) := by
  have hmf : ∀ (fn : Fn) (first cap : Array Value) (w : World), (Instr.makeFunc fn first cap).run Try.prog w = .ok (.func fn first cap) w := fun _ _ _ _ => rfl
  obtain ⟨c0, c1, c2, c3, c4, c5, f1, f2, f3, f4, f5⟩ := pb_cells h.blk
  have q2 : ((d : Int) + 1) > 30 := by omega
  have hk : wrap64 ((d : Int) + 1) = (d : Int) + 1 := by rw [w64 _ (by omega)]
  have hlt := h.lt
  have HP := Bx.mk (((h.deep' (d + 1) (x := (d : Int) + 1) (by omega)).alloc (Obj.cells #[.pointer (some ⟨N, 0, none⟩)] 58)).alloc (Obj.cells #[.int .i64 0, .int .i64 0, .int .i64 0, .slice none 0 0] 36))
  have HG := Bx.mk ((((Gb.refl N w).set (p := ⟨N, 3, none⟩) (.inl rfl) (.int .i64 ((d : Int) + 1))).alloc (Obj.cells #[.pointer (some ⟨N, 0, none⟩)] 58)).alloc (Obj.cells #[.int .i64 0, .int .i64 0, .int .i64 0, .slice none 0 0] 36))
  have HD := Bx.mk hd
  have hne := bad_ne 231 (by omega) st
  have q' : ¬ ((st.bad 231).e : Int) = 0 := by omega
  clear h c0 c1 c2 c4 c5 f1 f2 f4 f5 hd hne
  go_enter_defers Try.func63, Try.ntmps63
  go_wp2_with fail
  refine (bad_st N (d + 1) 231 s st _ HP.out).mono ?_
  rintro e w1 ⟨rfl, hP1, hG1⟩
  have hb := hG1.blk ((Blk.new (w.setCell ⟨N, 3, none⟩ (.int .i64 ((d : Int) + 1))) 58 #[.pointer (some ⟨N, 0, none⟩)]).alloc _) (by simp [World.setCell]; omega)
  have hr := hG1.blk (Blk.new ((w.setCell ⟨N, 3, none⟩ (.int .i64 ((d : Int) + 1))).alloc (Obj.cells #[.pointer (some ⟨N, 0, none⟩)] 58)) 36 #[.int .i64 0, .int .i64 0, .int .i64 0, .slice none 0 0]) (by simp [World.setCell]; omega)
  have hz1 : (w.setCell ⟨N, 3, none⟩ (.int .i64 ((d : Int) + 1))).heap.size = w.heap.size := by simp [World.setCell]
  rw [hz1] at hb
  rw [alloc_size, hz1] at hr
  have b0 := hb.cell 0
  simp only [List.getElem?_toArray, List.getElem?_cons_zero] at b0
  obtain ⟨r0, r1, r2, r3, g0, g1, g2, g3⟩ := cells4 hr
  obtain ⟨c0, c1, c2, c3, c4, c5, f1, f2, f3, f4, f5⟩ := pb_cells hP1.blk
  have HP1 := Bx.mk hP1
  have HG1 := Bx.mk hG1
  have HR := Bx.mk hr
  clear hP1 hG1 hb hr c0 c1 c2 c5 f1 f2 f4 f5
  go_wp2_with fail
  refine leaves_cons (f := 78) (args := #[.pointer (some ⟨w.heap.size, 0, none⟩)]) (by simp) (by simp [go_sem]) ?_
  have hP2 := HP1.out.st4 (R := w.heap.size + 1) (by omega) (.int .i64 0) (.int .i64 0) (.int .i64 0) (.slice none 0 0)
  refine (within1_d w.heap.size N d _ (by have := HD.out; omega) ?_ (hP2.blk.cell 3) (hP2.blk.frozen 3)).mono ?_
  · go_simp
  rintro e u' w'' ⟨rfl, rfl, rfl⟩
  have hR2 := (HR.out.own4 (.int .i64 0) (.int .i64 0) (.int .i64 0) (.slice none 0 0)).far (p := ⟨N, 3, none⟩) (by show w.heap.size + 1 ≠ N; omega) (.int .i64 (d : Int))
  obtain ⟨r0, r1, r2, r3, _, _, _, _⟩ := cells4 hR2
  refine ⟨Ev Tr.zero (.slice none 0 0), ?_, .slice none 0 0, rfl, SlF.nil _ _, hP2.deep d, ((HG.out.trans HG1.out).st4 (by omega) _ _ _ _).set (p := ⟨N, 3, none⟩) (.inl rfl) _⟩
  simp [results, Try.results63, go_sem, r0, r1, r2, r3]
  rfl

set_option maxHeartbeats 4000000 in
theorem within_yes (N d : Nat) (s : ByteArray) (st : St) (w : World) (f : FuncId) (p : St → Tr × St) (hcf : ∀ args w, (callFunc f args).run Try.prog w = .ok (.enter f args) w) (hp : Pz f (d + 1) p) (h : PS w N d s st) (hd : d < 30) (he : st.e = 0) :
    Calls Try.prog 63 #[.pointer (some ⟨N, 0, none⟩), .func (.func f) #[] #[]] w (Gives N d s w (p st)) := by
  have hmf : ∀ (fn : Fn) (first cap : Array Value) (w : World), (Instr.makeFunc fn first cap).run Try.prog w = .ok (.func fn first cap) w := fun _ _ _ _ => rfl
  obtain ⟨c0, c1, c2, c3, c4, c5, f1, f2, f3, f4, f5⟩ := pb_cells h.blk
  have q : (st.e : Int) = 0 := by omega
  have q2 : ¬ ((d : Int) + 1) > 30 := by omega
  have hk : wrap64 ((d : Int) + 1) = (d : Int) + 1 := by rw [w64 _ (by omega)]
  have hlt := h.lt
  have HP := Bx.mk (((h.deep' (d + 1) (x := (d : Int) + 1) (by omega)).alloc (Obj.cells #[.pointer (some ⟨N, 0, none⟩)] 58)).alloc (Obj.cells #[.int .i64 0, .int .i64 0, .int .i64 0, .slice none 0 0] 36))
  have HG := Bx.mk ((((Gb.refl N w).set (p := ⟨N, 3, none⟩) (.inl rfl) (.int .i64 ((d : Int) + 1))).alloc (Obj.cells #[.pointer (some ⟨N, 0, none⟩)] 58)).alloc (Obj.cells #[.int .i64 0, .int .i64 0, .int .i64 0, .slice none 0 0] 36))
  clear h c0 c1 c2 c5 f1 f2 f4 f5
  go_enter_defers Try.func63, Try.ntmps63
  go_wp2_with fail
  refine (hp N s st _ HP.out).mono ?_
  rintro e w1 ⟨sl, rfl, hS1, hP1, hG1⟩
  have hb := hG1.blk ((Blk.new (w.setCell ⟨N, 3, none⟩ (.int .i64 ((d : Int) + 1))) 58 #[.pointer (some ⟨N, 0, none⟩)]).alloc _) (by simp [World.setCell]; omega)
  have hr := hG1.blk (Blk.new ((w.setCell ⟨N, 3, none⟩ (.int .i64 ((d : Int) + 1))).alloc (Obj.cells #[.pointer (some ⟨N, 0, none⟩)] 58)) 36 #[.int .i64 0, .int .i64 0, .int .i64 0, .slice none 0 0]) (by simp [World.setCell]; omega)
  have hz1 : (w.setCell ⟨N, 3, none⟩ (.int .i64 ((d : Int) + 1))).heap.size = w.heap.size := by simp [World.setCell]
  rw [hz1] at hb
  rw [alloc_size, hz1] at hr
  have b0 := hb.cell 0
  simp only [List.getElem?_toArray, List.getElem?_cons_zero] at b0
  obtain ⟨r0, r1, r2, r3, g0, g1, g2, g3⟩ := cells4 hr
  obtain ⟨c0, c1, c2, c3, c4, c5, f1, f2, f3, f4, f5⟩ := pb_cells hP1.blk
  obtain ⟨pp, cap, rfl⟩ := hS1.is
  simp only [alloc_size, size_set] at hS1
  have HP1 := Bx.mk hP1
  have HG1 := Bx.mk hG1
  have HR := Bx.mk hr
  have HS1 := Bx.mk hS1
  clear hP1 hG1 hb hr hS1 c0 c1 c2 c5 f1 f2 f4 f5
  unfold Ev
  go_wp2_with fail
  refine leaves_cons (f := 78) (args := #[.pointer (some ⟨w.heap.size, 0, none⟩)]) (by simp) (by simp [go_sem]) ?_
  have hP2 := HP1.out.st4 (R := w.heap.size + 1) (by omega) (.int .i64 (p st).1.k) (.int .i64 (p st).1.a) (.int .i64 (p st).1.v) (.slice pp (p st).1.kids.len cap)
  refine (within1_d w.heap.size N d _ (by omega) ?_ (hP2.blk.cell 3) (hP2.blk.frozen 3)).mono ?_
  · go_simp
  rintro e u' w'' ⟨rfl, rfl, rfl⟩
  have hR2 := (HR.out.own4 (.int .i64 (p st).1.k) (.int .i64 (p st).1.a) (.int .i64 (p st).1.v) (.slice pp (p st).1.kids.len cap)).far (p := ⟨N, 3, none⟩) (by show w.heap.size + 1 ≠ N; omega) (.int .i64 (d : Int))
  obtain ⟨r0, r1, r2, r3, _, _, _, _⟩ := cells4 hR2
  have hS2 := ((HS1.out.st4 (R := w.heap.size + 1) (by unfold Ge; omega) (.int .i64 (p st).1.k) (.int .i64 (p st).1.a) (.int .i64 (p st).1.v) (.slice pp (p st).1.kids.len cap)).far (p := ⟨N, 3, none⟩) (by unfold Ge; show ¬ _ ≤ N; omega) (.int .i64 (d : Int))).mono (B' := Ge w.heap.size) (by unfold Ge; intro g hg; omega)
  refine ⟨Ev (p st).1 (.slice pp (p st).1.kids.len cap), ?_, .slice pp (p st).1.kids.len cap, rfl, hS2, hP2.deep d, ((HG.out.trans HG1.out).st4 (by omega) _ _ _ _).set (p := ⟨N, 3, none⟩) (.inl rfl) _⟩
  simp [results, Try.results63, go_sem, r0, r1, r2, r3]
  rfl

/-- what stands for the reader one deeper -/
def Rz (f : FuncId) (d : Nat) (r : Option (St → Tr × St)) : Prop :=
  match r with
  | none => d = 30
  | some p => d < 30 ∧ Pz f (d + 1) p
theorem within_any (N d : Nat) (s : ByteArray) (st : St) (w : World) (f : FuncId) (r : Option (St → Tr × St)) (hcf : ∀ args w, (callFunc f args).run Try.prog w = .ok (.enter f args) w) (hr : Rz f d r) (h : PS w N d s st) :
    Calls Try.prog 63 #[.pointer (some ⟨N, 0, none⟩), .func (.func f) #[] #[]] w (Gives N d s w (Ex.within r st)) := by
  cases r with
  | none => exact within_deep N d s st w _ h hr
  | some p =>
    by_cases he : st.e = 0
    · have e : Ex.within (some p) st = p st := by unfold Ex.within; exact if_pos he
      rw [e]
      exact within_yes N d s st w f p hcf hr.2 h hr.1 he
    · have e : Ex.within (some p) st = (Tr.zero, st) := by unfold Ex.within; exact if_neg he
      rw [e]
      exact within_no N d s st w _ h hr.1 he
end Go.Proofs.Ytfgokhafiffbaaa

/-
  A region whose order is open, walked in ONE order: what yields the same in every world that keeps a condition is taken as soon as it may come up,
  the other operations wait for one another. Behind the last operation, for which all others are waited, the condition is not asked (it may write what the others read).
-/
namespace Go.Proofs.Ytfgokhafiffbaaa
set_option linter.unusedVariables false
open Go
section
variable {P : Program} {ops : Array Oper} {Q : Exit → Act → World → Prop} {md : Region.Mode} {S : World → Prop} {x : Nat}

/-- whatever is picked; S holds behind each operation but x -/
def AnyE (P : Program) (md : Region.Mode) (ops : Array Oper) (Q : Exit → Act → World → Prop) (S : World → Prop) (x : Nat) : Nat → Array Bool → Act → World → Prop
  | 0, listed, a, w => Region.ready md ops listed = [] ∧ Q .normal a w
  | n + 1, listed, a, w => (Region.ready md ops listed = [] → Q .normal a w) ∧
      ∀ i ∈ Region.ready md ops listed, wpOp P ops Q i (fun a' w' => (i ≠ x → S w') ∧ AnyE P md ops Q S x n (listed.setIfInBounds i true) a' w') a w

theorem AnyE.any : ∀ (n : Nat) (listed : Array Bool) (a : Act) (w : World), AnyE P md ops Q S x n listed a w → wpAny P md ops Q n listed a w
  | 0, _, _, _, h => h
  | n + 1, _, _, _, h => ⟨h.1, fun i hi => wpOp_mono (fun a' w' h' => AnyE.any n _ a' w' h'.2) (h.2 i hi)⟩

theorem not_listed {listed : Array Bool} {i : Nat} (h : listed.getD i true = false) : listed.getD i false = false := by
  rcases Nat.lt_or_ge i listed.size with h' | h'
  · simp [h'] at h ⊢; exact h
  · simp [Array.getElem?_eq_none h'] at h

/-- x waits for every other operation -/
def lastB (md : Region.Mode) (ops : Array Oper) (x : Nat) : Bool :=
  match ops[x]? with
  | some o => (List.range ops.size).all fun i => i == x || o.after.any fun e => Region.binds md e && e.on == i
  | none => true

theorem lastB_spec (h : lastB md ops x = true) {ox : Oper} (hx : ops[x]? = some ox) {i : Nat} (hi : i < ops.size) (hne : i ≠ x) : ∃ e ∈ ox.after, Region.binds md e = true ∧ e.on = i := by
  unfold lastB at h
  rw [hx] at h
  have := List.all_eq_true.1 h i (List.mem_range.2 hi)
  simp only [Bool.or_eq_true, beq_iff_eq] at this
  rcases this with this | this
  · exact absurd this hne
  · obtain ⟨e, he, hb⟩ := Array.any_eq_true'.1 this
    simp only [Bool.and_eq_true, beq_iff_eq] at hb
    exact ⟨e, he, hb.1, hb.2⟩

/-- what yields in every world of S may be taken first -/
theorem AnyE.first {i : Nat} {oi : Oper} {v : Value} (hi : ops[i]? = some oi) (hs : Region.noSelect ops = true) (hlast : lastB md ops x = true) (hQ : ∀ c a w, Q (.panic c) (a.put oi.dst v) w → Q (.panic c) a w) :
    ∀ (n : Nat) (listed : Array Bool) (a : Act) (w : World),
      (∀ j oj, ops[j]? = some oj → j ≠ i → listed.getD j true = false → (∀ e ∈ oj.after, Region.binds md e = true → e.on ≠ i) → oi.apart ops oj = true) →
      i ∈ Region.ready md ops listed → YieldsIf P ops S oi v a → S w →
      AnyE P md ops Q S x n (listed.setIfInBounds i true) (a.put oi.dst v) w → AnyE P md ops Q S x (n + 1) listed a w := by
  have hsel := Region.noSelect_spec hs
  intro n
  induction n with
  | zero =>
    intro listed a w _ hr hy hS H
    refine ⟨fun h => (by rw [h] at hr; cases hr), fun j hj => ?_⟩
    by_cases hji : j = i
    · subst hji; exact hy.wpOp hi hS ⟨fun _ => hS, H⟩
    · have h1 := ready_mono hj hji
      rw [H.1] at h1
      cases h1
  | succ n ih =>
    intro listed a w hfree hr hy hS H
    refine ⟨fun h => (by rw [h] at hr; cases hr), fun j hj => ?_⟩
    by_cases hji : j = i
    · subst hji; exact hy.wpOp hi hS ⟨fun _ => hS, H⟩
    · obtain ⟨hjun, oj, hoj, hall⟩ := mem_ready.1 hj
      have hnot : ∀ e ∈ oj.after, Region.binds md e = true → e.on ≠ i := fun e he hb heq => by
        have h1 := hall e he hb
        rw [heq, not_listed (mem_ready.1 hr).1] at h1
        cases h1
      have hjx : j ≠ x := fun hx => by
        subst hx
        obtain ⟨e, he, hb, hon⟩ := lastB_spec hlast hoj (Array.getElem?_eq_some_iff.1 hi).1 (Ne.symm hji)
        exact hnot e he hb hon
      have hri : i ∈ Region.ready md ops (listed.setIfInBounds j true) := ready_mono hr (Ne.symm hji)
      have h2 := wpOp_putIf hoj (hfree j oj hoj hji hjun hnot) (fun cs b => hsel i oi cs b hi) (fun cs b => hsel j oj cs b hoj) hQ hy (H.2 j (ready_mono hj hji))
      refine wpOp_mono (fun a' w' h3 => ?_) h2
      obtain ⟨hy', hS', hrest⟩ := h3
      rw [Array.setIfInBounds_comm _ _ (Ne.symm hji)] at hrest
      refine ⟨hS', ih _ a' w' (fun k ok hk hki hun hno => ?_) hri hy' (hS' hjx) hrest⟩
      refine hfree k ok hk hki ?_ hno
      by_cases hjk : j = k
      · subst hjk; exact hjun
      · rw [getD_set_ne true hjk] at hun; exact hun

/-- an order to walk in: (operation's number, does it yield?) -/
def okL (md : Region.Mode) (ops : Array Oper) : List (Nat × Bool) → Array Bool → Bool
  | [], listed => (Region.ready md ops listed).isEmpty
  | (i, true) :: r, listed => (Region.ready md ops listed).contains i && Region.free md ops listed i && okL md ops r (listed.setIfInBounds i true)
  | (i, false) :: r, listed => (Region.ready md ops listed == [i]) && okL md ops r (listed.setIfInBounds i true)

/-- the walk in that order -/
def wpG (P : Program) (ops : Array Oper) (Q : Exit → Act → World → Prop) (S : World → Prop) (x : Nat) : List (Nat × Bool) → Act → World → Prop
  | [], a, w => Q .normal a w
  | (i, true) :: r, a, w => ∃ o v, ops[i]? = some o ∧ YieldsIf P ops S o v a ∧ wpG P ops Q S x r (a.put o.dst v) w
  | (i, false) :: r, a, w => wpOp P ops Q i (fun a' w' => (r ≠ [] ∨ i ≠ x → S w') ∧ wpG P ops Q S x r a' w') a w

theorem AnyE.of_order (hs : Region.noSelect ops = true) (hlast : lastB md ops x = true) (hQ : ∀ c a d v w, Q (.panic c) (Act.put a d v) w → Q (.panic c) a w) :
    ∀ (L : List (Nat × Bool)) (listed : Array Bool) (a : Act) (w : World), okL md ops L listed = true →
      (L ≠ [] → S w) → wpG P ops Q S x L a w → AnyE P md ops Q S x L.length listed a w := by
  intro L
  induction L with
  | nil =>
    intro listed a w hok _ h
    exact ⟨by simpa [okL] using hok, h⟩
  | cons p L ih =>
    intro listed a w hok hS h
    obtain ⟨i, b⟩ := p
    cases b with
    | true =>
      simp only [okL, Bool.and_eq_true, List.contains_iff_mem] at hok
      obtain ⟨⟨hr, hf⟩, hok'⟩ := hok
      obtain ⟨o, v, ho, hy, hrest⟩ := h
      exact AnyE.first ho hs hlast (fun c a w => hQ c a _ _ w) L.length listed a w (Region.free_spec ho hf) hr hy (hS (by simp)) (ih _ _ w hok' (fun _ => hS (by simp)) hrest)
    | false =>
      simp only [okL, Bool.and_eq_true, beq_iff_eq] at hok
      obtain ⟨hr, hok'⟩ := hok
      refine ⟨fun h0 => (by rw [hr] at h0; cases h0), fun j hj => ?_⟩
      rw [hr] at hj
      obtain rfl : j = i := by simpa using hj
      exact wpOp_mono (fun a' w' h' => ⟨fun hx => h'.1 (.inr hx), ih _ a' w' hok' (fun hL => h'.1 (.inl hL)) h'.2⟩) h

def orderOk (ops : Array Oper) (L : List (Nat × Bool)) (x : Nat) : Bool :=
  Region.noSelect ops && lastB .any ops x && okL .any ops L (Array.replicate ops.size false) && (L.length == ops.size)

/-- THE REGION, walked in the order L. -/
theorem region_order {id : Nat} {a : Act} {w : World} (L : List (Nat × Bool)) (x : Nat) (S : World → Prop) (hm : P.follows .mixedOrders = true)
    (hok : orderOk ops L x = true) (hQ : ∀ c a d v w, Q (.panic c) (Act.put a d v) w → Q (.panic c) a w)
    (hS : S w.drew) (h : wpG P ops Q S x L a w.drew) : (Code.region id ops true).wp P Q a w := by
  simp only [orderOk, Bool.and_eq_true, beq_iff_eq] at hok
  obtain ⟨⟨⟨h1, h2⟩, h3⟩, h4⟩ := hok
  refine wp_region_any hm ?_
  have key := AnyE.any _ _ _ _ (AnyE.of_order (S := S) (x := x) h1 h2 hQ L _ _ _ h3 (fun _ => hS) h)
  rw [h4] at key
  exact key

variable {a : Act} {w : World} {r : List (Nat × Bool)} {i : Nat} {o : Oper} {v : Value}
theorem wpG_nil (h : Q .normal a w) : wpG P ops Q S x [] a w := h
theorem wpG_take (ho : ops[i]? = some o) (hw : Region.wanted o (yielded ops a.tmps) = true) (hv : ∀ w, S w → (execOp a.eval o).run P w = .ok (.value v) w)
    (h : wpG P ops Q S x r (a.put o.dst v) w) : wpG P ops Q S x ((i, true) :: r) a w := ⟨o, v, ho, .inl ⟨hw, hv⟩, h⟩
theorem wpG_skip (ho : ops[i]? = some o) (hw : Region.wanted o (yielded ops a.tmps) = false)
    (h : wpG P ops Q S x r (a.put o.dst undef) w) : wpG P ops Q S x ((i, true) :: r) a w := ⟨o, undef, ho, .inr ⟨hw, rfl⟩, h⟩
/-- an operation that may change the world: S behind it -/
theorem wpG_op (ho : ops[i]? = some o) (hw : Region.wanted o (yielded ops a.tmps) = true)
    (h : ∀ K : Act → World → Prop, (∀ a w, S w → (S w → wpG P ops Q S x r a w) → K a w) → o.wp P a w K Q) : wpG P ops Q S x ((i, false) :: r) a w := by
  show wpOp P ops Q i _ a w
  unfold wpOp
  simp only [ho, hw, if_true]
  exact .inl (h _ fun a w h1 h2 => ⟨fun _ => h1, h2 h1⟩)
/-- the last one, for which all others are waited: S is not asked -/
theorem wpG_last (ho : ops[i]? = some o) (hw : Region.wanted o (yielded ops a.tmps) = true)
    (h : ∀ K : Act → World → Prop, (∀ a w, Q .normal a w → K a w) → o.wp P a w K Q) : wpG P ops Q S i [(i, false)] a w := by
  show wpOp P ops Q i _ a w
  unfold wpOp
  simp only [ho, hw, if_true]
  exact .inl (h _ fun a w h1 => ⟨fun h => (by rcases h with h | h <;> exact absurd rfl h), h1⟩)
/-- an operation whose guard says no -/
theorem wpG_noop (ho : ops[i]? = some o) (hw : Region.wanted o (yielded ops a.tmps) = false) (h1 : S w)
    (h : wpG P ops Q S x r (a.put o.dst undef) w) : wpG P ops Q S x ((i, false) :: r) a w := by
  show wpOp P ops Q i _ a w
  unfold wpOp
  simp only [ho, hw, Bool.false_eq_true, if_false]
  exact ⟨fun _ => h1, h⟩
end
end Go.Proofs.Ytfgokhafiffbaaa

/-
  Regions whose order is open, walked in every order: the quiet operations first, then each order of the rest.
-/
namespace Go.Proofs.Ytfgokhafiffbaaa
set_option linter.unusedVariables false
open Go.RowKit
section
variable {P : Program} {ops : Array Oper} {Q : Exit → Act → World → Prop} {S : World → Prop} {x n i : Nat} {listed : Array Bool} {a : Act} {w : World} {o : Oper}
theorem any_take (v : Value) (ho : ops[i]? = some o) (hw : Region.wanted o (yielded ops a.tmps) = true) (hs : Region.noSelect ops = true) (hlast : lastB .any ops x = true) (hfree : Region.free .any ops listed i = true)
    (hr : (Region.ready .any ops listed).contains i = true) (hQ : ∀ c a d v w, Q (.panic c) (Act.put a d v) w → Q (.panic c) a w) (hv : ∀ w, S w → (execOp a.eval o).run P w = .ok (.value v) w) (hS : S w)
    (h : AnyE P .any ops Q S x n (listed.setIfInBounds i true) (a.put o.dst v) w) : AnyE P .any ops Q S x (n + 1) listed a w :=
  AnyE.first ho hs hlast (fun c a w => hQ c a _ _ w) n listed a w (Region.free_spec ho hfree) (List.contains_iff_mem.1 hr) (.inl ⟨hw, hv⟩) hS h
theorem any_branch (L : List Nat) (hr : (Region.ready .any ops listed == L) = true) (hne : L.isEmpty = false) (h : ∀ i ∈ L, wpOp P ops Q i (fun a' w' => (i ≠ x → S w') ∧ AnyE P .any ops Q S x n (listed.setIfInBounds i true) a' w') a w) :
    AnyE P .any ops Q S x (n + 1) listed a w := by
  have e : Region.ready .any ops listed = L := by simpa using hr
  subst e
  exact ⟨fun h0 => by rw [h0] at hne; simp at hne, h⟩
theorem any_op (ho : ops[i]? = some o) (hw : Region.wanted o (yielded ops a.tmps) = true)
    (h : ∀ K : Act → World → Prop, (∀ a' w', (i ≠ x → S w') → AnyE P .any ops Q S x n (listed.setIfInBounds i true) a' w' → K a' w') → o.wp P a w K Q) : wpOp P ops Q i (fun a' w' => (i ≠ x → S w') ∧ AnyE P .any ops Q S x n (listed.setIfInBounds i true) a' w') a w := by
  unfold wpOp
  simp only [ho, hw, if_true]
  exact .inl (h _ fun a w h1 h2 => ⟨h1, h2⟩)
theorem any_end (hr : (Region.ready .any ops listed).isEmpty = true) (h : Q .normal a w) : AnyE P .any ops Q S x 0 listed a w := ⟨by simpa using hr, h⟩
theorem region_any {id : Nat} (x : Nat) (S : World → Prop) (hm : P.follows .mixedOrders = true) (h : AnyE P .any ops Q S x ops.size (Array.replicate ops.size false) a w.drew) : (Code.region id ops true).wp P Q a w :=
  wp_region_any hm (AnyE.any _ _ _ _ h)
end
end Go.Proofs.Ytfgokhafiffbaaa

/-
  Formulas: chain.
-/
namespace Go.Proofs.Ytfgokhafiffbaaa
set_option linter.unusedVariables false
open Go.RowKit

/-- how many signs are left in the parser at block N -/
noncomputable def tleft (N : Nat) (s : ByteArray) (w : World) : Nat := Classical.epsilon fun n => ∃ d st, PS w N d s st ∧ st.ts.length = n
theorem tleft_eq {w : World} {N d : Nat} {s : ByteArray} {st : St} (h : PS w N d s st) : tleft N s w = st.ts.length := by
  have hex : ∃ n, ∃ d st, PS w N d s st ∧ st.ts.length = n := ⟨_, d, st, h, rfl⟩
  obtain ⟨d', st', h', hn⟩ := Classical.epsilon_spec hex
  show Classical.epsilon _ = _
  rw [← hn]
  obtain ⟨c0, c1, c2, _⟩ := pb_cells h.blk
  obtain ⟨e0, e1, e2, _⟩ := pb_cells h'.blk
  rw [c1] at e1
  rw [c2] at e2
  have hnow : st.now = st'.now := Tok.txt_inj (by
    have := congrArg bl (Value.string.inj (Option.some.inj e1))
    rwa [Tok.bl_str, Tok.bl_str] at this)
  have hat : st.at_ = st'.at_ := by
    have := (Value.int.inj (Option.some.inj e2)).2
    omega
  obtain ⟨r, hr, hx⟩ := h.toks
  obtain ⟨r', hr', hx'⟩ := h'.toks
  rw [hr, hr', List.length_cons, List.length_cons]
  by_cases g1 : st.now = .eof
  · rw [(hx'.2 (.inl (hnow ▸ g1))), (hx.2 (.inl g1))]
  by_cases g2 : st.now = .bad
  · rw [(hx'.2 (.inr (hnow ▸ g2))), (hx.2 (.inr g2))]
  rw [hx'.1 (hnow ▸ g1) (hnow ▸ g2), hx.1 g1 g2, hnow, hat]
/-- a sign that stands is taken off -/
theorem St.goes_len {st : St} {t : Tok} (h : st.may t = true) (h1 : t ≠ .eof) : st.goes.ts.length + 1 = st.ts.length := by
  unfold St.may St.now at h
  unfold St.goes
  cases hts : st.ts with
  | nil => rw [hts] at h; simp at h; exact absurd h.2.symm h1
  | cons x r => simp
theorem Blk.alloc_at (w : World) (t : TypeId) (cs : Array Value) (o : Obj) : Blk ((w.alloc (.cells cs t)).alloc o) w.heap.size t cs := (Blk.new w t cs).alloc o

theorem exec_loadE {a : Act} {u : World} {o : Oper} {x : Operand} {p : Nat} {t : TypeId} {v0 v1 v2 v3 : Value} (hop : o.op = .load 36 x) (hx : a.eval x = .pointer (some ⟨p, 0, none⟩)) (hB : Blk u p t #[v0, v1, v2, v3]) :
    (execOp a.eval o).run Try.prog u = .ok (.value (.agg #[v0, v1, v2, v3])) u := by
  obtain ⟨a0, a1, a2, a3, b0, b1, b2, b3⟩ := cells4 hB
  unfold execOp
  simp only [hop, hx]
  go_simp
theorem Ex.chainF_no {n : Nat} {t : Tok} {k : Int} {p : St → Tr × St} {x : Tr} {st : St} (h : st.may t = false) : Ex.chainF n t k p x st = (x, st) := by
  cases n with
  | zero => rfl
  | succ n => rw [Ex.chainF, if_neg (by rw [h]; simp)]
theorem Ex.chainF_fuel {t : Tok} {k : Int} {p : St → Tr × St} (ht : t ≠ .eof) (hmono : ∀ st, (p st).2.ts.length ≤ st.ts.length) : ∀ (n m : Nat) (x : Tr) (st : St), st.ts.length ≤ n → st.ts.length ≤ m → Ex.chainF n t k p x st = Ex.chainF m t k p x st := by
  intro n
  induction n with
  | zero =>
    intro m x st h1 h2
    cases hm : st.may t with
    | false => rw [Ex.chainF_no hm, Ex.chainF_no hm]
    | true => have := St.goes_len hm ht; omega
  | succ n ih =>
    intro m x st h1 h2
    cases hm : st.may t with
    | false => rw [Ex.chainF_no hm, Ex.chainF_no hm]
    | true =>
      have hg := St.goes_len hm ht
      have hp := hmono st.goes
      cases m with
      | zero => omega
      | succ m =>
        rw [Ex.chainF, Ex.chainF, if_pos hm, if_pos hm]
        exact ih m _ _ (by omega) (by omega)
theorem Ex.chainF_yes {t : Tok} {k : Int} {p : St → Tr × St} (ht : t ≠ .eof) (hmono : ∀ st, (p st).2.ts.length ≤ st.ts.length) {x : Tr} {st : St} (h : st.may t = true) :
    Ex.chainF st.ts.length t k p x st = Ex.chainF (p st.goes).2.ts.length t k p (Ex.two k st.at_ x (p st.goes).1) (p st.goes).2 := by
  have hg := St.goes_len h ht
  have hp := hmono st.goes
  rw [← hg, Ex.chainF, if_pos h]
  exact Ex.chainF_fuel ht hmono _ _ _ _ (by omega) (Nat.le_refl _)
/-- two formulas in one new block -/
theorem SlF.pair {u : World} {B : Nat → Prop} {x y : Tr} {sx sy : Value} (t : TypeId) (hx : SlF u B sx x.kids) (hy : SlF u B sy y.kids) (hB : B u.heap.size) :
    SlF (u.alloc (.cells #[.int .i64 x.k, .int .i64 x.a, .int .i64 x.v, sx, .int .i64 y.k, .int .i64 y.a, .int .i64 y.v, sy] t)) B (.slice (some ⟨u.heap.size, 0, none⟩) 2 2) (x.on (y.on .nil)) := by
  have hb := Blk.new u t #[.int .i64 x.k, .int .i64 x.a, .int .i64 x.v, sx, .int .i64 y.k, .int .i64 y.a, .int .i64 y.v, sy]
  have := SlF.mk (w := u.alloc (.cells #[.int .i64 x.k, .int .i64 x.a, .int .i64 x.v, sx, .int .i64 y.k, .int .i64 y.a, .int .i64 y.v, sy] t)) (B := B) (b := u.heap.size) (o := 0) (cap := 2) (F := x.on (y.on .nil)) (Nat.le_refl _)
    (RdF.on hB (hb.cell 0) (hb.cell 1) (hb.cell 2) (hb.cell 3) (hx.alloc _) (RdF.on hB (hb.cell 4) (hb.cell 5) (hb.cell 6) (hb.cell 7) (hy.alloc _) True.intro))
  exact this
theorem SlF.single {u : World} {B : Nat → Prop} {x : Tr} {sx : Value} (t : TypeId) (hx : SlF u B sx x.kids) (hB : B u.heap.size) :
    SlF (u.alloc (.cells #[.int .i64 x.k, .int .i64 x.a, .int .i64 x.v, sx] t)) B (.slice (some ⟨u.heap.size, 0, none⟩) 1 1) (x.on .nil) := by
  have hb := Blk.new u t #[.int .i64 x.k, .int .i64 x.a, .int .i64 x.v, sx]
  have := SlF.mk (w := u.alloc (.cells #[.int .i64 x.k, .int .i64 x.a, .int .i64 x.v, sx] t)) (B := B) (b := u.heap.size) (o := 0) (cap := 1) (F := x.on .nil) (Nat.le_refl _)
    (RdF.on hB (hb.cell 0) (hb.cell 1) (hb.cell 2) (hb.cell 3) (hx.alloc _) True.intro)
  exact this

/-- where the chain's loop stands -/
structure CH (w wr : World) (N d : Nat) (s : ByteArray) (b9 : Nat) (t : Tok) (k : Int) (p : St → Tr × St) (R : Tr × St) (x : Tr) (st : St) (pp : Option Addr) (cap : Nat) : Prop where
  ps : PS wr N d s st
  gb : Gb N w wr
  res : Blk wr w.heap.size 36 #[.int .i64 0, .int .i64 0, .int .i64 0, .slice none 0 0]
  own : Blk wr b9 36 #[.int .i64 x.k, .int .i64 x.a, .int .i64 x.v, .slice pp x.kids.len cap]
  sl : SlF wr (fun g => w.heap.size < g ∧ g ≠ b9) (.slice pp x.kids.len cap) x.kids
  lt : w.heap.size < b9
  rest : Ex.chainF st.ts.length t k p x st = R

set_option maxHeartbeats 8000000 in
theorem chain_any (N d : Nat) (s : ByteArray) (st : St) (w : World) (f : FuncId) (t : Tok) (kk : Int) (txt : ByteArray) (p : St → Tr × St) (hcf : ∀ args w, (callFunc f args).run Try.prog w = .ok (.enter f args) w)
    (hp : Pz f d p) (hmono : ∀ st, (p st).2.ts.length ≤ st.ts.length) (htx : txt = t.str) (ht1 : t ≠ .eof) (ht2 : t ≠ .bad) (h : PS w N d s st) :
    Calls Try.prog 43 #[.pointer (some ⟨N, 0, none⟩), .string txt, .int .i64 kk, .func (.func f) #[] #[]] w (Gives N d s w (Ex.chain t kk p st)) := by
  have hlt := h.lt
  subst htx
  have HP0 := Bx.mk (h.alloc (Obj.cells #[.int .i64 0, .int .i64 0, .int .i64 0, .slice none 0 0] 36))
  clear h
  generalize hR : Ex.chain t kk p st = R
  have HR := Bx.mk hR
  clear hR
  go_enter Try.func43, Try.ntmps43
  go_wp2_with fail
  refine (hp N s st _ HP0.out).mono ?_
  rintro e w1 ⟨sl, rfl, hS1, hP1, hG1⟩
  obtain ⟨pp, cap, rfl⟩ := hS1.is
  have hr := hG1.blk (Blk.new w 36 #[.int .i64 0, .int .i64 0, .int .i64 0, .slice none 0 0]) (by omega)
  have hz := hG1.size
  rw [alloc_size] at hz
  rw [alloc_size] at hS1
  have HP1 := Bx.mk hP1
  have HG1 := Bx.mk (((Gb.refl N w).alloc _).trans hG1)
  have HR1 := Bx.mk hr
  have HS1 := Bx.mk hS1
  clear hP1 hG1 hr hS1
  unfold Ev
  go_wp2_with fail
  have hb9 : w.heap.size < w1.heap.size := by omega
  generalize hq9 : w1.heap.size = b9
  have HQ9 := Bx.mk hq9
  rw [hq9] at hb9
  clear hq9
  go_loopw [10] (fun _ wr => ∃ x st pp cap, CH w wr N d s b9 t kk p R x st pp cap) (fun _ wr => tleft N s wr)
  case atStart =>
    refine ⟨(p st).1, (p st).2, pp, cap, ⟨HP1.out.alloc _, HG1.out.alloc _, HR1.out.alloc _, ?_, ?_, hb9, HR.out⟩⟩
    · have := HQ9.out
      subst this
      exact Blk.new _ _ _
    · exact (HS1.out.mono' fun g hg h1 => by
        unfold Ge at h1
        have := HQ9.out
        exact ⟨by omega, by omega⟩).alloc _
  case round =>
    obtain ⟨x, sx, px, cx, HC⟩ := hrel
    have HC := Bx.mk HC
    have hlt9 := HC.out.ps.lt
    obtain ⟨c0, c1, c2, c3, c4, c5, f1, f2, f3, f4, f5⟩ := pb_cells HC.out.ps.blk
    have hM := may_st N d t t.str s sx wr HC.out.ps rfl ht1 ht2
    clear c0 c1 c3 c4 c5 f1 f2 f3 f4 f5
    have HMo := Bx.mk hmono
    clear hmono
    cases hmay : sx.may t with
    | false =>
      rw [hmay, if_neg (by simp)] at hM
      have HM := Bx.mk hM
      clear hM
      go_wp2_with fail
      refine HM.out.mono ?_
      rintro e w2 ⟨rfl, hP2, hG2⟩
      have hr := hG2.blk HC.out.res (by omega)
      have ho := hG2.blk HC.out.own (by omega)
      obtain ⟨r0, r1, r2, r3, g0, g1, g2, g3⟩ := cells4 hr
      obtain ⟨o0, o1, o2, o3, _, _, _, _⟩ := cells4 ho
      have HP2 := Bx.mk hP2
      have HG2 := Bx.mk hG2
      have HR2 := Bx.mk hr
      clear hP2 hG2 hr ho
      go_wp2_with fail
      have hE := Blk.own4 (HR2.out) (.int .i64 x.k) (.int .i64 x.a) (.int .i64 x.v) (.slice px x.kids.len cx)
      obtain ⟨r0, r1, r2, r3, _, _, _, _⟩ := cells4 hE
      have hRx : (x, sx) = R := by rw [← HC.out.rest, Ex.chainF_no hmay]
      refine bodyPost_ret (v := Ev x (.slice px x.kids.len cx)) (by simp [results, Try.results43, go_sem, r0, r1, r2, r3]; rfl) rfl ?_
      rw [← hRx]
      exact ⟨.slice px x.kids.len cx, rfl, ((HC.out.sl.gbs (fun h => by omega) HG2.out).st4 (R := w.heap.size) (fun h => by omega) _ _ _ _).mono (fun g hg => by unfold Ge; omega), HP2.out.st4 (by omega) _ _ _ _, (HC.out.gb.trans HG2.out).st4 (Nat.le_refl _) _ _ _ _⟩
    | true =>
      rw [hmay, if_pos rfl] at hM
      have HM := Bx.mk hM
      have HY := Bx.mk hmay
      clear hM hmay
      go_wp2_with fail
      refine HM.out.mono ?_
      rintro e w2 ⟨rfl, hP2, hG2⟩
      have ho := hG2.blk HC.out.own (by omega)
      obtain ⟨o0, o1, o2, o3, _, _, _, _⟩ := cells4 ho
      have HP2 := Bx.mk hP2
      have HG2 := Bx.mk hG2
      clear hP2 hG2
      go_wp2_with fail
      refine region_any 8 (fun u => Blk u b9 36 #[.int .i64 x.k, .int .i64 x.a, .int .i64 x.v, .slice px x.kids.len cx]) (by kernel_rfl) ?_
      have hS0 := ho.drew
      have hP3 := HP2.out.drew
      have hG3 := HG2.out.drew
      generalize w2.drew = u0 at hS0 hP3 hG3 ⊢
      clear o0 o1 o2 o3 ho
      refine any_take (i := 0) (.int .i64 kk) rfl rfl (by kernel_rfl) (by kernel_rfl) (by kernel_rfl) (by kernel_rfl) (fun _ _ d _ _ h => by cases d <;> exact h) (fun u hS => rfl) hS0 ?_
      (try simp only [Act.put]); (try simp only [List.getElem_toArray]); (try simp only [List.getElem_cons_succ]); (try simp only [List.getElem_cons_zero]); (try simp only [List.setIfInBounds_toArray]); (try simp only [List.set_cons_succ]); (try simp only [List.set_cons_zero])
      refine any_take (i := 1) (.int .i64 (sx.at_ : Int)) rfl rfl (by kernel_rfl) (by kernel_rfl) (by kernel_rfl) (by kernel_rfl) (fun _ _ d _ _ h => by cases d <;> exact h) (fun u hS => rfl) hS0 ?_
      (try simp only [Act.put]); (try simp only [List.getElem_toArray]); (try simp only [List.getElem_cons_succ]); (try simp only [List.getElem_cons_zero]); (try simp only [List.setIfInBounds_toArray]); (try simp only [List.set_cons_succ]); (try simp only [List.set_cons_zero])
      refine any_take (i := 2) (.agg #[.int .i64 x.k, .int .i64 x.a, .int .i64 x.v, .slice px x.kids.len cx]) rfl rfl (by kernel_rfl) (by kernel_rfl) (by kernel_rfl) (by kernel_rfl) (fun _ _ d _ _ h => by cases d <;> exact h) (fun u hS => exec_loadE rfl rfl hS) hS0 ?_
      (try simp only [Act.put]); (try simp only [List.getElem_toArray]); (try simp only [List.getElem_cons_succ]); (try simp only [List.getElem_cons_zero]); (try simp only [List.setIfInBounds_toArray]); (try simp only [List.set_cons_succ]); (try simp only [List.set_cons_zero])
      refine any_take (i := 3) (.func (.func f) #[] #[]) rfl rfl (by kernel_rfl) (by kernel_rfl) (by kernel_rfl) (by kernel_rfl) (fun _ _ d _ _ h => by cases d <;> exact h) (fun u hS => rfl) hS0 ?_
      (try simp only [Act.put]); (try simp only [List.getElem_toArray]); (try simp only [List.getElem_cons_succ]); (try simp only [List.getElem_cons_zero]); (try simp only [List.setIfInBounds_toArray]); (try simp only [List.set_cons_succ]); (try simp only [List.set_cons_zero])
      refine any_take (i := 4) (.pointer (some ⟨N, 0, none⟩)) rfl rfl (by kernel_rfl) (by kernel_rfl) (by kernel_rfl) (by kernel_rfl) (fun _ _ d _ _ h => by cases d <;> exact h) (fun u hS => rfl) hS0 ?_
      (try simp only [Act.put]); (try simp only [List.getElem_toArray]); (try simp only [List.getElem_cons_succ]); (try simp only [List.getElem_cons_zero]); (try simp only [List.setIfInBounds_toArray]); (try simp only [List.set_cons_succ]); (try simp only [List.set_cons_zero])
      refine any_branch [5] (by kernel_rfl) rfl fun ix hix => ?_
      simp only [List.mem_cons, List.not_mem_nil, or_false] at hix
      subst hix
      refine any_op rfl rfl fun K hK => ?_
      go_simp
      refine (hp N s sx.goes _ hP3).mono ?_
      rintro e u1 ⟨sy, rfl, hSy, hPy, hGy⟩
      obtain ⟨py, cy, rfl⟩ := hSy.is
      have hS1 := hGy.blk hS0 (by omega)
      refine hK _ _ (fun _ => hS1) ?_
      (try simp only [Act.put]); (try simp only [List.getElem_toArray]); (try simp only [List.getElem_cons_succ]); (try simp only [List.getElem_cons_zero]); (try simp only [List.setIfInBounds_toArray]); (try simp only [List.set_cons_succ]); (try simp only [List.set_cons_zero])
      clear hK
      refine any_branch [6] (by kernel_rfl) rfl fun ix hix => ?_
      simp only [List.mem_cons, List.not_mem_nil, or_false] at hix
      subst hix
      refine any_op rfl rfl fun K hK => ?_
      unfold Ev
      go_simp
      have hTx : SlF u1 (fun g => w.heap.size < g ∧ g ≠ b9) (.slice px x.kids.len cx) x.kids := (HC.out.sl.gbs (fun h => by omega) (hG3.trans hGy))
      have hTy : SlF u1 (fun g => w.heap.size < g ∧ g ≠ b9) (.slice py (p sx.goes).1.kids.len cy) (p sx.goes).1.kids := hSy.mono (fun g hg => by unfold Ge at hg; have := hS0.lt; have := HC.out.lt; omega)
      have hz1 : b9 < u1.heap.size := hS1.lt
      have hTn := SlF.pair 36 hTx hTy (by omega)
      have hPn := hPy.alloc (Obj.cells #[.int .i64 x.k, .int .i64 x.a, .int .i64 x.v, .slice px x.kids.len cx, .int .i64 (p sx.goes).1.k, .int .i64 (p sx.goes).1.a, .int .i64 (p sx.goes).1.v, .slice py (p sx.goes).1.kids.len cy] 36)
      have hGn := (HC.out.gb.trans (hG3.trans hGy)).alloc (Obj.cells #[.int .i64 x.k, .int .i64 x.a, .int .i64 x.v, .slice px x.kids.len cx, .int .i64 (p sx.goes).1.k, .int .i64 (p sx.goes).1.a, .int .i64 (p sx.goes).1.v, .slice py (p sx.goes).1.kids.len cy] 36)
      have hSn := hS1.alloc (Obj.cells #[.int .i64 x.k, .int .i64 x.a, .int .i64 x.v, .slice px x.kids.len cx, .int .i64 (p sx.goes).1.k, .int .i64 (p sx.goes).1.a, .int .i64 (p sx.goes).1.v, .slice py (p sx.goes).1.kids.len cy] 36)
      have hRn := ((hG3.trans hGy).blk HC.out.res (by omega)).alloc (Obj.cells #[.int .i64 x.k, .int .i64 x.a, .int .i64 x.v, .slice px x.kids.len cx, .int .i64 (p sx.goes).1.k, .int .i64 (p sx.goes).1.a, .int .i64 (p sx.goes).1.v, .slice py (p sx.goes).1.kids.len cy] 36)
      generalize hpn : u1.heap.size = bn at hTn hz1 ⊢
      generalize u1.alloc (Obj.cells #[.int .i64 x.k, .int .i64 x.a, .int .i64 x.v, .slice px x.kids.len cx, .int .i64 (p sx.goes).1.k, .int .i64 (p sx.goes).1.a, .int .i64 (p sx.goes).1.v, .slice py (p sx.goes).1.kids.len cy] 36) = u2 at hTn hPn hGn hSn hRn ⊢
      refine hK _ _ (fun _ => hSn) ?_
      (try simp only [Act.put]); (try simp only [List.getElem_toArray]); (try simp only [List.getElem_cons_succ]); (try simp only [List.getElem_cons_zero]); (try simp only [List.setIfInBounds_toArray]); (try simp only [List.set_cons_succ]); (try simp only [List.set_cons_zero])
      clear hK hTx hTy hS0 hS1 hP3 hG3 hSy hPy hGy
      refine any_branch [7] (by kernel_rfl) rfl fun ix hix => ?_
      simp only [List.mem_cons, List.not_mem_nil, or_false] at hix
      subst hix
      refine any_op rfl rfl fun K hK => ?_
      go_simp
      refine hK _ _ (fun _ => hSn) ?_
      (try simp only [Act.put]); (try simp only [List.getElem_toArray]); (try simp only [List.getElem_cons_succ]); (try simp only [List.getElem_cons_zero]); (try simp only [List.setIfInBounds_toArray]); (try simp only [List.set_cons_succ]); (try simp only [List.set_cons_zero])
      clear hK
      obtain ⟨o0, o1, o2, o3, g0, g1, g2, g3⟩ := cells4 hSn
      refine any_branch [8] (by kernel_rfl) rfl fun ix hix => ?_
      simp only [List.mem_cons, List.not_mem_nil, or_false] at hix
      subst hix
      refine any_op rfl rfl fun K hK => ?_
      go_simp
      refine hK _ _ (fun h => absurd rfl h) ?_
      (try simp only [Act.put]); (try simp only [List.getElem_toArray]); (try simp only [List.getElem_cons_succ]); (try simp only [List.getElem_cons_zero]); (try simp only [List.setIfInBounds_toArray]); (try simp only [List.set_cons_succ]); (try simp only [List.set_cons_zero])
      clear hK
      refine any_end (by kernel_rfl) ?_
      clear o0 o1 o2 o3 g0 g1 g2 g3
      have HPn := Bx.mk hPn
      have HGn := Bx.mk hGn
      have HSn := Bx.mk hSn
      have HRn := Bx.mk hRn
      have HTn := Bx.mk hTn
      clear hPn hGn hSn hRn hTn
      go_wp2_with fail
      have hPf := HPn.out.st4 (R := b9) (by have := HC.out.lt; omega) (.int .i64 kk) (.int .i64 (sx.at_ : Int)) (.int .i64 0) (.slice (some ⟨bn, 0, none⟩) 2 2)
      refine ⟨⟨Ex.two kk sx.at_ x (p sx.goes).1, (p sx.goes).2, some ⟨bn, 0, none⟩, 2, hPf, HGn.out.st4 (by have := HC.out.lt; omega) _ _ _ _, HRn.out.st4 (by have := HC.out.lt; omega) _ _ _ _, HSn.out.own4 _ _ _ _, HTn.out.st4 (fun h => h.2 rfl) _ _ _ _, HC.out.lt, ?_⟩, ?_⟩
      · rw [← HC.out.rest, Ex.chainF_yes ht1 HMo.out HY.out]
      · rw [tleft_eq hPf, tleft_eq HC.out.ps]
        have e1 := St.goes_len HY.out ht1
        have e2 := HMo.out sx.goes
        omega
end Go.Proofs.Ytfgokhafiffbaaa
