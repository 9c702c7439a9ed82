/-
  Texts on which the laws of this seat rest, part 1 of 11.
-/
import Derived.WalkKit
import Derived.WalkSpells
import Derived.WalkLawsBesides
import Derived.Lib.Hide
import Derived.StillTailTactics
import Derived.Below
import Derived.Laws.OwnMore
import Derived.Deep.Draws
import Derived.Laws.Rows
import Derived.RegionTactic
import Derived.Deep.QuietTactic
import Derived.BigQuiet
import Derived.Laws.LoneSync
import Derived.Maps.AppendAt
import Derived.Test.YthbifeoohphnpaaProg
import Derived.Laws.EntriesVeiled
import Derived.OrdersHeld
import Derived.KernelRfl
import Derived.Tactics
import Derived.Deep.RegionHeld
import Derived.Deep.LoopGhost
/-
  Small helps for walks: a fact boxed away from the walk's simp.
-/
namespace Go.Proofs.Ythbifeoohphnpaa
set_option linter.unusedVariables false
/-- a region whose order is open, all but its tail reading or calling quietly: the world behind the draw spelled as the walk spells it -/
theorem region_tail {P : Program} {id : Nat} {Q : Exit → Act → World → Prop} {a : Act} {w : World} {l : List Oper} (n : Nat) (hm : P.follows .mixedOrders = true) (hB : Region.lexTailB .any l.toArray n = true)
    (h : wpStill P l.toArray w.drew (fun a' => wpList P l.toArray Q (l.drop n) a' w.drew) (l.take n) a) : (Code.region id l.toArray true).wp P Q a w :=
  wp_region_still_tail n hm hB h
@[simp] theorem drew_size (w : World) : w.drew.heap.size = w.heap.size := rfl
theorem alloc_size (w : World) (o : Obj) : (w.alloc o).heap.size = w.heap.size + 1 := by simp
/-- a fact that no tactic looks into -/
structure Bx (p : Prop) : Prop where
  out : p
/-- a block that is known whole -/
structure Blk (w : World) (g : Nat) (t : TypeId) (cs : Array Value) : Prop where
  eq : w.heap[g]? = some (.cells cs t (0, 0))
section
open Go.RowKit
variable {w w' : World} {g : Nat} {t : TypeId} {cs : Array Value}
theorem Blk.lt (h : Blk w g t cs) : g < w.heap.size := by
  rcases Nat.lt_or_ge g w.heap.size with hlt | hge
  · exact hlt
  · have := h.eq; rw [Array.getElem?_eq_none hge] at this; cases this
theorem Blk.cell (h : Blk w g t cs) (i : Nat) : w.cell? ⟨g, i, none⟩ = cs[i]? := cell_of_row w g i cs t (0, 0) h.eq
theorem Blk.frozen (h : Blk w g t cs) (i : Nat) : w.frozen? ⟨g, i, none⟩ = false := by
  simp [World.frozen?, h.eq]
theorem Blk.new (w : World) (t : TypeId) (cs : Array Value) : Blk (w.alloc (.cells cs t)) w.heap.size t cs := ⟨heap_alloc_new w _⟩
theorem Blk.drew (h : Blk w g t cs) : Blk w.drew g t cs := ⟨h.eq⟩
theorem Blk.drewN (h : Blk w g t cs) (n : Nat) : Blk (w.drewN n) g t cs := ⟨h.eq⟩
theorem Blk.alloc (h : Blk w g t cs) (o : Obj) : Blk (w.alloc o) g t cs := ⟨(Below.heap_alloc w o g h.lt).trans h.eq⟩
theorem Blk.set_ (h : Blk w g t cs) (i : Nat) (u : Value) : Blk (w.setCell ⟨g, i, none⟩ u) g t (cs.setIfInBounds i u) :=
  ⟨by simp [World.setCell, Array.getElem?_modify, h.eq]⟩
theorem Blk.far (h : Blk w g t cs) {p : Addr} (hp : g ≠ p.block) (u : Value) : Blk (w.setCell p u) g t cs := ⟨(Below.heap_setCell w p u g hp).trans h.eq⟩
theorem Blk.below {B : Nat} (h : Blk w g t cs) (hb : Below B w w') (hg : g < B) : Blk w' g t cs := ⟨(hb.block g hg).trans h.eq⟩
end

/-- what a cell holds, whatever it is -/
def cval (w : World) (a : Addr) : Value := (w.cell? a).getD undef
theorem cval_ok {w : World} {a : Addr} (h : (w.cell? a).isSome = true) : w.cell? a = some (cval w a) := by
  unfold cval
  cases e : w.cell? a with
  | none => rw [e] at h; cases h
  | some v => rfl
attribute [irreducible] cval

/-- a cell that was written holds what was written, if it is a cell at all -/
theorem set_self {w : World} {b o : Nat} {v x : Value} (h : (w.setCell ⟨b, o, none⟩ v).cell? ⟨b, o, none⟩ = some x) : (w.setCell ⟨b, o, none⟩ v).cell? ⟨b, o, none⟩ = some v := by
  revert h
  simp only [World.cell?, World.setCell, Array.getElem?_modify, if_true, Option.isSome_none, Bool.false_eq_true, if_false]
  cases w.heap[b]? with
  | none => simp
  | some ob =>
    cases ob <;> simp [Array.getElem?_setIfInBounds]
    intro h _; exact h
theorem set_far {w : World} {b o b' o' : Nat} {v : Value} (h : b ≠ b' ∨ o ≠ o') : (w.setCell ⟨b, o, none⟩ v).cell? ⟨b', o', none⟩ = w.cell? ⟨b', o', none⟩ := by
  simp only [World.cell?, World.setCell, Array.getElem?_modify, Option.isSome_none, Bool.false_eq_true, if_false]
  by_cases e : b = b'
  · subst e
    rw [if_pos rfl]
    cases w.heap[b]? with
    | none => simp
    | some ob =>
      have ho : o ≠ o' := by rcases h with h | h; exact absurd rfl h; exact h
      cases ob <;> simp [ho]
  · rw [if_neg e]
/-- four cells written one behind the other -/
theorem set4 {w : World} {r : Nat} {v0 v1 v2 v3 x0 x1 x2 x3 : Value}
    (h0 : ((((w.setCell ⟨r, 0, none⟩ v0).setCell ⟨r, 1, none⟩ v1).setCell ⟨r, 2, none⟩ v2).setCell ⟨r, 3, none⟩ v3).cell? ⟨r, 0, none⟩ = some x0)
    (h1 : ((((w.setCell ⟨r, 0, none⟩ v0).setCell ⟨r, 1, none⟩ v1).setCell ⟨r, 2, none⟩ v2).setCell ⟨r, 3, none⟩ v3).cell? ⟨r, 1, none⟩ = some x1)
    (h2 : ((((w.setCell ⟨r, 0, none⟩ v0).setCell ⟨r, 1, none⟩ v1).setCell ⟨r, 2, none⟩ v2).setCell ⟨r, 3, none⟩ v3).cell? ⟨r, 2, none⟩ = some x2)
    (h3 : ((((w.setCell ⟨r, 0, none⟩ v0).setCell ⟨r, 1, none⟩ v1).setCell ⟨r, 2, none⟩ v2).setCell ⟨r, 3, none⟩ v3).cell? ⟨r, 3, none⟩ = some x3) :
    let W := ((((w.setCell ⟨r, 0, none⟩ v0).setCell ⟨r, 1, none⟩ v1).setCell ⟨r, 2, none⟩ v2).setCell ⟨r, 3, none⟩ v3)
    W.cell? ⟨r, 0, none⟩ = some v0 ∧ W.cell? ⟨r, 1, none⟩ = some v1 ∧ W.cell? ⟨r, 2, none⟩ = some v2 ∧ W.cell? ⟨r, 3, none⟩ = some v3 := by
  intro W
  refine ⟨?_, ?_, ?_, set_self h3⟩
  · rw [set_far (.inr (by omega)), set_far (.inr (by omega)), set_far (.inr (by omega))] at h0 ⊢; exact set_self h0
  · rw [set_far (.inr (by omega)), set_far (.inr (by omega))] at h1 ⊢; exact set_self h1
  · rw [set_far (.inr (by omega))] at h2 ⊢; exact set_self h2

theorem wf_u8 {a : Int} (h : (Lit.int .u8 a).wf = true) : 0 ≤ a ∧ a < 256 := by
  simp [Lit.wf, IntKind.min, IntKind.max, IntKind.signed, IntKind.bits] at h; omega
theorem wf_u16 {a : Int} (h : (Lit.int .u16 a).wf = true) : 0 ≤ a ∧ a < 65536 := by
  simp [Lit.wf, IntKind.min, IntKind.max, IntKind.signed, IntKind.bits] at h; omega
theorem wf_u32 {a : Int} (h : (Lit.int .u32 a).wf = true) : 0 ≤ a ∧ a < 4294967296 := by
  simp [Lit.wf, IntKind.min, IntKind.max, IntKind.signed, IntKind.bits] at h; omega
theorem wf_u64 {a : Int} (h : (Lit.int .u64 a).wf = true) : 0 ≤ a ∧ a < 18446744073709551616 := by
  simp [Lit.wf, IntKind.min, IntKind.max, IntKind.signed, IntKind.bits] at h; omega
theorem wf_i64 {a : Int} (h : (Lit.int .i64 a).wf = true) : -9223372036854775808 ≤ a ∧ a < 9223372036854775808 := by
  simp [Lit.wf, IntKind.min, IntKind.max, IntKind.signed, IntKind.bits] at h; omega
end Go.Proofs.Ythbifeoohphnpaa

/-
  Worlds that are as they were but for some blocks; new blocks.
-/
namespace Go.Proofs.Ythbifeoohphnpaa
set_option linter.unusedVariables false
open Go.RowKit
theorem wi64 {a : Int} (h0 : -1000000000000 ≤ a) (h1 : a ≤ 1000000000000) : IntKind.i64.wrap a = a := by rw [IntKind.wrap_i64]; omega
/-- all blocks that were there are as they were, but for those of S -/
structure Fr (S : List Nat) (w w' : World) : Prop where
  os : w'.os = w.os
  tape : w'.tape = w.tape
  output : w'.output = w.output
  size : w.heap.size ≤ w'.heap.size
  block : ∀ k, k < w.heap.size → k ∉ S → w'.heap[k]? = w.heap[k]?
section
variable {S S' : List Nat} {w w' w'' a : World} {g n : Nat} {t : TypeId} {cs : Array Value}
theorem Fr.refl (S : List Nat) (w : World) : Fr S w w := ⟨rfl, rfl, rfl, Nat.le_refl _, fun _ _ _ => rfl⟩
theorem Fr.drew (h : Fr S a w) : Fr S a w.drew := ⟨h.os, h.tape, h.output, h.size, h.block⟩
theorem Fr.drewN (h : Fr S a w) (n : Nat) : Fr S a (w.drewN n) := ⟨h.os, h.tape, h.output, h.size, h.block⟩
/-- two steps: what the second one turns is of S, or new -/
theorem Fr.trans (h : Fr S w w') (k : Fr S' w' w'') (hs : ∀ b, b ∈ S' → b < w.heap.size → b ∈ S) : Fr S w w'' :=
  ⟨k.os.trans h.os, k.tape.trans h.tape, k.output.trans h.output, Nat.le_trans h.size k.size, fun i hi hn => (k.block i (Nat.lt_of_lt_of_le hi h.size) (fun e => hn (hs i e hi))).trans (h.block i hi hn)⟩
theorem Fr.mono (h : Fr S w w') (hs : ∀ b, b ∈ S → b < w.heap.size → b ∈ S') : Fr S' w w' := ⟨h.os, h.tape, h.output, h.size, fun i hi hn => h.block i hi (fun e => hn (hs i e hi))⟩
theorem Fr.alloc (h : Fr S a w) (o : Obj) : Fr S a (w.alloc o) :=
  h.trans (S' := []) ⟨rfl, rfl, rfl, by simp, fun k hk _ => Below.heap_alloc _ _ _ hk⟩ (by simp)
theorem Fr.setCell (h : Fr S a w) {p : Addr} (hp : p.block < a.heap.size → p.block ∈ S) (u : Value) : Fr S a (w.setCell p u) :=
  h.trans (S' := [p.block]) ⟨rfl, rfl, rfl, by simp [World.setCell], fun k hk hn => Below.heap_setCell _ _ _ _ (by simpa using hn)⟩ (fun b hb hl => by obtain rfl := List.mem_singleton.1 hb; exact hp hl)
theorem Fr.of_below {B : Nat} (h : Below B w w') (hB : w.heap.size ≤ B) : Fr S w w' := ⟨h.os, h.tape, h.output, h.size, fun k hk _ => h.block k (by omega)⟩
theorem Fr.below (h : Fr S w w') {B : Nat} (hB : B ≤ w.heap.size) (hs : ∀ b, b ∈ S → B ≤ b) : Below B w w' :=
  ⟨h.os, h.tape, h.output, h.size, fun k hk => h.block k (by omega) (fun e => by have := hs k e; omega)⟩
theorem Fr.grown {row : Option Nat} (h : Fr S a w) (hg : w.grownBy w' row) (hr : ∀ k, row = some k → k < a.heap.size → k ∈ S) : Fr S a w' :=
  h.trans (S' := row.toList) ⟨hg.os, hg.tape, hg.output, hg.size, fun k hk hn => hg.block k hk (fun e => hn (by rw [← e]; simp))⟩ (fun b hb hl => hr b (by cases row <;> simp at hb; rw [hb]) hl)
theorem Fr.step {B : Nat} (h : Fr S a w) (hb : Below B w w') (hB : a.heap.size ≤ B) : Fr S a w' :=
  ⟨hb.os.trans h.os, hb.tape.trans h.tape, hb.output.trans h.output, Nat.le_trans h.size hb.size, fun k hk hn => (hb.block k (by omega)).trans (h.block k hk hn)⟩
theorem Blk.fr (h : Blk w g t cs) (hf : Fr S w w') (hg : g ∉ S) : Blk w' g t cs := ⟨(hf.block g h.lt hg).trans h.eq⟩
theorem Blk.cellEq (h : Blk w g t cs) {i : Nat} {v : Value} (hv : cs[i]? = some v) : w.cell? ⟨g, i, none⟩ = some v := (h.cell i).trans hv
theorem Blk.set_same (h : Blk w g t cs) (i : Nat) (u : Value) {cs' : Array Value} (e : cs.setIfInBounds i u = cs') : Blk (w.setCell ⟨g, i, none⟩ u) g t cs' := e ▸ h.set_ i u
end
section
variable {w : World} {g : Nat} {t : TypeId} {a0 a1 a2 a3 a4 a5 a6 a7 a8 : Value}
theorem cells3 (h : Blk w g t #[a0, a1, a2]) : w.cell? ⟨g, 0, none⟩ = some a0 ∧ w.cell? ⟨g, 1, none⟩ = some a1 ∧ w.cell? ⟨g, 2, none⟩ = some a2 := ⟨h.cell 0, h.cell 1, h.cell 2⟩
theorem cells8 (h : Blk w g t #[a0, a1, a2, a3, a4, a5, a6, a7]) : w.cell? ⟨g, 0, none⟩ = some a0 ∧ w.cell? ⟨g, 1, none⟩ = some a1 ∧ w.cell? ⟨g, 2, none⟩ = some a2 ∧ w.cell? ⟨g, 3, none⟩ = some a3 ∧ w.cell? ⟨g, 4, none⟩ = some a4 ∧ w.cell? ⟨g, 5, none⟩ = some a5 ∧ w.cell? ⟨g, 6, none⟩ = some a6 ∧ w.cell? ⟨g, 7, none⟩ = some a7 :=
  ⟨h.cell 0, h.cell 1, h.cell 2, h.cell 3, h.cell 4, h.cell 5, h.cell 6, h.cell 7⟩
theorem cells9 (h : Blk w g t #[a0, a1, a2, a3, a4, a5, a6, a7, a8]) : w.cell? ⟨g, 0, none⟩ = some a0 ∧ w.cell? ⟨g, 1, none⟩ = some a1 ∧ w.cell? ⟨g, 2, none⟩ = some a2 ∧ w.cell? ⟨g, 3, none⟩ = some a3 ∧ w.cell? ⟨g, 4, none⟩ = some a4 ∧ w.cell? ⟨g, 5, none⟩ = some a5 ∧ w.cell? ⟨g, 6, none⟩ = some a6 ∧ w.cell? ⟨g, 7, none⟩ = some a7 ∧ w.cell? ⟨g, 8, none⟩ = some a8 :=
  ⟨h.cell 0, h.cell 1, h.cell 2, h.cell 3, h.cell 4, h.cell 5, h.cell 6, h.cell 7, h.cell 8⟩
end
end Go.Proofs.Ythbifeoohphnpaa

/-
  Cells of package mem: load, compare and swap, store.
-/
namespace Go.Proofs.Ythbifeoohphnpaa
set_option linter.unusedVariables false
open Go.RowKit
/-- a memory: its head in block m, its cells in block c -/
structure MemAt (w : World) (m c : Nat) (xs : List Nat) : Prop where
  hd : ∃ a b : Int, Blk w m 135 #[.slice (some ⟨c, 0, none⟩) xs.length xs.length, .int .i64 a, .int .i64 b]
  row : Blk w c 181 (xs.map fun (x : Nat) => Value.int .u64 (x : Int)).toArray
  ne : m ≠ c
theorem atomic_add_any (b o : Nat) (x : Int) (w : World) (hc : w.cell? ⟨b, o, none⟩ = some (.int .i64 x)) (hz : w.frozen? ⟨b, o, none⟩ = false) :
    Calls Try.prog 107 #[.pointer (some ⟨b, o, none⟩), .int .i64 1] w fun e w' => ∃ y : Int, e = .returned (.int .i64 y) ∧ w' = w.setCell ⟨b, o, none⟩ (.int .i64 y) := by
  have hadd := run_call_add (P := Try.prog) Try.func113 (by kernel_rfl) (by kernel_rfl) (by kernel_rfl) .i64 (by kernel_rfl) (y := 1) (s := wrap64 (x + 1)) hc hz (by simp [go_sem, wrap64, IntKind.wrap_i64])
  go_enter Try.func107, Try.ntmps107
  go_wp2_with fail
  go_ret
  exact ⟨_, rfl, rfl⟩
theorem mem_at_any (m c n i : Nat) (x b : Int) (w : World) (hB : Blk w m 135 #[.slice (some ⟨c, 0, none⟩) n n, .int .i64 x, .int .i64 b]) (hi : i < n) (hmc : m ≠ c) :
    Calls Try.prog 104 #[.pointer (some ⟨m, 0, none⟩), .int .i64 (i : Int)] w fun e w' => ∃ y : Int, e = .returned (.pointer (some ⟨c, i, none⟩)) ∧ w' = w.setCell ⟨m, 1, none⟩ (.int .i64 y) := by
  obtain ⟨c0, c1, c2⟩ := cells3 hB
  have f1 := hB.frozen 1
  have q : (i : Int) < (n : Int) := by omega
  have q0 : ¬ (i : Int) < 0 := by omega
  have q1 : 0 ≤ (i : Int) := by omega
  go_enter Try.func104, Try.ntmps104
  go_wp2_with fail
  refine (atomic_add_any m 1 x _ c1 f1).mono ?_
  rintro e w1 ⟨y, rfl, rfl⟩
  go_wp2_with fail
  go_ret
  exact ⟨_, rfl, rfl⟩
theorem atomic_load_any (b o : Nat) (x : Int) (w : World) (hc : w.cell? ⟨b, o, none⟩ = some (.int .u64 x)) :
    Calls Try.prog 105 #[.pointer (some ⟨b, o, none⟩)] w fun e w' => e = .returned (.int .u64 x) ∧ w' = w := by
  have hl := run_call_load (P := Try.prog) Try.func111 (by kernel_rfl) (by kernel_rfl) (by kernel_rfl) .u64 (by kernel_rfl) hc
  go_enter Try.func105, Try.ntmps105
  go_wp2_with fail
  go_ret
  exact ⟨rfl, rfl⟩
theorem atomic_cas_hit (b o : Nat) (x y : Int) (w : World) (hc : w.cell? ⟨b, o, none⟩ = some (.int .u64 x)) (hz : w.frozen? ⟨b, o, none⟩ = false) :
    Calls Try.prog 106 #[.pointer (some ⟨b, o, none⟩), .int .u64 x, .int .u64 y] w fun e w' => e = .returned (.bool true) ∧ w' = w.setCell ⟨b, o, none⟩ (.int .u64 y) := by
  have hl := run_call_cas_hit (P := Try.prog) Try.func112 (by kernel_rfl) (by kernel_rfl) (by kernel_rfl) .u64 (by kernel_rfl) (y := y) hc hz
  go_enter Try.func106, Try.ntmps106
  go_wp2_with fail
  go_ret
  exact ⟨rfl, rfl⟩
theorem atomic_store_any (b o : Nat) (u : Value) (y : Int) (w : World) (hc : w.cell? ⟨b, o, none⟩ = some u) (hz : w.frozen? ⟨b, o, none⟩ = false) :
    Calls Try.prog 136 #[.pointer (some ⟨b, o, none⟩), .int .u64 y] w fun e w' => e = .returned (.tuple #[]) ∧ w' = w.setCell ⟨b, o, none⟩ (.int .u64 y) := by
  have hl := run_call_store (P := Try.prog) Try.func138 (by kernel_rfl) (by kernel_rfl) (by kernel_rfl) (by kernel_rfl) (k := .u64) (y := y) hc hz
  go_enter Try.func136, Try.ntmps136
  go_wp2_with fail
  go_end0
  exact ⟨rfl, rfl⟩
section
variable {w w' : World} {m c i : Nat} {xs : List Nat} {S : List Nat}
theorem MemAt.fr (h : MemAt w m c xs) (hf : Fr S w w') (hm : m ∉ S) (hc : c ∉ S) : MemAt w' m c xs := by
  obtain ⟨a, b, hb⟩ := h.hd
  exact ⟨⟨a, b, hb.fr hf hm⟩, h.row.fr hf hc, h.ne⟩
theorem MemAt.drew (h : MemAt w m c xs) : MemAt w.drew m c xs := by
  obtain ⟨a, b, hb⟩ := h.hd
  exact ⟨⟨a, b, hb.drew⟩, h.row.drew, h.ne⟩
theorem MemAt.cell (h : MemAt w m c xs) {x : Nat} (hx : xs[i]? = some x) : w.cell? ⟨c, i, none⟩ = some (.int .u64 (x : Int)) := by
  rw [h.row.cell, List.getElem?_toArray, List.getElem?_map, hx]; rfl
theorem MemAt.set_ (h : MemAt w m c xs) (i x : Nat) : MemAt (w.setCell ⟨c, i, none⟩ (.int .u64 (x : Int))) m c (xs.set i x) := by
  obtain ⟨a, b, hb⟩ := h.hd
  refine ⟨⟨a, b, by rw [List.length_set]; exact hb.far h.ne _⟩, ?_, h.ne⟩
  have := h.row.set_ i (.int .u64 (x : Int))
  rw [List.setIfInBounds_toArray, ← List.map_set] at this
  exact this
theorem MemAt.count (h : MemAt w m c xs) (y : Int) : MemAt (w.setCell ⟨m, 1, none⟩ (.int .i64 y)) m c xs := by
  obtain ⟨a, b, hb⟩ := h.hd
  exact ⟨⟨y, b, hb.set_same 1 _ rfl⟩, h.row.far (fun e => h.ne e.symm) _, h.ne⟩
theorem MemAt.count2 (h : MemAt w m c xs) (y : Int) : MemAt (w.setCell ⟨m, 2, none⟩ (.int .i64 y)) m c xs := by
  obtain ⟨a, b, hb⟩ := h.hd
  exact ⟨⟨a, y, hb.set_same 2 _ rfl⟩, h.row.far (fun e => h.ne e.symm) _, h.ne⟩
end
theorem mem_load_any (m c i x : Nat) (xs : List Nat) (w : World) (h : MemAt w m c xs) (hx : xs[i]? = some x) :
    Calls Try.prog 92 #[.pointer (some ⟨m, 0, none⟩), .int .i64 (i : Int)] w fun e w' => e = .returned (.int .u64 (x : Int)) ∧ MemAt w' m c xs ∧ Fr [m] w w' := by
  obtain ⟨a, b, hb⟩ := h.hd
  have hi : i < xs.length := (List.getElem?_eq_some_iff.1 hx).1
  have hc := h.cell hx
  have hne := h.ne
  go_enter Try.func92, Try.ntmps92
  go_wp2_with fail
  refine (mem_at_any m c xs.length i a b _ hb hi hne).mono ?_
  rintro e w1 ⟨y, rfl, rfl⟩
  have h1 := h.count y
  have hc1 := h1.cell hx
  have hf : Fr [m] w (w.setCell ⟨m, 1, none⟩ (.int .i64 y)) := (Fr.refl _ _).setCell (fun _ => by simp) _
  clear hb hc
  go_wp2_with fail
  refine (atomic_load_any c i x _ hc1).mono ?_
  rintro e w2 ⟨rfl, rfl⟩
  go_wp2_with fail
  go_ret
  exact ⟨rfl, h1, hf⟩
theorem mem_cas_any (m c i x : Nat) (xs : List Nat) (y : Nat) (w : World) (h : MemAt w m c xs) (hx : xs[i]? = some x) :
    Calls Try.prog 93 #[.pointer (some ⟨m, 0, none⟩), .int .i64 (i : Int), .int .u64 (x : Int), .int .u64 (y : Int)] w fun e w' => e = .returned (.bool true) ∧ MemAt w' m c (xs.set i y) ∧ Fr [m, c] w w' := by
  obtain ⟨a, b, hb⟩ := h.hd
  have hi : i < xs.length := (List.getElem?_eq_some_iff.1 hx).1
  have hne := h.ne
  go_enter Try.func93, Try.ntmps93
  go_wp2_with fail
  refine (mem_at_any m c xs.length i a b _ hb hi hne).mono ?_
  rintro e w1 ⟨y1, rfl, rfl⟩
  have h1 := h.count y1
  have hc1 := h1.cell hx
  have hz1 := h1.row.frozen i
  have hf : Fr [m, c] w ((w.setCell ⟨m, 1, none⟩ (.int .i64 y1)).setCell ⟨c, i, none⟩ (.int .u64 (y : Int))) := ((Fr.refl _ _).setCell (fun _ => by simp) _).setCell (fun _ => by simp) _
  have h2 := h1.set_ i y
  clear hb
  go_wp2_with fail
  refine (atomic_cas_hit c i x y _ hc1 hz1).mono ?_
  rintro e w2 ⟨rfl, rfl⟩
  go_wp2_with fail
  go_ret
  exact ⟨rfl, h2, hf⟩
theorem mem_store_any (m c i x : Nat) (xs : List Nat) (y : Nat) (w : World) (h : MemAt w m c xs) (hx : xs[i]? = some x) :
    Calls Try.prog 134 #[.pointer (some ⟨m, 0, none⟩), .int .i64 (i : Int), .int .u64 (y : Int)] w fun e w' => e = .returned (.tuple #[]) ∧ MemAt w' m c (xs.set i y) ∧ Fr [m, c] w w' := by
  obtain ⟨a, b, hb⟩ := h.hd
  have hi : i < xs.length := (List.getElem?_eq_some_iff.1 hx).1
  have hne := h.ne
  go_enter Try.func134, Try.ntmps134
  go_wp2_with fail
  refine (mem_at_any m c xs.length i a b _ hb hi hne).mono ?_
  rintro e w1 ⟨y1, rfl, rfl⟩
  have h1 := h.count y1
  have hc1 := h1.cell hx
  have hz1 := h1.row.frozen i
  have hf : Fr [m, c] w ((w.setCell ⟨m, 1, none⟩ (.int .i64 y1)).setCell ⟨c, i, none⟩ (.int .u64 (y : Int))) := ((Fr.refl _ _).setCell (fun _ => by simp) _).setCell (fun _ => by simp) _
  have h2 := h1.set_ i y
  clear hb
  go_wp2_with fail
  refine (atomic_store_any c i _ y _ hc1 hz1).mono ?_
  rintro e w2 ⟨rfl, rfl⟩
  go_wp2_with fail
  go_end0
  exact ⟨rfl, h2, hf⟩
theorem mem_len_any (m c : Nat) (xs : List Nat) (w : World) (h : MemAt w m c xs) :
    Calls Try.prog 70 #[.pointer (some ⟨m, 0, none⟩)] w fun e w' => e = .returned (.int .i64 (xs.length : Int)) ∧ w' = w := by
  obtain ⟨a, b, hb⟩ := h.hd
  obtain ⟨c0, c1, c2⟩ := cells3 hb
  go_enter Try.func70, Try.ntmps70
  go_wp2_with fail
  go_ret
  exact ⟨rfl, rfl⟩
set_option maxRecDepth 100000 in
theorem mem_new_any (n : Nat) (w : World) (hn : n ≤ 262144) :
    Calls Try.prog 42 #[.int .i64 (n : Int)] w fun e w' => e = .returned (.pointer (some ⟨w.heap.size + 1, 0, none⟩)) ∧ MemAt w' (w.heap.size + 1) w.heap.size (List.replicate n 0) ∧ Fr [] w w' ∧ w'.heap.size = w.heap.size + 2 := by
  obtain ⟨i0, hi, hz⟩ : ∃ i, Try.prog.info? 181 = some i ∧ i.zero = some (.agg #[.int .u64 0]) ∧ i.size = 1 ∧ i.bytes = 8 := by
    refine ⟨_, rfl, ?_⟩
    exact ⟨by kernel_rfl, by kernel_rfl, by kernel_rfl⟩
  have hmk := run_make (P := Try.prog) w 129 181 i0 _ Try.underlying129 hi hz.1 .i64 .i64 n n (by omega) (Int.le_refl _) (by rw [hz.2.2]; omega) (by omega)
  have q1 : (n : Int) ≤ 262144 := by omega
  have q2 : (0 : Int) ≤ (n : Int) := by omega
  have hsz := hz.2.1
  clear hz hn
  go_enter Try.func42, Try.ntmps42
  go_wp2_with fail
  go_ret
  have hc : madeCells #[Value.int .u64 0] n = (List.replicate n (Value.int .u64 0)).toArray := by
    rw [← toList_madeCells_one]
  refine ⟨rfl, ⟨⟨0, 0, ?_⟩, ?_, by omega⟩, ((Fr.refl _ _).alloc _).alloc _, by rw [alloc_size, alloc_size]⟩
  · have := Blk.new (w.alloc (Obj.cells (madeCells #[Value.int IntKind.u64 0] n) 181)) 135 #[.slice (some ⟨w.heap.size, 0, none⟩) n n, .int .i64 0, .int .i64 0]
    rw [alloc_size] at this
    rw [List.length_replicate]
    exact this
  · rw [List.map_replicate]
    have := (Blk.new w 181 (madeCells #[Value.int IntKind.u64 0] n)).alloc (Obj.cells #[.slice (some ⟨w.heap.size, 0, none⟩) n n, .int .i64 0, .int .i64 0] 135)
    rw [hc] at this ⊢
    exact this
end Go.Proofs.Ythbifeoohphnpaa

/-
  The plain mathematics of packing and mixing bits: no program in sight.
-/
namespace Go.Proofs.Ythbifeoohphnpaa
set_option linter.unusedVariables false
namespace Bt

def xsB (b : BitVec 64) : BitVec 64 := b ^^^ (b >>> 33)
def mixB (b : BitVec 64) : BitVec 64 := xsB (xsB (xsB b * 0xff51afd7ed558ccd#64) * 0xc4ceb9fe1a85ec53#64)
/-- what Mix computes -/
def mix (x : Int) : Int := ((mixB (BitVec.ofInt 64 x)).toNat : Int)

theorem mix_lo (x : Int) : 0 ≤ mix x := by unfold mix; omega
theorem mix_hi (x : Int) : mix x < 18446744073709551616 := by
  unfold mix; have := (mixB (BitVec.ofInt 64 x)).isLt; omega

theorem ofInt_toNat (b : BitVec 64) : BitVec.ofInt 64 (b.toNat : Int) = b := by
  rw [BitVec.ofInt_natCast, BitVec.ofNat_toNat, BitVec.setWidth_eq]

theorem ofInt_inj {x y : Int} (h0 : 0 ≤ x) (h1 : x < 18446744073709551616) (g0 : 0 ≤ y) (g1 : y < 18446744073709551616) (h : BitVec.ofInt 64 x = BitVec.ofInt 64 y) : x = y := by
  have := congrArg BitVec.toNat h
  simp only [BitVec.toNat_ofInt] at this
  omega

theorem toNat_ofInt {x : Int} (h0 : 0 ≤ x) (h1 : x < 18446744073709551616) : ((BitVec.ofInt 64 x).toNat : Int) = x := by
  simp only [BitVec.toNat_ofInt]; omega

theorem shift33 (b : BitVec 64) : (b.toNat : Int) / (8589934592 : Int) = ((b >>> 33).toNat : Int) := by
  rw [BitVec.toNat_ushiftRight, Nat.shiftRight_eq_div_pow]; rfl

theorem xs_bits (b : BitVec 64) : bits .xor .u64 (b.toNat : Int) ((b.toNat : Int) / (8589934592 : Int)) = ((xsB b).toNat : Int) := by
  rw [shift33, bits_xor_u64_nat _ _ b.isLt (b >>> 33).isLt, xsB, BitVec.toNat_xor]

theorem mul_bits (b : BitVec 64) (c : Nat) : IntKind.u64.wrap ((b.toNat : Int) * (c : Int)) = ((b * BitVec.ofNat 64 c).toNat : Int) := by
  rw [IntKind.wrap_u64, BitVec.toNat_mul, BitVec.toNat_ofNat]
  rw [Nat.mul_mod_mod]
  omega

/-- the steps of the walk of Mix, as it leaves them -/
theorem mix_walk {x : Int} (h0 : 0 ≤ x) (h1 : x < 18446744073709551616) :
    bits .xor .u64
      (IntKind.u64.wrap (bits .xor .u64 (IntKind.u64.wrap (bits .xor .u64 x (x / 8589934592) * 18397679294719823053)) (IntKind.u64.wrap (bits .xor .u64 x (x / 8589934592) * 18397679294719823053) / 8589934592) * 14181476777654086739))
      (IntKind.u64.wrap (bits .xor .u64 (IntKind.u64.wrap (bits .xor .u64 x (x / 8589934592) * 18397679294719823053)) (IntKind.u64.wrap (bits .xor .u64 x (x / 8589934592) * 18397679294719823053) / 8589934592) * 14181476777654086739) / 8589934592) = mix x := by
  obtain ⟨b, rfl⟩ : ∃ b : BitVec 64, x = (b.toNat : Int) := ⟨BitVec.ofInt 64 x, (toNat_ofInt h0 h1).symm⟩
  have e1 : IntKind.u64.wrap (((xsB b).toNat : Int) * (18397679294719823053 : Int)) = _ := mul_bits (xsB b) 18397679294719823053
  have e2 : IntKind.u64.wrap (((xsB (xsB b * 18397679294719823053#64)).toNat : Int) * (14181476777654086739 : Int)) = _ := mul_bits (xsB (xsB b * 18397679294719823053#64)) 14181476777654086739
  rw [xs_bits, e1, xs_bits, e2, xs_bits, mix, ofInt_toNat]
  rfl

/-! ### counting -/
def pcF : Nat → Nat → Nat
  | 0, _ => 0
  | f + 1, n => n % 2 + pcF f (n / 2)
/-- how many bits are set -/
def pc (n : Nat) : Nat := pcF 64 n

theorem pcF_zero (f : Nat) : pcF f 0 = 0 := by
  induction f with
  | zero => rfl
  | succ f ih => simp [pcF, ih]

theorem pcF_le (f n : Nat) : pcF f n ≤ f := by
  induction f generalizing n with
  | zero => simp [pcF]
  | succ f ih => have := ih (n / 2); simp only [pcF]; omega

theorem pc_le (n : Nat) : pc n ≤ 64 := pcF_le 64 n

theorem land_even (k j : Nat) : (2 * k) &&& (2 * j + 1) = 2 * (k &&& j) := by
  apply Nat.eq_of_testBit_eq
  intro i
  cases i with
  | zero => simp [Nat.testBit_zero]
  | succ i => rw [Nat.testBit_and, Nat.testBit_succ, Nat.testBit_succ, Nat.testBit_succ, show 2 * k / 2 = k from by omega, show (2 * j + 1) / 2 = j from by omega, show 2 * (k &&& j) / 2 = k &&& j from by omega, Nat.testBit_and]

theorem land_odd (k : Nat) : (2 * k + 1) &&& (2 * k) = 2 * k := by
  rw [Nat.and_comm, land_even, Nat.and_self]

/-- the lowest bit goes -/
theorem pcF_drop (f : Nat) : ∀ n, 0 < n → n < 2 ^ f → pcF f (n &&& (n - 1)) + 1 = pcF f n := by
  induction f with
  | zero => intro n h0 h1; simp at h1; omega
  | succ f ih =>
    intro n h0 h1
    rcases Nat.mod_two_eq_zero_or_one n with h | h
    · obtain ⟨k, rfl⟩ : ∃ k, n = 2 * k := ⟨n / 2, by omega⟩
      obtain ⟨j, rfl⟩ : ∃ j, k = j + 1 := ⟨k - 1, by omega⟩
      rw [show 2 * (j + 1) - 1 = 2 * j + 1 from by omega, land_even]
      have e := ih (j + 1) (by omega) (by rw [Nat.pow_succ] at h1; omega)
      rw [show j + 1 - 1 = j from rfl] at e
      simp only [pcF]
      rw [show 2 * (j + 1 &&& j) % 2 = 0 from by omega, show 2 * (j + 1 &&& j) / 2 = (j + 1 &&& j) from by omega, show 2 * (j + 1) % 2 = 0 from by omega, show 2 * (j + 1) / 2 = j + 1 from by omega]
      omega
    · obtain ⟨k, rfl⟩ : ∃ k, n = 2 * k + 1 := ⟨n / 2, by omega⟩
      rw [show 2 * k + 1 - 1 = 2 * k from by omega, land_odd]
      simp only [pcF]
      rw [show 2 * k / 2 = k from by omega, show (2 * k + 1) / 2 = k from by omega]
      omega

theorem pc_drop (n : Nat) (h0 : 0 < n) (h1 : n < 18446744073709551616) : pc (n &&& (n - 1)) + 1 = pc n := pcF_drop 64 n h0 (by omega)

theorem and_lt_self (n : Nat) (h0 : 0 < n) : n &&& (n - 1) < n := by
  have := @Nat.and_le_right n (n - 1)
  omega

theorem drop_bits (y : Nat) (h0 : 0 < y) (h1 : y < 18446744073709551616) : bits .and .u64 (y : Int) (IntKind.u64.wrap ((y : Int) - 1)) = ((y &&& (y - 1) : Nat) : Int) := by
  rw [IntKind.wrap_u64, show (((y : Int) - 1) % 18446744073709551616) = ((y - 1 : Nat) : Int) from by omega]
  exact bits_and_u64_nat _ _ h1 (by omega)

/-- all bits but some: the complement has the others -/
theorem pcF_compl (f : Nat) : ∀ n, n < 2 ^ f → pcF f n + pcF f (2 ^ f - 1 - n) = f := by
  induction f with
  | zero => intro n h; simp [pcF]
  | succ f ih =>
    intro n h
    have e := ih (n / 2) (by rw [Nat.pow_succ] at h; omega)
    rw [Nat.pow_succ] at h ⊢
    simp only [pcF]
    rw [show (2 ^ f * 2 - 1 - n) / 2 = 2 ^ f - 1 - n / 2 from by omega]
    omega

/-- counting bit by bit from the lowest on -/
theorem pcF_shift (f : Nat) : ∀ n, n < 2 ^ (f + 1) → pcF (f + 1) n = n % 2 + pcF (f + 1) (n / 2) := by
  induction f with
  | zero => intro n h; simp only [Nat.zero_add, Nat.pow_one] at h; simp only [pcF]; omega
  | succ f ih =>
    intro n h
    have e := ih (n / 2) (by rw [Nat.pow_succ] at h; omega)
    show n % 2 + pcF (f + 1) (n / 2) = _
    rw [e]
    rfl

theorem pc_shift (n : Nat) (h : n < 18446744073709551616) : pc n = n % 2 + pc (n / 2) := pcF_shift 63 n (by omega)

/-! ### spreading and gathering -/
def spreadTo (x : Int) : Nat → Int
  | 0 => 0
  | k + 1 => bits .or .u16 (spreadTo x k) (IntKind.u16.wrap (IntKind.u16.wrap (bits .and .u8 (x / 2 ^ k) 1) * 2 ^ (2 * k)))
/-- what Spread computes -/
def spread (x : Int) : Int := spreadTo x 8
def gatherTo (x : Int) : Nat → Int
  | 0 => 0
  | k + 1 => bits .or .u8 (gatherTo x k) (bits .and .u16 (x / 2 ^ (2 * k)) 1 % 256 * 2 ^ k % 256)
/-- what Gather computes -/
def gather (x : Int) : Int := gatherTo x 8

def bit (x i : Nat) : Nat := x / 2 ^ i % 2
def spN (x : Nat) : Nat := bit x 0 + bit x 1 * 4 + bit x 2 * 16 + bit x 3 * 64 + bit x 4 * 256 + bit x 5 * 1024 + bit x 6 * 4096 + bit x 7 * 16384
def gaN (x : Nat) : Nat := bit x 0 + bit x 2 * 2 + bit x 4 * 4 + bit x 6 * 8 + bit x 8 * 16 + bit x 10 * 32 + bit x 12 * 64 + bit x 14 * 128

theorem spread_small : ∀ x : Nat, x < 256 → spread (x : Int) = (spN x : Int) := by decide +kernel

theorem spN_lt (x : Nat) : spN x < 21846 := by unfold spN bit; omega
theorem gaN_lt (x : Nat) : gaN x < 256 := by unfold gaN bit; omega

theorem or_u8_nat (a b : Nat) (ha : a < 256) (hb : b < 256) : bits .or .u8 (a : Int) (b : Int) = ((a ||| b : Nat) : Int) := by
  have h1 : (BitVec.ofInt 8 (a : Int)).toNat = a := by rw [BitVec.ofInt_natCast, BitVec.toNat_ofNat]; exact Nat.mod_eq_of_lt (by omega)
  have h2 : (BitVec.ofInt 8 (b : Int)).toNat = b := by rw [BitVec.ofInt_natCast, BitVec.toNat_ofNat]; exact Nat.mod_eq_of_lt (by omega)
  have hx : a ||| b < 2 ^ 8 := Nat.or_lt_two_pow (by omega) (by omega)
  show IntKind.u8.wrap ((BitVec.ofInt 8 (a : Int) ||| BitVec.ofInt 8 (b : Int)).toNat : Int) = _
  rw [BitVec.toNat_or, h1, h2]
  simp only [IntKind.wrap, IntKind.bits, IntKind.signed]
  simp
  omega

theorem and_u16_nat (a b : Nat) (ha : a < 65536) (hb : b < 65536) : bits .and .u16 (a : Int) (b : Int) = ((a &&& b : Nat) : Int) := by
  have h1 : (BitVec.ofInt 16 (a : Int)).toNat = a := by rw [BitVec.ofInt_natCast, BitVec.toNat_ofNat]; exact Nat.mod_eq_of_lt (by omega)
  have h2 : (BitVec.ofInt 16 (b : Int)).toNat = b := by rw [BitVec.ofInt_natCast, BitVec.toNat_ofNat]; exact Nat.mod_eq_of_lt (by omega)
  have hx : a &&& b < 2 ^ 16 := Nat.and_lt_two_pow _ (by omega)
  show IntKind.u16.wrap ((BitVec.ofInt 16 (a : Int) &&& BitVec.ofInt 16 (b : Int)).toNat : Int) = _
  rw [BitVec.toNat_and, h1, h2]
  simp only [IntKind.wrap, IntKind.bits, IntKind.signed]
  simp
  omega

def gN (x : Nat) : Nat → Nat
  | 0 => 0
  | k + 1 => gN x k + bit x (2 * k) * 2 ^ k

theorem bit_le (x i : Nat) : bit x i ≤ 1 := by unfold bit; omega

theorem gN_lt (x k : Nat) : gN x k < 2 ^ k := by
  induction k with
  | zero => simp [gN]
  | succ k ih =>
    have hb := bit_le x (2 * k)
    have h2 : bit x (2 * k) * 2 ^ k ≤ 1 * 2 ^ k := Nat.mul_le_mul_right _ hb
    simp only [gN, Nat.pow_succ]
    omega

theorem gatherTo_nat (x : Nat) (hx : x < 65536) (k : Nat) (hk : k ≤ 8) : gatherTo (x : Int) k = (gN x k : Int) := by
  induction k with
  | zero => rfl
  | succ k ih =>
    have hb := bit_le x (2 * k)
    have hp : 2 ^ k ≤ 128 := by
      have := Nat.pow_le_pow_right (n := 2) (by omega) (show k ≤ 7 from by omega)
      simpa using this
    have h2 : bit x (2 * k) * 2 ^ k ≤ 1 * 2 ^ k := Nat.mul_le_mul_right _ hb
    have hlt := gN_lt x k
    have hd : (x : Int) / 2 ^ (2 * k) = ((x / 2 ^ (2 * k) : Nat) : Int) := by
      rw [Int.natCast_ediv]; congr 1
    have hdl : x / 2 ^ (2 * k) ≤ x := Nat.div_le_self _ _
    simp only [gatherTo]
    rw [ih (by omega), hd]
    have e1 := and_u16_nat (x / 2 ^ (2 * k)) 1 (by omega) (by omega)
    rw [Nat.and_one_is_mod] at e1
    rw [show ((1 : Nat) : Int) = 1 from rfl] at e1
    rw [e1]
    rw [show (x / 2 ^ (2 * k) % 2) = bit x (2 * k) from rfl]
    have e2 : ((bit x (2 * k) : Nat) : Int) % 256 * 2 ^ k % 256 = ((bit x (2 * k) * 2 ^ k : Nat) : Int) := by
      rw [Int.emod_eq_of_lt (a := ((bit x (2 * k) : Nat) : Int)) (by omega) (by omega)]
      rw [show ((bit x (2 * k) : Nat) : Int) * 2 ^ k = ((bit x (2 * k) * 2 ^ k : Nat) : Int) from by rw [Int.natCast_mul, Int.natCast_pow]; rfl]
      omega
    rw [e2, or_u8_nat _ _ (by omega) (by omega)]
    simp only [gN]
    have e3 := Nat.two_pow_add_eq_or_of_lt hlt (bit x (2 * k))
    rw [Nat.mul_comm, Nat.or_comm] at e3
    rw [Nat.add_comm, e3, Nat.mul_comm]

theorem gN_eight (x : Nat) : gN x 8 = gaN x := by
  simp only [gN, gaN, Nat.mul_zero, Nat.pow_zero, Nat.mul_one, Nat.zero_add]

theorem gather_small (x : Nat) (hx : x < 65536) : gather (x : Int) = (gaN x : Int) := by
  unfold gather; rw [gatherTo_nat x hx 8 (by omega), gN_eight]

theorem gaN_spN : ∀ y : Nat, y < 256 → gaN (spN y) = y := by decide +kernel
theorem pc_spN : ∀ y : Nat, y < 256 → pc (spN y) = pc y := by decide +kernel
theorem spN_odd : ∀ y : Nat, y < 256 → spN y &&& 43690 = 0 := by decide +kernel

theorem bit_testBit (x i : Nat) : bit x i = (x.testBit i).toNat := by
  unfold bit
  rw [Nat.testBit_eq_decide_div_mod_eq]
  rcases Nat.mod_two_eq_zero_or_one (x / 2 ^ i) with h | h <;> simp [h]

theorem spN_testBit : ∀ y : Nat, y < 256 → ∀ j : Nat, j < 16 → (spN y).testBit j = (j % 2 == 0 && y.testBit (j / 2)) := by decide +kernel
theorem spN_step : ∀ y : Nat, y < 255 → spN y < spN (y + 1) := by decide +kernel

theorem testBit_hi (n j : Nat) (h : n < 65536) (hj : 16 ≤ j) : n.testBit j = false := by
  apply Nat.testBit_lt_two_pow
  have := Nat.pow_le_pow_right (n := 2) (by omega) hj
  omega

theorem spN_all (y : Nat) (hy : y < 256) (j : Nat) : (spN y).testBit j = (decide (j < 16) && (j % 2 == 0 && y.testBit (j / 2))) := by
  by_cases h : j < 16
  · rw [spN_testBit y hy j h]; simp [h]
  · have := spN_lt y
    rw [testBit_hi _ _ (by omega) (by omega)]; simp [h]

theorem spN_and (a b : Nat) (ha : a < 256) (hb : b < 256) : spN (a &&& b) = spN a &&& spN b := by
  apply Nat.eq_of_testBit_eq
  intro j
  rw [Nat.testBit_and, spN_all _ (by have := @Nat.and_le_left a b; omega), spN_all a ha, spN_all b hb, Nat.testBit_and]
  cases decide (j < 16) <;> cases (j % 2 == 0) <;> simp

theorem spN_or (a b : Nat) (ha : a < 256) (hb : b < 256) : spN (a ||| b) = spN a ||| spN b := by
  apply Nat.eq_of_testBit_eq
  intro j
  rw [Nat.testBit_or, spN_all _ (Nat.or_lt_two_pow (n := 8) (by omega) (by omega)), spN_all a ha, spN_all b hb, Nat.testBit_or]
  cases decide (j < 16) <;> cases (j % 2 == 0) <;> simp

theorem spN_xor (a b : Nat) (ha : a < 256) (hb : b < 256) : spN (a ^^^ b) = spN a ^^^ spN b := by
  apply Nat.eq_of_testBit_eq
  intro j
  rw [Nat.testBit_xor, spN_all _ (Nat.xor_lt_two_pow (n := 8) (by omega) (by omega)), spN_all a ha, spN_all b hb, Nat.testBit_xor]
  cases decide (j < 16) <;> cases (j % 2 == 0) <;> simp

theorem spN_mono (a b : Nat) (hb : b < 256) (h : a < b) : spN a < spN b := by
  induction b with
  | zero => omega
  | succ b ih =>
    have h1 := spN_step b (by omega)
    by_cases e : a = b
    · subst e; exact h1
    · have := ih (by omega) (by omega); omega

theorem spN_lt_iff (a b : Nat) (ha : a < 256) (hb : b < 256) : spN a < spN b ↔ a < b := by
  constructor
  · intro h
    by_cases e : a < b
    · exact e
    · by_cases e2 : a = b
      · subst e2; omega
      · have := spN_mono b a ha (by omega); omega
  · exact spN_mono a b hb

theorem gaN_of_bits (z a : Nat) (ha : a < 256) (h : ∀ i, i < 8 → z.testBit (2 * i) = a.testBit i) : gaN z = a := by
  have e : ∀ i, i < 8 → bit z (2 * i) = bit a i := fun i hi => by rw [bit_testBit, bit_testBit, h i hi]
  have e0 := e 0 (by omega)
  have e1 := e 1 (by omega)
  have e2 := e 2 (by omega)
  have e3 := e 3 (by omega)
  have e4 := e 4 (by omega)
  have e5 := e 5 (by omega)
  have e6 := e 6 (by omega)
  have e7 := e 7 (by omega)
  simp only [Nat.mul_zero, Nat.mul_one, Nat.reduceMul] at e0 e1 e2 e3 e4 e5 e6 e7
  unfold gaN
  rw [e0, e1, e2, e3, e4, e5, e6, e7]
  unfold bit
  omega

theorem two_testBit (n j : Nat) : (2 * n).testBit (j + 1) = n.testBit j := by
  rw [Nat.testBit_succ, show 2 * n / 2 = n from by omega]

theorem two_testBit0 (n : Nat) : (2 * n).testBit 0 = false := by simp [Nat.testBit_zero]

/-- what is spread and laid on the even places is gathered, whatever lies on the odd ones -/
theorem ga_even (a b : Nat) (ha : a < 256) (hb : b < 256) : gaN (spN a ||| 2 * spN b) = a := by
  refine gaN_of_bits _ a ha fun i hi => ?_
  rw [Nat.testBit_or, spN_all a ha]
  have : (2 * spN b).testBit (2 * i) = false := by
    cases i with
    | zero => exact two_testBit0 _
    | succ i => rw [show 2 * (i + 1) = (2 * i + 1) + 1 from by omega, two_testBit, spN_all b hb]; simp [show (2 * i + 1) % 2 = 1 from by omega]
  rw [this, show 2 * i / 2 = i from by omega, show (2 * i) % 2 = 0 from by omega]
  simp [show 2 * i < 16 from by omega]

theorem ga_odd (a b : Nat) (ha : a < 256) (hb : b < 256) : gaN ((spN a ||| 2 * spN b) / 2) = b := by
  refine gaN_of_bits _ b hb fun i hi => ?_
  rw [← Nat.testBit_succ, Nat.testBit_or, spN_all a ha, two_testBit, spN_all b hb, show 2 * i / 2 = i from by omega, show (2 * i) % 2 = 0 from by omega, show (2 * i + 1) % 2 = 1 from by omega]
  simp [show 2 * i < 16 from by omega]

theorem and_u8_nat (a b : Nat) (ha : a < 256) (hb : b < 256) : bits .and .u8 (a : Int) (b : Int) = ((a &&& b : Nat) : Int) := by
  have h1 : (BitVec.ofInt 8 (a : Int)).toNat = a := by rw [BitVec.ofInt_natCast, BitVec.toNat_ofNat]; exact Nat.mod_eq_of_lt (by omega)
  have h2 : (BitVec.ofInt 8 (b : Int)).toNat = b := by rw [BitVec.ofInt_natCast, BitVec.toNat_ofNat]; exact Nat.mod_eq_of_lt (by omega)
  have hx : a &&& b < 2 ^ 8 := Nat.and_lt_two_pow _ (by omega)
  show IntKind.u8.wrap ((BitVec.ofInt 8 (a : Int) &&& BitVec.ofInt 8 (b : Int)).toNat : Int) = _
  rw [BitVec.toNat_and, h1, h2]
  simp only [IntKind.wrap, IntKind.bits, IntKind.signed]
  simp
  omega

theorem xor_u8_nat (a b : Nat) (ha : a < 256) (hb : b < 256) : bits .xor .u8 (a : Int) (b : Int) = ((a ^^^ b : Nat) : Int) := by
  have h1 : (BitVec.ofInt 8 (a : Int)).toNat = a := by rw [BitVec.ofInt_natCast, BitVec.toNat_ofNat]; exact Nat.mod_eq_of_lt (by omega)
  have h2 : (BitVec.ofInt 8 (b : Int)).toNat = b := by rw [BitVec.ofInt_natCast, BitVec.toNat_ofNat]; exact Nat.mod_eq_of_lt (by omega)
  have hx : a ^^^ b < 2 ^ 8 := Nat.xor_lt_two_pow (by omega) (by omega)
  show IntKind.u8.wrap ((BitVec.ofInt 8 (a : Int) ^^^ BitVec.ofInt 8 (b : Int)).toNat : Int) = _
  rw [BitVec.toNat_xor, h1, h2]
  simp only [IntKind.wrap, IntKind.bits, IntKind.signed]
  simp
  omega

theorem or_u16_nat (a b : Nat) (ha : a < 65536) (hb : b < 65536) : bits .or .u16 (a : Int) (b : Int) = ((a ||| b : Nat) : Int) := by
  have h1 : (BitVec.ofInt 16 (a : Int)).toNat = a := by rw [BitVec.ofInt_natCast, BitVec.toNat_ofNat]; exact Nat.mod_eq_of_lt (by omega)
  have h2 : (BitVec.ofInt 16 (b : Int)).toNat = b := by rw [BitVec.ofInt_natCast, BitVec.toNat_ofNat]; exact Nat.mod_eq_of_lt (by omega)
  have hx : a ||| b < 2 ^ 16 := Nat.or_lt_two_pow (by omega) (by omega)
  show IntKind.u16.wrap ((BitVec.ofInt 16 (a : Int) ||| BitVec.ofInt 16 (b : Int)).toNat : Int) = _
  rw [BitVec.toNat_or, h1, h2]
  simp only [IntKind.wrap, IntKind.bits, IntKind.signed]
  simp
  omega

theorem xor_u16_nat (a b : Nat) (ha : a < 65536) (hb : b < 65536) : bits .xor .u16 (a : Int) (b : Int) = ((a ^^^ b : Nat) : Int) := by
  have h1 : (BitVec.ofInt 16 (a : Int)).toNat = a := by rw [BitVec.ofInt_natCast, BitVec.toNat_ofNat]; exact Nat.mod_eq_of_lt (by omega)
  have h2 : (BitVec.ofInt 16 (b : Int)).toNat = b := by rw [BitVec.ofInt_natCast, BitVec.toNat_ofNat]; exact Nat.mod_eq_of_lt (by omega)
  have hx : a ^^^ b < 2 ^ 16 := Nat.xor_lt_two_pow (by omega) (by omega)
  show IntKind.u16.wrap ((BitVec.ofInt 16 (a : Int) ^^^ BitVec.ofInt 16 (b : Int)).toNat : Int) = _
  rw [BitVec.toNat_xor, h1, h2]
  simp only [IntKind.wrap, IntKind.bits, IntKind.signed]
  simp
  omega

/-! ### packing -/
theorem and_u32_nat (a b : Nat) (ha : a < 4294967296) (hb : b < 4294967296) : bits .and .u32 (a : Int) (b : Int) = ((a &&& b : Nat) : Int) := by
  have h1 : (BitVec.ofInt 32 (a : Int)).toNat = a := by rw [BitVec.ofInt_natCast, BitVec.toNat_ofNat]; exact Nat.mod_eq_of_lt (by omega)
  have h2 : (BitVec.ofInt 32 (b : Int)).toNat = b := by rw [BitVec.ofInt_natCast, BitVec.toNat_ofNat]; exact Nat.mod_eq_of_lt (by omega)
  have hx : a &&& b < 2 ^ 32 := Nat.and_lt_two_pow _ (by omega)
  show IntKind.u32.wrap ((BitVec.ofInt 32 (a : Int) &&& BitVec.ofInt 32 (b : Int)).toNat : Int) = _
  rw [BitVec.toNat_and, h1, h2]
  simp only [IntKind.wrap, IntKind.bits, IntKind.signed]
  simp
  omega

theorem mask28_u32 {a : Int} (h0 : 0 ≤ a) (h1 : a < 4294967296) : bits .and .u32 a 268435455 = a % 268435456 := by
  obtain ⟨n, rfl⟩ := Int.eq_ofNat_of_zero_le h0
  have e := and_u32_nat n 268435455 (by omega) (by omega)
  have e2 := Nat.and_two_pow_sub_one_eq_mod n 28
  rw [show (2 : Nat) ^ 28 - 1 = 268435455 from rfl] at e2
  rw [e2] at e
  rw [show ((268435455 : Nat) : Int) = 268435455 from rfl] at e
  rw [e]; omega

theorem mask28_u64 {a : Int} (h0 : 0 ≤ a) (h1 : a < 18446744073709551616) : bits .and .u64 a 268435455 = a % 268435456 := by
  obtain ⟨n, rfl⟩ := Int.eq_ofNat_of_zero_le h0
  have e := bits_and_u64_nat n 268435455 (by omega) (by omega)
  have e2 := Nat.and_two_pow_sub_one_eq_mod n 28
  rw [show (2 : Nat) ^ 28 - 1 = 268435455 from rfl] at e2
  rw [e2] at e
  rw [show ((268435455 : Nat) : Int) = 268435455 from rfl] at e
  rw [e]; omega

/-- or of parts that don't meet is their sum -/
theorem or_sum (hi lo k : Nat) (hlo : lo < 2 ^ k) (h : 2 ^ k * hi + lo < 18446744073709551616) : bits .or .u64 ((2 ^ k * hi : Nat) : Int) (lo : Int) = ((2 ^ k * hi + lo : Nat) : Int) := by
  rw [bits_or_u64_nat _ _ (by omega) (by omega), ← Nat.two_pow_add_eq_or_of_lt hlo hi]

/-- what Node computes -/
def node (l a b : Int) : Int := l * 72057594037927936 + (a % 268435456) * 268435456 + b % 268435456

theorem node_walk {l a b : Int} (h0 : 0 ≤ l) (h1 : l < 256) (h2 : 0 ≤ a) (h3 : a < 4294967296) (h4 : 0 ≤ b) (h5 : b < 4294967296) :
    bits .or .u64 (bits .or .u64 (l * 72057594037927936) (IntKind.u64.wrap (IntKind.u64.wrap (bits .and .u32 a 268435455) * 268435456))) (IntKind.u64.wrap (bits .and .u32 b 268435455)) = node l a b := by
  rw [mask28_u32 h2 h3, mask28_u32 h4 h5]
  simp only [IntKind.wrap_u64]
  obtain ⟨l, rfl⟩ := Int.eq_ofNat_of_zero_le h0
  obtain ⟨a, rfl⟩ := Int.eq_ofNat_of_zero_le h2
  obtain ⟨b, rfl⟩ := Int.eq_ofNat_of_zero_le h4
  have e1 := or_sum l (a % 268435456 * 268435456) 56 (by omega) (by omega)
  have e2 := or_sum (l * 268435456 + a % 268435456) (b % 268435456) 28 (by omega) (by omega)
  rw [show ((l : Int) * 72057594037927936) = ((2 ^ 56 * l : Nat) : Int) from by omega,
    show ((a : Int) % 268435456 % 18446744073709551616 * 268435456 % 18446744073709551616) = ((a % 268435456 * 268435456 : Nat) : Int) from by omega,
    show ((b : Int) % 268435456 % 18446744073709551616) = ((b % 268435456 : Nat) : Int) from by omega]
  rw [e1, show (2 ^ 56 * l + a % 268435456 * 268435456 : Nat) = 2 ^ 28 * (l * 268435456 + a % 268435456) from by omega, e2]
  unfold node
  omega

theorem node_lo {l a b : Int} (h0 : 0 ≤ l) : 0 ≤ node l a b := by unfold node; omega
theorem node_hi {l a b : Int} (h1 : l < 256) : node l a b < 18446744073709551616 := by unfold node; omega

theorem node_inj {l a b l' a' b' : Int} (h : node l a b = node l' a' b') : l = l' ∧ a % 268435456 = a' % 268435456 ∧ b % 268435456 = b' % 268435456 := by
  unfold node at h; omega

/-! ### mixing is undone -/
theorem xs_xs (b : BitVec 64) : xsB (xsB b) = b := by
  unfold xsB
  apply BitVec.eq_of_getLsbD_eq
  intro i hi
  simp only [BitVec.getLsbD_xor, BitVec.getLsbD_ushiftRight]
  have : b.getLsbD (33 + (33 + i)) = false := BitVec.getLsbD_of_ge _ _ (by omega)
  rw [this]
  cases b.getLsbD i <;> cases b.getLsbD (33 + i) <;> rfl

theorem mul_inv1 (b : BitVec 64) : b * 0xff51afd7ed558ccd#64 * 0x4f74430c22a54005#64 = b := by
  rw [BitVec.mul_assoc, show (0xff51afd7ed558ccd#64 * 0x4f74430c22a54005#64) = 1#64 from by decide, BitVec.mul_one]
theorem mul_inv2 (b : BitVec 64) : b * 0xc4ceb9fe1a85ec53#64 * 0x9cb4b2f8129337db#64 = b := by
  rw [BitVec.mul_assoc, show (0xc4ceb9fe1a85ec53#64 * 0x9cb4b2f8129337db#64) = 1#64 from by decide, BitVec.mul_one]

def unB (b : BitVec 64) : BitVec 64 := xsB (xsB (xsB b * 0x9cb4b2f8129337db#64) * 0x4f74430c22a54005#64)
theorem un_mix (b : BitVec 64) : unB (mixB b) = b := by
  unfold unB mixB
  rw [xs_xs, mul_inv2, xs_xs, mul_inv1, xs_xs]

theorem mix_inj {x y : Int} (h0 : 0 ≤ x) (h1 : x < 18446744073709551616) (g0 : 0 ≤ y) (g1 : y < 18446744073709551616) (h : mix x = mix y) : x = y := by
  apply ofInt_inj h0 h1 g0 g1
  unfold mix at h
  have : mixB (BitVec.ofInt 64 x) = mixB (BitVec.ofInt 64 y) := BitVec.eq_of_toNat_eq (by omega)
  rw [← un_mix (BitVec.ofInt 64 x), this, un_mix]

/-- the steps of the law that undoes the mixing, as its walk leaves them -/
theorem unmix_walk {x : Int} (h0 : 0 ≤ x) (h1 : x < 18446744073709551616) :
    bits .xor .u64
      (IntKind.u64.wrap (bits .xor .u64 (IntKind.u64.wrap (bits .xor .u64 (mix x) (mix x / 8589934592) * 11291846944257947611)) (IntKind.u64.wrap (bits .xor .u64 (mix x) (mix x / 8589934592) * 11291846944257947611) / 8589934592) * 5725274745694666757))
      (IntKind.u64.wrap (bits .xor .u64 (IntKind.u64.wrap (bits .xor .u64 (mix x) (mix x / 8589934592) * 11291846944257947611)) (IntKind.u64.wrap (bits .xor .u64 (mix x) (mix x / 8589934592) * 11291846944257947611) / 8589934592) * 5725274745694666757) / 8589934592) = x := by
  unfold mix
  generalize hb : mixB (BitVec.ofInt 64 x) = b
  have e1 : IntKind.u64.wrap (((xsB b).toNat : Int) * (11291846944257947611 : Int)) = _ := mul_bits (xsB b) 11291846944257947611
  have e2 : IntKind.u64.wrap (((xsB (xsB b * 11291846944257947611#64)).toNat : Int) * (5725274745694666757 : Int)) = _ := mul_bits (xsB (xsB b * 11291846944257947611#64)) 5725274745694666757
  rw [xs_bits, e1, xs_bits, e2, xs_bits]
  have hu := un_mix (BitVec.ofInt 64 x)
  rw [hb] at hu
  rw [show xsB (xsB (xsB b * 11291846944257947611#64) * 5725274745694666757#64) = unB b from rfl, hu, toNat_ofInt h0 h1]

theorem not_u64 {x : Int} (h0 : 0 ≤ x) (h1 : x < 18446744073709551616) : bits .xor .u64 18446744073709551615 x = 18446744073709551615 - x := by
  obtain ⟨n, rfl⟩ := Int.eq_ofNat_of_zero_le h0
  have e := bits_xor_u64_nat 18446744073709551615 n (by omega) (by omega)
  have e2 : (BitVec.allOnes 64 ^^^ BitVec.ofNat 64 n).toNat = 18446744073709551615 - n := by
    rw [BitVec.allOnes_xor, BitVec.toNat_not, BitVec.toNat_ofNat, Nat.mod_eq_of_lt (by omega)]
  rw [BitVec.toNat_xor, BitVec.toNat_ofNat, Nat.mod_eq_of_lt (by omega), show (BitVec.allOnes 64).toNat = 18446744073709551615 from by decide] at e2
  rw [e2] at e
  rw [show ((18446744073709551615 : Nat) : Int) = 18446744073709551615 from rfl] at e
  rw [e]; omega

theorem pc_not {x : Int} (h0 : 0 ≤ x) (h1 : x < 18446744073709551616) : (pc x.toNat : Int) + (pc (18446744073709551615 - x).toNat : Int) = 64 := by
  have := pcF_compl 64 x.toNat (by omega)
  unfold pc
  rw [show (18446744073709551615 - x).toNat = 2 ^ 64 - 1 - x.toNat from by omega]
  omega

theorem spread_def (x : Int) : spread x = spreadTo x 8 := rfl
theorem gather_def (x : Int) : gather x = gatherTo x 8 := rfl

attribute [irreducible] pc spread gather mix spN gaN

end Bt
end Go.Proofs.Ythbifeoohphnpaa

/-
  Package bits: packing, mixing, homes, on natural numbers.
-/
namespace Go.Proofs.Ythbifeoohphnpaa
set_option linter.unusedVariables false
open Go.RowKit

set_option maxHeartbeats 400000 in
theorem mix_any (x : Int) (w : World) (h0 : 0 ≤ x) (h1 : x < 18446744073709551616) :
    Calls Try.prog 110 #[.int .u64 x] w fun e w' => e = .returned (.int .u64 (Bt.mix x)) ∧ w = w' := by
  have hm := Bt.mix_walk h0 h1
  have Hm := Lib.hid hm
  clear hm
  have i0 : ∀ w, (Instr.index 193 (.agg #[.int .u64 18397679294719823053, .int .u64 14181476777654086739]) (.int .i64 0)).run Try.prog w = .ok (.int .u64 18397679294719823053) w := fun _ => by kernel_rfl
  have i1 : ∀ w, (Instr.index 193 (.agg #[.int .u64 18397679294719823053, .int .u64 14181476777654086739]) (.int .i64 1)).run Try.prog w = .ok (.int .u64 14181476777654086739) w := fun _ => by kernel_rfl
  go_enter Try.func110, Try.ntmps110
  go_wp2
  refine wp_loop_rounds 3 ?_
  rw [rounds_succ]
  go_wp2
  rw [rounds_succ]
  go_wp2
  rw [rounds_succ]
  go_wp2
  go_ret
  exact ⟨congrArg (fun n => Ending.returned (.int .u64 n)) Hm.out, rfl⟩

set_option maxHeartbeats 400000 in
theorem node_any (l a b : Int) (w : World) (h0 : 0 ≤ l) (h1 : l < 256) (h2 : 0 ≤ a) (h3 : a < 4294967296) (h4 : 0 ≤ b) (h5 : b < 4294967296) :
    Calls Try.prog 100 #[.int .u8 l, .int .u32 a, .int .u32 b] w fun e w' => e = .returned (.int .u64 (Bt.node l a b)) ∧ w = w' := by
  have hm := Bt.node_walk h0 h1 h2 h3 h4 h5
  have Hm := Lib.hid hm
  clear hm
  go_enter Try.func100, Try.ntmps100
  go_wp2
  go_ret
  exact ⟨congrArg (fun n => Ending.returned (.int .u64 n)) Hm.out, rfl⟩

set_option maxHeartbeats 400000 in
theorem home_any (x n : Int) (w : World) (h0 : 0 ≤ x) (h1 : x < 18446744073709551616) (h2 : 1 ≤ n) (h3 : n < 9223372036854775808) :
    Calls Try.prog 101 #[.int .u64 x, .int .i64 n] w fun e w' => e = .returned (.int .i64 (Bt.mix x % n)) ∧ w = w' := by
  have hl := Bt.mix_lo x
  have hr0 : 0 ≤ Bt.mix x % n := Int.emod_nonneg _ (by omega)
  have hr1 : Bt.mix x % n < n := Int.emod_lt_of_pos _ (by omega)
  have H1 := Lib.hid h1
  clear h1
  go_enter Try.func101, Try.ntmps101
  go_wp2_with (go_at_call 110; refine (mix_any x w h0 H1.out).mono ?_; rintro e w' ⟨rfl, rfl⟩)
  go_ret
  exact ⟨rfl, rfl⟩
/-- where a key is looked for first -/
def Ut.home (x n : Nat) : Nat := (Bt.mix x).toNat % n
theorem Ut.home_lt {x n : Nat} (h : 0 < n) : Ut.home x n < n := Nat.mod_lt _ h
theorem home_nat (x n : Nat) (w : World) (h1 : x < 18446744073709551616) (h2 : 1 ≤ n) (h3 : n < 1000000) :
    Calls Try.prog 101 #[.int .u64 (x : Int), .int .i64 (n : Int)] w fun e w' => e = .returned (.int .i64 (Ut.home x n : Int)) ∧ w' = w := by
  refine (home_any x n w (by omega) (by omega) (by omega) (by omega)).mono ?_
  rintro e w' ⟨rfl, rfl⟩
  obtain ⟨m, hm⟩ := Int.eq_ofNat_of_zero_le (Bt.mix_lo x)
  refine ⟨?_, rfl⟩
  unfold Ut.home
  rw [hm, Int.toNat_natCast]
  rfl
/-- a node's key -/
def Ut.key (l a b : Nat) : Nat := l * 72057594037927936 + a * 268435456 + b
theorem Ut.key_lt {l a b : Nat} (hl : l < 256) (ha : a < 268435456) (hb : b < 268435456) : Ut.key l a b < 18446744073709551616 := by unfold Ut.key; omega
theorem Ut.key_inj {l a b l' a' b' : Nat} (ha : a < 268435456) (hb : b < 268435456) (ha' : a' < 268435456) (hb' : b' < 268435456) (h : Ut.key l a b = Ut.key l' a' b') : l = l' ∧ a = a' ∧ b = b' := by
  unfold Ut.key at h; omega
theorem Ut.key_pos {l a b : Nat} (h : a ≠ b) : Ut.key l a b ≠ 0 := by unfold Ut.key; omega
attribute [irreducible] Ut.home Ut.key
theorem key_any (l a b : Nat) (w : World) (hl : l < 256) (ha : a < 268435456) (hb : b < 268435456) :
    Calls Try.prog 88 #[.int .i64 (l : Int), .int .u32 (a : Int), .int .u32 (b : Int)] w fun e w' => e = .returned (.int .u64 (Ut.key l a b : Int)) ∧ w' = w := by
  have e : Bt.node l a b = (Ut.key l a b : Int) := by unfold Bt.node Ut.key; omega
  have hn := node_any l a b w (by omega) (by omega) (by omega) (by omega) (by omega) (by omega)
  rw [e] at hn
  have HN := Bx.mk hn
  clear hn e
  have q : (l : Int) < 256 := by omega
  have q0 : (0 : Int) ≤ (l : Int) := by omega
  have q1 : (l : Int) % 256 = (l : Int) := by omega
  have q2 : IntKind.u8.wrap (l : Int) = (l : Int) := by rw [IntKind.wrap_u8]; omega
  go_enter Try.func88, Try.ntmps88
  go_wp2_with fail
  refine (HN.out).mono ?_
  rintro e w' ⟨rfl, rfl⟩
  go_wp2_with fail
  go_ret
  exact ⟨rfl, rfl⟩
end Go.Proofs.Ythbifeoohphnpaa

/-
  Package utable: a finder, step by step.
-/
namespace Go.Proofs.Ythbifeoohphnpaa
set_option linter.unusedVariables false
open Go.RowKit
/-- a table's head -/
abbrev TabV (m n : Nat) : Array Value := #[.pointer (some ⟨m, 0, none⟩), .int .i64 0, .int .i64 (n : Int)]
/-- a finder's cells -/
abbrev FinV (t key at_ left : Nat) (nx : Value) (done : Bool) (slot e : Int) (made : Bool) : Array Value :=
  #[.pointer (some ⟨t, 0, none⟩), .int .u64 (key : Int), .int .i64 (at_ : Int), .int .i64 (left : Int), nx, .bool done, .int .i64 slot, .int .i64 e, .bool made]
abbrev fLooks (f : Nat) : Value := .func (.func 109) #[.pointer (some ⟨f, 0, none⟩)] #[]
abbrev fClaims (f : Nat) : Value := .func (.func 118) #[.pointer (some ⟨f, 0, none⟩)] #[]
theorem ends_any (f t key at_ left : Nat) (nx : Value) (done made : Bool) (s0 e0 slot e1 : Int) (w : World) (h : Blk w f 178 (FinV t key at_ left nx done s0 e0 made)) :
    Calls Try.prog 117 #[.pointer (some ⟨f, 0, none⟩), .int .i64 slot, .int .i64 e1] w fun e w' => e = .returned (.tuple #[]) ∧ Blk w' f 178 (FinV t key at_ left nx true slot e1 made) ∧ Fr [f] w w' := by
  obtain ⟨c0, c1, c2, c3, c4, c5, c6, c7, c8⟩ := cells9 h
  have z5 := h.frozen 5
  have z6 := h.frozen 6
  have z7 := h.frozen 7
  have h1 := ((h.set_ 5 (.bool true)).set_ 6 (.int .i64 slot)).set_ 7 (.int .i64 e1)
  have hf : Fr [f] w (((w.setCell ⟨f, 5, none⟩ (.bool true)).setCell ⟨f, 6, none⟩ (.int .i64 slot)).setCell ⟨f, 7, none⟩ (.int .i64 e1)) := (((Fr.refl _ _).setCell (fun _ => by simp) _).setCell (fun _ => by simp) _).setCell (fun _ => by simp) _
  clear h
  have H1 := Bx.mk h1
  clear h1
  go_enter Try.func117, Try.ntmps117
  go_wp2_with fail
  go_end0
  exact ⟨rfl, H1.out, hf⟩
/-- what a finder stands on -/
structure UtAt (w : World) (t m c : Nat) (xs : List Nat) : Prop where
  tab : Blk w t 152 (TabV m xs.length)
  mem : MemAt w m c xs
  ne : t ≠ m ∧ t ≠ c
  len : 0 < xs.length ∧ xs.length < 1000000
theorem UtAt.fr {w w' : World} {t m c : Nat} {xs S : List Nat} (h : UtAt w t m c xs) (hf : Fr S w w') (ht : t ∉ S) (hm : m ∉ S) (hc : c ∉ S) : UtAt w' t m c xs := ⟨h.tab.fr hf ht, h.mem.fr hf hm hc, h.ne, h.len⟩
theorem UtAt.drew {w : World} {t m c : Nat} {xs : List Nat} (h : UtAt w t m c xs) : UtAt w.drew t m c xs := ⟨h.tab.drew, h.mem.drew, h.ne, h.len⟩
set_option maxRecDepth 100000 in
set_option maxHeartbeats 1000000 in
/-- it looks at its slot: the key is there -/
theorem looks_hit (f t m c key at_ left : Nat) (nx : Value) (s0 e0 : Int) (made : Bool) (xs : List Nat) (w : World) (h : Blk w f 178 (FinV t key at_ left nx false s0 e0 made)) (hu : UtAt w t m c xs) (hf : f ≠ t ∧ f ≠ m ∧ f ≠ c) (hx : xs[at_]? = some key) :
    Calls Try.prog 109 #[.pointer (some ⟨f, 0, none⟩)] w fun e w' => e = .returned (.tuple #[]) ∧ Blk w' f 178 (FinV t key at_ left nx true (at_ : Int) 0 made) ∧ UtAt w' t m c xs ∧ Fr [f, m] w w' := by
  obtain ⟨c0, c1, c2, c3, c4, c5, c6, c7, c8⟩ := cells9 h
  obtain ⟨t0, t1, t2⟩ := cells3 hu.tab
  have hat : at_ < xs.length := (List.getElem?_eq_some_iff.1 hx).1
  have hl := hu.len.2
  have q0 : (0 : Int) ≤ (at_ : Int) := by omega
  have q1 : (at_ : Int) < 1000000 := by omega
  go_enter Try.func109, Try.ntmps109
  go_wp2_with fail
  go_still_tail 19, (by kernel_rfl)
  go_wp2_with fail
  refine (mem_load_any m c at_ key xs _ hu.drew.mem hx).mono ?_
  rintro e w1 ⟨rfl, hm1, hf1⟩
  have hfw : Fr [m] w w1 := (Fr.refl [m] w).drew.trans hf1 (fun b hb _ => hb)
  have h1 := h.fr hfw (by simp; omega)
  have hu1 := hu.fr hfw
  clear c0 c1 c2 c3 c4 c5 c6 c7 c8 t0 t1 t2 hf1
  obtain ⟨c0, c1, c2, c3, c4, c5, c6, c7, c8⟩ := cells9 h1
  have hu2 : UtAt w1 t m c xs := ⟨hu.tab.fr hfw (by simp; exact hu.ne.1), hm1, hu.ne, hu.len⟩
  clear hu1
  go_wp2_with fail
  refine (ends_any f t key at_ left nx false made s0 e0 (at_ : Int) 0 _ h1).mono ?_
  rintro e w2 ⟨rfl, h2, hf2⟩
  go_wp2_with fail
  go_end0
  exact ⟨rfl, h2, hu2.fr hf2 (by simp; omega) (by simp; omega) (by simp; omega), (hfw.mono (S' := [f, m]) (by simp)).trans hf2 (by simp)⟩
set_option maxRecDepth 100000 in
set_option maxHeartbeats 1000000 in
/-- .. its slot is empty -/
theorem looks_empty (f t m c key at_ left : Nat) (nx : Value) (s0 e0 : Int) (made : Bool) (xs : List Nat) (w : World) (h : Blk w f 178 (FinV t key at_ left nx false s0 e0 made)) (hu : UtAt w t m c xs) (hf : f ≠ t ∧ f ≠ m ∧ f ≠ c) (hx : xs[at_]? = some 0) (hk : key ≠ 0) :
    Calls Try.prog 109 #[.pointer (some ⟨f, 0, none⟩)] w fun e w' => e = .returned (.tuple #[]) ∧ Blk w' f 178 (FinV t key at_ left (fClaims f) false s0 e0 made) ∧ UtAt w' t m c xs ∧ Fr [f, m] w w' := by
  obtain ⟨c0, c1, c2, c3, c4, c5, c6, c7, c8⟩ := cells9 h
  obtain ⟨t0, t1, t2⟩ := cells3 hu.tab
  have hat : at_ < xs.length := (List.getElem?_eq_some_iff.1 hx).1
  have hl := hu.len.2
  have q0 : (0 : Int) ≤ (at_ : Int) := by omega
  have q1 : (at_ : Int) < 1000000 := by omega
  go_enter Try.func109, Try.ntmps109
  go_wp2_with fail
  go_still_tail 19, (by kernel_rfl)
  go_wp2_with fail
  refine (mem_load_any m c at_ 0 xs _ hu.drew.mem hx).mono ?_
  rintro e w1 ⟨rfl, hm1, hf1⟩
  have hfw : Fr [m] w w1 := (Fr.refl [m] w).drew.trans hf1 (fun b hb _ => hb)
  have h1 := h.fr hfw (by simp; omega)
  have hu1 := hu.fr hfw
  clear c0 c1 c2 c3 c4 c5 c6 c7 c8 t0 t1 t2 hf1
  obtain ⟨c0, c1, c2, c3, c4, c5, c6, c7, c8⟩ := cells9 h1
  have hu2 : UtAt w1 t m c xs := ⟨hu.tab.fr hfw (by simp; exact hu.ne.1), hm1, hu.ne, hu.len⟩
  have hk0 : ((0 : Int) == (key : Int)) = false := by rw [beq_eq_false_iff_ne]; omega
  have hk1 : ((key : Int) == 0) = false := by rw [beq_eq_false_iff_ne]; omega
  have h2 := h1.set_ 4 (fClaims f)
  have hf2 : Fr [f] w1 (w1.setCell ⟨f, 4, none⟩ (fClaims f)) := (Fr.refl _ _).setCell (fun _ => by simp) _
  have z4 := h1.frozen 4
  have H2 := Bx.mk h2
  clear hu1 h2
  go_wp2_with fail
  go_end0
  exact ⟨rfl, H2.out, hu2.fr hf2 (by simp; omega) (by simp; omega) (by simp; omega), (hfw.mono (S' := [f, m]) (by simp)).trans hf2 (by simp)⟩
set_option maxRecDepth 100000 in
set_option maxHeartbeats 1000000 in
/-- it goes on to the next slot -/
theorem goes_any (f t m n key at_ left : Nat) (nx : Value) (s0 e0 : Int) (made : Bool) (w : World) (h : Blk w f 178 (FinV t key at_ left nx false s0 e0 made)) (ht : Blk w t 152 (TabV m n)) (hf : f ≠ t) (hat : at_ < n) (hleft : 2 ≤ left) (hl2 : left ≤ n) (hn : n < 1000000) :
    Calls Try.prog 119 #[.pointer (some ⟨f, 0, none⟩)] w fun e w' => e = .returned (.tuple #[]) ∧ Blk w' f 178 (FinV t key ((at_ + 1) % n) (left - 1) nx false s0 e0 made) ∧ Fr [f] w w' := by
  obtain ⟨c0, c1, c2, c3, c4, c5, c6, c7, c8⟩ := cells9 h
  obtain ⟨t0, t1, t2⟩ := cells3 ht
  have z2 := h.frozen 2
  have z3 := h.frozen 3
  have h1 := ((h.set_ 2 (.int .i64 (((at_ + 1) % n : Nat) : Int))).set_ 3 (.int .i64 ((left - 1 : Nat) : Int))).drew
  have hf1 : Fr [f] w (((w.setCell ⟨f, 2, none⟩ (.int .i64 (((at_ + 1) % n : Nat) : Int))).setCell ⟨f, 3, none⟩ (.int .i64 ((left - 1 : Nat) : Int))).drew) := (((Fr.refl _ _).setCell (fun _ => by simp) _).setCell (fun _ => by simp) _).drew
  have q0 : (0 : Int) ≤ (at_ : Int) := by omega
  have q1 : (at_ : Int) < 1000000 := by omega
  have q2 : ¬ (n : Int) = 0 := by omega
  have q2' : ¬ n = 0 := by omega
  have q3 : (0 : Int) ≤ (at_ : Int) + 1 := by omega
  have q4 : (1 : Int) ≤ (n : Int) := by omega
  have q5 : (n : Int) < 1000000 := by omega
  have q6 : (left : Int) ≤ (n : Int) := by omega
  have q7 : (2 : Int) ≤ (left : Int) := by omega
  have e1 : ((at_ : Int) + 1).tmod (n : Int) = (((at_ + 1) % n : Nat) : Int) := Int.tmod_eq_emod_of_nonneg (by omega)
  have e2 : (left : Int) - 1 = ((left - 1 : Nat) : Int) := by omega
  have e3 : ((left : Int) - 1 == 0) = false := by rw [beq_eq_false_iff_ne]; omega
  generalize hr : (at_ + 1) % n = r at *
  have HR := Bx.mk hr
  clear hr
  have H1 := Bx.mk h1
  have HF1 := Bx.mk hf1
  have E2 := Bx.mk e2
  clear h1 e2 hf1
  go_enter Try.func119, Try.ntmps119
  go_wp2_with fail
  have hwi : IntKind.i64.wrap ((at_ : Int) + 1) = (at_ : Int) + 1 := wi64 (by omega) (by omega)
  go_still_tail 16, (by kernel_rfl)
  clear hwi e1
  go_wp2_with fail
  go_end0
  rw [E2.out]
  exact ⟨rfl, H1.out, HF1.out⟩
set_option maxRecDepth 100000 in
set_option maxHeartbeats 1000000 in
/-- .. its slot holds another key -/
theorem looks_other (f t m c key at_ left x : Nat) (nx : Value) (s0 e0 : Int) (made : Bool) (xs : List Nat) (w : World) (h : Blk w f 178 (FinV t key at_ left nx false s0 e0 made)) (hu : UtAt w t m c xs) (hf : f ≠ t ∧ f ≠ m ∧ f ≠ c) (hx : xs[at_]? = some x) (hxk : x ≠ key) (hx0 : x ≠ 0) (hleft : 2 ≤ left) (hl2 : left ≤ xs.length) :
    Calls Try.prog 109 #[.pointer (some ⟨f, 0, none⟩)] w fun e w' => e = .returned (.tuple #[]) ∧ Blk w' f 178 (FinV t key ((at_ + 1) % xs.length) (left - 1) nx false s0 e0 made) ∧ UtAt w' t m c xs ∧ Fr [f, m] w w' := by
  obtain ⟨c0, c1, c2, c3, c4, c5, c6, c7, c8⟩ := cells9 h
  obtain ⟨t0, t1, t2⟩ := cells3 hu.tab
  have hat : at_ < xs.length := (List.getElem?_eq_some_iff.1 hx).1
  have hl := hu.len.2
  have q0 : (0 : Int) ≤ (at_ : Int) := by omega
  have q1 : (at_ : Int) < 1000000 := by omega
  go_enter Try.func109, Try.ntmps109
  go_wp2_with fail
  go_still_tail 19, (by kernel_rfl)
  go_wp2_with fail
  refine (mem_load_any m c at_ x xs _ hu.drew.mem hx).mono ?_
  rintro e w1 ⟨rfl, hm1, hf1⟩
  have hfw : Fr [m] w w1 := (Fr.refl [m] w).drew.trans hf1 (fun b hb _ => hb)
  have h1 := h.fr hfw (by simp; omega)
  have hu2 : UtAt w1 t m c xs := ⟨hu.tab.fr hfw (by simp; exact hu.ne.1), hm1, hu.ne, hu.len⟩
  clear c0 c1 c2 c3 c4 c5 c6 c7 c8 t0 t1 t2 hf1
  obtain ⟨c0, c1, c2, c3, c4, c5, c6, c7, c8⟩ := cells9 h1
  have k0 : ((x : Int) == (key : Int)) = false := by rw [beq_eq_false_iff_ne]; omega
  have k1 : ((x : Int) == 0) = false := by rw [beq_eq_false_iff_ne]; omega
  go_wp2_with fail
  refine (goes_any f t m xs.length key at_ left nx s0 e0 made _ h1 hu2.tab hf.1 hat hleft hl2 hl).mono ?_
  rintro e w2 ⟨rfl, h2, hf2⟩
  go_wp2_with fail
  go_end0
  exact ⟨rfl, h2, hu2.fr hf2 (by simp; omega) (by simp; omega) (by simp; omega), (hfw.mono (S' := [f, m]) (by simp)).trans hf2 (by simp)⟩
set_option maxRecDepth 100000 in
set_option maxHeartbeats 1000000 in
/-- it lays its key into its slot, which is empty -/
theorem claims_any (f t m c key at_ left : Nat) (nx : Value) (s0 e0 : Int) (made : Bool) (xs : List Nat) (w : World) (h : Blk w f 178 (FinV t key at_ left nx false s0 e0 made)) (hu : UtAt w t m c xs) (hf : f ≠ t ∧ f ≠ m ∧ f ≠ c) (hx : xs[at_]? = some 0) :
    Calls Try.prog 118 #[.pointer (some ⟨f, 0, none⟩)] w fun e w' => e = .returned (.tuple #[]) ∧ Blk w' f 178 (FinV t key at_ left (fLooks f) true (at_ : Int) 0 true) ∧ UtAt w' t m c (xs.set at_ key) ∧ Fr [f, m, c] w w' := by
  have h0 : Blk (w.setCell ⟨f, 4, none⟩ (fLooks f)) f 178 (FinV t key at_ left (fLooks f) false s0 e0 made) := h.set_same 4 _ rfl
  have hf0 : Fr [f] w (w.setCell ⟨f, 4, none⟩ (fLooks f)) := (Fr.refl _ _).setCell (fun _ => by simp) _
  have hu0 := hu.fr hf0 (by simp; omega) (by simp; omega) (by simp; omega)
  obtain ⟨c0, c1, c2, c3, c4, c5, c6, c7, c8⟩ := cells9 h
  have z4 := h.frozen 4
  have hat : at_ < xs.length := (List.getElem?_eq_some_iff.1 hx).1
  have hl := hu.len.2
  have q0 : (0 : Int) ≤ (at_ : Int) := by omega
  have q1 : (at_ : Int) < 1000000 := by omega
  obtain ⟨t0, t1, t2⟩ := cells3 hu.tab
  have hft := hf.1
  go_enter Try.func118, Try.ntmps118
  go_wp2_with fail
  generalize w.setCell ⟨f, 4, none⟩ (fLooks f) = u0 at *
  clear c0 c1 c2 c3 c4 c5 c6 c7 c8 t0 t1 t2 z4
  obtain ⟨c0, c1, c2, c3, c4, c5, c6, c7, c8⟩ := cells9 h0
  obtain ⟨t0, t1, t2⟩ := cells3 hu0.tab
  go_still_tail 23, (by kernel_rfl)
  go_wp2_with fail
  refine (mem_cas_any m c at_ 0 xs key _ hu0.drew.mem hx).mono ?_
  rintro e w1 ⟨rfl, hm1, hf1⟩
  have hfw : Fr [m, c] u0 w1 := (Fr.refl [m, c] u0).drew.trans hf1 (fun b hb _ => hb)
  have h1 := h0.fr hfw (by simp; omega)
  have hu2 : UtAt w1 t m c (xs.set at_ key) := ⟨by rw [List.length_set]; exact hu0.tab.fr hfw (by simp; exact ⟨hu.ne.1, hu.ne.2⟩), hm1, hu.ne, by rw [List.length_set]; exact hu.len⟩
  clear c0 c1 c2 c3 c4 c5 c6 c7 c8 t0 t1 t2 hf1
  obtain ⟨c0, c1, c2, c3, c4, c5, c6, c7, c8⟩ := cells9 h1
  have z8 := h1.frozen 8
  have h2 : Blk (w1.setCell ⟨f, 8, none⟩ (.bool true)) f 178 (FinV t key at_ left (fLooks f) false s0 e0 true) := h1.set_same 8 _ rfl
  have hf2 : Fr [f] w1 (w1.setCell ⟨f, 8, none⟩ (.bool true)) := (Fr.refl _ _).setCell (fun _ => by simp) _
  go_wp2_with fail
  refine (ends_any f t key at_ left (fLooks f) false true s0 e0 (at_ : Int) 0 _ h2).mono ?_
  rintro e w3 ⟨rfl, h3, hf3⟩
  go_wp2_with fail
  go_end0
  exact ⟨rfl, h3, (hu2.fr hf2 (by simp; omega) (by simp; omega) (by simp; omega)).fr hf3 (by simp; omega) (by simp; omega) (by simp; omega), (((hf0.mono (S' := [f, m, c]) (by simp)).trans hfw (by simp)).trans hf2 (by simp)).trans hf3 (by simp)⟩
end Go.Proofs.Ythbifeoohphnpaa

/-
  A region whose order is open, walked in ONE order: what yields the same in every world that keeps a condition is taken as soon as it may come up,
  the other operations wait for one another. Behind the last operation, for which all others are waited, the condition is not asked (it may write what the others read).
-/
namespace Go.Proofs.Ythbifeoohphnpaa
set_option linter.unusedVariables false
open Go
section
variable {P : Program} {ops : Array Oper} {Q : Exit → Act → World → Prop} {md : Region.Mode} {S : World → Prop} {x : Nat}

/-- whatever is picked; S holds behind each operation but x -/
def AnyE (P : Program) (md : Region.Mode) (ops : Array Oper) (Q : Exit → Act → World → Prop) (S : World → Prop) (x : Nat) : Nat → Array Bool → Act → World → Prop
  | 0, listed, a, w => Region.ready md ops listed = [] ∧ Q .normal a w
  | n + 1, listed, a, w => (Region.ready md ops listed = [] → Q .normal a w) ∧
      ∀ i ∈ Region.ready md ops listed, wpOp P ops Q i (fun a' w' => (i ≠ x → S w') ∧ AnyE P md ops Q S x n (listed.setIfInBounds i true) a' w') a w

theorem AnyE.any : ∀ (n : Nat) (listed : Array Bool) (a : Act) (w : World), AnyE P md ops Q S x n listed a w → wpAny P md ops Q n listed a w
  | 0, _, _, _, h => h
  | n + 1, _, _, _, h => ⟨h.1, fun i hi => wpOp_mono (fun a' w' h' => AnyE.any n _ a' w' h'.2) (h.2 i hi)⟩

theorem not_listed {listed : Array Bool} {i : Nat} (h : listed.getD i true = false) : listed.getD i false = false := by
  rcases Nat.lt_or_ge i listed.size with h' | h'
  · simp [h'] at h ⊢; exact h
  · simp [Array.getElem?_eq_none h'] at h

/-- x waits for every other operation -/
def lastB (md : Region.Mode) (ops : Array Oper) (x : Nat) : Bool :=
  match ops[x]? with
  | some o => (List.range ops.size).all fun i => i == x || o.after.any fun e => Region.binds md e && e.on == i
  | none => true

theorem lastB_spec (h : lastB md ops x = true) {ox : Oper} (hx : ops[x]? = some ox) {i : Nat} (hi : i < ops.size) (hne : i ≠ x) : ∃ e ∈ ox.after, Region.binds md e = true ∧ e.on = i := by
  unfold lastB at h
  rw [hx] at h
  have := List.all_eq_true.1 h i (List.mem_range.2 hi)
  simp only [Bool.or_eq_true, beq_iff_eq] at this
  rcases this with this | this
  · exact absurd this hne
  · obtain ⟨e, he, hb⟩ := Array.any_eq_true'.1 this
    simp only [Bool.and_eq_true, beq_iff_eq] at hb
    exact ⟨e, he, hb.1, hb.2⟩

/-- what yields in every world of S may be taken first -/
theorem AnyE.first {i : Nat} {oi : Oper} {v : Value} (hi : ops[i]? = some oi) (hs : Region.noSelect ops = true) (hlast : lastB md ops x = true) (hQ : ∀ c a w, Q (.panic c) (a.put oi.dst v) w → Q (.panic c) a w) :
    ∀ (n : Nat) (listed : Array Bool) (a : Act) (w : World),
      (∀ j oj, ops[j]? = some oj → j ≠ i → listed.getD j true = false → (∀ e ∈ oj.after, Region.binds md e = true → e.on ≠ i) → oi.apart ops oj = true) →
      i ∈ Region.ready md ops listed → YieldsIf P ops S oi v a → S w →
      AnyE P md ops Q S x n (listed.setIfInBounds i true) (a.put oi.dst v) w → AnyE P md ops Q S x (n + 1) listed a w := by
  have hsel := Region.noSelect_spec hs
  intro n
  induction n with
  | zero =>
    intro listed a w _ hr hy hS H
    refine ⟨fun h => (by rw [h] at hr; cases hr), fun j hj => ?_⟩
    by_cases hji : j = i
    · subst hji; exact hy.wpOp hi hS ⟨fun _ => hS, H⟩
    · have h1 := ready_mono hj hji
      rw [H.1] at h1
      cases h1
  | succ n ih =>
    intro listed a w hfree hr hy hS H
    refine ⟨fun h => (by rw [h] at hr; cases hr), fun j hj => ?_⟩
    by_cases hji : j = i
    · subst hji; exact hy.wpOp hi hS ⟨fun _ => hS, H⟩
    · obtain ⟨hjun, oj, hoj, hall⟩ := mem_ready.1 hj
      have hnot : ∀ e ∈ oj.after, Region.binds md e = true → e.on ≠ i := fun e he hb heq => by
        have h1 := hall e he hb
        rw [heq, not_listed (mem_ready.1 hr).1] at h1
        cases h1
      have hjx : j ≠ x := fun hx => by
        subst hx
        obtain ⟨e, he, hb, hon⟩ := lastB_spec hlast hoj (Array.getElem?_eq_some_iff.1 hi).1 (Ne.symm hji)
        exact hnot e he hb hon
      have hri : i ∈ Region.ready md ops (listed.setIfInBounds j true) := ready_mono hr (Ne.symm hji)
      have h2 := wpOp_putIf hoj (hfree j oj hoj hji hjun hnot) (fun cs b => hsel i oi cs b hi) (fun cs b => hsel j oj cs b hoj) hQ hy (H.2 j (ready_mono hj hji))
      refine wpOp_mono (fun a' w' h3 => ?_) h2
      obtain ⟨hy', hS', hrest⟩ := h3
      rw [Array.setIfInBounds_comm _ _ (Ne.symm hji)] at hrest
      refine ⟨hS', ih _ a' w' (fun k ok hk hki hun hno => ?_) hri hy' (hS' hjx) hrest⟩
      refine hfree k ok hk hki ?_ hno
      by_cases hjk : j = k
      · subst hjk; exact hjun
      · rw [getD_set_ne true hjk] at hun; exact hun

/-- an order to walk in: (operation's number, does it yield?) -/
def okL (md : Region.Mode) (ops : Array Oper) : List (Nat × Bool) → Array Bool → Bool
  | [], listed => (Region.ready md ops listed).isEmpty
  | (i, true) :: r, listed => (Region.ready md ops listed).contains i && Region.free md ops listed i && okL md ops r (listed.setIfInBounds i true)
  | (i, false) :: r, listed => (Region.ready md ops listed == [i]) && okL md ops r (listed.setIfInBounds i true)

/-- the walk in that order -/
def wpG (P : Program) (ops : Array Oper) (Q : Exit → Act → World → Prop) (S : World → Prop) (x : Nat) : List (Nat × Bool) → Act → World → Prop
  | [], a, w => Q .normal a w
  | (i, true) :: r, a, w => ∃ o v, ops[i]? = some o ∧ YieldsIf P ops S o v a ∧ wpG P ops Q S x r (a.put o.dst v) w
  | (i, false) :: r, a, w => wpOp P ops Q i (fun a' w' => (r ≠ [] ∨ i ≠ x → S w') ∧ wpG P ops Q S x r a' w') a w

theorem AnyE.of_order (hs : Region.noSelect ops = true) (hlast : lastB md ops x = true) (hQ : ∀ c a d v w, Q (.panic c) (Act.put a d v) w → Q (.panic c) a w) :
    ∀ (L : List (Nat × Bool)) (listed : Array Bool) (a : Act) (w : World), okL md ops L listed = true →
      (L ≠ [] → S w) → wpG P ops Q S x L a w → AnyE P md ops Q S x L.length listed a w := by
  intro L
  induction L with
  | nil =>
    intro listed a w hok _ h
    exact ⟨by simpa [okL] using hok, h⟩
  | cons p L ih =>
    intro listed a w hok hS h
    obtain ⟨i, b⟩ := p
    cases b with
    | true =>
      simp only [okL, Bool.and_eq_true, List.contains_iff_mem] at hok
      obtain ⟨⟨hr, hf⟩, hok'⟩ := hok
      obtain ⟨o, v, ho, hy, hrest⟩ := h
      exact AnyE.first ho hs hlast (fun c a w => hQ c a _ _ w) L.length listed a w (Region.free_spec ho hf) hr hy (hS (by simp)) (ih _ _ w hok' (fun _ => hS (by simp)) hrest)
    | false =>
      simp only [okL, Bool.and_eq_true, beq_iff_eq] at hok
      obtain ⟨hr, hok'⟩ := hok
      refine ⟨fun h0 => (by rw [hr] at h0; cases h0), fun j hj => ?_⟩
      rw [hr] at hj
      obtain rfl : j = i := by simpa using hj
      exact wpOp_mono (fun a' w' h' => ⟨fun hx => h'.1 (.inr hx), ih _ a' w' hok' (fun hL => h'.1 (.inl hL)) h'.2⟩) h

def orderOk (ops : Array Oper) (L : List (Nat × Bool)) (x : Nat) : Bool :=
  Region.noSelect ops && lastB .any ops x && okL .any ops L (Array.replicate ops.size false) && (L.length == ops.size)

/-- THE REGION, walked in the order L. -/
theorem region_order {id : Nat} {a : Act} {w : World} (L : List (Nat × Bool)) (x : Nat) (S : World → Prop) (hm : P.follows .mixedOrders = true)
    (hok : orderOk ops L x = true) (hQ : ∀ c a d v w, Q (.panic c) (Act.put a d v) w → Q (.panic c) a w)
    (hS : S w.drew) (h : wpG P ops Q S x L a w.drew) : (Code.region id ops true).wp P Q a w := by
  simp only [orderOk, Bool.and_eq_true, beq_iff_eq] at hok
  obtain ⟨⟨⟨h1, h2⟩, h3⟩, h4⟩ := hok
  refine wp_region_any hm ?_
  have key := AnyE.any _ _ _ _ (AnyE.of_order (S := S) (x := x) h1 h2 hQ L _ _ _ h3 (fun _ => hS) h)
  rw [h4] at key
  exact key

variable {a : Act} {w : World} {r : List (Nat × Bool)} {i : Nat} {o : Oper} {v : Value}
theorem wpG_nil (h : Q .normal a w) : wpG P ops Q S x [] a w := h
theorem wpG_take (ho : ops[i]? = some o) (hw : Region.wanted o (yielded ops a.tmps) = true) (hv : ∀ w, S w → (execOp a.eval o).run P w = .ok (.value v) w)
    (h : wpG P ops Q S x r (a.put o.dst v) w) : wpG P ops Q S x ((i, true) :: r) a w := ⟨o, v, ho, .inl ⟨hw, hv⟩, h⟩
theorem wpG_skip (ho : ops[i]? = some o) (hw : Region.wanted o (yielded ops a.tmps) = false)
    (h : wpG P ops Q S x r (a.put o.dst undef) w) : wpG P ops Q S x ((i, true) :: r) a w := ⟨o, undef, ho, .inr ⟨hw, rfl⟩, h⟩
/-- an operation that may change the world: S behind it -/
theorem wpG_op (ho : ops[i]? = some o) (hw : Region.wanted o (yielded ops a.tmps) = true)
    (h : ∀ K : Act → World → Prop, (∀ a w, S w → (S w → wpG P ops Q S x r a w) → K a w) → o.wp P a w K Q) : wpG P ops Q S x ((i, false) :: r) a w := by
  show wpOp P ops Q i _ a w
  unfold wpOp
  simp only [ho, hw, if_true]
  exact .inl (h _ fun a w h1 h2 => ⟨fun _ => h1, h2 h1⟩)
/-- the last one, for which all others are waited: S is not asked -/
theorem wpG_last (ho : ops[i]? = some o) (hw : Region.wanted o (yielded ops a.tmps) = true)
    (h : ∀ K : Act → World → Prop, (∀ a w, Q .normal a w → K a w) → o.wp P a w K Q) : wpG P ops Q S i [(i, false)] a w := by
  show wpOp P ops Q i _ a w
  unfold wpOp
  simp only [ho, hw, if_true]
  exact .inl (h _ fun a w h1 => ⟨fun h => (by rcases h with h | h <;> exact absurd rfl h), h1⟩)
/-- an operation whose guard says no -/
theorem wpG_noop (ho : ops[i]? = some o) (hw : Region.wanted o (yielded ops a.tmps) = false) (h1 : S w)
    (h : wpG P ops Q S x r (a.put o.dst undef) w) : wpG P ops Q S x ((i, false) :: r) a w := by
  show wpOp P ops Q i _ a w
  unfold wpOp
  simp only [ho, hw, Bool.false_eq_true, if_false]
  exact ⟨fun _ => h1, h⟩
end
end Go.Proofs.Ythbifeoohphnpaa

/-
  Regions whose order is open, walked in every order: the quiet operations first, then each order of the rest.
-/
namespace Go.Proofs.Ythbifeoohphnpaa
set_option linter.unusedVariables false
open Go.RowKit
section
variable {P : Program} {ops : Array Oper} {Q : Exit → Act → World → Prop} {S : World → Prop} {x n i : Nat} {listed : Array Bool} {a : Act} {w : World} {o : Oper}
theorem any_take (v : Value) (ho : ops[i]? = some o) (hw : Region.wanted o (yielded ops a.tmps) = true) (hs : Region.noSelect ops = true) (hlast : lastB .any ops x = true) (hfree : Region.free .any ops listed i = true)
    (hr : (Region.ready .any ops listed).contains i = true) (hQ : ∀ c a d v w, Q (.panic c) (Act.put a d v) w → Q (.panic c) a w) (hv : ∀ w, S w → (execOp a.eval o).run P w = .ok (.value v) w) (hS : S w)
    (h : AnyE P .any ops Q S x n (listed.setIfInBounds i true) (a.put o.dst v) w) : AnyE P .any ops Q S x (n + 1) listed a w :=
  AnyE.first ho hs hlast (fun c a w => hQ c a _ _ w) n listed a w (Region.free_spec ho hfree) (List.contains_iff_mem.1 hr) (.inl ⟨hw, hv⟩) hS h
theorem any_branch (L : List Nat) (hr : (Region.ready .any ops listed == L) = true) (hne : L.isEmpty = false) (h : ∀ i ∈ L, wpOp P ops Q i (fun a' w' => (i ≠ x → S w') ∧ AnyE P .any ops Q S x n (listed.setIfInBounds i true) a' w') a w) :
    AnyE P .any ops Q S x (n + 1) listed a w := by
  have e : Region.ready .any ops listed = L := by simpa using hr
  subst e
  exact ⟨fun h0 => by rw [h0] at hne; simp at hne, h⟩
theorem any_op (ho : ops[i]? = some o) (hw : Region.wanted o (yielded ops a.tmps) = true)
    (h : ∀ K : Act → World → Prop, (∀ a' w', (i ≠ x → S w') → AnyE P .any ops Q S x n (listed.setIfInBounds i true) a' w' → K a' w') → o.wp P a w K Q) : wpOp P ops Q i (fun a' w' => (i ≠ x → S w') ∧ AnyE P .any ops Q S x n (listed.setIfInBounds i true) a' w') a w := by
  unfold wpOp
  simp only [ho, hw, if_true]
  exact .inl (h _ fun a w h1 h2 => ⟨h1, h2⟩)
theorem any_end (hr : (Region.ready .any ops listed).isEmpty = true) (h : Q .normal a w) : AnyE P .any ops Q S x 0 listed a w := ⟨by simpa using hr, h⟩
theorem region_any {id : Nat} (x : Nat) (S : World → Prop) (hm : P.follows .mixedOrders = true) (h : AnyE P .any ops Q S x ops.size (Array.replicate ops.size false) a w.drew) : (Code.region id ops true).wp P Q a w :=
  wp_region_any hm (AnyE.any _ _ _ _ h)
end
end Go.Proofs.Ythbifeoohphnpaa

/-
  Package utable: a finder driven to its end.
-/
namespace Go.Proofs.Ythbifeoohphnpaa
set_option linter.unusedVariables false
open Go.RowKit
set_option maxRecDepth 100000 in
set_option maxHeartbeats 1000000 in
/-- a table's finder is made -/
theorem find_any (t m n key : Nat) (w : World) (ht : Blk w t 152 (TabV m n)) (hk : key ≠ 0) (hk2 : key < 18446744073709551616) (hn : 0 < n) (hn2 : n < 1000000) :
    Calls Try.prog 96 #[.pointer (some ⟨t, 0, none⟩), .int .u64 (key : Int)] w fun e w' => e = .returned (.pointer (some ⟨w.heap.size, 0, none⟩)) ∧
      Blk w' w.heap.size 178 (FinV t key (Ut.home key n) n (fLooks w.heap.size) false (-1) 61 false) ∧ Fr [] w w' ∧ w.heap.size < w'.heap.size := by
  obtain ⟨t0, t1, t2⟩ := cells3 ht
  have hk0 : ((key : Int) == 0) = false := by rw [beq_eq_false_iff_ne]; omega
  have HH := Bx.mk fun u => home_nat key n u hk2 hn hn2
  clear hk2
  go_enter Try.func96, Try.ntmps96
  go_wp2_with fail
  refine wp_region_still_tail 15 (by kernel_rfl) (by kernel_rfl) ?_
  simp only [List.take_succ_cons, List.take_zero, List.drop_succ_cons, List.drop_zero]
  repeat still_step
  still_call (HH.out _)
  repeat still_step
  refine wpStill_nil ?_
  go_wp2_with fail
  go_ret
  exact ⟨rfl, (Blk.new w _ _).drew, ((Fr.refl _ _).alloc _).drew, by simp⟩
set_option maxRecDepth 100000 in
set_option maxHeartbeats 1000000 in
/-- one step of a finder, whatever it does next -/
theorem step_any (f t key at_ left k : Nat) (made : Bool) (s0 e0 : Int) (w : World) (h : Blk w f 178 (FinV t key at_ left (.func (.func k) #[.pointer (some ⟨f, 0, none⟩)] #[]) false s0 e0 made)) (R : World → Prop) (d : Bool) (hcf : ∀ args w, (callFunc k args).run Try.prog w = .ok (.enter k args) w)
    (hc : Calls Try.prog k #[.pointer (some ⟨f, 0, none⟩)] w fun e w' => e = .returned (.tuple #[]) ∧ R w') (hR : ∀ w', R w' → w'.cell? ⟨f, 5, none⟩ = some (.bool d)) :
    Calls Try.prog 97 #[.pointer (some ⟨f, 0, none⟩)] w fun e w' => e = .returned (.bool d) ∧ R w' := by
  obtain ⟨c0, c1, c2, c3, c4, c5, c6, c7, c8⟩ := cells9 h
  have HC := Bx.mk hc
  have HR := Bx.mk hR
  clear hc hR
  go_enter Try.func97, Try.ntmps97
  go_wp2_with fail
  refine HC.out.mono ?_
  rintro e w1 ⟨rfl, hr⟩
  have g5 := HR.out _ hr
  have HRW := Bx.mk hr
  clear c0 c1 c2 c3 c4 c5 c6 c7 c8 hr
  go_wp2_with fail
  go_ret
  exact ⟨rfl, HRW.out⟩
section
variable {a : Act} {u : World} {o : Oper} {x y : Operand}
theorem exec_ld_I {p off : Nat} {v : Value} (hop : o.op = .load 3 x) (hx : a.eval x = .pointer (some ⟨p, off, none⟩)) (hc : u.cell? ⟨p, off, none⟩ = some v) :
    (execOp a.eval o).run Try.prog u = .ok (.value v) u := by
  unfold execOp
  simp only [hop, hx]
  go_simp
theorem exec_ld_E {p off : Nat} {v : Value} (hop : o.op = .load 27 x) (hx : a.eval x = .pointer (some ⟨p, off, none⟩)) (hc : u.cell? ⟨p, off, none⟩ = some v) :
    (execOp a.eval o).run Try.prog u = .ok (.value v) u := by
  unfold execOp
  simp only [hop, hx]
  go_simp
end
set_option maxRecDepth 100000 in
set_option maxHeartbeats 1000000 in
theorem slot_any (f t key at_ left : Nat) (nx : Value) (done made : Bool) (s0 e0 : Int) (w : World) (h : Blk w f 178 (FinV t key at_ left nx done s0 e0 made)) :
    Calls Try.prog 98 #[.pointer (some ⟨f, 0, none⟩)] w fun e w' => e = .returned (.tuple #[.int .i64 s0, .int .i64 e0]) ∧ ∃ n, w' = w.drewN n := by
  obtain ⟨c0, c1, c2, c3, c4, c5, c6, c7, c8⟩ := cells9 h
  go_enter Try.func98, Try.ntmps98
  go_wp2_with fail
-- ⟦SLOT
  refine region_any 100 (fun u => Blk u f 178 (FinV t key at_ left nx done s0 e0 made)) (by kernel_rfl) ?_
  generalize hu : World.drew _ = u0
  have hS0 : Blk u0 f 178 (FinV t key at_ left nx done s0 e0 made) := by rw [← hu]; exact h.drew
  refine any_take (i := 0) (.pointer (some ⟨f, 0, none⟩)) rfl rfl (by kernel_rfl) (by kernel_rfl) (by kernel_rfl) (by kernel_rfl) (fun _ _ d _ _ h => by cases d <;> exact h) (fun u hS => rfl) hS0 ?_
  (try simp only [Act.put]); (try simp only [List.getElem_toArray]); (try simp only [List.getElem_cons_succ]); (try simp only [List.getElem_cons_zero]); (try simp only [List.setIfInBounds_toArray]); (try simp only [List.set_cons_succ]); (try simp only [List.set_cons_zero])
  refine any_take (i := 1) (.pointer (some ⟨f, 0, none⟩)) rfl rfl (by kernel_rfl) (by kernel_rfl) (by kernel_rfl) (by kernel_rfl) (fun _ _ d _ _ h => by cases d <;> exact h) (fun u hS => rfl) hS0 ?_
  (try simp only [Act.put]); (try simp only [List.getElem_toArray]); (try simp only [List.getElem_cons_succ]); (try simp only [List.getElem_cons_zero]); (try simp only [List.setIfInBounds_toArray]); (try simp only [List.set_cons_succ]); (try simp only [List.set_cons_zero])
  refine any_take (i := 2) (.pointer (some ⟨f, 6, none⟩)) rfl rfl (by kernel_rfl) (by kernel_rfl) (by kernel_rfl) (by kernel_rfl) (fun _ _ d _ _ h => by cases d <;> exact h) (fun u hS => rfl) hS0 ?_
  (try simp only [Act.put]); (try simp only [List.getElem_toArray]); (try simp only [List.getElem_cons_succ]); (try simp only [List.getElem_cons_zero]); (try simp only [List.setIfInBounds_toArray]); (try simp only [List.set_cons_succ]); (try simp only [List.set_cons_zero])
  refine any_take (i := 3) (.int .i64 s0) rfl rfl (by kernel_rfl) (by kernel_rfl) (by kernel_rfl) (by kernel_rfl) (fun _ _ d _ _ h => by cases d <;> exact h) (fun u hS => exec_ld_I rfl rfl (hS.cell 6)) hS0 ?_
  (try simp only [Act.put]); (try simp only [List.getElem_toArray]); (try simp only [List.getElem_cons_succ]); (try simp only [List.getElem_cons_zero]); (try simp only [List.setIfInBounds_toArray]); (try simp only [List.set_cons_succ]); (try simp only [List.set_cons_zero])
  refine any_take (i := 4) (.pointer (some ⟨f, 0, none⟩)) rfl rfl (by kernel_rfl) (by kernel_rfl) (by kernel_rfl) (by kernel_rfl) (fun _ _ d _ _ h => by cases d <;> exact h) (fun u hS => rfl) hS0 ?_
  (try simp only [Act.put]); (try simp only [List.getElem_toArray]); (try simp only [List.getElem_cons_succ]); (try simp only [List.getElem_cons_zero]); (try simp only [List.setIfInBounds_toArray]); (try simp only [List.set_cons_succ]); (try simp only [List.set_cons_zero])
  refine any_take (i := 5) (.pointer (some ⟨f, 0, none⟩)) rfl rfl (by kernel_rfl) (by kernel_rfl) (by kernel_rfl) (by kernel_rfl) (fun _ _ d _ _ h => by cases d <;> exact h) (fun u hS => rfl) hS0 ?_
  (try simp only [Act.put]); (try simp only [List.getElem_toArray]); (try simp only [List.getElem_cons_succ]); (try simp only [List.getElem_cons_zero]); (try simp only [List.setIfInBounds_toArray]); (try simp only [List.set_cons_succ]); (try simp only [List.set_cons_zero])
  refine any_take (i := 6) (.pointer (some ⟨f, 7, none⟩)) rfl rfl (by kernel_rfl) (by kernel_rfl) (by kernel_rfl) (by kernel_rfl) (fun _ _ d _ _ h => by cases d <;> exact h) (fun u hS => rfl) hS0 ?_
  (try simp only [Act.put]); (try simp only [List.getElem_toArray]); (try simp only [List.getElem_cons_succ]); (try simp only [List.getElem_cons_zero]); (try simp only [List.setIfInBounds_toArray]); (try simp only [List.set_cons_succ]); (try simp only [List.set_cons_zero])
  refine any_take (i := 7) (.int .i64 e0) rfl rfl (by kernel_rfl) (by kernel_rfl) (by kernel_rfl) (by kernel_rfl) (fun _ _ d _ _ h => by cases d <;> exact h) (fun u hS => exec_ld_E rfl rfl (hS.cell 7)) hS0 ?_
  (try simp only [Act.put]); (try simp only [List.getElem_toArray]); (try simp only [List.getElem_cons_succ]); (try simp only [List.getElem_cons_zero]); (try simp only [List.setIfInBounds_toArray]); (try simp only [List.set_cons_succ]); (try simp only [List.set_cons_zero])
  refine any_take (i := 8) (.int .i64 s0) rfl rfl (by kernel_rfl) (by kernel_rfl) (by kernel_rfl) (by kernel_rfl) (fun _ _ d _ _ h => by cases d <;> exact h) (fun u hS => rfl) hS0 ?_
  (try simp only [Act.put]); (try simp only [List.getElem_toArray]); (try simp only [List.getElem_cons_succ]); (try simp only [List.getElem_cons_zero]); (try simp only [List.setIfInBounds_toArray]); (try simp only [List.set_cons_succ]); (try simp only [List.set_cons_zero])
  refine any_take (i := 9) (.int .i64 e0) rfl rfl (by kernel_rfl) (by kernel_rfl) (by kernel_rfl) (by kernel_rfl) (fun _ _ d _ _ h => by cases d <;> exact h) (fun u hS => rfl) hS0 ?_
  (try simp only [Act.put]); (try simp only [List.getElem_toArray]); (try simp only [List.getElem_cons_succ]); (try simp only [List.getElem_cons_zero]); (try simp only [List.setIfInBounds_toArray]); (try simp only [List.set_cons_succ]); (try simp only [List.set_cons_zero])
  refine any_end (by kernel_rfl) ?_
  -- ⟧
  go_wp2_with fail
  go_ret2
  exact ⟨rfl, 1, hu.symm⟩
theorem made_any (f t key at_ left : Nat) (nx : Value) (done made : Bool) (s0 e0 : Int) (w : World) (h : Blk w f 178 (FinV t key at_ left nx done s0 e0 made)) :
    Calls Try.prog 99 #[.pointer (some ⟨f, 0, none⟩)] w fun e w' => e = .returned (.bool made) ∧ w' = w := by
  obtain ⟨c0, c1, c2, c3, c4, c5, c6, c7, c8⟩ := cells9 h
  go_enter Try.func99, Try.ntmps99
  go_wp2_with fail
  go_ret
  exact ⟨rfl, rfl⟩
/-- the places on a key's way that are taken by others -/
structure UtPath (xs : List Nat) (key d q : Nat) : Prop where
  lt : d < xs.length
  at_ : (Ut.home key xs.length + d) % xs.length = q
  way : ∀ i, i < d → ∃ x, xs[(Ut.home key xs.length + i) % xs.length]? = some x ∧ x ≠ key ∧ x ≠ 0
/-- where a finder stands -/
structure UtRun (w0 w : World) (s t m c f key d : Nat) (xs : List Nat) (k j : Nat) : Prop where
  fr : Fr [m, c] w0 w
  new : w0.heap.size ≤ f ∧ f < w.heap.size
  ut : UtAt w t m c xs
  at_ : (j ≤ d ∧ k = d - j + 2 ∧ Blk w f 178 (FinV t key ((Ut.home key xs.length + j) % xs.length) (xs.length - j) (fLooks f) false (-1) 61 false)) ∨
    (j = d ∧ k = 1 ∧ xs[(Ut.home key xs.length + d) % xs.length]? = some 0 ∧ Blk w f 178 (FinV t key ((Ut.home key xs.length + d) % xs.length) (xs.length - d) (fClaims f) false (-1) 61 false))
theorem Ut.next (h j n : Nat) (hn : 0 < n) : ((h + j) % n + 1) % n = (h + (j + 1)) % n := by
  rw [Nat.mod_add_mod, Nat.add_assoc]
set_option maxRecDepth 100000 in
set_option maxHeartbeats 2000000 in
/-- a key's slot, where it stands already -/
theorem finds_hit (s t m c key d q : Nat) (xs : List Nat) (w : World) (hs : w.cell? ⟨s, 4, none⟩ = some (.pointer (some ⟨t, 0, none⟩))) (hu : UtAt w t m c xs) (hk : key ≠ 0) (hk2 : key < 18446744073709551616) (hp : UtPath xs key d q) (hx : xs[q]? = some key) :
    Calls Try.prog 87 #[.pointer (some ⟨s, 0, none⟩), .int .u64 (key : Int)] w fun e w' => e = .returned (.tuple #[.int .i64 (q : Int), .bool false]) ∧ UtAt w' t m c xs ∧ Fr [m, c] w w' := by
  have HF := Bx.mk fun u (hf : Fr [m, c] w u) => find_any t m xs.length key u (hu.tab.fr hf (by simp; exact hu.ne)) hk hk2 hu.len.1 hu.len.2
  have HU := Bx.mk hu
  have HP := Bx.mk hp
  have HX := Bx.mk hx
  clear hu hp hx hk2
  go_enter Try.func87, Try.ntmps87
  go_wp2_with fail
  refine (HF.out _ (Fr.refl _ _)).mono ?_
  rintro e w1 ⟨rfl, hb, hf, hsz⟩
  have HR : Bx (UtRun w w1 s t m c w.heap.size key d xs (d + 2) 0) := ⟨⟨hf.mono (by simp), ⟨Nat.le_refl _, hsz⟩, HU.out.fr hf (by simp) (by simp) (by simp), .inl ⟨Nat.zero_le _, by omega, by have := Ut.home_lt (x := key) HU.out.len.1; rw [Nat.add_zero, Nat.mod_eq_of_lt this, Nat.sub_zero]; exact hb⟩⟩⟩
  clear hb hf hsz HF
  generalize w.heap.size = f at HR ⊢
  go_wp2_with fail
  go_loopg [] (d + 2) (fun k wr => ∃ j, UtRun w wr s t m c f key d xs k j)
  case atStart => exact ⟨0, HR.out⟩
  case round =>
    clear HR
    obtain ⟨j, hr⟩ := hrel
    have hn := hr.ut.len
    have hfn : f ≠ t ∧ f ≠ m ∧ f ≠ c := by
      have h1 := HU.out.tab.lt
      have h2 := HU.out.mem.row.lt
      obtain ⟨_, _, h3⟩ := HU.out.mem.hd
      have h3 := h3.lt
      have := hr.new.1
      omega
    have hfw : w.heap.size ≤ f := hr.new.1
    rcases hr.at_ with ⟨hj, hk3, hb⟩ | ⟨_, _, h0, _⟩
    · by_cases hjd : j < d
      · obtain ⟨x, hx, hxk, hx0⟩ := HP.out.way j hjd
        have hst := step_any f t key _ _ 109 false (-1) 61 wr hb _ false (fun _ _ => rfl) (looks_other f t m c key _ _ x (fLooks f) (-1) 61 false xs wr hb hr.ut hfn hx hxk hx0 (by have := HP.out.lt; omega) (by omega)) (fun w' h => h.1.cell 5)
        have HS := Bx.mk hst
        have HR := Bx.mk hr
        clear hst hb hx hr
        go_wp2_with fail
        refine HS.out.mono ?_
        rintro e w2 ⟨rfl, hb, hu, hf⟩
        rw [Ut.next _ _ _ hn.1] at hb
        have HN : Bx (UtRun w w2 s t m c f key d xs (d - j + 1) (j + 1)) := ⟨⟨HR.out.fr.trans hf (fun b hb hl => by simp at hb ⊢; omega), ⟨hfw, Nat.lt_of_lt_of_le HR.out.new.2 hf.size⟩, hu, .inl ⟨by omega, by omega, by rw [← Nat.sub_sub]; exact hb⟩⟩⟩
        clear hb hu hf HS HR
        go_wp2_with fail
        go_roundg (d - j + 1)
        case rel => exact ⟨j + 1, HN.out⟩
        case measure => omega
      · have hjd : j = d := by omega
        subst hjd
        rw [HP.out.at_] at hb
        have hst := step_any f t key _ _ 109 false (-1) 61 wr hb _ true (fun _ _ => rfl) (looks_hit f t m c key _ _ (fLooks f) (-1) 61 false xs wr hb hr.ut hfn HX.out) (fun w' h => h.1.cell 5)
        have HS := Bx.mk hst
        have HR := Bx.mk hr
        clear hst hb hr
        go_wp2_with fail
        refine HS.out.mono ?_
        rintro e w2 ⟨rfl, hb, hu, hf⟩
        have HN : Bx (UtAt w2 t m c xs ∧ Fr [m, c] w w2) := ⟨hu, HR.out.fr.trans hf (fun b hb hl => by simp at hb ⊢; omega)⟩
        have HB := Bx.mk hb
        clear hb hu hf HS HR
        go_wp2_with fail
        refine (slot_any f t key _ _ _ _ _ _ _ _ HB.out).mono ?_
        rintro e w3 ⟨rfl, nq, rfl⟩
        go_wp2_with fail
        refine (made_any f t key _ _ _ _ _ _ _ _ (HB.out.drewN nq)).mono ?_
        rintro e w4 ⟨rfl, rfl⟩
        have HN2 : Bx (UtAt (w2.drewN nq) t m c xs ∧ Fr [m, c] w (w2.drewN nq)) := ⟨HN.out.1.fr ((Fr.refl [] _).drewN nq) (by simp) (by simp) (by simp), HN.out.2.drewN nq⟩
        go_wp2_with fail
        go_ret2
        exact ⟨rfl, HN2.out⟩
    · exfalso
      rw [HP.out.at_, HX.out] at h0
      exact hk (Option.some.inj h0)
set_option maxRecDepth 100000 in
set_option maxHeartbeats 2000000 in
/-- a key's slot, where it is laid now -/
theorem finds_empty (s t m c key d q : Nat) (xs : List Nat) (w : World) (hs : w.cell? ⟨s, 4, none⟩ = some (.pointer (some ⟨t, 0, none⟩))) (hu : UtAt w t m c xs) (hk : key ≠ 0) (hk2 : key < 18446744073709551616) (hp : UtPath xs key d q) (hx : xs[q]? = some 0) :
    Calls Try.prog 87 #[.pointer (some ⟨s, 0, none⟩), .int .u64 (key : Int)] w fun e w' => e = .returned (.tuple #[.int .i64 (q : Int), .bool true]) ∧ UtAt w' t m c (xs.set q key) ∧ Fr [m, c] w w' := by
  have HF := Bx.mk fun u (hf : Fr [m, c] w u) => find_any t m xs.length key u (hu.tab.fr hf (by simp; exact hu.ne)) hk hk2 hu.len.1 hu.len.2
  have HU := Bx.mk hu
  have HP := Bx.mk hp
  have HX := Bx.mk hx
  clear hu hp hx hk2
  go_enter Try.func87, Try.ntmps87
  go_wp2_with fail
  refine (HF.out _ (Fr.refl _ _)).mono ?_
  rintro e w1 ⟨rfl, hb, hf, hsz⟩
  have HR : Bx (UtRun w w1 s t m c w.heap.size key d xs (d + 2) 0) := ⟨⟨hf.mono (by simp), ⟨Nat.le_refl _, hsz⟩, HU.out.fr hf (by simp) (by simp) (by simp), .inl ⟨Nat.zero_le _, by omega, by have := Ut.home_lt (x := key) HU.out.len.1; rw [Nat.add_zero, Nat.mod_eq_of_lt this, Nat.sub_zero]; exact hb⟩⟩⟩
  clear hb hf hsz HF
  generalize w.heap.size = f at HR ⊢
  go_wp2_with fail
  go_loopg [] (d + 2) (fun k wr => ∃ j, UtRun w wr s t m c f key d xs k j)
  case atStart => exact ⟨0, HR.out⟩
  case round =>
    clear HR
    obtain ⟨j, hr⟩ := hrel
    have hn := hr.ut.len
    have hfn : f ≠ t ∧ f ≠ m ∧ f ≠ c := by
      have h1 := HU.out.tab.lt
      have h2 := HU.out.mem.row.lt
      obtain ⟨_, _, h3⟩ := HU.out.mem.hd
      have h3 := h3.lt
      have := hr.new.1
      omega
    have hfw : w.heap.size ≤ f := hr.new.1
    rcases hr.at_ with ⟨hj, hk3, hb⟩ | ⟨hj, hk3, h0, hb⟩
    · by_cases hjd : j < d
      · obtain ⟨x, hx, hxk, hx0⟩ := HP.out.way j hjd
        have hst := step_any f t key _ _ 109 false (-1) 61 wr hb _ false (fun _ _ => rfl) (looks_other f t m c key _ _ x (fLooks f) (-1) 61 false xs wr hb hr.ut hfn hx hxk hx0 (by have := HP.out.lt; omega) (by omega)) (fun w' h => h.1.cell 5)
        have HS := Bx.mk hst
        have HR := Bx.mk hr
        clear hst hb hx hr
        go_wp2_with fail
        refine HS.out.mono ?_
        rintro e w2 ⟨rfl, hb, hu, hf⟩
        rw [Ut.next _ _ _ hn.1] at hb
        have HN : Bx (UtRun w w2 s t m c f key d xs (d - j + 1) (j + 1)) := ⟨⟨HR.out.fr.trans hf (fun b hb hl => by simp at hb ⊢; omega), ⟨hfw, Nat.lt_of_lt_of_le HR.out.new.2 hf.size⟩, hu, .inl ⟨by omega, by omega, by rw [← Nat.sub_sub]; exact hb⟩⟩⟩
        clear hb hu hf HS HR
        go_wp2_with fail
        go_roundg (d - j + 1)
        case rel => exact ⟨j + 1, HN.out⟩
        case measure => omega
      · have hjd : j = d := by omega
        subst hjd
        rw [HP.out.at_] at hb
        have hst := step_any f t key _ _ 109 false (-1) 61 wr hb _ false (fun _ _ => rfl) (looks_empty f t m c key _ _ (fLooks f) (-1) 61 false xs wr hb hr.ut hfn HX.out hk) (fun w' h => h.1.cell 5)
        have HS := Bx.mk hst
        have HR := Bx.mk hr
        clear hst hb hr
        go_wp2_with fail
        refine HS.out.mono ?_
        rintro e w2 ⟨rfl, hb, hu, hf⟩
        have HN : Bx (UtRun w w2 s t m c f key j xs 1 j) := ⟨⟨HR.out.fr.trans hf (fun b hb hl => by simp at hb ⊢; omega), ⟨hfw, Nat.lt_of_lt_of_le HR.out.new.2 hf.size⟩, hu, .inr ⟨rfl, rfl, by rw [HP.out.at_]; exact HX.out, by rw [HP.out.at_]; exact hb⟩⟩⟩
        clear hb hu hf HS HR
        go_wp2_with fail
        go_roundg 1
        case rel => exact ⟨j, HN.out⟩
        case measure => omega
    · subst hj hk3
      rw [HP.out.at_] at hb
      have hst := step_any f t key _ _ 118 false (-1) 61 wr hb _ true (fun _ _ => rfl) (claims_any f t m c key _ _ (fClaims f) (-1) 61 false xs wr hb hr.ut hfn HX.out) (fun w' h => h.1.cell 5)
      have HS := Bx.mk hst
      have HR := Bx.mk hr
      clear hst hb hr
      go_wp2_with fail
      refine HS.out.mono ?_
      rintro e w2 ⟨rfl, hb, hu, hf⟩
      have HN : Bx (UtAt w2 t m c (xs.set q key) ∧ Fr [m, c] w w2) := ⟨hu, HR.out.fr.trans hf (fun b hb hl => by simp at hb ⊢; omega)⟩
      have HB := Bx.mk hb
      clear hb hu hf HS HR
      go_wp2_with fail
      refine (slot_any f t key _ _ _ _ _ _ _ _ HB.out).mono ?_
      rintro e w3 ⟨rfl, nq, rfl⟩
      go_wp2_with fail
      refine (made_any f t key _ _ _ _ _ _ _ _ (HB.out.drewN nq)).mono ?_
      rintro e w4 ⟨rfl, rfl⟩
      have HN2 : Bx (UtAt (w2.drewN nq) t m c (xs.set q key) ∧ Fr [m, c] w (w2.drewN nq)) := ⟨HN.out.1.fr ((Fr.refl [] _).drewN nq) (by simp) (by simp) (by simp), HN.out.2.drewN nq⟩
      go_wp2_with fail
      go_ret2
      exact ⟨rfl, HN2.out⟩
end Go.Proofs.Ythbifeoohphnpaa
