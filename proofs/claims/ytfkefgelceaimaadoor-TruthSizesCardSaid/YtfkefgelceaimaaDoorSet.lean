/-
  A map keyed by tables with empty elements, as a set of tables.
-/
import Derived.Test.YtfkefgelceaimaaDoorTabEq
import Derived.DeepKeys4
import Derived.WideKeyArr
import Derived.Maps.RangeWalk
import Derived.Maps.AppendAt
namespace Go.Proofs.YtfkefgelceaimaaDoor
set_option linter.unusedVariables false
open Go.RowKit
open Go.Maps (Keyed)

theorem kf_arr : WideMaps.ArrKey Tryd.prog 24 22 4 := ⟨Tryd.underlying24, by kernel_rfl, by kernel_rfl, by kernel_rfl⟩
theorem kf_keyed : Keyed Tryd.prog 24 := Keyed.of_law kf_arr.law
theorem kf_size : ∃ m, Tryd.prog.types.size = m + 1 := ⟨Tryd.prog.types.size - 1, by kernel_rfl⟩

theorem word_lits (D : Nat) (a : Int) (h0 : 0 ≤ a) (h1 : a < 18446744073709551616) : Tryd.prog.keyLits (D + 1) 22 [.int .u64 a] = some [.int .u64 a] := by
  unfold Program.keyLits
  simp only [Tryd.underlying22]
  rw [if_pos]
  exact ⟨trivial, by simp [Lit.wf, IntKind.min, IntKind.max, IntKind.signed, IntKind.bits]; omega⟩

theorem tv_lits (F : Tb.T) : Tryd.prog.keyLits (Tryd.prog.types.size + 1) 24 (Tb.tcells F).toList = some [.int .u64 (Tb.wd F 0), .int .u64 (Tb.wd F 1), .int .u64 (Tb.wd F 2), .int .u64 (Tb.wd F 3)] := by
  obtain ⟨m, hm⟩ := kf_size
  unfold Program.keyLits
  simp only [Tryd.underlying24, hm, show Tryd.prog.cellsOf 22 = 1 from kf_arr.one, show Tryd.prog.cellsOf 24 = 4 from kf_arr.size]
  rw [if_pos (by simp)]
  simp [show List.range 4 = [0, 1, 2, 3] from rfl, word_lits m _ (Tb.wd_lo F _) (Tb.wd_hi F _)]

def fkey (F : Tb.T) : Lit := .string (keyBytes [.int .u64 (Tb.wd F 0), .int .u64 (Tb.wd F 1), .int .u64 (Tb.wd F 2), .int .u64 (Tb.wd F 3)])
theorem fkey_of (F : Tb.T) : keyOf Tryd.prog 24 (Tb.tv F) = some (fkey F) := by
  have e1 : Tryd.prog.keyType 24 = true := kf_arr.keyType kf_size
  have e2 : (Value.agg (Tb.tcells F)).formed Tryd.prog 24 = true := by simp [Value.formed, Tryd.underlying24, show Tryd.prog.cellsOf 24 = 4 from kf_arr.size]
  unfold keyOf
  simp only [Tryd.underlying24]
  rw [if_pos (by rw [e1]; exact e2)]
  show Option.map _ (Tryd.prog.keyLits (Tryd.prog.types.size + 1) 24 (Tb.tcells F).toList) = _
  rw [tv_lits]; rfl
attribute [irreducible] fkey

theorem tv_inj {F G : Tb.T} (h : Tb.tv F = Tb.tv G) : F = G := by
  simp only [Value.agg.injEq, Array.mk.injEq, List.cons.injEq, Value.int.injEq, true_and, and_true] at h
  exact Tb.ext4 h.1 h.2.1 h.2.2.1 h.2.2.2
theorem fkey_inj {F G : Tb.T} (h : fkey F = fkey G) : F = G := by
  have h1 := fkey_of F
  rw [h] at h1
  exact tv_inj (kf_keyed.inj h1 (fkey_of G))
theorem fkey_ok (F : Tb.T) : WideAt.IsKeyLit (fkey F) := kf_keyed.key (fkey_of F)

/-- four words make a table -/
def Tb.ofW (a b c d : Int) : Tb.T := (BitVec.ofInt 64 d ++ BitVec.ofInt 64 c) ++ (BitVec.ofInt 64 b ++ BitVec.ofInt 64 a)
theorem Tb.ofW_wd (a b c d : Int) (ha : 0 ≤ a ∧ a < 18446744073709551616) (hb : 0 ≤ b ∧ b < 18446744073709551616) (hc : 0 ≤ c ∧ c < 18446744073709551616) (hd : 0 ≤ d ∧ d < 18446744073709551616) :
    Tb.wd (Tb.ofW a b c d) 0 = a ∧ Tb.wd (Tb.ofW a b c d) 1 = b ∧ Tb.wd (Tb.ofW a b c d) 2 = c ∧ Tb.wd (Tb.ofW a b c d) 3 = d := by
  have key : ∀ x : Int, 0 ≤ x ∧ x < 18446744073709551616 → ((BitVec.ofInt 64 x).toNat : Int) = x := by
    intro x hx
    rw [BitVec.toNat_ofInt]; omega
  have e : ∀ i : Nat, i < 4 → (Tb.ofW a b c d).extractLsb' (64 * i) 64 = [BitVec.ofInt 64 a, BitVec.ofInt 64 b, BitVec.ofInt 64 c, BitVec.ofInt 64 d].getD i 0 := by
    intro i hi
    apply BitVec.eq_of_getLsbD_eq
    intro j hj
    unfold Tb.ofW
    rw [BitVec.getLsbD_extractLsb']
    match i, hi with
    | 0, _ => simp only [BitVec.getLsbD_append, show 64 * 0 + j < 64 + 64 from by omega, show 64 * 0 + j < 64 from by omega, hj]; simp
    | 1, _ => simp only [BitVec.getLsbD_append, show 64 * 1 + j < 64 + 64 from by omega, show ¬ (64 * 1 + j < 64) from by omega, hj, show 64 * 1 + j - 64 = j from by omega]; simp
    | 2, _ => simp only [BitVec.getLsbD_append, show ¬ (64 * 2 + j < 64 + 64) from by omega, show 64 * 2 + j - (64 + 64) = j from by omega, hj]; simp
    | 3, _ => simp only [BitVec.getLsbD_append, show ¬ (64 * 3 + j < 64 + 64) from by omega, show 64 * 3 + j - (64 + 64) = 64 + j from by omega, show ¬ (64 + j < 64) from by omega, show 64 + j - 64 = j from by omega, hj]; simp
  unfold Tb.wd
  rw [e 0 (by omega), e 1 (by omega), e 2 (by omega), e 3 (by omega)]
  exact ⟨key a ha, key b hb, key c hc, key d hd⟩

theorem fkey_inv {v : Value} {l : Lit} (h : keyOf Tryd.prog 24 v = some l) : ∃ F, v = Tb.tv F ∧ l = fkey F := by
  have key : ∃ F, v = Tb.tv F := by
    obtain ⟨xs, L, rfl, hl, _⟩ := keyOf_top kf_arr.wide h
    obtain ⟨m, hm⟩ := kf_size
    unfold Program.keyLits at hl
    simp only [Tryd.underlying24, hm, show Tryd.prog.cellsOf 22 = 1 from kf_arr.one, show Tryd.prog.cellsOf 24 = 4 from kf_arr.size] at hl
    split at hl
    · rename_i hlen
      obtain ⟨xs⟩ := xs
      match xs, hlen with
      | [x0, x1, x2, x3], _ =>
        have wl : ∀ x y, Tryd.prog.keyLits (m + 1) 22 [x] = some y → ∃ a, x = .int .u64 a ∧ 0 ≤ a ∧ a < 18446744073709551616 := by
          intro x y hxy
          unfold Program.keyLits at hxy
          simp only [Tryd.underlying22] at hxy
          cases x <;> simp at hxy
          obtain ⟨⟨rfl, hw⟩, _⟩ := hxy
          exact ⟨_, rfl, wf_u64 hw⟩
        simp [show List.range 4 = [0, 1, 2, 3] from rfl] at hl
        cases e0 : Tryd.prog.keyLits (m + 1) 22 [x0] with
        | none => rw [e0] at hl; simp at hl
        | some y0 =>
        rw [e0] at hl
        cases e1 : Tryd.prog.keyLits (m + 1) 22 [x1] with
        | none => rw [e1] at hl; simp at hl
        | some y1 =>
        rw [e1] at hl
        cases e2 : Tryd.prog.keyLits (m + 1) 22 [x2] with
        | none => rw [e2] at hl; simp at hl
        | some y2 =>
        rw [e2] at hl
        cases e3 : Tryd.prog.keyLits (m + 1) 22 [x3] with
        | none => rw [e3] at hl; simp at hl
        | some y3 =>
        obtain ⟨a, rfl, ha⟩ := wl _ _ e0
        obtain ⟨b, rfl, hb⟩ := wl _ _ e1
        obtain ⟨c, rfl, hc⟩ := wl _ _ e2
        obtain ⟨d, rfl, hd⟩ := wl _ _ e3
        obtain ⟨h0, h1, h2, h3⟩ := Tb.ofW_wd a b c d ha hb hc hd
        exact ⟨Tb.ofW a b c d, by unfold Tb.tv; rw [h0, h1, h2, h3]⟩
    · cases hl
  obtain ⟨F, rfl⟩ := key
  rw [fkey_of] at h
  exact ⟨F, rfl, (Option.some.inj h).symm⟩

/-- F put into a set -/
def Tb.add (F : Tb.T) (S : List Tb.T) : List Tb.T := if F ∈ S then S else F :: S
theorem Tb.mem_add {F G : Tb.T} {S : List Tb.T} : G ∈ Tb.add F S ↔ G = F ∨ G ∈ S := by
  unfold Tb.add; split
  · rename_i h; exact ⟨.inr, fun h' => h'.elim (fun e => e ▸ h) id⟩
  · simp
theorem Tb.nodup_add {F : Tb.T} {S : List Tb.T} (h : S.Nodup) : (Tb.add F S).Nodup := by
  unfold Tb.add; split
  · exact h
  · rename_i h'; exact List.nodup_cons.2 ⟨h', h⟩
theorem Tb.length_add (F : Tb.T) (S : List Tb.T) : (Tb.add F S).length ≤ S.length + 1 := by
  unfold Tb.add; split <;> simp
/-- F taken out of a set -/
def Tb.del (F : Tb.T) (S : List Tb.T) : List Tb.T := S.filter fun G => decide (G ≠ F)
theorem Tb.mem_del {F G : Tb.T} {S : List Tb.T} : G ∈ Tb.del F S ↔ G ≠ F ∧ G ∈ S := by
  unfold Tb.del; simp [and_comm]
theorem Tb.nodup_del {F : Tb.T} {S : List Tb.T} (h : S.Nodup) : (Tb.del F S).Nodup := h.filter _
theorem Tb.length_del {F : Tb.T} {S : List Tb.T} (h : S.Nodup) : (Tb.del F S).length + (if F ∈ S then 1 else 0) = S.length := by
  induction S with
  | nil => simp [Tb.del]
  | cons G S ih =>
    obtain ⟨h1, h2⟩ := List.nodup_cons.1 h
    have ih := ih h2
    unfold Tb.del at ih ⊢
    by_cases e : G = F
    · subst e
      rw [if_neg h1] at ih
      simp
      simp at ih
      exact ih
    · rw [List.filter_cons_of_pos (by simpa using e)]
      simp only [List.mem_cons, List.length_cons, show ¬ F = G from fun h => e h.symm, false_or]
      omega

abbrev SetD := DataW Unit
/-- block b holds the set S -/
structure IsSet (w : World) (b : Nat) (S : List Tb.T) : Prop where
  ex : ∃ D : SetD, w.ownsMap Tryd.prog 24 unitElem b S.length D ∧ (∀ F, Maps.has D (fkey F) = decide (F ∈ S)) ∧ Maps.size D = S.length
  nd : S.Nodup

theorem owns_tight {w : World} {b n : Nat} {D : SetD} (h : w.ownsMap Tryd.prog 24 unitElem b n D) : w.ownsMap Tryd.prog 24 unitElem b (Maps.size D) D := by
  obtain ⟨es, clock, hb, F, hs, rfl⟩ := h
  exact ⟨es, clock, hb, F, by simp [Maps.size, length_read], rfl⟩

section
variable {w w' : World} {b : Nat} {S : List Tb.T}
theorem IsSet.lt (h : IsSet w b S) : b < w.heap.size := by obtain ⟨D, h1, _⟩ := h.ex; exact h1.lt
theorem IsSet.new (w : World) : IsSet (w.alloc (.map #[] 0)) w.heap.size [] :=
  ⟨⟨.map [], World.ownsMap_made _ _ _ _, fun F => by simp [Maps.has], rfl⟩, List.nodup_nil⟩
theorem IsSet.kept {row : Option Nat} (h : IsSet w b S) (hg : w.grownBy w' row) (hne : some b ≠ row) : IsSet w' b S := by
  obtain ⟨D, h1, h2⟩ := h.ex; exact ⟨⟨D, h1.kept hg hne, h2⟩, h.nd⟩
theorem IsSet.below {B : Nat} (h : IsSet w b S) (hb : Below B w w') (hlt : b < B) : IsSet w' b S := by
  obtain ⟨D, ⟨es, clock, hh, rest⟩, h2⟩ := h.ex
  exact ⟨⟨D, ⟨es, clock, (hb.block b hlt).trans hh, rest⟩, h2⟩, h.nd⟩
theorem IsSet.alloc (h : IsSet w b S) (o : Obj) : IsSet (w.alloc o) b S := by
  obtain ⟨D, h1, h2⟩ := h.ex; exact ⟨⟨D, h1.alloc o, h2⟩, h.nd⟩
theorem IsSet.drew (h : IsSet w b S) : IsSet w.drew b S := by
  obtain ⟨D, h1, h2⟩ := h.ex; exact ⟨⟨D, h1.drew, h2⟩, h.nd⟩
theorem IsSet.setCell (h : IsSet w b S) {a : Addr} (ha : b ≠ a.block) (u : Value) : IsSet (w.setCell a u) b S := by
  obtain ⟨D, h1, h2⟩ := h.ex; exact ⟨⟨D, h1.setCell ha u, h2⟩, h.nd⟩

theorem IsSet.put {D : SetD} {n : Nat} {F : Tb.T} {d : SetD} (h1 : w.ownsMap Tryd.prog 24 unitElem b S.length D) (h2 : ∀ F, Maps.has D (fkey F) = decide (F ∈ S)) (h3 : Maps.size D = S.length) (hnd : S.Nodup)
    (h4 : w'.ownsMap Tryd.prog 24 unitElem b n (D.put (fkey F) d)) : IsSet w' b (Tb.add F S) := by
  have ht := h1.tidy kf_keyed
  have hsz : Maps.size (D.put (fkey F) d) = (Tb.add F S).length := by
    rw [Maps.size_put ht, h2 F, h3]
    unfold Tb.add
    by_cases hF : F ∈ S <;> simp [hF]
  refine ⟨⟨_, hsz ▸ owns_tight h4, fun G => ?_, hsz⟩, Tb.nodup_add hnd⟩
  by_cases e : G = F
  · subst e
    rw [Maps.has_put_same h1.isMap (fkey_ok G)]
    simp [Tb.mem_add]
  · rw [Maps.has_put_other (fun h => e (fkey_inj h)), h2 G]
    simp [Tb.mem_add, e]

theorem IsSet.cut {D : SetD} {n : Nat} {F : Tb.T} (h1 : w.ownsMap Tryd.prog 24 unitElem b S.length D) (h2 : ∀ F, Maps.has D (fkey F) = decide (F ∈ S)) (h3 : Maps.size D = S.length) (hnd : S.Nodup)
    (h4 : w'.ownsMap Tryd.prog 24 unitElem b n (D.del (fkey F))) : IsSet w' b (Tb.del F S) := by
  have ht := h1.tidy kf_keyed
  have hsz : Maps.size (D.del (fkey F)) = (Tb.del F S).length := by
    have a1 := Maps.size_del (k := fkey F) ht
    have a2 := Tb.length_del (F := F) hnd
    rw [h2 F, h3] at a1
    by_cases hF : F ∈ S <;> simp [hF] at a1 a2 <;> omega
  refine ⟨⟨_, hsz ▸ owns_tight h4, fun G => ?_, hsz⟩, Tb.nodup_del hnd⟩
  by_cases e : G = F
  · subst e
    rw [Maps.has_del_same]
    simp [Tb.mem_del]
  · rw [Maps.has_del_other (fun h => e (fkey_inj h)), h2 G]
    simp [Tb.mem_del, e]
end

theorem IsSet.run_add {w : World} {b : Nat} {S : List Tb.T} (h : IsSet w b S) (hn : S.length < maxLen) (F : Tb.T) :
    ∃ w', (Instr.mapUpdate 54 (.map (some b)) (Tb.tv F) (.agg #[])).run Tryd.prog w = .ok () w' ∧ IsSet w' b (Tb.add F S) ∧ w.grownBy w' (some b) := by
  obtain ⟨D, h1, h2, h3⟩ := h.ex
  obtain ⟨w', hr, h4, h5⟩ := h1.update kf_keyed Tryd.underlying54 hn (fkey_of F) unitElem_mk
  exact ⟨w', hr, IsSet.put h1 h2 h3 h.nd h4, h5⟩
theorem IsSet.run_del {w : World} {b : Nat} {S : List Tb.T} (h : IsSet w b S) (F : Tb.T) (ty : TypeId) :
    ∃ w', (Builtin.delete_ #[54, 24] ty #[.map (some b), Tb.tv F]).run Tryd.prog w = .ok (.tuple #[]) w' ∧ IsSet w' b (Tb.del F S) ∧ w.grownBy w' (some b) := by
  obtain ⟨D, h1, h2, h3⟩ := h.ex
  obtain ⟨w', hr, h4, h5⟩ := h1.drop kf_keyed Tryd.underlying54 (fkey_of F) ty
  exact ⟨w', hr, IsSet.cut h1 h2 h3 h.nd h4, h5.grown⟩
theorem IsSet.run_len {w : World} {b : Nat} {S : List Tb.T} (h : IsSet w b S) (ty : TypeId) :
    (Builtin.len_ #[54] ty #[.map (some b)]).run Tryd.prog w = .ok (.int .i64 (S.length : Int)) w := by
  obtain ⟨D, h1, h2, h3⟩ := h.ex
  rw [← h3]
  exact h1.len Tryd.underlying54 ty

/-- block r walks over the set S in block b; L is still to come -/
structure IsRange (w : World) (b r : Nat) (S L : List Tb.T) : Prop where
  ex : ∃ (D : SetD) (left : Lit → Bool) (cnt : Nat), w.ranges Tryd.prog 24 unitElem b r S.length D left cnt ∧ (∀ F, Maps.has D (fkey F) = decide (F ∈ S)) ∧ Maps.size D = S.length ∧ (∀ F, left (fkey F) = decide (F ∈ L)) ∧ w.rangeLeft b r = cnt
  nd : S.Nodup
  sub : ∀ F, F ∈ L → F ∈ S
theorem IsRange.set_ {w : World} {b r : Nat} {S L : List Tb.T} (h : IsRange w b r S L) : IsSet w b S := by
  obtain ⟨D, left, cnt, h1, h2, h3, _⟩ := h.ex; exact ⟨⟨D, h1.owns, h2, h3⟩, h.nd⟩
theorem IsRange.ne {w : World} {b r : Nat} {S L : List Tb.T} (h : IsRange w b r S L) : r ≠ b := by obtain ⟨D, left, cnt, h1, _⟩ := h.ex; exact h1.ne
theorem IsRange.lt {w : World} {b r : Nat} {S L : List Tb.T} (h : IsRange w b r S L) : r < w.heap.size := by obtain ⟨D, left, cnt, h1, _⟩ := h.ex; exact h1.lt
theorem IsRange.kept {w w' : World} {b r : Nat} {S L : List Tb.T} {row : Option Nat} (h : IsRange w b r S L) (hg : w.grownBy w' row) (hb : some b ≠ row) (hr : some r ≠ row) : IsRange w' b r S L ∧ w'.rangeLeft b r = w.rangeLeft b r := by
  obtain ⟨D, left, cnt, h1, h2, h3, h4, h5⟩ := h.ex
  have h6 := h1.kept hg hb hr
  exact ⟨⟨⟨D, left, cnt, h6, h2, h3, h4, h6.left_eq⟩, h.nd, h.sub⟩, h6.left_eq.trans h5.symm⟩
theorem IsSet.run_range {w : World} {b : Nat} {S : List Tb.T} (h : IsSet w b S) :
    ∃ w', (Instr.range 54 (.map (some b))).run Tryd.prog w = .ok (.pointer (some ⟨w.heap.size, 0, none⟩)) w' ∧ IsRange w' b w.heap.size S S ∧ w.grownBy w' none ∧ w'.heap.size = w.heap.size + 1 := by
  obtain ⟨D, h1, h2, h3⟩ := h.ex
  obtain ⟨w', hr, h4, h5, h6⟩ := h1.range kf_keyed Tryd.underlying54
  exact ⟨w', hr, ⟨⟨D, _, _, h4, h2, h3, h2, h4.left_eq⟩, h.nd, fun _ h => h⟩, h5, h6⟩
theorem IsRange.run_next {w : World} {b r : Nat} {S L : List Tb.T} (h : IsRange w b r S L) (ty : TypeId) :
    ((∀ F, F ∉ L) ∧ (Instr.next (.pointer (some ⟨r, 0, none⟩)) false ty).run Tryd.prog w = .ok (.tuple #[.bool false]) w) ∨
    ∃ (F : Tb.T) (w' : World), F ∈ L ∧ (Instr.next (.pointer (some ⟨r, 0, none⟩)) false ty).run Tryd.prog w = .ok (.tuple #[.bool true, Tb.tv F, .agg #[]]) w' ∧ IsRange w' b r S (Tb.del F L) ∧ w'.rangeLeft b r < w.rangeLeft b r ∧
      w.grownBy w' (some r) ∧ w'.heap.size = w.heap.size ∧ (Instr.entry (.pointer (some ⟨r, 0, none⟩))).run Tryd.prog w' = .ok (.tuple #[Tb.tv F, .agg #[]]) w' := by
  obtain ⟨D, left, cnt, h1, h2, h3, h4, h5⟩ := h.ex
  rcases h1.next kf_keyed ty with ⟨h6, h7, h8⟩ | ⟨key, v, kl, y, w', cnt', hk, hl, hy, hat, hr, hrg, hlt, hgr, hsz, hen⟩
  · exact .inl ⟨fun F hF => by have := h4 F; rw [h7] at this; simp [hF] at this, h8⟩
  · obtain ⟨F, rfl, rfl⟩ := fkey_inv hk
    obtain ⟨rfl, _⟩ := unitElem_inv hy
    have hF : F ∈ L := by have := h4 F; rw [hl] at this; simpa using this.symm
    refine .inr ⟨F, w', hF, hr, ⟨⟨D, _, cnt', hrg, h2, h3, fun G => ?_, hrg.left_eq⟩, h.nd, fun G hG => h.sub G (Tb.mem_del.1 hG).2⟩, by rw [hrg.left_eq, h5]; exact hlt, hgr, hsz, hen⟩
    rw [h4 G]
    by_cases e : G = F
    · subst e
      rw [WideAt.sameKey_self (fkey_ok G)]; simp [Tb.mem_del]
    · rw [Maps.sameKey_ne (fun h => e (fkey_inj h))]; simp [Tb.mem_del, e]

/-- what is no map's block is no set's -/
theorem IsSet.ne_cells {w : World} {b g : Nat} {S : List Tb.T} {cs : Array Value} {t : TypeId} {fr : Nat × Nat} (h : IsSet w b S) (hg : w.heap[g]? = some (.cells cs t fr)) : g ≠ b := by
  obtain ⟨D, ⟨es, clock, hb, _⟩, _⟩ := h.ex
  intro e; subst e; rw [hb] at hg; cases hg
theorem IsRange.ne_cells {w : World} {b r g : Nat} {S L : List Tb.T} {cs : Array Value} {t : TypeId} {fr : Nat × Nat} (h : IsRange w b r S L) (hg : w.heap[g]? = some (.cells cs t fr)) : g ≠ r := by
  obtain ⟨D, left, cnt, ⟨es, clock, since, seen, c0, _, _, _, _, hr, _⟩, _⟩ := h.ex
  intro e; subst e; rw [hr] at hg; cases hg

theorem grown_alloc {w0 w : World} {row : Option Nat} (h : w0.grownBy w row) (o : Obj) : w0.grownBy (w.alloc o) row := h.trans (World.grownBy_alloc w o row)
theorem grown_set {w0 w : World} {row : Option Nat} (h : w0.grownBy w row) {p : Addr} (hp : w0.heap.size ≤ p.block) (u : Value) : w0.grownBy (w.setCell p u) row :=
  ⟨h.os, h.tape, h.output, by simp [World.setCell]; exact h.size, fun k hk hne => (Below.heap_setCell _ _ _ _ (by omega)).trans (h.block k hk hne)⟩
theorem grown_below {w0 w w' : World} {row : Option Nat} {B : Nat} (h : w0.grownBy w row) (hb : Below B w w') (hB : w0.heap.size ≤ B) : w0.grownBy w' row :=
  ⟨hb.os.trans h.os, hb.tape.trans h.tape, hb.output.trans h.output, Nat.le_trans h.size hb.size, fun k hk hne => (hb.block k (by omega)).trans (h.block k hk hne)⟩
theorem grown_drew {w0 w : World} {row : Option Nat} (h : w0.grownBy w row) : w0.grownBy w.drew row := ⟨h.os, h.tape, h.output, h.size, h.block⟩
/-- a row that is new since may be written: nothing that was there turns -/
theorem grown_new {w0 w w' : World} {row row' : Option Nat} (h : w0.grownBy w row) (hg : w.grownBy w' row') (hr : ∀ j, row' = some j → w0.heap.size ≤ j ∨ row = some j) : w0.grownBy w' row := h.andThen hg hr
theorem Blk.grown {w w' : World} {g : Nat} {t : TypeId} {cs : Array Value} {row : Option Nat} (h : Blk w g t cs) (hg : w.grownBy w' row) (hne : some g ≠ row) : Blk w' g t cs := ⟨(hg.block g h.lt hne).trans h.eq⟩
/-- a new variable that holds a table -/
theorem boxed_new (w : World) (F : Tb.T) :
    let W := w.alloc (.cells (Tb.tcells F) 24)
    Blk W w.heap.size 24 (Tb.tcells F) ∧ w.grownBy W none ∧ W.heap.size = w.heap.size + 1 :=
  ⟨Blk.new _ _ _, World.grownBy_alloc _ _ _, by simp⟩

/-! rows of tables -/
def Tb.flat (L : List Tb.T) : List Value := L.flatMap fun F => (Tb.tcells F).toList
theorem Tb.flat_length (L : List Tb.T) : (Tb.flat L).length = L.length * 4 := by
  unfold Tb.flat; induction L with
  | nil => rfl
  | cons F L ih => rw [List.flatMap_cons, List.length_append, ih]; simp; omega
theorem Tb.flat_append (L L' : List Tb.T) : Tb.flat (L ++ L') = Tb.flat L ++ Tb.flat L' := by unfold Tb.flat; simp
theorem Tb.flat_get : ∀ (L : List Tb.T) (j : Nat) (F : Tb.T) (i : Nat), L[j]? = some F → i < 4 → (Tb.flat L)[4 * j + i]? = some (.int .u64 (Tb.wd F i))
  | [], j, F, i, h, _ => by simp at h
  | G :: L, 0, F, i, h, hi => by
    simp at h; subst h
    show (_ ++ Tb.flat L)[4 * 0 + i]? = _
    rw [List.getElem?_append_left (by simp; omega)]
    match i, hi with
    | 0, _ => rfl
    | 1, _ => rfl
    | 2, _ => rfl
    | 3, _ => rfl
  | G :: L, j + 1, F, i, h, hi => by
    show (_ ++ Tb.flat L)[4 * (j + 1) + i]? = _
    rw [List.getElem?_append_right (by simp; omega)]
    rw [show 4 * (j + 1) + i - (Tb.tcells G).toList.length = 4 * j + i from by simp; omega]
    exact Tb.flat_get L j F i (by simpa using h) hi
/-- a slice of tables in a block of one's own, from 'base' on -/
structure TRow (w : World) (base g cap : Nat) (L : List Tb.T) : Prop where
  own : w.ownsRow base 24 4 (.slice (some ⟨g, 0, none⟩) L.length cap) L.length (Tb.flat L)
theorem TRow.cell {w : World} {base g cap : Nat} {L : List Tb.T} (h : TRow w base g cap L) {j : Nat} {F : Tb.T} (hj : L[j]? = some F) (i : Nat) (hi : i < 4) : w.cell? ⟨g, 4 * j + i, none⟩ = some (.int .u64 (Tb.wd F i)) := by
  have hlt : j < L.length := (List.getElem?_eq_some_iff.1 hj).1
  rw [h.own.cellAt _ (by omega)]
  exact Tb.flat_get L j F i hj hi
theorem TRow.cells4 {w : World} {base g cap : Nat} {L : List Tb.T} (h : TRow w base g cap L) {j : Nat} {F : Tb.T} (hj : L[j]? = some F) :
    w.cell? ⟨g, j * 4, none⟩ = some (.int .u64 (Tb.wd F 0)) ∧ w.cell? ⟨g, j * 4 + 1, none⟩ = some (.int .u64 (Tb.wd F 1)) ∧ w.cell? ⟨g, j * 4 + 2, none⟩ = some (.int .u64 (Tb.wd F 2)) ∧ w.cell? ⟨g, j * 4 + 3, none⟩ = some (.int .u64 (Tb.wd F 3)) := by
  have h0 := h.cell hj 0 (by omega)
  have h1 := h.cell hj 1 (by omega)
  have h2 := h.cell hj 2 (by omega)
  have h3 := h.cell hj 3 (by omega)
  rw [Nat.mul_comm 4 j] at h0 h1 h2 h3
  exact ⟨h0, h1, h2, h3⟩
theorem TRow.heap {w : World} {base g cap : Nat} {L : List Tb.T} (h : TRow w base g cap L) : base ≤ g ∧ ∃ cs, w.heap[g]? = some (.cells cs 24 (0, 0)) := by
  rcases h.own.2 with ⟨h', _⟩ | ⟨g', cap', cur, h', hb, hg, _⟩
  · cases h'
  · simp only [Value.slice.injEq, Option.some.injEq, Addr.mk.injEq, and_true, true_and] at h'
    obtain ⟨rfl, rfl⟩ := h'
    exact ⟨hb, cur, hg⟩
theorem TRow.lt {w : World} {base g cap : Nat} {L : List Tb.T} (h : TRow w base g cap L) : g < w.heap.size := by
  obtain ⟨_, cs, hg⟩ := h.heap; exact (Array.getElem?_eq_some_iff.1 hg).1
theorem TRow.cap_le {w : World} {base g cap : Nat} {L : List Tb.T} (h : TRow w base g cap L) : L.length ≤ cap := by
  rcases h.own.2 with ⟨h', _⟩ | ⟨g', cap', cur, h', hb, hg, hc, _⟩
  · cases h'
  · simp only [Value.slice.injEq, Option.some.injEq, Addr.mk.injEq, and_true, true_and] at h'
    obtain ⟨rfl, rfl⟩ := h'
    exact hc
theorem TRow.kept {w w' : World} {base g cap : Nat} {L : List Tb.T} {row : Option Nat} (h : TRow w base g cap L) (hg : w.grownBy w' row) (hne : some g ≠ row) : TRow w' base g cap L := ⟨h.own.kept hg (.inr hne)⟩
theorem TRow.zero {w : World} {base g cap : Nat} {L : List Tb.T} (h : TRow w base g cap L) : TRow w base g cap [] := by
  rcases h.own.2 with ⟨h', _⟩ | ⟨g', cap', cur, h', hb, hg, hc, hm, hs, _⟩
  · cases h'
  · simp only [Value.slice.injEq, Option.some.injEq, Addr.mk.injEq, and_true, true_and] at h'
    obtain ⟨rfl, rfl⟩ := h'
    exact ⟨⟨rfl, .inr ⟨g, cap, cur, rfl, hb, hg, Nat.zero_le _, hm, hs, by simp; rfl⟩⟩⟩
theorem TRow.one (w : World) (base : Nat) (F : Tb.T) (hb : base ≤ w.heap.size) : TRow (w.alloc (.cells (Tb.tcells F) 24)) base w.heap.size 1 [F] :=
  ⟨World.ownsRow_lit w (Tb.tcells F) 1 hb (by unfold maxLen; omega) rfl⟩

set_option maxRecDepth 100000 in
theorem TRow.run_append {w : World} {base g cap : Nat} {L : List Tb.T} (h : TRow w base g cap L) (F : Tb.T) (x : Nat) (hx : ∀ i, i < 4 → w.cell? ⟨x, i, none⟩ = some (.int .u64 (Tb.wd F i))) (hn : L.length < 1000000) (hb : base ≤ w.heap.size) (ty : TypeId) (c : Nat) :
    ∃ g' cap' w', (Builtin.append_ #[25, 25] ty #[.slice (some ⟨g, 0, none⟩) L.length cap, .slice (some ⟨x, 0, none⟩) 1 c]).run Tryd.prog w = .ok (.slice (some ⟨g', 0, none⟩) (L ++ [F]).length cap') w' ∧
      TRow w' base g' cap' (L ++ [F]) ∧ w.grownBy w' (some g) := by
  obtain ⟨i0, hi, hz⟩ : ∃ i, Tryd.prog.info? 24 = some i ∧ i.zero = some (Tb.tv 0#256) ∧ i.size = 4 ∧ i.bytes = 32 := by
    refine ⟨_, rfl, ?_⟩
    exact ⟨by kernel_rfl, by kernel_rfl, by kernel_rfl⟩
  obtain ⟨v', w', hr, h1, h2, h3⟩ := run_append_own (P := Tryd.prog) w base 25 ty 24 i0 _ 4 32 Tryd.underlying25 hi hz.1 hz.2.1 hz.2.2 rfl (by omega) _ _ _ h.own ⟨x, 0, none⟩ 1 c (Tb.flat [F]) (by rw [Tb.flat_length]; rfl)
    (fun j u hj => by
      have hl : j < (Tb.flat [F]).length := (List.getElem?_eq_some_iff.1 hj).1
      rw [Tb.flat_length] at hl
      have hl4 : j < 4 := by simpa using hl
      have e := Tb.flat_get [F] 0 F j rfl hl4
      simp only [Nat.mul_zero, Nat.zero_add] at e
      rw [e] at hj
      obtain rfl := Option.some.inj hj
      simp only [Addr.add, Nat.zero_add]
      split
      · rename_i e0; subst e0; exact hx 0 hl4
      · exact hx j hl4)
    (fun u hu => by
      simp [Tb.flat] at hu
      rcases hu with rfl | rfl | rfl | rfl <;> rfl) (by unfold maxLen; omega) (by omega) hb
  rw [← Tb.flat_append] at h1
  have hsh : ∃ g' cap', v' = .slice (some ⟨g', 0, none⟩) (L ++ [F]).length cap' := by
    rcases h1.2 with ⟨h', _⟩ | ⟨g', cap', cur, h', _⟩
    · have := h3.1 h'
      simp at this
    · exact ⟨g', cap', by rw [h']; simp⟩
  obtain ⟨g', cap', rfl⟩ := hsh
  exact ⟨g', cap', w', hr, ⟨by rw [show (L ++ [F]).length = L.length + 1 from by simp]; rw [show (L ++ [F]).length = L.length + 1 from by simp] at h1; exact h1⟩, h2⟩
/-- delete, where its run is known -/
theorem wpList_by_delete {P : Program} (w : World) {ops : Array Oper} {rest : List Oper} {o : Oper} {a : Act} {Q : Exit → Act → World → Prop} (hgd : o.guard = none) (s x : Operand) (t k : TypeId)
    (ho : o.op = .call { callee := .builtin .delete, args := #[s, x], argTypes := #[t, k] }) {v1 v2 : Value} {w' : World} (hs : a.eval s = v1) (hx : a.eval x = v2)
    (hr : (Builtin.delete_ #[t, k] o.type #[v1, v2]).run P w = .ok (.tuple #[]) w') (h : wpList P ops Q rest (a.put o.dst (.tuple #[])) w') : wpList P ops Q (o :: rest) a w := by
  refine wpList_plain hgd fun K hK => ?_
  unfold Oper.wp execOp
  simp only [ho, resolve, invoke, builtin, Sem.run_bind, Sem.run_pure, Result.andThen_ok, List.map_toArray, List.map_cons, List.map_nil, hs, hx, hr]
  exact hK _ _ h
/-- len of a map, where its run is known -/
theorem wpList_by_len {P : Program} (w : World) {ops : Array Oper} {rest : List Oper} {o : Oper} {a : Act} {Q : Exit → Act → World → Prop} (hgd : o.guard = none) (s : Operand) (t : TypeId)
    (ho : o.op = .call { callee := .builtin .len, args := #[s], argTypes := #[t] }) {v1 v2 : Value} (hs : a.eval s = v1)
    (hr : (Builtin.len_ #[t] o.type #[v1]).run P w = .ok v2 w) (h : wpList P ops Q rest (a.put o.dst v2) w) : wpList P ops Q (o :: rest) a w := by
  refine wpList_plain hgd fun K hK => ?_
  unfold Oper.wp execOp
  simp only [ho, resolve, invoke, builtin, Sem.run_bind, Sem.run_pure, Result.andThen_ok, List.map_toArray, List.map_cons, List.map_nil, hs, hr]
  exact hK _ _ h
/-- append, where its run is known -/
theorem wpList_by_append {P : Program} (w : World) {ops : Array Oper} {rest : List Oper} {o : Oper} {a : Act} {Q : Exit → Act → World → Prop} (hgd : o.guard = none) (s x : Operand) (t : TypeId)
    (ho : o.op = .call { callee := .builtin .append, args := #[s, x], argTypes := #[t, t] }) {v1 v2 v' : Value} {w' : World} (hs : a.eval s = v1) (hx : a.eval x = v2)
    (hr : (Builtin.append_ #[t, t] o.type #[v1, v2]).run P w = .ok v' w') (h : wpList P ops Q rest (a.put o.dst v') w') : wpList P ops Q (o :: rest) a w := by
  refine wpList_plain hgd fun K hK => ?_
  unfold Oper.wp execOp
  simp only [ho, resolve, invoke, builtin, Sem.run_bind, Sem.run_pure, Result.andThen_ok, List.map_toArray, List.map_cons, List.map_nil, hs, hx, hr]
  exact hK _ _ h
end Go.Proofs.YtfkefgelceaimaaDoor
