/-
  Texts on which the law ExprBinds rests, part 22 of 22.
-/
import Derived.Test.YtfgokhafiffbaaaExprBindsM21
import Derived.WalkKit
import Derived.ProofKit
import Derived.OpenShut
import Derived.LaidMore
import Derived.ChangeAt
import Derived.Carry
import Derived.Deep.Slices
import Derived.ChangeSlices
import Derived.Test.YtfgokhafiffbaaaRows
/-
  ExprBinds: what is kept in the walk: two slices of one's own; stores; operations.
-/
namespace Go.Proofs.Ytfgokhafiffbaaa
set_option linter.unusedVariables false
open Go.RowKit
section
open Go.ChangeShapes Go.WideShapes Go.ChangeAt Go.RowKit
/-- a slice of bytes that came in -/
def BytesVal (w : World) (v : Value) (bs : List Nat) : Prop :=
  ∃ p cap, v = .slice p bs.length cap ∧ ∀ j x : Nat, bs[j]? = some x → x < 256 ∧ ∃ g off, p = some ⟨g, off, none⟩ ∧ w.cell? ⟨g, off + j, none⟩ = some (.int .u8 (x : Int))
theorem slb_shape {P : Program} {W : World} {r : Reach} {b0 : Nat} {v : Value} {t e : TypeId} (ht : P.underlying t = some (.slice e)) (hval : Value.okWide P W r b0 t v) : v = .slice none 0 0 ∨ ∃ a len cap, v = .slice (some a) len cap ∧ a.spot = none := by
  unfold Value.okWide at hval
  rw [ht] at hval
  simp only at hval
  unfold Cell.okWide at hval
  rw [ht] at hval
  unfold Cell.ok at hval
  rw [ht] at hval
  cases v with
  | slice a len cap =>
    cases a with
    | none =>
      left
      cases len <;> cases cap <;> simp at hval
      rfl
    | some a => exact .inr ⟨a, len, cap, rfl, by simp at hval; exact hval.2.2.2.1⟩
  | _ => simp at hval
variable {H : Type} {enc : TypeId × Value → H} {W : World} {sp : Nat → Bool} {held : Bool}
theorem open_uslice {r : Reach} {b0 : Nat} {v : Value} {d : DataW H} {ps : List MemPlace} (hval : Value.okWide Try.prog W r b0 22 v) (hd : DataW.Trod enc Try.prog W 0 sp held 22 v d ps) :
    ∃ bs : List Nat, BytesVal W v bs := by
  have hshape := slb_shape Try.underlying22 hval
  obtain ⟨fuel, hf⟩ := hd
  have hce : Try.prog.cellsOf 5 = 1 := by kernel_rfl
  rcases open_ints Try.underlying22 Try.underlying5 hce hf with ⟨hc, _⟩ | ⟨a, len, cap, zs, hc, _, hl, _, hz, _, hcell, hwf⟩
  · have hv : v = .slice none 0 0 := by
      rcases hshape with rfl | ⟨a', l', c', rfl, _⟩
      · rfl
      · simp [Value.cells] at hc
    exact ⟨[], none, 0, hv, fun j x hj => by simp at hj⟩
  · obtain ⟨hv, hspot⟩ : v = .slice (some a) len cap ∧ a.spot = none := by
      rcases hshape with rfl | ⟨a', l', c', rfl, hs⟩
      · simp [Value.cells] at hc
      · simp [Value.cells] at hc
        obtain ⟨rfl, rfl, rfl⟩ := hc
        exact ⟨rfl, hs⟩
    subst hv
    obtain ⟨b, off, s⟩ := a
    simp only at hspot
    subst hspot
    have hlen : ((zs.take len).map Int.toNat).length = len := by rw [List.length_map, List.length_take, hz]; split <;> omega
    refine ⟨(zs.take len).map Int.toNat, _, cap, by rw [hlen], fun j x hj => ?_⟩
    have hj1 : j < len := by have := (List.getElem?_eq_some_iff.1 hj).1; omega
    rw [List.getElem?_map, List.getElem?_take, if_pos hj1] at hj
    cases hz2 : zs[j]? with
    | none => rw [hz2] at hj; cases hj
    | some y =>
      rw [hz2] at hj
      obtain rfl := Option.some.inj hj
      have hy := wf_u8 (hwf y (List.mem_of_getElem? hz2))
      have hj3 : j < zs.length := (List.getElem?_eq_some_iff.1 hz2).1
      have hc1 := hcell j hj3
      rw [show zs.getD j 0 = y from by simp [List.getD, hz2]] at hc1
      refine ⟨by omega, b, off, rfl, ?_⟩
      rw [show ((y.toNat : Nat) : Int) = y from by omega, ← hc1]
      simp only [Addr.add]
      split
      · rename_i e; subst e; simp
      · rfl
end
/-- one cell of a row set -/
theorem own_set {w : World} {base size g n cap : Nat} {e : TypeId} {xs : List Value} (h : w.ownsRow base e size (.slice (some ⟨g, 0, none⟩) n cap) n xs) (j : Nat) (u : Value) :
    (w.setCell ⟨g, j, none⟩ u).ownsRow base e size (.slice (some ⟨g, 0, none⟩) n cap) n (xs.set j u) := by
  rcases h.2 with ⟨h0, _⟩ | ⟨g', cap', cur, hv, hbg, hg, hnc, hcm, hcs, htake⟩
  · cases h0
  · cases hv
    refine ⟨by rw [List.length_set]; exact h.1, .inr ⟨g, cap, _, rfl, hbg, ((Blk.mk hg).set_ j u).eq, hnc, hcm, by simpa using hcs, ?_⟩⟩
    rw [Array.toList_setIfInBounds, List.take_set, htake]
theorem Tb.flt_set : ∀ (L : List Tb.T) (j : Nat) (G : Tb.T), j < L.length →
    Tb.flt (L.set j G) = ((((Tb.flt L).set (j * 4) (.int .u64 (Tb.wd G 0))).set (j * 4 + 1) (.int .u64 (Tb.wd G 1))).set (j * 4 + 2) (.int .u64 (Tb.wd G 2))).set (j * 4 + 3) (.int .u64 (Tb.wd G 3))
  | [], j, G, h => by simp at h
  | F :: L, 0, G, h => rfl
  | F :: L, j + 1, G, h => by
    have ih := Tb.flt_set L j G (by simpa using h)
    have e : Tb.flt (F :: L) = .int .u64 (Tb.wd F 0) :: .int .u64 (Tb.wd F 1) :: .int .u64 (Tb.wd F 2) :: .int .u64 (Tb.wd F 3) :: Tb.flt L := rfl
    have e2 : Tb.flt ((F :: L).set (j + 1) G) = .int .u64 (Tb.wd F 0) :: .int .u64 (Tb.wd F 1) :: .int .u64 (Tb.wd F 2) :: .int .u64 (Tb.wd F 3) :: Tb.flt (L.set j G) := rfl
    rw [e, e2, ih, show (j + 1) * 4 = j * 4 + 1 + 1 + 1 + 1 from by omega]
    rfl
/-- what the walk keeps -/
structure BS (w1 u : World) (fv ov : Value) (F : List Tb.T) (O : List Nat) : Prop where
  be : Below w1.heap.size w1 u
  f : TO u w1.heap.size fv F
  o : IO u w1.heap.size ov O
  ne : ∀ g, fv.ownBlock = some g → ov.ownBlock ≠ some g
theorem BS.step {w1 u u' : World} {fv ov : Value} {F : List Tb.T} {O : List Nat} (h : BS w1 u fv ov F O) (hb : Below u.heap.size u u') : BS w1 u' fv ov F O :=
  ⟨h.be.trans (hb.mono h.be.size), h.f.below hb, h.o.below hb, h.ne⟩
theorem BS.start (w1 : World) : BS w1 w1 (.slice none 0 0) (.slice none 0 0) [] [] := ⟨Below.refl _ _, TO.nil _ _, IO.nil _ _, fun g h => by simp [Value.ownBlock] at h⟩
theorem below_grow {B : Nat} {w u u' : World} {row : Option Nat} (h : Below B w u) (hg : u.grownBy u' row) (hB : B ≤ u.heap.size) (hr : ∀ g, row = some g → B ≤ g) : Below B w u' :=
  h.trans ⟨hg.os, hg.tape, hg.output, hg.size, fun k hk => hg.block k (by omega) (fun e => by have := hr k e.symm; omega)⟩
theorem BS.appF {w1 u : World} {fv ov : Value} {F : List Tb.T} {O : List Nat} (h : BS w1 u fv ov F O) (a : Addr) (c : Nat) (Ms : List Tb.T) (hc : ∀ j G, Ms[j]? = some G → ∀ i, i < 4 → u.cell? (a.add (j * 4 + i)) = some (.int .u64 (Tb.wd G i)))
    (hn : F.length + Ms.length < 1000000) (hsz : w1.heap.size ≤ u.heap.size) (ty : TypeId) :
    ∃ fv' u', (Builtin.append_ #[26, 26] ty #[fv, .slice (some a) Ms.length c]).run Try.prog u = .ok fv' u' ∧ BS w1 u' fv' ov (F ++ Ms) O ∧ u.heap.size ≤ u'.heap.size := by
  obtain ⟨v', u', hr, ho, hg, hat⟩ := h.f.app a c Ms hc hn hsz ty
  refine ⟨v', u', hr, ⟨below_grow h.be hg hsz (fun g e => (h.f.own.lt g e).1), ho, h.o.kept hg ?_, fun g e => ?_⟩, hg.size⟩
  · cases e : fv.ownBlock with
    | none => cases e2 : ov.ownBlock <;> simp
    | some g => exact .inr (h.ne g e)
  · rcases hat with e2 | e2
    · exact h.ne g (e2 ▸ e)
    · intro e3
      have := (h.o.own.lt g e3).2
      rw [e2] at e
      cases e
      omega
theorem BS.appO {w1 u : World} {fv ov : Value} {F : List Tb.T} {O : List Nat} (h : BS w1 u fv ov F O) (a : Addr) (c : Nat) (Ms : List Nat) (hc : ∀ j x, Ms[j]? = some x → u.cell? (a.add j) = some (.int .i64 ((x : Nat) : Int)))
    (hn : O.length + Ms.length < 1000000) (hsz : w1.heap.size ≤ u.heap.size) (ty : TypeId) :
    ∃ ov' u', (Builtin.append_ #[31, 31] ty #[ov, .slice (some a) Ms.length c]).run Try.prog u = .ok ov' u' ∧ BS w1 u' fv ov' F (O ++ Ms) ∧ u.heap.size ≤ u'.heap.size := by
  obtain ⟨v', u', hr, ho, hg, hat⟩ := h.o.app a c Ms hc hn hsz ty
  refine ⟨v', u', hr, ⟨below_grow h.be hg hsz (fun g e => (h.o.own.lt g e).1), h.f.kept hg ?_, ho, fun g e => ?_⟩, hg.size⟩
  · cases e : fv.ownBlock with
    | none => exact .inl rfl
    | some g => exact .inr (fun e2 => h.ne g e e2.symm)
  · rcases hat with e2 | e2
    · rw [e2]; exact h.ne g e
    · intro e3
      have := (h.f.own.lt g e).2
      rw [e2] at e3
      cases e3
      omega
/-- one table, one int appended -/
theorem BS.appF1 {w1 u : World} {fv ov : Value} {F : List Tb.T} {O : List Nat} (h : BS w1 u fv ov F O) (G : Tb.T) (hn : F.length < 1000) (hsz : w1.heap.size ≤ u.heap.size) (ty : TypeId) :
    ∃ fv' u', (Builtin.append_ #[26, 26] ty #[fv, .slice (some ⟨u.heap.size, 0, none⟩) 1 1]).run Try.prog (u.alloc (.cells #[.int .u64 (Tb.wd G 0), .int .u64 (Tb.wd G 1), .int .u64 (Tb.wd G 2), .int .u64 (Tb.wd G 3)] 29)) = .ok fv' u' ∧
      BS w1 u' fv' ov (F ++ [G]) O ∧ u.heap.size ≤ u'.heap.size := by
  have hB := Blk.new u 29 (Tb.tcells G)
  have h1 := h.step ((Below.refl _ _).alloc (Nat.le_refl _) (.cells (Tb.tcells G) 29))
  obtain ⟨v', u', h2, h3, h4⟩ := h1.appF ⟨u.heap.size, 0, none⟩ 1 [G] (fun j H hj i hi => by
    match j, hj with
    | 0, hj =>
      simp at hj; subst hj
      rw [addr_add, hB.cell]
      match i, hi with
      | 0, _ => rfl
      | 1, _ => rfl
      | 2, _ => rfl
      | 3, _ => rfl
    | j + 1, hj => simp at hj) (by simp; omega) (by rw [alloc_size]; omega) ty
  exact ⟨v', u', h2, h3, by rw [alloc_size] at h4; omega⟩
theorem BS.appO1 {w1 u : World} {fv ov : Value} {F : List Tb.T} {O : List Nat} (h : BS w1 u fv ov F O) (x : Nat) (hn : O.length < 1000) (hsz : w1.heap.size ≤ u.heap.size) (ty : TypeId) :
    ∃ ov' u', (Builtin.append_ #[31, 31] ty #[ov, .slice (some ⟨u.heap.size, 0, none⟩) 1 1]).run Try.prog (u.alloc (.cells #[.int .i64 (x : Int)] 3)) = .ok ov' u' ∧
      BS w1 u' fv ov' F (O ++ [x]) ∧ u.heap.size ≤ u'.heap.size := by
  have hB := Blk.new u 3 #[.int .i64 (x : Int)]
  have h1 := h.step ((Below.refl _ _).alloc (Nat.le_refl _) (.cells #[.int .i64 (x : Int)] 3))
  obtain ⟨v', u', h2, h3, h4⟩ := h1.appO ⟨u.heap.size, 0, none⟩ 1 [x] (fun j y hj => by
    match j, hj with
    | 0, hj => simp at hj; subst hj; rw [addr_add, hB.cell]; rfl
    | j + 1, hj => simp at hj) (by simp; omega) (by rw [alloc_size]; omega) ty
  exact ⟨v', u', h2, h3, by rw [alloc_size] at h4; omega⟩
/-- f[j] = G -/
theorem BS.setF {w1 u : World} {g cap : Nat} {ov : Value} {F : List Tb.T} {O : List Nat} {n : Nat} (h : BS w1 u (.slice (some ⟨g, 0, none⟩) n cap) ov F O) (hn : n = F.length) (j : Nat) (hj : j < F.length) (G : Tb.T) :
    BS w1 ((((u.setCell ⟨g, j * 4, none⟩ (.int .u64 (Tb.wd G 0))).setCell ⟨g, j * 4 + 1, none⟩ (.int .u64 (Tb.wd G 1))).setCell ⟨g, j * 4 + 2, none⟩ (.int .u64 (Tb.wd G 2))).setCell ⟨g, j * 4 + 3, none⟩ (.int .u64 (Tb.wd G 3))) (.slice (some ⟨g, 0, none⟩) n cap) ov (F.set j G) O := by
  subst hn
  have hg : w1.heap.size ≤ g := (h.f.own.lt g rfl).1
  have hne : ov.ownBlock ≠ some g := h.ne g rfl
  have hset := own_set (own_set (own_set (own_set h.f.own (j * 4) (.int .u64 (Tb.wd G 0))) (j * 4 + 1) (.int .u64 (Tb.wd G 1))) (j * 4 + 2) (.int .u64 (Tb.wd G 2))) (j * 4 + 3) (.int .u64 (Tb.wd G 3))
  rw [← Tb.flt_set F j G hj] at hset
  refine ⟨(((h.be.setCell hg _).setCell hg _).setCell hg _).setCell hg _, ⟨by rw [List.length_set]; exact hset⟩, ⟨ownsRow_setCell_other (ownsRow_setCell_other (ownsRow_setCell_other (ownsRow_setCell_other h.o.own hne _) hne _) hne _) hne _⟩, h.ne⟩
/-- a piece and the rest behind a gap, in a new block -/
theorem BS.cutF {w1 u : World} {g cap : Nat} {ov : Value} {F : List Tb.T} {O : List Nat} {n : Nat} (h : BS w1 u (.slice (some ⟨g, 0, none⟩) n cap) ov F O) (hn : n = F.length) (hF : F.length < 1000) (i : Nat) (hi : i + 1 ≤ F.length) (hsz : w1.heap.size ≤ u.heap.size) (ty : TypeId) (c1 : Nat) :
    ∃ v1 u1, (Builtin.append_ #[26, 26] ty #[.slice none 0 0, .slice (some ⟨g, 0, none⟩) (i + 1) c1]).run Try.prog u = .ok v1 u1 ∧ BS w1 u1 (.slice (some ⟨g, 0, none⟩) n cap) ov F O ∧ TO u1 w1.heap.size v1 (F.take (i + 1)) ∧
      v1.ownBlock = some u.heap.size ∧ u.heap.size ≤ u1.heap.size := by
  subst hn
  have hlen : (F.take (i + 1)).length = i + 1 := by rw [List.length_take]; omega
  have hne : F ≠ [] := by intro e; rw [e] at hi; simp at hi
  obtain ⟨g', cap', he, _, _, _, hc⟩ := h.f.at_ hne
  cases he
  obtain ⟨v1, u1, hr, ho, hg, hat⟩ := (TO.nil u w1.heap.size).app ⟨g, 0, none⟩ c1 (F.take (i + 1)) (fun j G hj k hk => by
    rw [addr_add, Nat.zero_add]
    rw [List.getElem?_take] at hj
    split at hj
    · exact hc j G hj k hk
    · cases hj) (by rw [hlen]; simp; omega) hsz ty
  rw [hlen] at hr
  refine ⟨v1, u1, hr, h.step ⟨hg.os, hg.tape, hg.output, hg.size, fun k hk => hg.block k hk (by simp [Value.ownBlock])⟩, ho, ?_, hg.size⟩
  rcases hat with e | e
  · exfalso
    rcases ho.own.2 with ⟨_, h0⟩ | ⟨b, c, cur, rfl, _⟩
    · rw [List.nil_append, hlen] at h0; omega
    · simp [Value.ownBlock] at e
  · exact e
theorem BS.cutF2 {w1 u : World} {g cap : Nat} {ov v1 : Value} {F L : List Tb.T} {O : List Nat} {n b : Nat} (h : BS w1 u (.slice (some ⟨g, 0, none⟩) n cap) ov F O) (hn : n = F.length) (hF : F.length < 1000) (h1 : TO u w1.heap.size v1 L) (hv : v1.ownBlock = some b) (hb : ov.ownBlock ≠ some b) (hL : L.length < 1000)
    (i : Nat) (hi : i ≤ F.length) (hsz : w1.heap.size ≤ u.heap.size) (ty : TypeId) (a : Addr) (ha : i < cap → a = ⟨g, i * 4, none⟩) (c1 : Nat) :
    ∃ v2 u2, (Builtin.append_ #[26, 26] ty #[v1, .slice (some a) (n - i) c1]).run Try.prog u = .ok v2 u2 ∧ BS w1 u2 v2 ov (L ++ F.drop i) O ∧ u.heap.size ≤ u2.heap.size := by
  subst hn
  have hlen : (F.drop i).length = F.length - i := List.length_drop
  have h2 : BS w1 u v1 ov L O := ⟨h.be, h1, h.o, fun g e => by rw [hv] at e; cases e; exact hb⟩
  rw [← hlen]
  refine h2.appF a c1 (F.drop i) (fun j G hj k hk => ?_) (by rw [hlen]; omega) hsz ty
  have hjl := (List.getElem?_eq_some_iff.1 hj).1
  have hne : F ≠ [] := by intro e; rw [e] at hjl; simp at hjl
  obtain ⟨g', cap', he, _, _, hcap, hc⟩ := h.f.at_ hne
  cases he
  obtain rfl := ha (by omega)
  rw [List.getElem?_drop] at hj
  rw [addr_add, ← hc (i + j) G hj k hk]
  congr 2
  omega
theorem BS.cutO {w1 u : World} {g cap : Nat} {fv : Value} {F : List Tb.T} {O : List Nat} {n : Nat} (h : BS w1 u fv (.slice (some ⟨g, 0, none⟩) n cap) F O) (hn : n = O.length) (hO : O.length < 1000) (i : Nat) (hi : i < O.length) (hsz : w1.heap.size ≤ u.heap.size) (ty : TypeId) (c1 : Nat) :
    ∃ v1 u1, (Builtin.append_ #[31, 31] ty #[.slice none 0 0, .slice (some ⟨g, 0, none⟩) i c1]).run Try.prog u = .ok v1 u1 ∧ BS w1 u1 fv (.slice (some ⟨g, 0, none⟩) n cap) F O ∧ IO u1 w1.heap.size v1 (O.take i) ∧
      (v1.ownBlock = none ∨ v1.ownBlock = some u.heap.size) ∧ u.heap.size ≤ u1.heap.size := by
  subst hn
  have hlen : (O.take i).length = i := by rw [List.length_take]; omega
  have hne : O ≠ [] := by intro e; rw [e] at hi; simp at hi
  obtain ⟨g', cap', he, _, _, _, hc⟩ := h.o.at_ hne
  cases he
  obtain ⟨v1, u1, hr, ho, hg, hat⟩ := (IO.nil u w1.heap.size).app ⟨g, 0, none⟩ c1 (O.take i) (fun j x hj => by
    rw [addr_add, Nat.zero_add]
    rw [List.getElem?_take] at hj
    split at hj
    · exact hc j x hj
    · cases hj) (by rw [hlen]; simp; omega) hsz ty
  rw [hlen] at hr
  exact ⟨v1, u1, hr, h.step ⟨hg.os, hg.tape, hg.output, hg.size, fun k hk => hg.block k hk (by simp [Value.ownBlock])⟩, ho, hat, hg.size⟩
theorem BS.cutO2 {w1 u : World} {g cap : Nat} {fv v1 : Value} {F : List Tb.T} {O L : List Nat} {n : Nat} (h : BS w1 u fv (.slice (some ⟨g, 0, none⟩) n cap) F O) (hn : n = O.length) (hO : O.length < 1000) (h1 : IO u w1.heap.size v1 L) (hb : ∀ b, v1.ownBlock = some b → fv.ownBlock ≠ some b) (hL : L.length < 1000)
    (i : Nat) (hi : i ≤ O.length) (hsz : w1.heap.size ≤ u.heap.size) (ty : TypeId) (a : Addr) (ha : i < cap → a = ⟨g, i, none⟩) (c1 : Nat) :
    ∃ v2 u2, (Builtin.append_ #[31, 31] ty #[v1, .slice (some a) (n - i) c1]).run Try.prog u = .ok v2 u2 ∧ BS w1 u2 fv v2 F (L ++ O.drop i) ∧ u.heap.size ≤ u2.heap.size := by
  subst hn
  have hlen : (O.drop i).length = O.length - i := List.length_drop
  have h2 : BS w1 u fv v1 F L := ⟨h.be, h.f, h1, fun g e e2 => hb g e2 e⟩
  rw [← hlen]
  refine h2.appO a c1 (O.drop i) (fun j x hj => ?_) (by rw [hlen]; omega) hsz ty
  have hjl := (List.getElem?_eq_some_iff.1 hj).1
  have hne : O ≠ [] := by intro e; rw [e] at hjl; simp at hjl
  obtain ⟨g', cap', he, _, _, hcap, hc⟩ := h.o.at_ hne
  cases he
  obtain rfl := ha (by omega)
  rw [List.getElem?_drop] at hj
  rw [addr_add]
  exact hc (i + j) x hj
section
variable {a : Act} {u : World} {o : Oper} {x y : Operand}
theorem exec_ixT {b n c i : Nat} (hi : i < n) (hop : o.op = .indexAddr 26 x y) (hx : a.eval x = .slice (some ⟨b, 0, none⟩) n c) (hy : a.eval y = .int .i64 (i : Int)) :
    (execOp a.eval o).run Try.prog u = .ok (.value (.pointer (some ⟨b, i * 4, none⟩))) u := by
  have h1 : (i : Int) < (n : Int) := by omega
  unfold execOp
  simp only [hop, hx, hy]
  go_simp
theorem exec_ixU {b o_ n c i : Nat} (hi : i < n) (hop : o.op = .indexAddr 22 x y) (hx : a.eval x = .slice (some ⟨b, o_, none⟩) n c) (hy : a.eval y = .int .i64 (i : Int)) :
    (execOp a.eval o).run Try.prog u = .ok (.value (.pointer (some ⟨b, o_ + i, none⟩))) u := by
  have h1 : (i : Int) < (n : Int) := by omega
  unfold execOp
  simp only [hop, hx, hy]
  go_simp
theorem exec_load8 {p off : Nat} {v : Int} (hop : o.op = .load 5 x) (hx : a.eval x = .pointer (some ⟨p, off, none⟩)) (hc : u.cell? ⟨p, off, none⟩ = some (.int .u8 v)) :
    (execOp a.eval o).run Try.prog u = .ok (.value (.int .u8 v)) u := by
  unfold execOp
  simp only [hop, hx]
  go_simp
theorem exec_ix5u {p : Nat} {j : Nat} (hj : j < 5) (hop : o.op = .indexAddr 24 x y) (hx : a.eval x = .pointer (some ⟨p, 0, none⟩)) (hy : a.eval y = .int .u8 (j : Int)) :
    (execOp a.eval o).run Try.prog u = .ok (.value (.pointer (some ⟨p, j, none⟩))) u := by
  have h1 : (j : Int) < 5 := by omega
  unfold execOp
  simp only [hop, hx, hy]
  go_simp
theorem exec_rem5 {m k : Nat} (hm : m < 256) (hk : k = m % 5) (hop : o.op = .binOp .rem 5 x y 5) (hx : a.eval x = .int .u8 (m : Int)) (hy : a.eval y = .int .u8 5) :
    (execOp a.eval o).run Try.prog u = .ok (.value (.int .u8 (k : Int))) u := by
  have e0 : (m : Int) % 5 = (k : Int) := by omega
  clear hk
  unfold execOp
  simp only [hop, hx, hy]
  go_simp
  rw [Int.tmod_eq_emod_of_nonneg (by omega)]
  exact e0
theorem exec_addN {m n k : Nat} (hn : k = m + n) (h : k < 1000000) (hop : o.op = .binOp .add 3 x y 3) (hx : a.eval x = .int .i64 (m : Int)) (hy : a.eval y = .int .i64 (n : Int)) :
    (execOp a.eval o).run Try.prog u = .ok (.value (.int .i64 (k : Int))) u := by
  subst hn
  unfold execOp
  simp only [hop, hx, hy]
  go_simp
  rw [IntKind.wrap_i64]
  omega
theorem exec_cutTh {g m n c : Nat} (hm : m ≤ c) (hop : o.op = .slice 26 x none (some y) none) (hx : a.eval x = .slice (some ⟨g, 0, none⟩) n c) (hy : a.eval y = .int .i64 (m : Int)) :
    (execOp a.eval o).run Try.prog u = .ok (.value (.slice (some ⟨g, 0, none⟩) m c)) u := by
  have h1 : (m : Int) ≤ (c : Int) := by omega
  have h0 : (0 : Int) ≤ (m : Int) := by omega
  unfold execOp
  simp only [hop, hx, hy, Option.map_some, Option.map_none]
  go_simp
theorem exec_cutIh {g m n c : Nat} (hm : m ≤ c) (hop : o.op = .slice 31 x none (some y) none) (hx : a.eval x = .slice (some ⟨g, 0, none⟩) n c) (hy : a.eval y = .int .i64 (m : Int)) :
    (execOp a.eval o).run Try.prog u = .ok (.value (.slice (some ⟨g, 0, none⟩) m c)) u := by
  have h1 : (m : Int) ≤ (c : Int) := by omega
  have h0 : (0 : Int) ≤ (m : Int) := by omega
  unfold execOp
  simp only [hop, hx, hy, Option.map_some, Option.map_none]
  go_simp
theorem exec_cutTl {g m n c : Nat} {p : Addr} (hp : p = if c = m then ⟨g, 0, none⟩ else ⟨g, m * 4, none⟩) (hm : m ≤ n) (hop : o.op = .slice 26 x (some y) none none) (hx : a.eval x = .slice (some ⟨g, 0, none⟩) n c) (hy : a.eval y = .int .i64 (m : Int)) :
    (execOp a.eval o).run Try.prog u = .ok (.value (.slice (some p) (n - m) (c - m))) u := by
  have h1 : (m : Int) ≤ (n : Int) := by omega
  have h0 : (0 : Int) ≤ (m : Int) := by omega
  subst hp
  unfold execOp
  simp only [hop, hx, hy, Option.map_some, Option.map_none]
  go_simp
  by_cases e : c = m <;> simp [e, sliced, addr_add]
theorem exec_cutIl {g m n c : Nat} {p : Addr} (hp : p = if c = m then ⟨g, 0, none⟩ else ⟨g, m, none⟩) (hm : m ≤ n) (hop : o.op = .slice 31 x (some y) none none) (hx : a.eval x = .slice (some ⟨g, 0, none⟩) n c) (hy : a.eval y = .int .i64 (m : Int)) :
    (execOp a.eval o).run Try.prog u = .ok (.value (.slice (some p) (n - m) (c - m))) u := by
  have h1 : (m : Int) ≤ (n : Int) := by omega
  have h0 : (0 : Int) ≤ (m : Int) := by omega
  subst hp
  unfold execOp
  simp only [hop, hx, hy, Option.map_some, Option.map_none]
  go_simp
  by_cases e : c = m <;> simp [e, sliced, addr_add]
end
end Go.Proofs.Ytfgokhafiffbaaa

/-
  ExprBinds: the walk.
-/
namespace Go.Proofs.Ytfgokhafiffbaaa
set_option linter.unusedVariables false
open Go.RowKit
/-- append, where its run is known -/
theorem wpList_appB {P : Program} (w : World) {ops : Array Oper} {rest : List Oper} {o : Oper} {a : Act} {Q : Exit → Act → World → Prop} (hgd : o.guard = none) (s x : Operand) (t : TypeId)
    (ho : o.op = .call { callee := .builtin .append, args := #[s, x], argTypes := #[t, t] }) {v1 v2 v' : Value} {w' : World} (hs : a.eval s = v1) (hx : a.eval x = v2)
    (hr : (Builtin.append_ #[t, t] o.type #[v1, v2]).run P w = .ok v' w') (h : wpList P ops Q rest (a.put o.dst v') w') : wpList P ops Q (o :: rest) a w := by
  refine wpList_plain hgd fun K hK => ?_
  unfold Oper.wp execOp
  simp only [ho, resolve, invoke, builtin, Sem.run_bind, Sem.run_pure, Result.andThen_ok, List.map_toArray, List.map_cons, List.map_nil, hs, hx, hr]
  exact hK _ _ h
/-- a byte of what came in -/
theorem BytesVal.at_ {w u : World} {p : Option Addr} {n c : Nat} {bs : List Nat} (h : BytesVal w (.slice p n c) bs) (hb : Below w.heap.size w u) {i x : Nat} (hx : bs[i]? = some x) :
    x < 256 ∧ ∃ g off, p = some ⟨g, off, none⟩ ∧ u.cell? ⟨g, off + i, none⟩ = some (.int .u8 (x : Int)) := by
  obtain ⟨p', c', e, hc⟩ := h
  cases e
  obtain ⟨h1, g, off, h2, h3⟩ := hc i x hx
  exact ⟨h1, g, off, h2, (hb.cell (block_lt_of_cell h3)).trans h3⟩
set_option maxHeartbeats 8000000 in
theorem binds_big (ops vars : List Nat) (s1 s2 : Value) (w : World) (h1 : BytesVal w s1 ops) (h2 : BytesVal w s2 vars) (hbig : 6 < ops.length ∨ vars.length ≤ ops.length) :
    Calls Try.prog 3 #[s1, s2] w fun e w' => e = .returned (.bool true) ∧ Below w.heap.size w w' := by
  obtain ⟨p1, c1, rfl, _⟩ := h1
  obtain ⟨p2, c2, rfl, _⟩ := h2
  go_enter Try.func3, Try.ntmps3
  go_wp2_with fail
  refine (known_any _).mono ?_
  rintro e w0 ⟨rfl, hb0⟩
  by_cases q : (ops.length : Int) > 6
  · go_wp2_with fail
    go_ret
    exact ⟨rfl, hb0⟩
  · have q2 : (vars.length : Int) ≤ ops.length := by omega
    go_wp2_with fail
    go_ret
    exact ⟨rfl, hb0⟩
theorem Bi.sgn_cells (k : Nat) (hk : k < 5) : (#[.string { data := #[38] }, .string { data := #[94] }, .string { data := #[124] }, .string { data := #[45, 62] }, .string { data := #[60, 45, 62] }] : Array Value)[k]? = some (.string (strOf (Bi.sgn k))) := by
  have e0 : strOf (Bi.sgn 0) = { data := #[38] } := by decide +kernel
  have e1 : strOf (Bi.sgn 1) = { data := #[94] } := by decide +kernel
  have e2 : strOf (Bi.sgn 2) = { data := #[124] } := by decide +kernel
  have e3 : strOf (Bi.sgn 3) = { data := #[45, 62] } := by decide +kernel
  have e4 : strOf (Bi.sgn 4) = { data := #[60, 45, 62] } := by decide +kernel
  have hc : k = 0 ∨ k = 1 ∨ k = 2 ∨ k = 3 ∨ k = 4 := by omega
  rcases hc with rfl | rfl | rfl | rfl | rfl
  · rw [e0]; rfl
  · rw [e1]; rfl
  · rw [e2]; rfl
  · rw [e3]; rfl
  · rw [e4]; rfl
theorem strOf_app (a b : List Nat) : strOf a ++ strOf b = strOf (a ++ b) := ba_ext (by unfold strOf; simp)
theorem strOf_blank : ({ data := #[32] } : ByteArray) = strOf [32] := by decide +kernel
theorem Bi.rem5i {x k : Nat} (h : k = x % 5) : k < 5 ∧ (x : Int) % 5 = (k : Int) ∧ (x : Int).tmod 5 = (k : Int) ∧ IntKind.i64.wrap (k : Int) = (k : Int) := by
  have e : (x : Int) % 5 = (k : Int) := by omega
  exact ⟨by omega, e, (Int.tmod_eq_emod_of_nonneg (Int.natCast_nonneg x)).trans e, by rw [IntKind.wrap_i64]; omega⟩
theorem Bi.rem8i {x k : Nat} (h : x % 8 = k) : k < 8 ∧ (x : Int) % 8 = (k : Int) ∧ (x : Int).tmod 8 = (k : Int) ∧ IntKind.i64.wrap (k : Int) = (k : Int) := by
  have e : (x : Int) % 8 = (k : Int) := by omega
  exact ⟨by omega, e, (Int.tmod_eq_emod_of_nonneg (Int.natCast_nonneg x)).trans e, by rw [IntKind.wrap_i64]; omega⟩
theorem Bi.stepi {n a b : Nat} (h1 : a ≤ 6) (h2 : n < a) (h3 : a < b) : wrap64 ((n : Int) + 1) = (n : Int) + 1 ∧ (n : Int) + 1 < (b : Int) ∧ n < 1000 ∧ 0 ≤ (n : Int) + 1 ∧ ((n : Int) + 1).toNat = n + 1 := ⟨w64 _ (by omega), by omega, by omega, by omega, by omega⟩
/-- the variable's number at a place -/
def Bi.vn (vars : List Nat) (i : Nat) : Fin 8 := Fin.ofNat 8 (vars.getD i 0)
theorem Bi.vn_val {vars : List Nat} {i x : Nat} (h : vars[i]? = some x) : (Bi.vn vars i).val = x % 8 := by
  unfold Bi.vn
  rw [List.getD_eq_getElem?_getD, h]
  rfl
/-- what is kept in the first loop -/
structure L1 (w w1 u : World) (ops vars : List Nat) (i : Nat) (sv fv ov : Value) : Prop where
  s : sv = .string (strOf (Bi.txt (Bi.vn vars) 0 ((ops.map (· % 5)).take i)))
  k : BS w1 u fv ov ((List.range (i + 1)).map fun j => Tb.var ((Bi.vn vars j).val : Int)) ((ops.map (· % 5)).take i)
theorem L1.next {w w1 u : World} {ops vars : List Nat} {n x y k my : Nat} {fv ov : Value} (hk : BS w1 u fv ov (((List.range (n + 1)).map fun j => Tb.var ((Bi.vn vars j).val : Int)) ++ [Tb.var (my : Int)]) ((ops.map (· % 5)).take n ++ [k]))
    (hx : ops[n]? = some x) (hkx : k = x % 5) (hy : vars[n + 1]? = some y) (hmy : y % 8 = my) {l4 : List Nat} (hl : l4 = Bi.txt (Bi.vn vars) 0 ((ops.map (· % 5)).take n) ++ [32] ++ Bi.sgn k ++ [32] ++ [118, 48 + y % 8]) :
    L1 w w1 u ops vars (n + 1) (.string (strOf l4)) fv ov := by
  have hn : n < ops.length := (List.getElem?_eq_some_iff.1 hx).1
  have e1 : (ops.map (· % 5)).take (n + 1) = (ops.map (· % 5)).take n ++ [k] := by
    rw [List.take_add_one, List.getElem?_map, hx]
    simp [hkx]
  have e2 : (List.range (n + 1 + 1)).map (fun j => Tb.var ((Bi.vn vars j).val : Int)) = ((List.range (n + 1)).map fun j => Tb.var ((Bi.vn vars j).val : Int)) ++ [Tb.var (my : Int)] := by
    rw [List.range_succ, List.map_append, List.map_cons, List.map_nil, Bi.vn_val hy, hmy]
  refine ⟨?_, by rw [e1, e2]; exact hk⟩
  rw [e1, Bi.txt_snoc, hl]
  have hlen : ((ops.map (· % 5)).take n).length = n := by rw [List.length_take, List.length_map]; omega
  rw [hlen, Nat.zero_add, Bi.vn_val hy]
def Bi.ph (o : List Nat) (f : List Tb.T) : Nat → List Nat × List Tb.T
  | 0 => (o, f)
  | n + 1 => Bi.all Bi.joinT 7 n (Bi.ph o f n).1 (Bi.ph o f n).2
theorem Bi.red_ph (o : List Nat) (f : List Tb.T) : Bi.red Bi.joinT o f = Bi.ph o f 5 := rfl
theorem Bi.first_lt {k : Nat} : ∀ {l : List Nat} {i : Nat}, Bi.first k l = some i → i < l.length
  | [], i, h => by simp [Bi.first] at h
  | x :: r, i, h => by
    have ih := fun j => Bi.first_lt (k := k) (l := r) (i := j)
    rw [Bi.first] at h
    split at h
    · split at h
      · split at h
        · rename_i j hj; cases h; have := ih j hj; simp; omega
        · cases h; simp
      · cases h; simp
    · cases hf : Bi.first k r with
      | none => rw [hf] at h; cases h
      | some j => rw [hf] at h; cases h; have := ih j hf; simp; omega
/-- sizes that fit -/
def Bi.fit (O : List Nat) (F : List Tb.T) : Prop := F.length = O.length + 1 ∧ O.length ≤ 6 ∧ ∀ x ∈ O, x < 5
theorem Bi.fit_at {O : List Nat} {F : List Tb.T} {i : Nat} (h : Bi.fit O F) (hi : i < O.length) (x y : Tb.T) (k : Nat) (hx : F[i]? = some x) (hy : F[i + 1]? = some y) :
    Bi.at_ Bi.joinT k i O F = (O.take i ++ O.drop (i + 1), F.take i ++ [Bi.joinT k x y] ++ F.drop (i + 2)) ∧ Bi.fit (O.take i ++ O.drop (i + 1)) (F.take i ++ [Bi.joinT k x y] ++ F.drop (i + 2)) ∧ (O.take i ++ O.drop (i + 1)).length + 1 = O.length := by
  have hl : (O.take i ++ O.drop (i + 1)).length + 1 = O.length := by rw [List.length_append, List.length_take, List.length_drop]; omega
  refine ⟨by unfold Bi.at_; rw [hx, hy], ⟨?_, by have := h.2.1; omega, fun x hx => ?_⟩, hl⟩
  · have := h.1
    rw [List.length_append, List.length_append, List.length_take, List.length_drop] 
    simp only [List.length_cons, List.length_nil]
    omega
  · rcases List.mem_append.1 hx with h1 | h1
    · exact h.2.2 x (List.mem_of_mem_take h1)
    · exact h.2.2 x (List.mem_of_mem_drop h1)
/-- what is kept in the loop over the strengths -/
structure L2 (w1 wr : World) (O0 : List Nat) (F0 : List Tb.T) (fv ov kv : Value) : Prop where
  ex : ∃ k : Nat, k ≤ 5 ∧ kv = .int .i64 (k : Int) ∧ ∃ O F, Bi.ph O0 F0 k = (O, F) ∧ Bi.fit O F ∧ BS w1 wr fv ov F O
/-- what is kept in the loop over the places of one strength -/
structure L3 (w1 wr : World) (k : Nat) (T : List Nat × List Tb.T) (fv ov iv : Value) : Prop where
  ex : ∃ O F m, O.length ≤ m ∧ Bi.all Bi.joinT m k O F = T ∧ Bi.fit O F ∧ BS w1 wr fv ov F O ∧ iv = .int .i64 (Bi.at1 (Bi.first k O))
def Bi.lenOf : Value → Nat
  | .slice _ n _ => n
  | _ => 0
theorem IO.len {w : World} {base : Nat} {v : Value} {L : List Nat} (h : IO w base v L) : Bi.lenOf v = L.length ∧ ∃ p c, v = .slice p L.length c := by
  rcases h.own.2 with ⟨e, h0⟩ | ⟨g', cap', cur, hv, _⟩
  · subst e; exact ⟨h0.symm, none, 0, by rw [h0]⟩
  · subst hv; exact ⟨rfl, _, _, rfl⟩
theorem TO.len {w : World} {base : Nat} {v : Value} {L : List Tb.T} (h : TO w base v L) : ∃ p c, v = .slice p L.length c := by
  rcases h.own.2 with ⟨e, h0⟩ | ⟨g', cap', cur, hv, _⟩
  · subst e; exact ⟨none, 0, by rw [h0]⟩
  · subst hv; exact ⟨_, _, rfl⟩
theorem IO.where_ {w : World} {base n c : Nat} {p : Option Addr} {L : List Nat} (h : IO w base (.slice p n c) L) : ∃ b, (L ≠ [] → p = some ⟨b, 0, none⟩) ∧ ∀ (j x : Nat), L[j]? = some x → w.cell? ⟨b, 0 + j, none⟩ = some (.int .i64 (x : Int)) := by
  by_cases hne : L = []
  · subst hne
    exact ⟨0, fun h => absurd rfl h, fun j x hj => by simp at hj⟩
  · obtain ⟨g, cap, e, _, _, _, hc⟩ := h.at_ hne
    cases e
    exact ⟨g, fun _ => rfl, fun j x hj => by rw [Nat.zero_add]; exact hc j x hj⟩
theorem Bi.all_none {k m : Nat} {O : List Nat} {F : List Tb.T} (h : Bi.first k O = none) : Bi.all Bi.joinT m k O F = (O, F) := by
  cases m with
  | zero => rfl
  | succ m => rw [Bi.all, h]
theorem Bi.all_some {k m i : Nat} {O : List Nat} {F : List Tb.T} (h : Bi.first k O = some i) (hm : O.length ≤ m) : ∃ m', m = m' + 1 ∧ Bi.all Bi.joinT m k O F = Bi.all Bi.joinT m' k (Bi.at_ Bi.joinT k i O F).1 (Bi.at_ Bi.joinT k i O F).2 := by
  have := Bi.first_lt h
  cases m with
  | zero => omega
  | succ m => exact ⟨m, rfl, by rw [Bi.all, h]⟩
theorem TO.cellAt {w : World} {base g n c : Nat} {L : List Tb.T} (h : TO w base (.slice (some ⟨g, 0, none⟩) n c) L) {j : Nat} {F : Tb.T} (hj : L[j]? = some F) (i : Nat) (hi : i < 4) : w.cell? ⟨g, j * 4 + i, none⟩ = some (.int .u64 (Tb.wd F i)) := by
  obtain ⟨g', cap, e, _, _, _, hc⟩ := h.at_ (by intro e; rw [e] at hj; simp at hj)
  cases e
  exact hc j F hj i hi
theorem exec_loadTA {a : Act} {u : World} {o : Oper} {x : Operand} {p off : Nat} {F : Tb.T} (hop : o.op = .load 29 x) (hx : a.eval x = .pointer (some ⟨p, off, none⟩)) (h : ∀ j, j < 4 → u.cell? ⟨p, off + j, none⟩ = some (.int .u64 (Tb.wd F j))) :
    (execOp a.eval o).run Try.prog u = .ok (.value (Tb.tv F)) u :=
  exec_loadL hop hx (h 0 (by omega)) (h 1 (by omega)) (h 2 (by omega)) (h 3 (by omega))
theorem Bi.set_cut {F : List Tb.T} {i : Nat} (h : i < F.length) (G : Tb.T) : (F.set i G).take (i + 1) ++ (F.set i G).drop (i + 2) = F.take i ++ [G] ++ F.drop (i + 2) := by
  rw [List.take_set, List.drop_set_of_lt (by omega)]
  congr 1
  rw [List.take_add_one, List.getElem?_eq_getElem h]
  simp only [Option.toList_some]
  have hm : min i F.length = i := by omega
  simp only [List.set_append, List.length_take, hm, Nat.lt_irrefl, if_false, Nat.sub_self, List.set_cons_zero]
theorem Bi.ite_addr {c m g k : Nat} (h : m < c) : (if c = m then (⟨g, 0, none⟩ : Addr) else ⟨g, k, none⟩) = ⟨g, k, none⟩ := if_neg (by omega)
/-- a formula's box -/
structure OE (u : World) (ba : Nat) (s : Tr) (ss : Value) : Prop where
  a : Blk u ba 36 #[.int .i64 s.k, .int .i64 s.a, .int .i64 s.v, ss]
  sa : SlF u (fun _ => True) ss s.kids
theorem OE.step {u u' : World} {ba : Nat} {s : Tr} {ss : Value} (h : OE u ba s ss) (hb : Below u.heap.size u u') : OE u' ba s ss := ⟨h.a.below hb h.a.lt, h.sa.below hb⟩
theorem OE.box {u : World} {s : Tr} {ss : Value} {B : Nat → Prop} (hs : SlF u B ss s.kids) : OE (u.alloc (.cells #[.int .i64 s.k, .int .i64 s.a, .int .i64 s.v, ss] 36)) u.heap.size s ss :=
  ⟨boxE _ _ _ _ _, (hs.mono fun _ _ => True.intro).alloc _⟩
set_option maxRecDepth 100000 in
set_option maxHeartbeats 8000000 in
theorem binds_main (ops vars : List Nat) (p1 p2 : Option Addr) (c1 c2 : Nat) (w : World) (h1 : BytesVal w (.slice p1 ops.length c1) ops) (h2 : BytesVal w (.slice p2 vars.length c2) vars) (hle : ops.length ≤ 6) (hlt : ops.length < vars.length) :
    Calls Try.prog 3 #[.slice p1 ops.length c1, .slice p2 vars.length c2] w fun e w' => e = .returned (.bool true) ∧ Below w.heap.size w w' := by
  have q1 : ¬ (ops.length : Int) > 6 := by omega
  have q2 : ¬ (vars.length : Int) ≤ ops.length := by omega
  have q3 : (0 : Int) < (vars.length : Int) := by omega
  have n1 : ¬ vars.length ≤ ops.length := by omega
  have n2 : (decide (vars.length ≤ ops.length)) = false := decide_eq_false n1
  obtain ⟨x0, hx0⟩ : ∃ x, vars[0]? = some x := ⟨_, List.getElem?_eq_getElem (by omega)⟩
  have HA1 := Bx.mk fun u (hb : Below w.heap.size w u) i x (hx : ops[i]? = some x) => h1.at_ hb hx
  have HA2 := Bx.mk fun u (hb : Below w.heap.size w u) i x (hx : vars[i]? = some x) => h2.at_ hb hx
  have HX := Bx.mk (Bi.vn_val hx0)
  have HX0 := Bx.mk hx0
  clear h1 h2 hx0
  obtain ⟨hx8, g2, o2, rfl, _⟩ := HA2.out w (Below.refl _ _) 0 x0 HX0.out
  obtain ⟨m0, hm0⟩ : ∃ m, Bx (x0 % 8 = m) := ⟨_, ⟨rfl⟩⟩
  have e8 : (x0 : Int) % 8 = (m0 : Int) := by have := hm0.out; omega
  have e8' : (x0 : Int).tmod 8 = (m0 : Int) := by have := hm0.out; rw [Int.tmod_eq_emod_of_nonneg (by omega)]; omega
  have hm8 : m0 < 8 := by have := hm0.out; omega
  have hw8 : IntKind.i64.wrap (m0 : Int) = (m0 : Int) := by rw [IntKind.wrap_i64]; omega
  have HNM := Bx.mk fun u => name_any x0 hx8 u
  rw [hm0.out] at HNM HX
  have HLE := Bx.mk hle
  have HLT := Bx.mk hlt
  clear hle hlt
  go_enter Try.func3, Try.ntmps3
  go_wp2_with fail
  refine (known_any _).mono ?_
  rintro e w0 ⟨rfl, hb0⟩
  have c0 : ∀ u, Below w.heap.size w u → u.cell? ⟨g2, o2, none⟩ = some (.int .u8 (x0 : Int)) := fun u hb => by
    obtain ⟨_, g, off, e, h⟩ := HA2.out u hb 0 x0 HX0.out
    cases e
    exact h
  have C0 := Bx.mk c0
  clear c0
  have hB := Blk.new w0 24 #[.string { data := #[38] }, .string { data := #[94] }, .string { data := #[124] }, .string { data := #[45, 62] }, .string { data := #[60, 45, 62] }]
  have hb1 : Below w.heap.size w (w0.alloc (.cells #[.string { data := #[38] }, .string { data := #[94] }, .string { data := #[124] }, .string { data := #[45, 62] }, .string { data := #[60, 45, 62] }] 24)) := hb0.alloc hb0.size _
  have hsz := alloc_size w0 (.cells #[.string { data := #[38] }, .string { data := #[94] }, .string { data := #[124] }, .string { data := #[45, 62] }, .string { data := #[60, 45, 62] }] 24)
  have c0 := C0.out _ hb1
  have b0 : ((ops.length : Int) > 6) = False := by simp; omega
  go_wp2_with fail
  refine (HNM.out _).mono ?_
  rintro e u1 ⟨rfl, hb⟩
  obtain ⟨w1, hw1⟩ : ∃ w1, Bx (w1 = w0.alloc (.cells #[.string { data := #[38] }, .string { data := #[94] }, .string { data := #[124] }, .string { data := #[45, 62] }, .string { data := #[60, 45, 62] }] 24)) := ⟨_, ⟨rfl⟩⟩
  have hk := (BS.start w1)
  rw [← hw1.out] at hb hB hb1 hsz
  replace hk := hk.step hb
  clear c0
  have c0 := C0.out _ (hb1.trans (hb.mono hb1.size))
  have hwB := Bx.mk hB
  have hwb := Bx.mk hb1
  have hus := hb.size
  have HK := Bx.mk hk
  clear hB hb1 hk hb
  generalize hg0 : w0.heap.size = g0 at *
  clear hw1 hb0
  go_wp2_with fail
  refine (rvar_any (m0 : Int) u1).mono ?_
  rintro e u2 ⟨rfl, hb⟩
  have hk2 := HK.out.step hb
  obtain ⟨fv, u3, hr3, hk3, hs3⟩ := hk2.appF1 (Tb.var (m0 : Int)) (by simp) hk2.be.size 26
  have HK3 := Bx.mk hk3
  clear HK hk2 hk3 hb c0
  generalize hG : Tb.var (m0 : Int) = G at *
  have HG := Bx.mk hG
  clear hG
  unfold Tb.tv
  generalize hnv : Value.slice none 0 0 = nv at hr3 ⊢
  have HNV := Bx.mk hnv
  clear hnv
  go_wp2_with (first | (at_builtin; refine wpList_appB _ rfl _ _ _ rfl rfl rfl hr3 ?_) | fail)
  clear hr3
  have hnv := HNV.out
  subst hnv
  go_loopw [6, 7, 8, 9] (fun sv fv ov i wr => ∃ n : Nat, n ≤ ops.length ∧ i = .int .i64 (n : Int) ∧ L1 w w1 wr ops vars n sv fv ov) (fun _ _ _ i _ => ops.length - (intOf i).toNat)
  case atStart => 
    have hk := HK3.out
    refine ⟨0, Nat.zero_le _, rfl, by simp [Bi.txt, HX.out], ?_⟩
    rw [← HG.out, ← HX.out] at hk
    exact hk
  case round =>
    obtain ⟨n, hn, rfl, hL⟩ := hrel
    by_cases hlt : n < ops.length
    · have q : (n : Int) < (ops.length : Int) := by omega
      obtain ⟨x, hx⟩ : ∃ x, ops[n]? = some x := ⟨_, List.getElem?_eq_getElem hlt⟩
      obtain ⟨y, hy⟩ : ∃ y, vars[n + 1]? = some y := ⟨_, List.getElem?_eq_getElem (by have := HLT.out; omega)⟩
      obtain ⟨hx8b, g1, o1, rfl, _⟩ := HA1.out w (Below.refl _ _) n x hx
      have hy8b := (HA2.out w (Below.refl _ _) (n + 1) y hy).1
      have CX : Bx (∀ u F O fv ov, BS w1 u fv ov F O → u.cell? ⟨g1, o1 + n, none⟩ = some (.int .u8 (x : Int))) := ⟨fun u F O fv ov hb => by
        obtain ⟨_, g, off, e, h⟩ := HA1.out u (hwb.out.trans (hb.be.mono hwb.out.size)) n x hx
        cases e
        exact h⟩
      have CY : Bx (∀ u F O fv ov, BS w1 u fv ov F O → u.cell? ⟨g2, o2 + (n + 1), none⟩ = some (.int .u8 (y : Int))) := ⟨fun u F O fv ov hb => by
        obtain ⟨_, g, off, e, h⟩ := HA2.out u (hwb.out.trans (hb.be.mono hwb.out.size)) (n + 1) y hy
        cases e
        exact h⟩
      have CS : Bx (∀ u k F O fv ov, k < 5 → BS w1 u fv ov F O → u.cell? ⟨g0, k, none⟩ = some (.string (strOf (Bi.sgn k)))) := ⟨fun u k F O fv ov hk hb => by
        rw [hb.be.cell (p := ⟨g0, k, none⟩) (by rw [hsz]; exact Nat.lt_succ_self _), hwB.out.cell]
        exact Bi.sgn_cells k hk⟩
      have HS := hL.s
      have hL2 := hL.k
      obtain ⟨F, hF⟩ : ∃ F, Bx (F = (List.range (n + 1)).map fun j => Tb.var ((Bi.vn vars j).val : Int)) := ⟨_, ⟨rfl⟩⟩
      obtain ⟨O, hO⟩ : ∃ O, Bx (O = (ops.map (· % 5)).take n) := ⟨_, ⟨rfl⟩⟩
      rw [← hF.out, ← hO.out] at hL2
      rw [← hO.out] at HS
      have HL := Bx.mk hL2
      obtain ⟨l, hl⟩ : ∃ l, Bx (l = Bi.txt (Bi.vn vars) 0 O) := ⟨_, ⟨rfl⟩⟩
      obtain ⟨l1, hl1⟩ : ∃ l1, Bx (l1 = l ++ [32]) := ⟨_, ⟨rfl⟩⟩
      rw [← hl.out] at HS
      have hOl : O.length = n := by rw [hO.out, List.length_take, List.length_map]; omega
      have hll : l.length ≤ 50 := by have h1 := Bi.txt_len (Bi.vn vars) O 0; have := HLE.out; have := hl.out; rw [this]; omega
      have hFl : F.length = n + 1 := by rw [hF.out, List.length_map, List.length_range]
      clear hL2
      subst HS
      clear hL
      go_wp2_with fail
      refine region_any 100 (fun u => BS w1 u u7 u8 F O) (by kernel_rfl) ?_
      generalize hu : World.drew _ = u0
      have hS0 : BS w1 u0 u7 u8 F O := by rw [← hu]; exact HL.out.step ((Below.refl _ _).drew)
      clear hu
      obtain ⟨k, hk⟩ : ∃ k, Bx (k = x % 5) := ⟨_, ⟨rfl⟩⟩
      have hk5 : k < 5 := by have := hk.out; omega
      refine any_take (i := 0) (.string (strOf l)) rfl rfl (by kernel_rfl) (by kernel_rfl) (by kernel_rfl) (by kernel_rfl) (fun _ _ d _ _ h => by cases d <;> exact h) (fun u hS => rfl) hS0 ?_
      (try simp only [Act.put]); (try simp only [List.getElem_toArray]); (try simp only [List.getElem_cons_succ]); (try simp only [List.getElem_cons_zero]); (try simp only [List.setIfInBounds_toArray]); (try simp only [List.set_cons_succ]); (try simp only [List.set_cons_zero])
      refine any_take (i := 2) (.slice (some ⟨g1, o1, none⟩) ops.length c1) rfl rfl (by kernel_rfl) (by kernel_rfl) (by kernel_rfl) (by kernel_rfl) (fun _ _ d _ _ h => by cases d <;> exact h) (fun u hS => rfl) hS0 ?_
      (try simp only [Act.put]); (try simp only [List.getElem_toArray]); (try simp only [List.getElem_cons_succ]); (try simp only [List.getElem_cons_zero]); (try simp only [List.setIfInBounds_toArray]); (try simp only [List.set_cons_succ]); (try simp only [List.set_cons_zero])
      refine any_take (i := 3) (.int .i64 (n : Int)) rfl rfl (by kernel_rfl) (by kernel_rfl) (by kernel_rfl) (by kernel_rfl) (fun _ _ d _ _ h => by cases d <;> exact h) (fun u hS => rfl) hS0 ?_
      (try simp only [Act.put]); (try simp only [List.getElem_toArray]); (try simp only [List.getElem_cons_succ]); (try simp only [List.getElem_cons_zero]); (try simp only [List.setIfInBounds_toArray]); (try simp only [List.set_cons_succ]); (try simp only [List.set_cons_zero])
      refine any_take (i := 4) (.pointer (some ⟨g1, o1 + n, none⟩)) rfl rfl (by kernel_rfl) (by kernel_rfl) (by kernel_rfl) (by kernel_rfl) (fun _ _ d _ _ h => by cases d <;> exact h) (fun u hS => exec_ixU hlt rfl rfl rfl) hS0 ?_
      (try simp only [Act.put]); (try simp only [List.getElem_toArray]); (try simp only [List.getElem_cons_succ]); (try simp only [List.getElem_cons_zero]); (try simp only [List.setIfInBounds_toArray]); (try simp only [List.set_cons_succ]); (try simp only [List.set_cons_zero])
      refine any_take (i := 5) (.int .u8 (x : Int)) rfl rfl (by kernel_rfl) (by kernel_rfl) (by kernel_rfl) (by kernel_rfl) (fun _ _ d _ _ h => by cases d <;> exact h) (fun u hS => exec_load8 rfl rfl (CX.out u _ _ _ _ hS)) hS0 ?_
      (try simp only [Act.put]); (try simp only [List.getElem_toArray]); (try simp only [List.getElem_cons_succ]); (try simp only [List.getElem_cons_zero]); (try simp only [List.setIfInBounds_toArray]); (try simp only [List.set_cons_succ]); (try simp only [List.set_cons_zero])
      refine any_take (i := 6) (.int .u8 (k : Int)) rfl rfl (by kernel_rfl) (by kernel_rfl) (by kernel_rfl) (by kernel_rfl) (fun _ _ d _ _ h => by cases d <;> exact h) (fun u hS => exec_rem5 hx8b hk.out rfl rfl rfl) hS0 ?_
      (try simp only [Act.put]); (try simp only [List.getElem_toArray]); (try simp only [List.getElem_cons_succ]); (try simp only [List.getElem_cons_zero]); (try simp only [List.setIfInBounds_toArray]); (try simp only [List.set_cons_succ]); (try simp only [List.set_cons_zero])
      refine any_take (i := 7) (.pointer (some ⟨g0, k, none⟩)) rfl rfl (by kernel_rfl) (by kernel_rfl) (by kernel_rfl) (by kernel_rfl) (fun _ _ d _ _ h => by cases d <;> exact h) (fun u hS => exec_ix5u hk5 rfl rfl rfl) hS0 ?_
      (try simp only [Act.put]); (try simp only [List.getElem_toArray]); (try simp only [List.getElem_cons_succ]); (try simp only [List.getElem_cons_zero]); (try simp only [List.setIfInBounds_toArray]); (try simp only [List.set_cons_succ]); (try simp only [List.set_cons_zero])
      obtain ⟨sg, hsg⟩ : ∃ sg, Bx (sg = Bi.sgn k) := ⟨_, ⟨rfl⟩⟩
      have hsl : sg.length ≤ 3 := by rw [hsg.out]; unfold Bi.sgn; split <;> simp
      obtain ⟨l2, hl2⟩ : ∃ l2, Bx (l2 = l1 ++ sg) := ⟨_, ⟨rfl⟩⟩
      obtain ⟨l3, hl3⟩ : ∃ l3, Bx (l3 = l2 ++ [32]) := ⟨_, ⟨rfl⟩⟩
      obtain ⟨ln, hln⟩ : ∃ ln, Bx (ln = [118, 48 + y % 8]) := ⟨_, ⟨rfl⟩⟩
      obtain ⟨l4, hl4⟩ : ∃ l4, Bx (l4 = l3 ++ ln) := ⟨_, ⟨rfl⟩⟩
      have hl1l : l1.length ≤ 51 := by rw [hl1.out]; simp; omega
      have hl2l : l2.length ≤ 54 := by rw [hl2.out]; simp; omega
      have hl3l : l3.length ≤ 55 := by rw [hl3.out]; simp; omega
      have hlnl : ln.length ≤ 2 := by rw [hln.out]; simp
      refine any_take (i := 8) (.string (strOf sg)) rfl rfl (by kernel_rfl) (by kernel_rfl) (by kernel_rfl) (by kernel_rfl) (fun _ _ d _ _ h => by cases d <;> exact h) (fun u hS => exec_loadG rfl rfl ((CS.out u k _ _ _ _ hk5 hS).trans (by rw [hsg.out]))) hS0 ?_
      (try simp only [Act.put]); (try simp only [List.getElem_toArray]); (try simp only [List.getElem_cons_succ]); (try simp only [List.getElem_cons_zero]); (try simp only [List.setIfInBounds_toArray]); (try simp only [List.set_cons_succ]); (try simp only [List.set_cons_zero])
      refine any_take (i := 1) (.string (strOf l1)) rfl rfl (by kernel_rfl) (by kernel_rfl) (by kernel_rfl) (by kernel_rfl) (fun _ _ d _ _ h => by cases d <;> exact h) (fun u hS => exec_addR (by rw [strOf_blank, strOf_app, hl1.out]) rfl rfl rfl (by rw [strOf_blank, strOf_size, strOf_size]; simp; omega)) hS0 ?_
      (try simp only [Act.put]); (try simp only [List.getElem_toArray]); (try simp only [List.getElem_cons_succ]); (try simp only [List.getElem_cons_zero]); (try simp only [List.setIfInBounds_toArray]); (try simp only [List.set_cons_succ]); (try simp only [List.set_cons_zero])
      refine any_take (i := 9) (.string (strOf l2)) rfl rfl (by kernel_rfl) (by kernel_rfl) (by kernel_rfl) (by kernel_rfl) (fun _ _ d _ _ h => by cases d <;> exact h) (fun u hS => exec_addR (by rw [strOf_app, hl2.out]) rfl rfl rfl (by rw [strOf_size, strOf_size]; omega)) hS0 ?_
      (try simp only [Act.put]); (try simp only [List.getElem_toArray]); (try simp only [List.getElem_cons_succ]); (try simp only [List.getElem_cons_zero]); (try simp only [List.setIfInBounds_toArray]); (try simp only [List.set_cons_succ]); (try simp only [List.set_cons_zero])
      refine any_take (i := 10) (.string (strOf l3)) rfl rfl (by kernel_rfl) (by kernel_rfl) (by kernel_rfl) (by kernel_rfl) (fun _ _ d _ _ h => by cases d <;> exact h) (fun u hS => exec_addR (by rw [strOf_blank, strOf_app, hl3.out]) rfl rfl rfl (by rw [strOf_blank, strOf_size, strOf_size]; simp; omega)) hS0 ?_
      (try simp only [Act.put]); (try simp only [List.getElem_toArray]); (try simp only [List.getElem_cons_succ]); (try simp only [List.getElem_cons_zero]); (try simp only [List.setIfInBounds_toArray]); (try simp only [List.set_cons_succ]); (try simp only [List.set_cons_zero])
      refine any_take (i := 11) (.slice (some ⟨g2, o2, none⟩) vars.length c2) rfl rfl (by kernel_rfl) (by kernel_rfl) (by kernel_rfl) (by kernel_rfl) (fun _ _ d _ _ h => by cases d <;> exact h) (fun u hS => rfl) hS0 ?_
      (try simp only [Act.put]); (try simp only [List.getElem_toArray]); (try simp only [List.getElem_cons_succ]); (try simp only [List.getElem_cons_zero]); (try simp only [List.setIfInBounds_toArray]); (try simp only [List.set_cons_succ]); (try simp only [List.set_cons_zero])
      refine any_take (i := 12) (.int .i64 (n : Int)) rfl rfl (by kernel_rfl) (by kernel_rfl) (by kernel_rfl) (by kernel_rfl) (fun _ _ d _ _ h => by cases d <;> exact h) (fun u hS => rfl) hS0 ?_
      (try simp only [Act.put]); (try simp only [List.getElem_toArray]); (try simp only [List.getElem_cons_succ]); (try simp only [List.getElem_cons_zero]); (try simp only [List.setIfInBounds_toArray]); (try simp only [List.set_cons_succ]); (try simp only [List.set_cons_zero])
      refine any_take (i := 13) (.int .i64 ((n + 1 : Nat) : Int)) rfl rfl (by kernel_rfl) (by kernel_rfl) (by kernel_rfl) (by kernel_rfl) (fun _ _ d _ _ h => by cases d <;> exact h) (fun u hS => exec_addN (m := n) (n := 1) rfl (by have := HLE.out; omega) rfl rfl rfl) hS0 ?_
      (try simp only [Act.put]); (try simp only [List.getElem_toArray]); (try simp only [List.getElem_cons_succ]); (try simp only [List.getElem_cons_zero]); (try simp only [List.setIfInBounds_toArray]); (try simp only [List.set_cons_succ]); (try simp only [List.set_cons_zero])
      refine any_take (i := 14) (.pointer (some ⟨g2, o2 + (n + 1), none⟩)) rfl rfl (by kernel_rfl) (by kernel_rfl) (by kernel_rfl) (by kernel_rfl) (fun _ _ d _ _ h => by cases d <;> exact h) (fun u hS => exec_ixU (by have := HLT.out; omega) rfl rfl rfl) hS0 ?_
      (try simp only [Act.put]); (try simp only [List.getElem_toArray]); (try simp only [List.getElem_cons_succ]); (try simp only [List.getElem_cons_zero]); (try simp only [List.setIfInBounds_toArray]); (try simp only [List.set_cons_succ]); (try simp only [List.set_cons_zero])
      refine any_take (i := 15) (.int .u8 (y : Int)) rfl rfl (by kernel_rfl) (by kernel_rfl) (by kernel_rfl) (by kernel_rfl) (fun _ _ d _ _ h => by cases d <;> exact h) (fun u hS => exec_load8 rfl rfl (CY.out u _ _ _ _ hS)) hS0 ?_
      (try simp only [Act.put]); (try simp only [List.getElem_toArray]); (try simp only [List.getElem_cons_succ]); (try simp only [List.getElem_cons_zero]); (try simp only [List.setIfInBounds_toArray]); (try simp only [List.set_cons_succ]); (try simp only [List.set_cons_zero])
      refine any_branch [16] (by kernel_rfl) rfl fun ix hix => ?_
      simp only [List.mem_cons, List.not_mem_nil, or_false] at hix
      subst hix
      refine any_op rfl rfl fun K hK => ?_
      go_simp
      refine (name_any y hy8b _).mono ?_
      rintro e u10 ⟨rfl, hb⟩
      rw [← hln.out]
      have hS1 := hS0.step hb
      clear hb hS0
      refine hK _ _ (fun _ => hS1) ?_
      (try simp only [Act.put]); (try simp only [List.getElem_toArray]); (try simp only [List.getElem_cons_succ]); (try simp only [List.getElem_cons_zero]); (try simp only [List.setIfInBounds_toArray]); (try simp only [List.set_cons_succ]); (try simp only [List.set_cons_zero])
      clear hK
      refine any_take (i := 17) (.string (strOf l4)) rfl rfl (by kernel_rfl) (by kernel_rfl) (by kernel_rfl) (by kernel_rfl) (fun _ _ d _ _ h => by cases d <;> exact h) (fun u hS => exec_addR (by rw [strOf_app, hl4.out]) rfl rfl rfl (by rw [strOf_size, strOf_size]; omega)) hS1 ?_
      (try simp only [Act.put]); (try simp only [List.getElem_toArray]); (try simp only [List.getElem_cons_succ]); (try simp only [List.getElem_cons_zero]); (try simp only [List.setIfInBounds_toArray]); (try simp only [List.set_cons_succ]); (try simp only [List.set_cons_zero])
      refine any_take (i := 18) (.string (strOf l4)) rfl rfl (by kernel_rfl) (by kernel_rfl) (by kernel_rfl) (by kernel_rfl) (fun _ _ d _ _ h => by cases d <;> exact h) (fun u hS => rfl) hS1 ?_
      (try simp only [Act.put]); (try simp only [List.getElem_toArray]); (try simp only [List.getElem_cons_succ]); (try simp only [List.getElem_cons_zero]); (try simp only [List.setIfInBounds_toArray]); (try simp only [List.set_cons_succ]); (try simp only [List.set_cons_zero])
      refine any_end (by kernel_rfl) ?_
      obtain ⟨my, hmy⟩ : ∃ m, Bx (y % 8 = m) := ⟨_, ⟨rfl⟩⟩
      obtain ⟨_, e5, e5t, hwk⟩ := Bi.rem5i hk.out
      obtain ⟨hmy8, ey, eyt, hwm⟩ := Bi.rem8i hmy.out
      obtain ⟨hwn, q6, hn3, q7, q8⟩ := Bi.stepi HLE.out hlt HLT.out
      clear e8 hw8 hwn
      have cx := CX.out _ _ _ _ _ hS1
      obtain ⟨ov, u11, hr4, hk4, hs4⟩ := hS1.appO1 k (by rw [hOl]; exact hn3) hS1.be.size 31
      have HK4 := Bx.mk hk4
      have cy := CY.out _ _ _ _ _ HK4.out
      clear hk4 hS1 HL
      iterate 28 go_step
      refine wpList_appB (v1 := u8) (v2 := .slice (some ⟨u10.heap.size, 0, none⟩) 1 1) _ rfl (.tmp 65) (.tmp 72) 31 rfl rfl rfl hr4 ?_
      clear hr4 cx
      iterate 4 go_step
      go_wp2_with fail
      refine (rvar_any (my : Int) u11).mono ?_
      rintro e u12 ⟨rfl, hb⟩
      have hk5x := HK4.out.step hb
      obtain ⟨fv2, u13, hr5, hk6, hs6⟩ := hk5x.appF1 (Tb.var (my : Int)) (by rw [hFl]; omega) hk5x.be.size 26
      have HK6 := Bx.mk hk6
      clear hk5x hk6 hb HK4 cy
      generalize hG2 : Tb.var (my : Int) = G2 at *
      have HG2 := Bx.mk hG2
      clear hG2
      unfold Tb.tv
      go_wp2_with (first | (at_builtin; refine wpList_appB (v1 := u7) (v2 := .slice (some ⟨u12.heap.size, 0, none⟩) 1 1) _ rfl (.tmp 74) (.tmp 83) 26 rfl rfl rfl hr5 ?_) | fail)
      have hbs := HK6.out
      rw [hF.out, hO.out, ← HG2.out] at hbs
      exact ⟨⟨n + 1, hlt, by go_num, L1.next hbs hx hk.out hy hmy.out (by rw [hl4.out, hl3.out, hl2.out, hl1.out, hl.out, hsg.out, hln.out, hO.out])⟩, by simp [intOf]; omega⟩
    · obtain rfl : n = ops.length := by omega
      have HS := hL.s
      have hL2 := hL.k
      clear hL
      rw [List.take_of_length_le (by rw [List.length_map]; exact Nat.le_refl _)] at HS hL2
      obtain ⟨F0, hF⟩ : ∃ F, Bx (F = (List.range (ops.length + 1)).map fun j => Tb.var ((Bi.vn vars j).val : Int)) := ⟨_, ⟨rfl⟩⟩
      obtain ⟨O0, hO⟩ : ∃ O, Bx (O = ops.map (· % 5)) := ⟨_, ⟨rfl⟩⟩
      rw [← hF.out, ← hO.out] at hL2
      rw [← hO.out] at HS
      obtain ⟨l, hl⟩ : ∃ l, Bx (l = Bi.txt (Bi.vn vars) 0 O0) := ⟨_, ⟨rfl⟩⟩
      rw [← hl.out] at HS
      have HB := Bx.mk hL2
      subst HS
      clear hL2
      go_wp2_with fail
      go_loopw [7, 8, 10] (fun fv ov kv wr => L2 w1 wr O0 F0 fv ov kv) (fun _ _ kv _ => 5 - (intOf kv).toNat)
      case atStart => exact ⟨0, by omega, rfl, O0, F0, rfl, by rw [hF.out, hO.out]; exact ⟨by simp, by rw [List.length_map]; exact HLE.out, fun x hx => by obtain ⟨y, _, rfl⟩ := List.mem_map.1 hx; exact Nat.mod_lt _ (by omega)⟩, HB.out⟩
      case round =>
        obtain ⟨k, hk, rfl, O, F, hph, hfit, hB⟩ := hrel.ex
        obtain ⟨_, po, co, rfl⟩ := hB.o.len
        by_cases hk5 : k < 5
        · have q5 : (k : Int) < 5 := by omega
          obtain ⟨b0x, hp0, hc0⟩ := hB.o.where_
          have HFIT := Bx.mk hfit
          have HPH := Bx.mk hph
          have HFI := Bx.mk fun u => first_any O k hk5 (by have := HFIT.out.2.1; omega) HFIT.out.2.2 po co b0x 0 u hp0
          have HC0 := Bx.mk hc0
          have HBB := Bx.mk hB
          clear hp0 hc0 hB hfit hph
          go_wp2_with fail
          refine (HFI.out _ HC0.out).mono ?_
          rintro e u1 ⟨rfl, hb⟩
          have HB1 := Bx.mk (HBB.out.step hb)
          clear hb HFI HC0 HBB
          obtain ⟨T, hT⟩ : ∃ T, Bx (T = Bi.ph O0 F0 (k + 1)) := ⟨_, ⟨rfl⟩⟩
          go_wp2_with fail
          go_loopw [7, 8, 11] (fun fv ov iv wr => L3 w1 wr k T fv ov iv) (fun _ ov _ _ => Bi.lenOf ov)
          case atStart => exact ⟨O, F, 7, by have := HFIT.out.2.1; omega, by rw [hT.out, Bi.ph, HPH.out], HFIT.out, HB1.out, rfl⟩
          case round =>
            clear HPH HFIT HB1
            obtain ⟨O2, F2, m, hm, hall, hfit, hB, rfl⟩ := hrel.ex
            clear hrel
            cases hf : Bi.first k O2 with
            | none =>
              rw [Bi.all_none hf] at hall
              have HALL := Bx.mk hall
              have HFIT := Bx.mk hfit
              have HBB := Bx.mk hB
              clear hall hfit hB hf
              rw [show Bi.at1 none = -1 from rfl]
              go_wp2_with fail
              exact ⟨⟨k + 1, by omega, by go_num, O2, F2, hT.out.symm.trans HALL.out.symm, HFIT.out, HBB.out⟩, by simp [intOf]; omega⟩
            | some i =>
              have hil := Bi.first_lt hf
              obtain ⟨m2, hm2, hall2⟩ := Bi.all_some (F := F2) hf hm
              have hFl : F2.length = O2.length + 1 := hfit.1
              have hO6 : O2.length ≤ 6 := hfit.2.1
              obtain ⟨x, hx⟩ : ∃ x, F2[i]? = some x := ⟨_, List.getElem?_eq_getElem (by omega)⟩
              obtain ⟨y, hy⟩ : ∃ y, F2[i + 1]? = some y := ⟨_, List.getElem?_eq_getElem (by omega)⟩
              obtain ⟨e1, hfit1, hlen1⟩ := Bi.fit_at hfit hil x y k hx hy
              obtain ⟨go, cco, eo, _, _, hoc, _⟩ := hB.o.at_ (by intro e; rw [e] at hil; simp at hil)
              obtain ⟨gf, cf, ef, _, _, hfc, _⟩ := hB.f.at_ (by intro e; rw [e] at hFl; simp at hFl)
              subst eo ef
              rw [e1] at hall2
              rw [hall2] at hall
              have HALL := Bx.mk hall
              have HFIT := Bx.mk hfit1
              have HLEN := Bx.mk hlen1
              have HM := Bx.mk hm2
              have HX := Bx.mk hx
              have HY := Bx.mk hy
              have HBB := Bx.mk hB
              have HFL := Bx.mk hFl
              have HMM := Bx.mk hm
              clear hall hall2 hfit hfit1 hlen1 hB hf hx hy e1 hFl hm2 hm
              rw [show Bi.at1 (some i) = (i : Int) from rfl]
              have i0 : 0 ≤ (i : Int) := Int.natCast_nonneg i
              go_wp2_with fail
              refine region_any 14 (fun u => BS w1 u (.slice (some ⟨gf, 0, none⟩) F2.length cf) (.slice (some ⟨go, 0, none⟩) O2.length cco) F2 O2) (by kernel_rfl) ?_
              generalize hu : World.drew _ = u0
              have hS0 : BS w1 u0 (.slice (some ⟨gf, 0, none⟩) F2.length cf) (.slice (some ⟨go, 0, none⟩) O2.length cco) F2 O2 := by rw [← hu]; exact HBB.out.step ((Below.refl _ _).drew)
              clear hu HBB
              refine any_take (i := 0) (.slice (some ⟨gf, 0, none⟩) F2.length cf) rfl rfl (by kernel_rfl) (by kernel_rfl) (by kernel_rfl) (by kernel_rfl) (fun _ _ d _ _ h => by cases d <;> exact h) (fun u hS => rfl) hS0 ?_
              (try simp only [Act.put]); (try simp only [List.getElem_toArray]); (try simp only [List.getElem_cons_succ]); (try simp only [List.getElem_cons_zero]); (try simp only [List.setIfInBounds_toArray]); (try simp only [List.set_cons_succ]); (try simp only [List.set_cons_zero])
              refine any_take (i := 1) (.int .i64 (i : Int)) rfl rfl (by kernel_rfl) (by kernel_rfl) (by kernel_rfl) (by kernel_rfl) (fun _ _ d _ _ h => by cases d <;> exact h) (fun u hS => rfl) hS0 ?_
              (try simp only [Act.put]); (try simp only [List.getElem_toArray]); (try simp only [List.getElem_cons_succ]); (try simp only [List.getElem_cons_zero]); (try simp only [List.setIfInBounds_toArray]); (try simp only [List.set_cons_succ]); (try simp only [List.set_cons_zero])
              refine any_take (i := 2) (.int .i64 (k : Int)) rfl rfl (by kernel_rfl) (by kernel_rfl) (by kernel_rfl) (by kernel_rfl) (fun _ _ d _ _ h => by cases d <;> exact h) (fun u hS => rfl) hS0 ?_
              (try simp only [Act.put]); (try simp only [List.getElem_toArray]); (try simp only [List.getElem_cons_succ]); (try simp only [List.getElem_cons_zero]); (try simp only [List.setIfInBounds_toArray]); (try simp only [List.set_cons_succ]); (try simp only [List.set_cons_zero])
              refine any_take (i := 3) (.slice (some ⟨gf, 0, none⟩) F2.length cf) rfl rfl (by kernel_rfl) (by kernel_rfl) (by kernel_rfl) (by kernel_rfl) (fun _ _ d _ _ h => by cases d <;> exact h) (fun u hS => rfl) hS0 ?_
              (try simp only [Act.put]); (try simp only [List.getElem_toArray]); (try simp only [List.getElem_cons_succ]); (try simp only [List.getElem_cons_zero]); (try simp only [List.setIfInBounds_toArray]); (try simp only [List.set_cons_succ]); (try simp only [List.set_cons_zero])
              refine any_take (i := 4) (.int .i64 (i : Int)) rfl rfl (by kernel_rfl) (by kernel_rfl) (by kernel_rfl) (by kernel_rfl) (fun _ _ d _ _ h => by cases d <;> exact h) (fun u hS => rfl) hS0 ?_
              (try simp only [Act.put]); (try simp only [List.getElem_toArray]); (try simp only [List.getElem_cons_succ]); (try simp only [List.getElem_cons_zero]); (try simp only [List.setIfInBounds_toArray]); (try simp only [List.set_cons_succ]); (try simp only [List.set_cons_zero])
              refine any_take (i := 5) (.pointer (some ⟨gf, i * 4, none⟩)) rfl rfl (by kernel_rfl) (by kernel_rfl) (by kernel_rfl) (by kernel_rfl) (fun _ _ d _ _ h => by cases d <;> exact h) (fun u hS => exec_ixT (by have := HFL.out; omega) rfl rfl rfl) hS0 ?_
              (try simp only [Act.put]); (try simp only [List.getElem_toArray]); (try simp only [List.getElem_cons_succ]); (try simp only [List.getElem_cons_zero]); (try simp only [List.setIfInBounds_toArray]); (try simp only [List.set_cons_succ]); (try simp only [List.set_cons_zero])
              refine any_take (i := 6) (Tb.tv x) rfl rfl (by kernel_rfl) (by kernel_rfl) (by kernel_rfl) (by kernel_rfl) (fun _ _ d _ _ h => by cases d <;> exact h) (fun u hS => exec_loadTA rfl rfl (hS.f.cellAt HX.out)) hS0 ?_
              (try simp only [Act.put]); (try simp only [List.getElem_toArray]); (try simp only [List.getElem_cons_succ]); (try simp only [List.getElem_cons_zero]); (try simp only [List.setIfInBounds_toArray]); (try simp only [List.set_cons_succ]); (try simp only [List.set_cons_zero])
              refine any_take (i := 7) (.slice (some ⟨gf, 0, none⟩) F2.length cf) rfl rfl (by kernel_rfl) (by kernel_rfl) (by kernel_rfl) (by kernel_rfl) (fun _ _ d _ _ h => by cases d <;> exact h) (fun u hS => rfl) hS0 ?_
              (try simp only [Act.put]); (try simp only [List.getElem_toArray]); (try simp only [List.getElem_cons_succ]); (try simp only [List.getElem_cons_zero]); (try simp only [List.setIfInBounds_toArray]); (try simp only [List.set_cons_succ]); (try simp only [List.set_cons_zero])
              refine any_take (i := 8) (.int .i64 (i : Int)) rfl rfl (by kernel_rfl) (by kernel_rfl) (by kernel_rfl) (by kernel_rfl) (fun _ _ d _ _ h => by cases d <;> exact h) (fun u hS => rfl) hS0 ?_
              (try simp only [Act.put]); (try simp only [List.getElem_toArray]); (try simp only [List.getElem_cons_succ]); (try simp only [List.getElem_cons_zero]); (try simp only [List.setIfInBounds_toArray]); (try simp only [List.set_cons_succ]); (try simp only [List.set_cons_zero])
              refine any_take (i := 9) (.int .i64 ((i + 1 : Nat) : Int)) rfl rfl (by kernel_rfl) (by kernel_rfl) (by kernel_rfl) (by kernel_rfl) (fun _ _ d _ _ h => by cases d <;> exact h) (fun u hS => exec_addN (m := i) (n := 1) rfl (by omega) rfl rfl rfl) hS0 ?_
              (try simp only [Act.put]); (try simp only [List.getElem_toArray]); (try simp only [List.getElem_cons_succ]); (try simp only [List.getElem_cons_zero]); (try simp only [List.setIfInBounds_toArray]); (try simp only [List.set_cons_succ]); (try simp only [List.set_cons_zero])
              refine any_take (i := 10) (.pointer (some ⟨gf, (i + 1) * 4, none⟩)) rfl rfl (by kernel_rfl) (by kernel_rfl) (by kernel_rfl) (by kernel_rfl) (fun _ _ d _ _ h => by cases d <;> exact h) (fun u hS => exec_ixT (by have := HFL.out; omega) rfl rfl rfl) hS0 ?_
              (try simp only [Act.put]); (try simp only [List.getElem_toArray]); (try simp only [List.getElem_cons_succ]); (try simp only [List.getElem_cons_zero]); (try simp only [List.setIfInBounds_toArray]); (try simp only [List.set_cons_succ]); (try simp only [List.set_cons_zero])
              refine any_take (i := 11) (Tb.tv y) rfl rfl (by kernel_rfl) (by kernel_rfl) (by kernel_rfl) (by kernel_rfl) (fun _ _ d _ _ h => by cases d <;> exact h) (fun u hS => exec_loadTA rfl rfl (hS.f.cellAt HY.out)) hS0 ?_
              (try simp only [Act.put]); (try simp only [List.getElem_toArray]); (try simp only [List.getElem_cons_succ]); (try simp only [List.getElem_cons_zero]); (try simp only [List.setIfInBounds_toArray]); (try simp only [List.set_cons_succ]); (try simp only [List.set_cons_zero])
              refine any_branch [12] (by kernel_rfl) rfl fun ix hix => ?_
              simp only [List.mem_cons, List.not_mem_nil, or_false] at hix
              subst hix
              refine any_op rfl rfl fun K hK => ?_
              go_simp
              refine (join_any k hk5 x y _).mono ?_
              rintro e u1x ⟨rfl, hb⟩
              have hS1 := hS0.step hb
              clear hb hS0
              obtain ⟨G, hG⟩ : ∃ G, Bx (G = Bi.joinT k x y) := ⟨_, ⟨rfl⟩⟩
              rw [← hG.out]
              refine hK _ _ (fun _ => hS1) ?_
              (try simp only [Act.put]); (try simp only [List.getElem_toArray]); (try simp only [List.getElem_cons_succ]); (try simp only [List.getElem_cons_zero]); (try simp only [List.setIfInBounds_toArray]); (try simp only [List.set_cons_succ]); (try simp only [List.set_cons_zero])
              clear hK
              refine any_take (i := 13) (.pointer (some ⟨gf, i * 4, none⟩)) rfl rfl (by kernel_rfl) (by kernel_rfl) (by kernel_rfl) (by kernel_rfl) (fun _ _ d _ _ h => by cases d <;> exact h) (fun u hS => exec_ixT (by have := HFL.out; omega) rfl rfl rfl) hS1 ?_
              (try simp only [Act.put]); (try simp only [List.getElem_toArray]); (try simp only [List.getElem_cons_succ]); (try simp only [List.getElem_cons_zero]); (try simp only [List.setIfInBounds_toArray]); (try simp only [List.set_cons_succ]); (try simp only [List.set_cons_zero])
              refine any_branch [14] (by kernel_rfl) rfl fun ix hix => ?_
              simp only [List.mem_cons, List.not_mem_nil, or_false] at hix
              subst hix
              refine any_op rfl rfl fun K hK => ?_
              have fz0 := hS1.f.own.frozenAt (i * 4)
              have fz1 := hS1.f.own.frozenAt (i * 4 + 1)
              have fz2 := hS1.f.own.frozenAt (i * 4 + 2)
              have fz3 := hS1.f.own.frozenAt (i * 4 + 3)
              have cz0 : u1x.cell? ⟨gf, i * 4, none⟩ = _ := hS1.f.cellAt HX.out 0 (by omega)
              have cz1 := hS1.f.cellAt HX.out 1 (by omega)
              have cz2 := hS1.f.cellAt HX.out 2 (by omega)
              have cz3 := hS1.f.cellAt HX.out 3 (by omega)
              unfold Tb.tv
              go_simp
              refine hK _ _ (fun h => absurd rfl h) ?_
              (try simp only [Act.put]); (try simp only [List.getElem_toArray]); (try simp only [List.getElem_cons_succ]); (try simp only [List.getElem_cons_zero]); (try simp only [List.setIfInBounds_toArray]); (try simp only [List.set_cons_succ]); (try simp only [List.set_cons_zero])
              clear hK
              refine any_end (by kernel_rfl) ?_
              have hS2 := hS1.setF rfl i (by have := HFL.out; omega) G
              obtain ⟨F3, hF3⟩ : ∃ F3, Bx (F3 = F2.set i G) := ⟨_, ⟨rfl⟩⟩
              have hF3l : F3.length = F2.length := by rw [hF3.out, List.length_set]
              rw [← hF3.out] at hS2
              generalize World.setCell (World.setCell (World.setCell (World.setCell u1x _ _) _ _) _ _) _ _ = us at hS2 ⊢
              have HS2 := Bx.mk hS2
              have HF3L := Bx.mk hF3l
              clear hS2 hS1 fz0 fz1 fz2 fz3 cz0 cz1 cz2 cz3 hF3l
              go_wp2_with fail
              refine region_any 100 (fun _ => True) (by kernel_rfl) ?_
              generalize hu : World.drew _ = u0y
              have hS0 : BS w1 u0y (.slice (some ⟨gf, 0, none⟩) F2.length cf) (.slice (some ⟨go, 0, none⟩) O2.length cco) F3 O2 := by rw [← hu]; exact HS2.out.step ((Below.refl _ _).drew)
              clear hu HS2
              obtain ⟨pq, hpq⟩ : ∃ p, Bx (p = if cf = i + 2 then (⟨gf, 0, none⟩ : Addr) else ⟨gf, (i + 2) * 4, none⟩) := ⟨_, ⟨rfl⟩⟩
              refine any_take (i := 0) (.slice (some ⟨gf, 0, none⟩) F2.length cf) rfl rfl (by kernel_rfl) (by kernel_rfl) (by kernel_rfl) (by kernel_rfl) (fun _ _ d _ _ h => by cases d <;> exact h) (fun u hS => rfl) trivial ?_
              (try simp only [Act.put]); (try simp only [List.getElem_toArray]); (try simp only [List.getElem_cons_succ]); (try simp only [List.getElem_cons_zero]); (try simp only [List.setIfInBounds_toArray]); (try simp only [List.set_cons_succ]); (try simp only [List.set_cons_zero])
              refine any_take (i := 1) (.int .i64 (i : Int)) rfl rfl (by kernel_rfl) (by kernel_rfl) (by kernel_rfl) (by kernel_rfl) (fun _ _ d _ _ h => by cases d <;> exact h) (fun u hS => rfl) trivial ?_
              (try simp only [Act.put]); (try simp only [List.getElem_toArray]); (try simp only [List.getElem_cons_succ]); (try simp only [List.getElem_cons_zero]); (try simp only [List.setIfInBounds_toArray]); (try simp only [List.set_cons_succ]); (try simp only [List.set_cons_zero])
              refine any_take (i := 2) (.int .i64 ((i + 1 : Nat) : Int)) rfl rfl (by kernel_rfl) (by kernel_rfl) (by kernel_rfl) (by kernel_rfl) (fun _ _ d _ _ h => by cases d <;> exact h) (fun u hS => exec_addN (m := i) (n := 1) rfl (by omega) rfl rfl rfl) trivial ?_
              (try simp only [Act.put]); (try simp only [List.getElem_toArray]); (try simp only [List.getElem_cons_succ]); (try simp only [List.getElem_cons_zero]); (try simp only [List.setIfInBounds_toArray]); (try simp only [List.set_cons_succ]); (try simp only [List.set_cons_zero])
              refine any_take (i := 3) (.slice (some ⟨gf, 0, none⟩) (i + 1) cf) rfl rfl (by kernel_rfl) (by kernel_rfl) (by kernel_rfl) (by kernel_rfl) (fun _ _ d _ _ h => by cases d <;> exact h) (fun u hS => exec_cutTh (by have := HFL.out; omega) rfl rfl rfl) trivial ?_
              (try simp only [Act.put]); (try simp only [List.getElem_toArray]); (try simp only [List.getElem_cons_succ]); (try simp only [List.getElem_cons_zero]); (try simp only [List.setIfInBounds_toArray]); (try simp only [List.set_cons_succ]); (try simp only [List.set_cons_zero])
              refine any_take (i := 5) (.slice (some ⟨gf, 0, none⟩) F2.length cf) rfl rfl (by kernel_rfl) (by kernel_rfl) (by kernel_rfl) (by kernel_rfl) (fun _ _ d _ _ h => by cases d <;> exact h) (fun u hS => rfl) trivial ?_
              (try simp only [Act.put]); (try simp only [List.getElem_toArray]); (try simp only [List.getElem_cons_succ]); (try simp only [List.getElem_cons_zero]); (try simp only [List.setIfInBounds_toArray]); (try simp only [List.set_cons_succ]); (try simp only [List.set_cons_zero])
              refine any_take (i := 6) (.int .i64 (i : Int)) rfl rfl (by kernel_rfl) (by kernel_rfl) (by kernel_rfl) (by kernel_rfl) (fun _ _ d _ _ h => by cases d <;> exact h) (fun u hS => rfl) trivial ?_
              (try simp only [Act.put]); (try simp only [List.getElem_toArray]); (try simp only [List.getElem_cons_succ]); (try simp only [List.getElem_cons_zero]); (try simp only [List.setIfInBounds_toArray]); (try simp only [List.set_cons_succ]); (try simp only [List.set_cons_zero])
              refine any_take (i := 7) (.int .i64 ((i + 2 : Nat) : Int)) rfl rfl (by kernel_rfl) (by kernel_rfl) (by kernel_rfl) (by kernel_rfl) (fun _ _ d _ _ h => by cases d <;> exact h) (fun u hS => exec_addN (m := i) (n := 2) rfl (by omega) rfl rfl rfl) trivial ?_
              (try simp only [Act.put]); (try simp only [List.getElem_toArray]); (try simp only [List.getElem_cons_succ]); (try simp only [List.getElem_cons_zero]); (try simp only [List.setIfInBounds_toArray]); (try simp only [List.set_cons_succ]); (try simp only [List.set_cons_zero])
              refine any_take (i := 8) (.slice (some pq) (F2.length - (i + 2)) (cf - (i + 2))) rfl rfl (by kernel_rfl) (by kernel_rfl) (by kernel_rfl) (by kernel_rfl) (fun _ _ d _ _ h => by cases d <;> exact h) (fun u hS => exec_cutTl hpq.out (by have := HFL.out; omega) rfl rfl rfl) trivial ?_
              (try simp only [Act.put]); (try simp only [List.getElem_toArray]); (try simp only [List.getElem_cons_succ]); (try simp only [List.getElem_cons_zero]); (try simp only [List.setIfInBounds_toArray]); (try simp only [List.set_cons_succ]); (try simp only [List.set_cons_zero])
              refine any_branch [4] (by kernel_rfl) rfl fun ix hix => ?_
              simp only [List.mem_cons, List.not_mem_nil, or_false] at hix
              subst hix
              refine any_op rfl rfl fun K hK => ?_
              obtain ⟨v1, ua, hra, hka, hta, hva, hsa⟩ := hS0.cutF HF3L.out.symm (by rw [HF3L.out]; have := HFL.out; omega) i (by rw [HF3L.out]; have := HFL.out; omega) hS0.be.size 26 cf
              refine wp_app _ _ _ _ hra rfl rfl rfl ?_
              refine hK _ _ (fun _ => trivial) ?_
              (try simp only [Act.put]); (try simp only [List.getElem_toArray]); (try simp only [List.getElem_cons_succ]); (try simp only [List.getElem_cons_zero]); (try simp only [List.setIfInBounds_toArray]); (try simp only [List.set_cons_succ]); (try simp only [List.set_cons_zero])
              clear hK
              refine any_branch [9] (by kernel_rfl) rfl fun ix hix => ?_
              simp only [List.mem_cons, List.not_mem_nil, or_false] at hix
              subst hix
              refine any_op rfl rfl fun K hK => ?_
              obtain ⟨v2, ub, hrb, hkb, hsb⟩ := hka.cutF2 HF3L.out.symm (by rw [HF3L.out]; have := HFL.out; omega) hta hva (fun e => by have := (hS0.o.own.lt _ e).2; omega) (by rw [List.length_take]; omega) (i + 2) (by rw [HF3L.out]; have := HFL.out; omega) hka.be.size 26 pq (fun h => by rw [hpq.out]; exact Bi.ite_addr h) (cf - (i + 2))
              refine wp_app _ _ _ _ hrb rfl rfl rfl ?_
              refine hK _ _ (fun _ => trivial) ?_
              (try simp only [Act.put]); (try simp only [List.getElem_toArray]); (try simp only [List.getElem_cons_succ]); (try simp only [List.getElem_cons_zero]); (try simp only [List.setIfInBounds_toArray]); (try simp only [List.set_cons_succ]); (try simp only [List.set_cons_zero])
              clear hK
              refine any_take (i := 10) (v2) rfl rfl (by kernel_rfl) (by kernel_rfl) (by kernel_rfl) (by kernel_rfl) (fun _ _ d _ _ h => by cases d <;> exact h) (fun u hS => rfl) trivial ?_
              (try simp only [Act.put]); (try simp only [List.getElem_toArray]); (try simp only [List.getElem_cons_succ]); (try simp only [List.getElem_cons_zero]); (try simp only [List.setIfInBounds_toArray]); (try simp only [List.set_cons_succ]); (try simp only [List.set_cons_zero])
              refine any_end (by kernel_rfl) ?_
              rw [hF3.out, Bi.set_cut (by have := HFL.out; omega) G] at hkb
              obtain ⟨F4, hF4⟩ : ∃ F4, Bx (F4 = F2.take i ++ [G] ++ F2.drop (i + 2)) := ⟨_, ⟨rfl⟩⟩
              rw [← hF4.out] at hkb
              obtain ⟨p4, c4, rfl⟩ := hkb.f.len
              have HKB := Bx.mk hkb
              clear hkb hra hrb hka hta hva hsa hsb hS0
              go_wp2_with fail
              refine region_any 100 (fun _ => True) (by kernel_rfl) ?_
              generalize hu : World.drew _ = u0z
              have hS0 : BS w1 u0z (.slice p4 F4.length c4) (.slice (some ⟨go, 0, none⟩) O2.length cco) F4 O2 := by rw [← hu]; exact HKB.out.step ((Below.refl _ _).drew)
              clear hu HKB
              obtain ⟨pr, hpr⟩ : ∃ p, Bx (p = if cco = i + 1 then (⟨go, 0, none⟩ : Addr) else ⟨go, i + 1, none⟩) := ⟨_, ⟨rfl⟩⟩
              refine any_take (i := 0) (.slice (some ⟨go, 0, none⟩) O2.length cco) rfl rfl (by kernel_rfl) (by kernel_rfl) (by kernel_rfl) (by kernel_rfl) (fun _ _ d _ _ h => by cases d <;> exact h) (fun u hS => rfl) trivial ?_
              (try simp only [Act.put]); (try simp only [List.getElem_toArray]); (try simp only [List.getElem_cons_succ]); (try simp only [List.getElem_cons_zero]); (try simp only [List.setIfInBounds_toArray]); (try simp only [List.set_cons_succ]); (try simp only [List.set_cons_zero])
              refine any_take (i := 1) (.int .i64 (i : Int)) rfl rfl (by kernel_rfl) (by kernel_rfl) (by kernel_rfl) (by kernel_rfl) (fun _ _ d _ _ h => by cases d <;> exact h) (fun u hS => rfl) trivial ?_
              (try simp only [Act.put]); (try simp only [List.getElem_toArray]); (try simp only [List.getElem_cons_succ]); (try simp only [List.getElem_cons_zero]); (try simp only [List.setIfInBounds_toArray]); (try simp only [List.set_cons_succ]); (try simp only [List.set_cons_zero])
              refine any_take (i := 2) (.slice (some ⟨go, 0, none⟩) i cco) rfl rfl (by kernel_rfl) (by kernel_rfl) (by kernel_rfl) (by kernel_rfl) (fun _ _ d _ _ h => by cases d <;> exact h) (fun u hS => exec_cutIh (by omega) rfl rfl rfl) trivial ?_
              (try simp only [Act.put]); (try simp only [List.getElem_toArray]); (try simp only [List.getElem_cons_succ]); (try simp only [List.getElem_cons_zero]); (try simp only [List.setIfInBounds_toArray]); (try simp only [List.set_cons_succ]); (try simp only [List.set_cons_zero])
              refine any_take (i := 4) (.slice (some ⟨go, 0, none⟩) O2.length cco) rfl rfl (by kernel_rfl) (by kernel_rfl) (by kernel_rfl) (by kernel_rfl) (fun _ _ d _ _ h => by cases d <;> exact h) (fun u hS => rfl) trivial ?_
              (try simp only [Act.put]); (try simp only [List.getElem_toArray]); (try simp only [List.getElem_cons_succ]); (try simp only [List.getElem_cons_zero]); (try simp only [List.setIfInBounds_toArray]); (try simp only [List.set_cons_succ]); (try simp only [List.set_cons_zero])
              refine any_take (i := 5) (.int .i64 (i : Int)) rfl rfl (by kernel_rfl) (by kernel_rfl) (by kernel_rfl) (by kernel_rfl) (fun _ _ d _ _ h => by cases d <;> exact h) (fun u hS => rfl) trivial ?_
              (try simp only [Act.put]); (try simp only [List.getElem_toArray]); (try simp only [List.getElem_cons_succ]); (try simp only [List.getElem_cons_zero]); (try simp only [List.setIfInBounds_toArray]); (try simp only [List.set_cons_succ]); (try simp only [List.set_cons_zero])
              refine any_take (i := 6) (.int .i64 ((i + 1 : Nat) : Int)) rfl rfl (by kernel_rfl) (by kernel_rfl) (by kernel_rfl) (by kernel_rfl) (fun _ _ d _ _ h => by cases d <;> exact h) (fun u hS => exec_addN (m := i) (n := 1) rfl (by omega) rfl rfl rfl) trivial ?_
              (try simp only [Act.put]); (try simp only [List.getElem_toArray]); (try simp only [List.getElem_cons_succ]); (try simp only [List.getElem_cons_zero]); (try simp only [List.setIfInBounds_toArray]); (try simp only [List.set_cons_succ]); (try simp only [List.set_cons_zero])
              refine any_take (i := 7) (.slice (some pr) (O2.length - (i + 1)) (cco - (i + 1))) rfl rfl (by kernel_rfl) (by kernel_rfl) (by kernel_rfl) (by kernel_rfl) (fun _ _ d _ _ h => by cases d <;> exact h) (fun u hS => exec_cutIl hpr.out (by omega) rfl rfl rfl) trivial ?_
              (try simp only [Act.put]); (try simp only [List.getElem_toArray]); (try simp only [List.getElem_cons_succ]); (try simp only [List.getElem_cons_zero]); (try simp only [List.setIfInBounds_toArray]); (try simp only [List.set_cons_succ]); (try simp only [List.set_cons_zero])
              refine any_branch [3] (by kernel_rfl) rfl fun ix hix => ?_
              simp only [List.mem_cons, List.not_mem_nil, or_false] at hix
              subst hix
              refine any_op rfl rfl fun K hK => ?_
              obtain ⟨v1x, uax, hra, hka, hta, hva, hsa⟩ := hS0.cutO rfl (by omega) i hil hS0.be.size 31 cco
              refine wp_app _ _ _ _ hra rfl rfl rfl ?_
              refine hK _ _ (fun _ => trivial) ?_
              (try simp only [Act.put]); (try simp only [List.getElem_toArray]); (try simp only [List.getElem_cons_succ]); (try simp only [List.getElem_cons_zero]); (try simp only [List.setIfInBounds_toArray]); (try simp only [List.set_cons_succ]); (try simp only [List.set_cons_zero])
              clear hK
              refine any_branch [8] (by kernel_rfl) rfl fun ix hix => ?_
              simp only [List.mem_cons, List.not_mem_nil, or_false] at hix
              subst hix
              refine any_op rfl rfl fun K hK => ?_
              obtain ⟨v2x, ubx, hrb, hkb, hsb⟩ := hka.cutO2 rfl (by omega) hta (fun b e e2 => by have := (hS0.f.own.lt _ e2).2; rcases hva with h | h <;> rw [h] at e <;> cases e; omega) (by rw [List.length_take]; omega) (i + 1) (by omega) hka.be.size 31 pr (fun h => by rw [hpr.out]; exact Bi.ite_addr h) (cco - (i + 1))
              refine wp_app _ _ _ _ hrb rfl rfl rfl ?_
              refine hK _ _ (fun _ => trivial) ?_
              (try simp only [Act.put]); (try simp only [List.getElem_toArray]); (try simp only [List.getElem_cons_succ]); (try simp only [List.getElem_cons_zero]); (try simp only [List.setIfInBounds_toArray]); (try simp only [List.set_cons_succ]); (try simp only [List.set_cons_zero])
              clear hK
              refine any_take (i := 9) (v2x) rfl rfl (by kernel_rfl) (by kernel_rfl) (by kernel_rfl) (by kernel_rfl) (fun _ _ d _ _ h => by cases d <;> exact h) (fun u hS => rfl) trivial ?_
              (try simp only [Act.put]); (try simp only [List.getElem_toArray]); (try simp only [List.getElem_cons_succ]); (try simp only [List.getElem_cons_zero]); (try simp only [List.setIfInBounds_toArray]); (try simp only [List.set_cons_succ]); (try simp only [List.set_cons_zero])
              refine any_end (by kernel_rfl) ?_
              obtain ⟨O4, hO4⟩ : ∃ O4, Bx (O4 = O2.take i ++ O2.drop (i + 1)) := ⟨_, ⟨rfl⟩⟩
              rw [← hO4.out] at hkb
              obtain ⟨_, p5, c5, rfl⟩ := hkb.o.len
              obtain ⟨b5x, hp0, hc0⟩ := hkb.o.where_
              have HFIT4 : Bx (Bi.fit O4 F4) := ⟨by rw [hO4.out, hF4.out, hG.out]; exact HFIT.out⟩
              have HFI := Bx.mk fun u => first_any O4 k hk5 (by have := HFIT4.out.2.1; omega) HFIT4.out.2.2 p5 c5 b5x 0 u hp0
              have HC0 := Bx.mk hc0
              have HKB := Bx.mk hkb
              clear hkb hra hrb hka hta hva hsa hsb hS0 hp0 hc0
              go_wp2_with fail
              refine (HFI.out _ HC0.out).mono ?_
              rintro e u3x ⟨rfl, hb⟩
              have HB1 := Bx.mk (HKB.out.step hb)
              clear hb HFI HC0 HKB
              go_wp2_with fail
              refine ⟨⟨O4, F4, m2, by have h1 := HLEN.out; have h2 := HM.out; have h3 := HMM.out; rw [← hO4.out] at h1; omega, by rw [hO4.out, hF4.out, hG.out]; exact HALL.out, HFIT4.out, HB1.out, rfl⟩, ?_⟩
              have h1 := HLEN.out
              rw [← hO4.out] at h1
              show O4.length < O2.length
              omega
        · obtain rfl : k = 5 := by omega
          have hlaw := Bi.law (Bi.vn vars) O0 (by rw [hO.out, List.length_map]; exact HLE.out) (fun x hx => by rw [hO.out] at hx; obtain ⟨y, _, rfl⟩ := List.mem_map.1 hx; exact Nat.mod_lt _ (by omega))
          have hlen0 : O0.length = ops.length := by rw [hO.out, List.length_map]
          rw [hlen0, ← hF.out, Bi.red_ph, hph, ← hl.out] at hlaw
          obtain ⟨he, hfu⟩ := hlaw
          have hbl : bl (strOf l) = l := bl_strOf (by rw [hl.out]; exact Bi.txt_lt _ _ _)
          obtain ⟨T, A, hTA⟩ : ∃ T A, Ex.parse l = (T, A, 0) := ⟨_, _, Prod.ext rfl (Prod.ext rfl he)⟩
          rw [hTA] at hfu
          have hpp := fun u => parse_any (strOf l) u
          rw [hbl, hTA] at hpp
          obtain ⟨Ft, hFt⟩ : ∃ f, Bx (Ex.func T = f) := ⟨_, ⟨rfl⟩⟩
          have hfu2 : F = [Ft] := by rw [← hFt.out]; exact hfu
          subst hfu2
          obtain ⟨gf, cf, ef, _, _, _, _⟩ := hB.f.at_ (by simp)
          rw [show ([Ft] : List Tb.T).length = 1 from rfl] at ef
          subst ef
          have HPP := Bx.mk hpp
          have HBB := Bx.mk hB
          clear hpp hB hfu he hph hlen0 hbl hTA hfit hrel
          go_wp2_with fail
          refine (HPP.out _).mono ?_
          rintro e w2 ⟨sl, rfl, hS, hb⟩
          obtain ⟨p1q, c1q, rfl⟩ := hS.is
          have HO := Bx.mk (OE.box hS)
          have HB2 := Bx.mk ((HBB.out.step hb).step ((Below.refl _ _).alloc (Nat.le_refl _) (.cells #[.int .i64 T.k, .int .i64 T.a, .int .i64 T.v, .slice p1q T.kids.len c1q] 36)))
          clear hS hb HPP HBB
          unfold Pv Ev
          simp only []
          go_wp2_with fail
          refine region_any 100 (fun u => BS w1 u (.slice (some ⟨gf, 0, none⟩) 1 cf) (.slice po O.length co) [Ft] O ∧ OE u w2.heap.size T (.slice p1q T.kids.len c1q)) (by kernel_rfl) ?_
          generalize hu : World.drew _ = u0
          have hq0 : BS w1 u0 (.slice (some ⟨gf, 0, none⟩) 1 cf) (.slice po O.length co) [Ft] O ∧ OE u0 w2.heap.size T (.slice p1q T.kids.len c1q) := by rw [← hu]; exact ⟨HB2.out.step ((Below.refl _ _).drew), HO.out.step ((Below.refl _ _).drew)⟩
          clear hu HB2 HO
          refine any_take (i := 0) (.int .i64 0) rfl rfl (by kernel_rfl) (by kernel_rfl) (by kernel_rfl) (by kernel_rfl) (fun _ _ d _ _ h => by cases d <;> exact h) (fun u hS => rfl) hq0 ?_
          (try simp only [Act.put]); (try simp only [List.getElem_toArray]); (try simp only [List.getElem_cons_succ]); (try simp only [List.getElem_cons_zero]); (try simp only [List.setIfInBounds_toArray]); (try simp only [List.set_cons_succ]); (try simp only [List.set_cons_zero])
          refine any_take (i := 1) (.bool true) rfl rfl (by kernel_rfl) (by kernel_rfl) (by kernel_rfl) (by kernel_rfl) (fun _ _ d _ _ h => by cases d <;> exact h) (fun u hS => rfl) hq0 ?_
          (try simp only [Act.put]); (try simp only [List.getElem_toArray]); (try simp only [List.getElem_cons_succ]); (try simp only [List.getElem_cons_zero]); (try simp only [List.setIfInBounds_toArray]); (try simp only [List.set_cons_succ]); (try simp only [List.set_cons_zero])
          refine any_take (i := 2) (.bool true) rfl rfl (by kernel_rfl) (by kernel_rfl) (by kernel_rfl) (by kernel_rfl) (fun _ _ d _ _ h => by cases d <;> exact h) (fun u hS => rfl) hq0 ?_
          (try simp only [Act.put]); (try simp only [List.getElem_toArray]); (try simp only [List.getElem_cons_succ]); (try simp only [List.getElem_cons_zero]); (try simp only [List.setIfInBounds_toArray]); (try simp only [List.set_cons_succ]); (try simp only [List.set_cons_zero])
          refine any_take (i := 3) (Ev T (.slice p1q T.kids.len c1q)) rfl rfl (by kernel_rfl) (by kernel_rfl) (by kernel_rfl) (by kernel_rfl) (fun _ _ d _ _ h => by cases d <;> exact h) (fun u hS => by exact exec_loadE rfl rfl hS.2.a) hq0 ?_
          (try simp only [Act.put]); (try simp only [List.getElem_toArray]); (try simp only [List.getElem_cons_succ]); (try simp only [List.getElem_cons_zero]); (try simp only [List.setIfInBounds_toArray]); (try simp only [List.set_cons_succ]); (try simp only [List.set_cons_zero])
          refine any_take (i := 5) (.slice (some ⟨gf, 0, none⟩) 1 cf) rfl rfl (by kernel_rfl) (by kernel_rfl) (by kernel_rfl) (by kernel_rfl) (fun _ _ d _ _ h => by cases d <;> exact h) (fun u hS => rfl) hq0 ?_
          (try simp only [Act.put]); (try simp only [List.getElem_toArray]); (try simp only [List.getElem_cons_succ]); (try simp only [List.getElem_cons_zero]); (try simp only [List.setIfInBounds_toArray]); (try simp only [List.set_cons_succ]); (try simp only [List.set_cons_zero])
          refine any_take (i := 6) (.pointer (some ⟨gf, 0 * 4, none⟩)) rfl rfl (by kernel_rfl) (by kernel_rfl) (by kernel_rfl) (by kernel_rfl) (fun _ _ d _ _ h => by cases d <;> exact h) (fun u hS => exec_ixT (by omega) rfl rfl rfl) hq0 ?_
          (try simp only [Act.put]); (try simp only [List.getElem_toArray]); (try simp only [List.getElem_cons_succ]); (try simp only [List.getElem_cons_zero]); (try simp only [List.setIfInBounds_toArray]); (try simp only [List.set_cons_succ]); (try simp only [List.set_cons_zero])
          refine any_take (i := 7) (Tb.tv Ft) rfl rfl (by kernel_rfl) (by kernel_rfl) (by kernel_rfl) (by kernel_rfl) (fun _ _ d _ _ h => by cases d <;> exact h) (fun u hS => exec_loadTA rfl rfl (hS.1.f.cellAt (j := 0) rfl)) hq0 ?_
          (try simp only [Act.put]); (try simp only [List.getElem_toArray]); (try simp only [List.getElem_cons_succ]); (try simp only [List.getElem_cons_zero]); (try simp only [List.setIfInBounds_toArray]); (try simp only [List.set_cons_succ]); (try simp only [List.set_cons_zero])
          refine any_branch [4] (by kernel_rfl) rfl fun ix hix => ?_
          simp only [List.mem_cons, List.not_mem_nil, or_false] at hix
          subst hix
          refine any_op rfl rfl fun K hK => ?_
          go_simp
          have hc := func_any T _ _ u0 hq0.2.sa
          rw [hFt.out] at hc
          refine hc.mono ?_
          rintro e u1 ⟨rfl, hb⟩
          have hq1 := And.intro (hq0.1.step hb) (hq0.2.step hb)
          refine hK _ _ (fun _ => hq1) ?_
          (try simp only [Act.put]); (try simp only [List.getElem_toArray]); (try simp only [List.getElem_cons_succ]); (try simp only [List.getElem_cons_zero]); (try simp only [List.setIfInBounds_toArray]); (try simp only [List.set_cons_succ]); (try simp only [List.set_cons_zero])
          clear hK
          refine any_take (i := 8) (.bool true) rfl rfl (by kernel_rfl) (by kernel_rfl) (by kernel_rfl) (by kernel_rfl) (fun _ _ d _ _ h => by cases d <;> exact h) (fun u hS => exec_eqT rfl rfl rfl rfl) hq1 ?_
          (try simp only [Act.put]); (try simp only [List.getElem_toArray]); (try simp only [List.getElem_cons_succ]); (try simp only [List.getElem_cons_zero]); (try simp only [List.setIfInBounds_toArray]); (try simp only [List.set_cons_succ]); (try simp only [List.set_cons_zero])
          refine any_take (i := 9) (.bool true) rfl rfl (by kernel_rfl) (by kernel_rfl) (by kernel_rfl) (by kernel_rfl) (fun _ _ d _ _ h => by cases d <;> exact h) (fun u hS => rfl) hq1 ?_
          (try simp only [Act.put]); (try simp only [List.getElem_toArray]); (try simp only [List.getElem_cons_succ]); (try simp only [List.getElem_cons_zero]); (try simp only [List.setIfInBounds_toArray]); (try simp only [List.set_cons_succ]); (try simp only [List.set_cons_zero])
          refine any_take (i := 10) (.bool true) rfl rfl (by kernel_rfl) (by kernel_rfl) (by kernel_rfl) (by kernel_rfl) (fun _ _ d _ _ h => by cases d <;> exact h) (fun u hS => rfl) hq1 ?_
          (try simp only [Act.put]); (try simp only [List.getElem_toArray]); (try simp only [List.getElem_cons_succ]); (try simp only [List.getElem_cons_zero]); (try simp only [List.setIfInBounds_toArray]); (try simp only [List.set_cons_succ]); (try simp only [List.set_cons_zero])
          refine any_end (by kernel_rfl) ?_
          have HF := Bx.mk hq1.1.be
          clear hq0 hq1 hc hb
          go_wp2_with fail
          go_ret
          exact ⟨rfl, hwb.out.trans (HF.out.mono hwb.out.size)⟩
end Go.Proofs.Ytfgokhafiffbaaa

/-
  ExprBinds: the walk of every case.
-/
namespace Go.Proofs.Ytfgokhafiffbaaa
set_option linter.unusedVariables false
open Go.RowKit
theorem binds_any (ops vars : List Nat) (s1 s2 : Value) (w : World) (h1 : BytesVal w s1 ops) (h2 : BytesVal w s2 vars) :
    Calls Try.prog 3 #[s1, s2] w fun e w' => e = .returned (.bool true) ∧ Below w.heap.size w w' := by
  by_cases hbig : 6 < ops.length ∨ vars.length ≤ ops.length
  · exact binds_big ops vars s1 s2 w h1 h2 hbig
  · obtain ⟨p1, c1, e1, _⟩ := id h1
    obtain ⟨p2, c2, e2, _⟩ := id h2
    subst e1 e2
    exact binds_main ops vars p1 p2 c1 c2 w h1 h2 (by omega) (by omega)
end Go.Proofs.Ytfgokhafiffbaaa

/-
  What a law's row asks of the memory behind it, where nothing that was there has turned.
-/
namespace Go.Proofs.Ytfgokhafiffbaaa
open Go.ChangeShapes Go.WideShapes Go.ChangeAt Go.RowKit
set_option linter.unusedVariables false
section
variable {H : Type} {enc : TypeId × Value → H}
/-- what a row asks, where nothing that was there has turned -/
theorem post_of_below {P : Program} {f : Func} {s : ChangeSpec} {apart fresh handsOn again : Bool} {W W' : World} {args : Array Value} {v : Value} {ds gs : List (DataW H)} {before pa pv : List MemPlace}
    (hW : DataW.Whole enc P f.params.toList s.vars apart W args.toList ds gs before)
    (hres : ∀ (b : Nat) (sp : Nat → Bool) (hd : Bool), DataW.TrodAll enc P W' b sp hd f.resultTypes.toList (v.resultList f.resultTypes.size) (s.fn H (ds ++ gs)).results [])
    (hargs : ∀ sp : Nat → Bool, (∀ p ∈ before, sp p.block = true) → DataW.TrodAll enc P W' 0 sp true f.params.toList args.toList (s.fn H (ds ++ gs)).args pa)
    (hvars : ∀ sp : Nat → Bool, (∀ p ∈ before, sp p.block = true) → DataW.TrodVars enc P W' sp s.vars (s.fn H (ds ++ gs)).vars pv)
    (hps : before = pa ++ pv) (hb : Below W.heap.size W W')
    (hok : ∀ (j : Nat) (t : TypeId) (r : Value), f.resultTypes[j]? = some t → (v.resultList f.resultTypes.size)[j]? = some r → Value.okWide P W' .any 0 t r) :
    s.post enc P f apart fresh handsOn again W args v W' := by
  have hlt := fun p hp => hW.lt p hp
  have hold : ∀ p ∈ before, (fun b => decide (b < W.heap.size)) p.block = true := fun p hp => by simpa using hW.lt p hp
  refine ⟨ds, gs, before, [], pa, pv, hW, hres _ _ _, hargs _ hold, hvars _ hold, World.keptBut_mono (fun p hp => ⟨hp, ?_⟩) (hb.frame (· ∈ before)), fun _ => ?_⟩
  · rw [hps, List.mem_append] at hp
    exact Or.inr hp
  · obtain ⟨_, _, _, _, _, hz, hn⟩ := hW
    refine ⟨hok, _, _, ([] ++ pa) ++ pv, ⟨[] ++ pa, pv, trodAll_append (hargs _ (fun _ _ => rfl)) (hres _ _ _), hvars _ (fun _ _ => rfl), rfl, ?_, ?_⟩, ?_⟩
    · intro b off hp
      have hp' : MemPlace.cell b off ∈ before := by rw [hps]; simpa using hp
      have h1 : W'.frozen? ⟨b, off, none⟩ = W.frozen? ⟨b, off, none⟩ := hb.frozen (hlt _ hp')
      rw [h1]
      exact hz b off hp'
    · intro ha
      have := hn ha
      rw [hps] at this
      simpa using this
    · intro p hp _
      rw [hps]
      simpa using hp
end
end Go.Proofs.Ytfgokhafiffbaaa
