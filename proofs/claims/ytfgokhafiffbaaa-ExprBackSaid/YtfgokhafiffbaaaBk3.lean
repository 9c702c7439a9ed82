/-
  Formulas, plain: the signs of what is printed; a print is read back, or is too deep.
-/
import Derived.Test.YtfgokhafiffbaaaBk2
namespace Go.Proofs.Ytfgokhafiffbaaa
set_option linter.unusedVariables false
open Go.RowKit

theorem one_of {t : Tok} {C : List (Tok × Nat)} (h : C.map Prod.fst = [t]) : ∃ x, C = [x] ∧ x.1 = t := by
  cases C with
  | nil => simp at h
  | cons x r => cases r with
    | nil => exact ⟨x, rfl, by simpa using h⟩
    | cons y r => simp at h
theorem must231 {st : St} (h : st.e = 231) (t : Tok) : (st.must t).e = 231 := by rw [must_keep (by rw [h]; decide), h]
theorem UB.ite {a b c : List Tok} {X Y Z : Tr} {ai v : Int} (ha : IB a X) (hb : IB b Y) (hc : IB c Z) (hv : v = 0) :
    UB ([.ite, .lp] ++ a ++ [.comma] ++ b ++ [.comma] ++ c ++ [.rp]) ⟨9, ai, v, X.on (Y.on (Z.on .nil))⟩ := fun n => by
  intro st A R h1 h2 h3 h4
  obtain ⟨A1, D4, rfl, h3, e4⟩ := List.map_eq_append_iff.1 h3
  obtain ⟨A1, C, rfl, h3, eC⟩ := List.map_eq_append_iff.1 h3
  obtain ⟨A1, D3, rfl, h3, e3⟩ := List.map_eq_append_iff.1 h3
  obtain ⟨A1, B, rfl, h3, eB⟩ := List.map_eq_append_iff.1 h3
  obtain ⟨A1, D2, rfl, h3, e2⟩ := List.map_eq_append_iff.1 h3
  obtain ⟨D1, A1, rfl, e1, eA⟩ := List.map_eq_append_iff.1 h3
  obtain ⟨x4, rfl, k4⟩ := one_of e4
  obtain ⟨x3, rfl, k3⟩ := one_of e3
  obtain ⟨x2, rfl, k2⟩ := one_of e2
  obtain ⟨x, y, rfl, hx, hy⟩ : ∃ x y, D1 = [x, y] ∧ x.1 = .ite ∧ y.1 = .lp := by
    cases D1 with
    | nil => simp at e1
    | cons x r => cases r with
      | nil => simp at e1
      | cons y r => cases r with
        | nil => exact ⟨x, y, rfl, by simpa using e1⟩
        | cons z r => simp at e1
  have h2' : st.ts = x :: (y :: (A1 ++ (x2 :: (B ++ (x3 :: (C ++ (x4 :: R))))))) := by rw [h2]; simp
  have hnow : st.now = .ite := by unfold St.now; rw [h2']; exact hx
  obtain ⟨g1, g2⟩ := goes_ts h2'
  have hm : st.may .ite = true := may_at h1 h2' hx
  rw [Ex.lev_un]
  unfold Ex.un
  rw [if_neg (by simpa using h1), may_other h2' (by rw [hx]; decide), if_neg (by simp), may_other h2' (by rw [hx]; decide), if_neg (by simp), may_other h2' (by rw [hx]; decide), if_neg (by simp)]
  unfold Ex.prim
  rw [hnow]
  simp only []
  rw [may_other h2' (by rw [hx]; decide), if_neg (by simp), hm, if_pos rfl]
  unfold Ex.ite
  simp only []
  have hw := fun {ts : List Tok} {T : Tr} (h : IB ts T) => (wf_rb h n).within
  have hk := (GdR.all n).iff
  have hkeep : ∀ (st : St), st.e = 231 → (Ex.within (Ex.wf n) st).2.e = 231 := fun st h => by
    have : Gd (Ex.within (Ex.wf n)) := GdO.within (by cases n with
      | zero => exact True.intro
      | succ n => exact (GdR.all n).iff)
    rw [this.keep st (by rw [h]; decide), h]
  have hst : ∀ (z : Tok × Nat) (Q : List (Tok × Nat)), (z.1 = .comma ∨ z.1 = .rp) → Stop opS (z :: Q) := fun z Q hz w r e => by
    cases e; rcases hz with hz | hz <;> rw [hz] <;> rfl
  obtain ⟨m1, m2⟩ := must_at (by rw [g2]; exact h1) g1 hy
  rcases hw ha _ A1 _ m1 m2 eA (hst x2 _ (.inl k2)) with i5 | ⟨i5, i6, i7⟩
  · left; exact must231 (hkeep _ (must231 (hkeep _ (must231 i5 _)) _)) _
  · obtain ⟨n1, n2⟩ := must_at i5 i6 k2
    rcases hw hb _ B _ n1 n2 eB (hst x3 _ (.inl k3)) with j5 | ⟨j5, j6, j7⟩
    · left; exact must231 (hkeep _ (must231 j5 _)) _
    · obtain ⟨o1, o2⟩ := must_at j5 j6 k3
      rcases hw hc _ C _ o1 o2 eC (hst x4 _ (.inr k4)) with l5 | ⟨l5, l6, l7⟩
      · left; exact must231 l5 _
      · obtain ⟨q1, q2⟩ := must_at l5 l6 k4
        refine .inr ⟨q1, q2, ?_⟩
        subst hv
        generalize Ex.within (Ex.wf n) (st.goes.must .lp) = r1 at *
        generalize Ex.within (Ex.wf n) (r1.2.must .comma) = r2 at *
        generalize Ex.within (Ex.wf n) (r2.2.must .comma) = r3 at *
        rw [show Ex.same ⟨9, ai, 0, X.on (Y.on (Z.on .nil))⟩ ⟨9, (st.at_ : Int), 0, r1.1.on (r2.1.on (r3.1.on .nil))⟩ = (decide ((9 : Int) = 9) && decide ((0 : Int) = 0) && Fo.same (X.on (Y.on (Z.on .nil))) (r1.1.on (r2.1.on (r3.1.on .nil)))) from rfl, Fo.same_on, Fo.same_on, Fo.same_on, i7, j7, l7]
        simp [Fo.same]
/-- the signs of each formula of a list are read back -/
def Fo.ub : Fo → Prop
  | .nil => True
  | .cons k a v kids rest => UB (Ex.pt ⟨k, a, v, kids⟩) ⟨k, a, v, kids⟩ ∧ rest.ub
theorem Fo.ub_on {x : Tr} {r : Fo} (h : (x.on r).ub) : UB (Ex.pt x) x ∧ r.ub := h
theorem UB.fo : ∀ F : Fo, F.allPlain = true → F.ub
  | .nil, _ => True.intro
  | .cons k a v kids rest, hp => by
    have hp' : ((⟨k, a, v, kids⟩ : Tr).on rest).allPlain = true := hp
    rw [Fo.allPlain_on, Bool.and_eq_true, Bool.and_eq_true] at hp'
    obtain ⟨⟨hpl, hka⟩, hre⟩ := hp'
    obtain ⟨h1, h2, h3, h4, h5⟩ := plain_shape hpl
    simp only [] at h1 h2 h3 h4 h5 hka
    refine ⟨?_, UB.fo rest hre⟩
    have hub := UB.fo kids hka
    have hv0 : ¬ (k = 1 ∨ k = 2 ∨ k = 10 ∨ k = 11) → v = 0 := fun h => by
      have ht : Ex.top k = 0 := by unfold Ex.top; rw [if_neg (by omega), if_neg (by omega)]
      omega
    have hv7 : (k = 1 ∨ k = 10 ∨ k = 11) → ∃ m : Fin 8, v = (m.val : Int) := fun h => by
      have ht : Ex.top k = 7 := by unfold Ex.top; rw [if_pos (by omega)]
      exact ⟨⟨v.toNat, by omega⟩, by simp; omega⟩
    have hfin : ∀ m : Fin 8, Fin.ofNat 8 ((m.val : Int)).toNat = m := fun m => by apply Fin.ext; simp
    unfold Ex.pt Ex.ptk
    simp only []
    have hc : k = 1 ∨ k = 2 ∨ k = 3 ∨ (4 ≤ k ∧ k ≤ 8) ∨ k = 9 ∨ k = 10 ∨ k = 11 := by omega
    rcases hc with rfl | rfl | rfl | hk | rfl | rfl | rfl
    · obtain ⟨m, rfl⟩ := hv7 (.inl rfl)
      have e := Fo.len0 (F := kids) (by rw [h3, Ex.kids0 (by omega)])
      subst e
      rw [if_pos rfl, hfin]
      exact UB.leaf (.inl ⟨m, rfl, rfl, rfl⟩)
    · have e := Fo.len0 (F := kids) (by rw [h3, Ex.kids0 (by omega)])
      subst e
      have ht : Ex.top 2 = 1 := by unfold Ex.top; rw [if_neg (by omega), if_pos rfl]
      rw [if_neg (by omega), if_pos rfl]
      by_cases hv : v = 0
      · rw [if_pos hv]; exact UB.leaf (.inr (.inl ⟨rfl, rfl, hv⟩))
      · rw [if_neg hv]; exact UB.leaf (.inr (.inr ⟨rfl, rfl, by omega⟩))
    · obtain ⟨x, e⟩ := Fo.len1 (F := kids) (by rw [h3, Ex.kids1 (by omega)])
      subst e
      have hx := (Fo.ub_on hub).1
      rw [if_neg (by omega), if_neg (by omega), if_pos rfl]
      exact UB.one_ (UB.par hx.iff) (hv0 (by omega))
    · obtain ⟨x, y, e⟩ := Fo.len2 (F := kids) (by rw [h3, Ex.kids2 hk])
      subst e
      have hx := (Fo.ub_on hub).1
      have hy := (Fo.ub_on (Fo.ub_on hub).2).1
      rw [if_neg (by omega), if_neg (by omega), if_neg (by omega), if_neg (by omega), if_neg (by omega), if_neg (by omega)]
      have := UB.par (IB.two (ai := a) hk (UB.par hx.iff) (UB.par hy.iff) (hv0 (by omega)))
      unfold Ex.tpar at this ⊢
      rw [show (x.on (y.on Fo.nil)).pts.getD 0 [] = Ex.pt x from rfl, show (x.on (y.on Fo.nil)).pts.getD 1 [] = Ex.pt y from rfl]
      simpa only [List.append_assoc] using this
    · obtain ⟨x, y, z, e⟩ := Fo.len3 (F := kids) (by rw [h3, Ex.kids3 rfl])
      subst e
      have hx := (Fo.ub_on hub).1
      have hy := (Fo.ub_on (Fo.ub_on hub).2).1
      have hz := (Fo.ub_on (Fo.ub_on (Fo.ub_on hub).2).2).1
      rw [if_neg (by omega), if_neg (by omega), if_neg (by omega), if_neg (by omega), if_neg (by omega), if_pos rfl]
      exact UB.ite (UB.par hx.iff).iff (UB.par hy.iff).iff (UB.par hz.iff).iff (hv0 (by omega))
    · obtain ⟨x, e⟩ := Fo.len1 (F := kids) (by rw [h3, Ex.kids1 (by omega)])
      obtain ⟨m, rfl⟩ := hv7 (.inr (.inl rfl))
      subst e
      have hx := (Fo.ub_on hub).1
      rw [if_neg (by omega), if_neg (by omega), if_neg (by omega), if_pos rfl, hfin]
      exact UB.quant (.inl ⟨rfl, rfl⟩) m (UB.par hx.iff)
    · obtain ⟨x, e⟩ := Fo.len1 (F := kids) (by rw [h3, Ex.kids1 (by omega)])
      obtain ⟨m, rfl⟩ := hv7 (.inr (.inr rfl))
      subst e
      have hx := (Fo.ub_on hub).1
      rw [if_neg (by omega), if_neg (by omega), if_neg (by omega), if_neg (by omega), if_pos rfl, hfin]
      exact UB.quant (.inr ⟨rfl, rfl⟩) m (UB.par hx.iff)
theorem UB.tr {t : Tr} (h : (t.on .nil).allPlain = true) : UB (Ex.pt t) t := (Fo.ub_on (UB.fo (t.on .nil) h)).1

/-- a text goes over into signs and a rest -/
def LexTo (l : List Nat) (ts : List Tok) (r : List Nat) : Prop := ∀ a, ∃ A a', Lx.lex l a = A ++ Lx.lex r a' ∧ A.map Prod.fst = ts
theorem LexTo.trans {l r q : List Nat} {ts us : List Tok} (h : LexTo l ts r) (k : LexTo r us q) : LexTo l (ts ++ us) q := fun a => by
  obtain ⟨A, b, h1, h2⟩ := h a
  obtain ⟨B, c, k1, k2⟩ := k b
  exact ⟨A ++ B, c, by rw [h1, k1, List.append_assoc], by rw [List.map_append, h2, k2]⟩
theorem lex_tok (t : Tok) (r : List Nat) (h1 : t ≠ .eof) (h2 : t ≠ .bad) (hs : Lx.scan (t.txt ++ r) = t) (hk : Lx.skip (t.txt ++ r) = 0) : LexTo (t.txt ++ r) [t] r := fun a => by
  refine ⟨[(t, a)], a + t.txt.length, ?_, rfl⟩
  rw [Lx.lex_eq, hk, List.drop_zero, hs, if_neg (fun h => by rcases h with h | h; exact h1 h; exact h2 h), List.drop_left]
  rfl
theorem lex_tok' (t : Tok) (l : List Nat) (r : List Nat) (ht : t.txt = l) (h1 : t ≠ .eof) (h2 : t ≠ .bad) (hs : Lx.scan (l ++ r) = t) (hk : Lx.skip (l ++ r) = 0) : LexTo (l ++ r) [t] r := by
  subst ht; exact lex_tok t r h1 h2 hs hk
theorem skip_no {c : Nat} (r : List Nat) (h : c ≠ 32 ∧ c ≠ 9 ∧ c ≠ 10) : Lx.skip (c :: r) = 0 := by
  rw [Lx.skip_cons]
  unfold Lx.blank
  simp [h.1, h.2.1, h.2.2]
theorem LexTo.blank (r : List Nat) : LexTo (32 :: r) [] r := fun a => by
  refine ⟨[], a + 1, ?_, rfl⟩
  have hb : Lx.blank 32 = true := by unfold Lx.blank; rfl
  have e : Lx.skip (32 :: r) = 1 + Lx.skip r := by rw [Lx.skip_cons, hb, if_pos rfl]
  rw [List.nil_append, Lx.lex_eq (32 :: r) a, Lx.lex_eq r (a + 1), e, Nat.add_comm 1, List.drop_succ_cons]
  have e2 : a + (Lx.skip r + 1) = a + 1 + Lx.skip r := by omega
  rw [e2]
theorem LexTo.lp (r : List Nat) : LexTo (40 :: r) [.lp] r := lex_tok' .lp [40] r (by unfold Tok.txt; rfl) (by decide) (by decide) (by unfold Lx.scan Lx.pre; simp) (skip_no r (by decide))
theorem LexTo.rp (r : List Nat) : LexTo (41 :: r) [.rp] r := lex_tok' .rp [41] r (by unfold Tok.txt; rfl) (by decide) (by decide) (by unfold Lx.scan Lx.pre; simp) (skip_no r (by decide))
theorem LexTo.comma (r : List Nat) : LexTo (44 :: r) [.comma] r := lex_tok' .comma [44] r (by unfold Tok.txt; rfl) (by decide) (by decide) (by unfold Lx.scan Lx.pre; simp) (skip_no r (by decide))
theorem LexTo.not (r : List Nat) : LexTo (33 :: r) [.not] r := lex_tok' .not [33] r (by unfold Tok.txt; rfl) (by decide) (by decide) (by unfold Lx.scan Lx.pre; simp) (skip_no r (by decide))
theorem LexTo.and (r : List Nat) : LexTo (38 :: r) [.and] r := lex_tok' .and [38] r (by unfold Tok.txt; rfl) (by decide) (by decide) (by unfold Lx.scan Lx.pre; simp) (skip_no r (by decide))
theorem LexTo.or (r : List Nat) : LexTo (124 :: r) [.or] r := lex_tok' .or [124] r (by unfold Tok.txt; rfl) (by decide) (by decide) (by unfold Lx.scan Lx.pre; simp) (skip_no r (by decide))
theorem LexTo.xor (r : List Nat) : LexTo (94 :: r) [.xor] r := lex_tok' .xor [94] r (by unfold Tok.txt; rfl) (by decide) (by decide) (by unfold Lx.scan Lx.pre; simp) (skip_no r (by decide))
theorem LexTo.imp (r : List Nat) : LexTo (45 :: 62 :: r) [.imp] r := lex_tok' .imp [45, 62] r (by unfold Tok.txt; rfl) (by decide) (by decide) (by unfold Lx.scan Lx.pre; simp) (skip_no (62 :: r) (by decide))
theorem LexTo.iff (r : List Nat) : LexTo (60 :: 45 :: 62 :: r) [.iff] r := lex_tok' .iff [60, 45, 62] r (by unfold Tok.txt; rfl) (by decide) (by decide) (by unfold Lx.scan Lx.pre; simp) (skip_no (45 :: 62 :: r) (by decide))
theorem LexTo.zero (r : List Nat) : LexTo (48 :: r) [.zero] r := lex_tok' .zero [48] r (by unfold Tok.txt; rfl) (by decide) (by decide) (by unfold Lx.scan Lx.pre; simp) (skip_no r (by decide))
theorem LexTo.one (r : List Nat) : LexTo (49 :: r) [.one] r := lex_tok' .one [49] r (by unfold Tok.txt; rfl) (by decide) (by decide) (by unfold Lx.scan Lx.pre; simp) (skip_no r (by decide))
/-- no letter, no digit comes next -/
def Brk (r : List Nat) : Prop := Lx.word r = 0
theorem Brk.cons {c : Nat} (r : List Nat) (h : c < 48) : Brk (c :: r) := by
  unfold Brk
  rw [Lx.word_cons, Ex.letter0 (by omega)]
  have : Ex.number c = false := by unfold Ex.number; simp; omega
  rw [this]
  rfl
theorem Brk.nil : Brk [] := Lx.word_nil
theorem word_al {c : Nat} (r : List Nat) (h : 97 ≤ c ∧ c ≤ 122) : Lx.word (c :: r) = 1 + Lx.word r := by rw [Lx.word_cons, Ex.letter1 (.inl h)]; rfl
theorem word_nu {c : Nat} (r : List Nat) (h : 48 ≤ c ∧ c ≤ 57) : Lx.word (c :: r) = 1 + Lx.word r := by
  have : Ex.number c = true := by unfold Ex.number; simp; omega
  rw [Lx.word_cons, this, Bool.or_true, if_pos rfl]
theorem LexTo.var (m : Fin 8) {r : List Nat} (h : Brk r) : LexTo (118 :: (48 + m.val) :: r) [.var m] r := by
  have ht : (Tok.var m).txt = [118, 48 + m.val] := by unfold Tok.txt; rfl
  have := lex_tok (.var m) r (by simp) (by simp) (by
    rw [ht]
    have hw : Lx.word ((48 + m.val) :: r) = 1 := by rw [word_nu _ (by have := m.isLt; omega), h]
    unfold Lx.scan Lx.pre
    simp only [List.cons_append, List.nil_append]
    rw [hw, Ex.letter1 (by omega)]
    simp
    unfold Lx.kw
    rw [Lx.vr_mk (by omega) (by have := m.isLt; omega)]
    simp) (by rw [ht]; exact skip_no _ (by decide))
  rw [ht] at this
  exact this
theorem LexTo.all (r : List Nat) : LexTo (97 :: 108 :: 108 :: 32 :: r) [.all] (32 :: r) := by
  have ht : (Tok.all).txt = [97, 108, 108] := by unfold Tok.txt; rfl
  have := lex_tok .all (32 :: r) (by simp) (by simp) (by
    rw [ht]
    have hw : Lx.word (108 :: 108 :: 32 :: r) = 2 := by rw [word_al _ (by omega), word_al _ (by omega), Brk.cons r (by omega)]
    unfold Lx.scan Lx.pre
    simp only [List.cons_append, List.nil_append]
    rw [hw, Ex.letter1 (by omega)]
    simp
    unfold Lx.kw
    simp) (by rw [ht]; exact skip_no _ (by decide))
  rw [ht] at this
  exact this
theorem LexTo.any (r : List Nat) : LexTo (97 :: 110 :: 121 :: 32 :: r) [.any] (32 :: r) := by
  have ht : (Tok.any).txt = [97, 110, 121] := by unfold Tok.txt; rfl
  have := lex_tok .any (32 :: r) (by simp) (by simp) (by
    rw [ht]
    have hw : Lx.word (110 :: 121 :: 32 :: r) = 2 := by rw [word_al _ (by omega), word_al _ (by omega), Brk.cons r (by omega)]
    unfold Lx.scan Lx.pre
    simp only [List.cons_append, List.nil_append]
    rw [hw, Ex.letter1 (by omega)]
    simp
    unfold Lx.kw
    simp) (by rw [ht]; exact skip_no _ (by decide))
  rw [ht] at this
  exact this
theorem LexTo.ite (r : List Nat) : LexTo (105 :: 116 :: 101 :: 40 :: r) [.ite, .lp] r := by
  have ht : (Tok.ite).txt = [105, 116, 101] := by unfold Tok.txt; rfl
  have := lex_tok .ite (40 :: r) (by simp) (by simp) (by
    rw [ht]
    have hw : Lx.word (116 :: 101 :: 40 :: r) = 2 := by rw [word_al _ (by omega), word_al _ (by omega), Brk.cons r (by omega)]
    unfold Lx.scan Lx.pre
    simp only [List.cons_append, List.nil_append]
    rw [hw, Ex.letter1 (by omega)]
    simp
    unfold Lx.kw
    simp) (by rw [ht]; exact skip_no _ (by decide))
  rw [ht] at this
  exact this.trans (LexTo.lp r)
end Go.Proofs.Ytfgokhafiffbaaa
