/-
  Texts on which the law ExprBinds rests, part 14 of 22.
-/
import Derived.Test.YtfgokhafiffbaaaExprBindsM13
import Derived.Lib.AppendStr
import Derived.Laws.IdiomStrings
/-
  Formulas, plain: what the parser hands back: a formula, or the first error and its place.
-/
namespace Go.Proofs.Ytfgokhafiffbaaa
set_option linter.unusedVariables false
open Go.RowKit

/-- all places are within the text -/
structure Pos (L : Nat) (st : St) : Prop where
  eat : st.eat ≤ L
  ts : ∀ x ∈ st.ts, x.2 ≤ L
theorem Pos.at_ {L : Nat} {st : St} (h : Pos L st) : st.at_ ≤ L := by
  unfold St.at_
  cases e : st.ts with
  | nil => exact Nat.zero_le _
  | cons x r => exact h.ts x (by rw [e]; exact List.mem_cons_self)
theorem Pos.goes {L : Nat} {st : St} (h : Pos L st) : Pos L st.goes := ⟨h.eat, fun x hx => h.ts x (List.mem_of_mem_tail hx)⟩
theorem Pos.bad {L : Nat} {st : St} (h : Pos L st) (e : Nat) : Pos L (st.bad e) := by
  unfold St.bad
  split
  · exact ⟨h.at_, h.ts⟩
  · exact h
theorem Pos.must {L : Nat} {st : St} (h : Pos L st) (t : Tok) : Pos L (st.must t) := by
  unfold St.must
  split
  · exact h.goes
  · exact h.bad _
theorem may_no {st : St} (h : st.e ≠ 0) (t : Tok) : st.may t = false := by unfold St.may; rw [decide_eq_false h]; rfl
theorem bad_keep {st : St} (h : st.e ≠ 0) (e : Nat) : st.bad e = st := by unfold St.bad; rw [if_neg h]
theorem must_keep {st : St} (h : st.e ≠ 0) (t : Tok) : st.must t = st := by unfold St.must; rw [may_no h, if_neg (by simp), bad_keep h]
theorem may_yes {st : St} {t : Tok} (h : st.may t = true) : st.e = 0 ∧ st.now = t := by
  unfold St.may at h
  rw [Bool.and_eq_true] at h
  exact ⟨of_decide_eq_true h.1, of_decide_eq_true h.2⟩
theorem now_len {st : St} (h : st.now ≠ .eof) : st.goes.ts.length + 1 = st.ts.length := by
  unfold St.now at h
  unfold St.goes
  cases e : st.ts with
  | nil => rw [e] at h; exact absurd rfl h
  | cons x r => simp
theorem must_e {st : St} {t : Tok} (h : (st.must t).e = 0) : st.e = 0 := by
  rcases Nat.eq_zero_or_pos st.e with h0 | h0
  · exact h0
  · rw [must_keep (by omega)] at h; exact h
/-- what a reader is good for -/
structure Gd (p : St → Tr × St) : Prop where
  keep : ∀ st, st.e ≠ 0 → (p st).2.e = st.e
  pos : ∀ L st, Pos L st → Pos L (p st).2
  good : ∀ st, (p st).2.e = 0 → ((p st).1.on .nil).allPlain = true ∧ ((p st).1.on .nil).nodes + (p st).2.ts.length ≤ st.ts.length
def GdO (r : Option (St → Tr × St)) : Prop := match r with | none => True | some p => Gd p
theorem GdO.within {r : Option (St → Tr × St)} (h : GdO r) : Gd (Ex.within r) := by
  cases r with
  | none =>
    refine ⟨fun st he => by unfold Ex.within; rw [bad_keep he], fun L st hp => hp.bad _, fun st he => ?_⟩
    exact absurd he (bad_ne 231 (by omega) st)
  | some p =>
    have h : Gd p := h
    refine ⟨fun st he => ?_, fun L st hp => ?_, fun st he => ?_⟩
    · unfold Ex.within; simp only [if_neg he]
    · unfold Ex.within; simp only []; split
      · exact h.pos L st hp
      · exact hp
    · unfold Ex.within at he ⊢
      simp only [] at he ⊢
      by_cases h0 : st.e = 0
      · rw [if_pos h0] at he ⊢; exact h.good st he
      · rw [if_neg h0] at he; exact absurd he h0
theorem plain_two {k : Int} {a : Nat} {x y : Tr} (hk : 4 ≤ k ∧ k ≤ 8) (hx : (x.on .nil).allPlain = true) (hy : (y.on .nil).allPlain = true) : ((Ex.two k a x y).on .nil).allPlain = true := by
  rw [Fo.allPlain_on] at hx hy ⊢
  unfold Ex.two
  simp only [Fo.allPlain_on] at hx hy ⊢
  have e : Ex.plain ⟨k, a, 0, x.on (y.on .nil)⟩ = true := by
    unfold Ex.plain
    rw [show (x.on (y.on Fo.nil)).len = 2 from rfl, Ex.kids2 hk]
    have ht : Ex.top k = 0 := by unfold Ex.top; rw [if_neg (by omega), if_neg (by omega)]
    rw [ht]
    simp; omega
  rw [e]
  rw [Bool.and_eq_true, Bool.and_eq_true] at hx hy
  rw [hx.1.1, hx.1.2, hy.1.1, hy.1.2]
  rfl
theorem plain_one {k : Int} {a : Nat} {v : Int} {x : Tr} (hk : k = 3 ∨ k = 10 ∨ k = 11) (hv : 0 ≤ v) (hv2 : v ≤ Ex.top k) (hx : (x.on .nil).allPlain = true) : ((Ex.one k a v x).on .nil).allPlain = true := by
  rw [Fo.allPlain_on] at hx ⊢
  unfold Ex.one
  simp only [Fo.allPlain_on] at hx ⊢
  have e : Ex.plain ⟨k, a, v, x.on .nil⟩ = true := by
    unfold Ex.plain
    rw [show (x.on Fo.nil).len = 1 from rfl, Ex.kids1 hk]
    simp; omega
  rw [e, hx]
  rfl
theorem nodes_two (k : Int) (a : Nat) (x y : Tr) : ((Ex.two k a x y).on .nil).nodes = 1 + (x.on .nil).nodes + (y.on .nil).nodes := by
  unfold Ex.two
  simp only [Fo.nodes_on, show Fo.nil.nodes = 0 from rfl]
  omega
theorem nodes_one (k : Int) (a : Nat) (v : Int) (x : Tr) : ((Ex.one k a v x).on .nil).nodes = 1 + (x.on .nil).nodes := by
  unfold Ex.one
  simp only [Fo.nodes_on, show Fo.nil.nodes = 0 from rfl]
  omega
theorem Gd.chainF {t : Tok} {k : Int} {p : St → Tr × St} (h : Gd p) (ht : t ≠ .eof) (hk : 4 ≤ k ∧ k ≤ 8) : ∀ (n : Nat) (x : Tr) (st : St),
    (st.e ≠ 0 → (Ex.chainF n t k p x st).2.e = st.e) ∧ (∀ L, Pos L st → Pos L (Ex.chainF n t k p x st).2) ∧
    ((Ex.chainF n t k p x st).2.e = 0 → (x.on .nil).allPlain = true → ((Ex.chainF n t k p x st).1.on .nil).allPlain = true ∧ ((Ex.chainF n t k p x st).1.on .nil).nodes + (Ex.chainF n t k p x st).2.ts.length ≤ (x.on .nil).nodes + st.ts.length) := by
  intro n
  induction n with
  | zero => exact fun x st => ⟨fun _ => rfl, fun L hp => hp, fun _ hx => ⟨hx, Nat.le_refl _⟩⟩
  | succ n ih =>
    intro x st
    cases hm : st.may t with
    | false =>
      rw [Ex.chainF_no hm]
      exact ⟨fun _ => rfl, fun L hp => hp, fun _ hx => ⟨hx, Nat.le_refl _⟩⟩
    | true =>
      have hg := St.goes_len hm ht
      rw [Ex.chainF, if_pos hm]
      obtain ⟨i1, i2, i3⟩ := ih (Ex.two k st.at_ x (p st.goes).1) (p st.goes).2
      refine ⟨fun he => absurd (may_yes hm).1 he, fun L hp => i2 L (h.pos L _ hp.goes), fun he hx => ?_⟩
      have he2 : (p st.goes).2.e = 0 := by
        rcases Nat.eq_zero_or_pos (p st.goes).2.e with h0 | h0
        · exact h0
        · rw [i1 (by omega)] at he; exact he
      obtain ⟨g1, g2⟩ := h.good _ he2
      obtain ⟨j1, j2⟩ := i3 he (plain_two hk hx g1)
      refine ⟨j1, ?_⟩
      rw [nodes_two] at j2
      omega
theorem Gd.chain {t : Tok} {k : Int} {p : St → Tr × St} (h : Gd p) (ht : t ≠ .eof) (hk : 4 ≤ k ∧ k ≤ 8) : Gd (Ex.chain t k p) := by
  refine ⟨fun st he => ?_, fun L st hp => ?_, fun st he => ?_⟩
  · unfold Ex.chain
    have := h.keep st he
    rw [(Gd.chainF h ht hk _ _ _).1 (by rw [this]; exact he), this]
  · exact (Gd.chainF h ht hk _ _ _).2.1 L (h.pos L st hp)
  · unfold Ex.chain at he ⊢
    obtain ⟨i1, i2, i3⟩ := Gd.chainF h ht hk (p st).2.ts.length (p st).1 (p st).2
    have he2 : (p st).2.e = 0 := by
      rcases Nat.eq_zero_or_pos (p st).2.e with h0 | h0
      · exact h0
      · rw [i1 (by omega)] at he; exact he
    obtain ⟨g1, g2⟩ := h.good _ he2
    obtain ⟨j1, j2⟩ := i3 he g1
    exact ⟨j1, by omega⟩
theorem Gd.imp {r : Option (St → Tr × St)} {p : St → Tr × St} (hr : GdO r) (h : Gd p) : Gd (Ex.imp r p) := by
  have hw := hr.within
  refine ⟨fun st he => ?_, fun L st hp => ?_, fun st he => ?_⟩
  · unfold Ex.imp
    have := h.keep st he
    rw [may_no (by rw [this]; exact he), if_neg (by simp), this]
  · unfold Ex.imp
    split
    · exact hw.pos L _ (h.pos L st hp).goes
    · exact h.pos L st hp
  · unfold Ex.imp at he ⊢
    cases hm : (p st).2.may .imp with
    | false =>
      rw [hm, if_neg (by simp)] at he
      rw [if_neg (by simp)]
      exact h.good st he
    | true =>
      rw [hm, if_pos rfl] at he
      rw [if_pos rfl]
      obtain ⟨g1, g2⟩ := h.good st (may_yes hm).1
      obtain ⟨j1, j2⟩ := hw.good _ he
      have hg := St.goes_len hm (by decide)
      refine ⟨plain_two (by omega) g1 j1, ?_⟩
      rw [nodes_two]
      simp only []
      omega
theorem Gd.bound {r : Option (St → Tr × St)} (hr : GdO r) (k : Int) (hk : k = 10 ∨ k = 11) (a : Nat) (st : St) (hs : st.e = 0) : (∀ L, Pos L st → Pos L (Ex.bound r k a st).2) ∧
    ((Ex.bound r k a st).2.e = 0 → ((Ex.bound r k a st).1.on .nil).allPlain = true ∧ ((Ex.bound r k a st).1.on .nil).nodes + (Ex.bound r k a st).2.ts.length ≤ st.ts.length) := by
  have hw := hr.within
  unfold Ex.bound
  split
  · rename_i n hn
    have hl := now_len (st := st) (by rw [hn]; simp)
    refine ⟨fun L hp => hw.pos L _ hp.goes, fun he => ?_⟩
    obtain ⟨j1, j2⟩ := hw.good _ he
    refine ⟨plain_one (by omega) (by omega) ?_ j1, ?_⟩
    · have := n.isLt
      have ht : Ex.top k = 7 := by unfold Ex.top; rw [if_pos (by omega)]
      omega
    · rw [nodes_one]
      simp only []
      omega
  · exact ⟨fun L hp => hp.bad _, fun he => absurd he (bad_ne 230 (by omega) st)⟩
theorem Gd.ite {r : Option (St → Tr × St)} (hr : GdO r) (a : Nat) : (∀ st, st.e ≠ 0 → (Ex.ite r a st).2.e = st.e) ∧ (∀ L st, Pos L st → Pos L (Ex.ite r a st).2) ∧
    (∀ st, (Ex.ite r a st).2.e = 0 → ((Ex.ite r a st).1.on .nil).allPlain = true ∧ ((Ex.ite r a st).1.on .nil).nodes + (Ex.ite r a st).2.ts.length ≤ st.ts.length + 1) := by
  have hw := hr.within
  refine ⟨fun st he => ?_, fun L st hp => ?_, fun st he => ?_⟩
  · unfold Ex.ite
    simp only []
    have k : ∀ t (st : St), st.e ≠ 0 → (Ex.within r (st.must t)).2.e = st.e := fun t st h => by rw [must_keep h]; exact hw.keep st h
    have e1 := k .lp st he
    have e2 := k .comma (Ex.within r (st.must .lp)).2 (by rw [e1]; exact he)
    have e3 := k .comma (Ex.within r ((Ex.within r (st.must .lp)).2.must .comma)).2 (by rw [e2, e1]; exact he)
    rw [must_keep (by rw [e3, e2, e1]; exact he), e3, e2, e1]
  · unfold Ex.ite
    simp only []
    exact (hw.pos L _ ((hw.pos L _ ((hw.pos L _ (hp.must _)).must _)).must _)).must _
  · unfold Ex.ite at he ⊢
    simp only [] at he ⊢
    have e3 := must_e he
    obtain ⟨a3, b3⟩ := hw.good _ e3
    have e2 : (Ex.within r ((Ex.within r (st.must .lp)).2.must .comma)).2.e = 0 := by
      rcases Nat.eq_zero_or_pos (Ex.within r ((Ex.within r (st.must .lp)).2.must .comma)).2.e with h0 | h0
      · exact h0
      · have := hw.keep ((Ex.within r ((Ex.within r (st.must .lp)).2.must .comma)).2.must .comma) (by rw [must_keep (by omega)]; omega)
        rw [this, must_keep (by omega)] at e3; exact e3
    obtain ⟨a2, b2⟩ := hw.good _ e2
    have e1 : (Ex.within r (st.must .lp)).2.e = 0 := by
      rcases Nat.eq_zero_or_pos (Ex.within r (st.must .lp)).2.e with h0 | h0
      · exact h0
      · have := hw.keep ((Ex.within r (st.must .lp)).2.must .comma) (by rw [must_keep (by omega)]; omega)
        rw [this, must_keep (by omega)] at e2; exact e2
    obtain ⟨a1, b1⟩ := hw.good _ e1
    have l0 := must_le .lp st
    have l1 := must_le .comma (Ex.within r (st.must .lp)).2
    have l2 := must_le .comma (Ex.within r ((Ex.within r (st.must .lp)).2.must .comma)).2
    have l3 := must_le .rp (Ex.within r ((Ex.within r ((Ex.within r (st.must .lp)).2.must .comma)).2.must .comma)).2
    generalize Ex.within r (st.must .lp) = r1 at *
    generalize Ex.within r (r1.2.must .comma) = r2 at *
    generalize Ex.within r (r2.2.must .comma) = r3 at *
    constructor
    · rw [Fo.allPlain_on] at a1 a2 a3 ⊢
      simp only [Fo.allPlain_on] at a1 a2 a3 ⊢
      have e : Ex.plain ⟨9, a, 0, r1.1.on (r2.1.on (r3.1.on .nil))⟩ = true := by
        unfold Ex.plain
        rw [show (r1.1.on (r2.1.on (r3.1.on Fo.nil))).len = 3 from rfl, Ex.kids3 rfl]
        simp only []
        unfold Ex.top
        simp
      rw [e]
      rw [Bool.and_eq_true, Bool.and_eq_true] at a1 a2 a3
      rw [a1.1.1, a1.1.2, a2.1.1, a2.1.2, a3.1.1, a3.1.2]
      rfl
    · simp only [Fo.nodes_on, show Fo.nil.nodes = 0 from rfl] at b1 b2 b3 ⊢
      omega
theorem plain_leaf {k a v : Int} (h : (k = 1 ∧ 0 ≤ v ∧ v ≤ 7) ∨ (k = 2 ∧ 0 ≤ v ∧ v ≤ 1)) : ((⟨k, a, v, .nil⟩ : Tr).on .nil).allPlain = true := by
  rw [Fo.allPlain_on]
  have e : Ex.plain ⟨k, a, v, .nil⟩ = true := by
    unfold Ex.plain
    simp only []
    rw [show (Fo.nil).len = 0 from rfl, Ex.kids0 (by omega)]
    unfold Ex.top
    rcases h with ⟨rfl, h⟩ | ⟨rfl, h⟩
    · simp; omega
    · simp; omega
  rw [e]
  rfl
theorem Gd.prim {r : Option (St → Tr × St)} (hr : GdO r) (st : St) (hs : st.e = 0) : (∀ L, Pos L st → Pos L (Ex.prim r st).2) ∧
    ((Ex.prim r st).2.e = 0 → ((Ex.prim r st).1.on .nil).allPlain = true ∧ ((Ex.prim r st).1.on .nil).nodes + (Ex.prim r st).2.ts.length ≤ st.ts.length) := by
  have hw := hr.within
  have hnil : ∀ (k a v : Int), ((⟨k, a, v, .nil⟩ : Tr).on .nil).nodes = 1 := fun _ _ _ => rfl
  unfold Ex.prim
  split
  · rename_i n hn
    have hl := now_len (st := st) (by rw [hn]; simp)
    exact ⟨fun L hp => hp.goes, fun _ => ⟨plain_leaf (.inl ⟨rfl, by have := n.isLt; omega, by have := n.isLt; omega⟩), by rw [hnil]; simp only []; omega⟩⟩
  · rename_i hn
    have hl := now_len (st := st) (by rw [hn]; simp)
    exact ⟨fun L hp => hp.goes, fun _ => ⟨plain_leaf (.inr ⟨rfl, by omega, by omega⟩), by rw [hnil]; simp only []; omega⟩⟩
  · rename_i hn
    have hl := now_len (st := st) (by rw [hn]; simp)
    exact ⟨fun L hp => hp.goes, fun _ => ⟨plain_leaf (.inr ⟨rfl, by omega, by omega⟩), by rw [hnil]; simp only []; omega⟩⟩
  · split
    · rename_i hm
      have hg := St.goes_len hm (by decide)
      refine ⟨fun L hp => (hw.pos L _ hp.goes).must _, fun he => ?_⟩
      simp only [] at he ⊢
      obtain ⟨j1, j2⟩ := hw.good _ (must_e he)
      have := must_le .rp (Ex.within r st.goes).2
      exact ⟨j1, by omega⟩
    · split
      · rename_i hm
        have hg := St.goes_len hm (by decide)
        refine ⟨fun L hp => (Gd.ite hr _).2.1 L _ hp.goes, fun he => ?_⟩
        obtain ⟨j1, j2⟩ := (Gd.ite hr _).2.2 _ he
        exact ⟨j1, by omega⟩
      · exact ⟨fun L hp => hp.bad _, fun he => absurd he (bad_ne 230 (by omega) st)⟩
theorem Gd.un {ru rf : Option (St → Tr × St)} (hu : GdO ru) (hf : GdO rf) : Gd (Ex.un ru rf) := by
  have hw := hu.within
  refine ⟨fun st he => by unfold Ex.un; rw [if_pos he], fun L st hp => ?_, fun st he => ?_⟩
  · unfold Ex.un
    by_cases h0 : st.e = 0
    · rw [if_neg (by simpa using h0)]
      split
      · exact hw.pos L _ hp.goes
      · split
        · exact (Gd.bound hu 10 (by omega) _ _ (show st.goes.e = 0 from h0)).1 L hp.goes
        · split
          · exact (Gd.bound hu 11 (by omega) _ _ (show st.goes.e = 0 from h0)).1 L hp.goes
          · exact (Gd.prim hf st h0).1 L hp
    · rw [if_pos h0]; exact hp
  · unfold Ex.un at he ⊢
    by_cases h0 : st.e = 0
    · rw [if_neg (by simpa using h0)] at he ⊢
      cases m0 : st.may .not with
      | true =>
        have hg := St.goes_len m0 (by decide)
        rw [m0, if_pos rfl] at he
        rw [if_pos rfl]
        simp only [] at he ⊢
        obtain ⟨j1, j2⟩ := hw.good _ he
        refine ⟨plain_one (by omega) (by omega) (by unfold Ex.top; simp) j1, ?_⟩
        rw [nodes_one]
        omega
      | false =>
        rw [m0, if_neg (by simp)] at he
        rw [if_neg (by simp)]
        cases m1 : st.may .all with
        | true =>
          have hg := St.goes_len m1 (by decide)
          rw [m1, if_pos rfl] at he
          rw [if_pos rfl]
          obtain ⟨j1, j2⟩ := (Gd.bound hu 10 (by omega) _ _ (show st.goes.e = 0 from h0)).2 he
          exact ⟨j1, by omega⟩
        | false =>
          rw [m1, if_neg (by simp)] at he
          rw [if_neg (by simp)]
          cases m2 : st.may .any with
          | true =>
            have hg := St.goes_len m2 (by decide)
            rw [m2, if_pos rfl] at he
            rw [if_pos rfl]
            obtain ⟨j1, j2⟩ := (Gd.bound hu 11 (by omega) _ _ (show st.goes.e = 0 from h0)).2 he
            exact ⟨j1, by omega⟩
          | false =>
            rw [m2, if_neg (by simp)] at he
            rw [if_neg (by simp)]
            exact (Gd.prim hf st h0).2 he
    · rw [if_pos h0] at he
      exact absurd he h0
structure GdR (r : Rd) : Prop where
  iff : Gd r.iff
  imp : Gd r.imp
  un : Gd r.un
theorem GdR.mk' (ru ri rf : Option (St → Tr × St)) (hu : GdO ru) (hi : GdO ri) (hf : GdO rf) : GdR (Ex.mk ru ri rf) := by
  have h1 := Gd.un hu hf
  have h2 := Gd.imp hi (((h1.chain (t := .and) (k := 4) (by decide) (by omega)).chain (t := .xor) (k := 6) (by decide) (by omega)).chain (t := .or) (k := 5) (by decide) (by omega))
  exact ⟨h2.chain (by decide) (by omega), h2, h1⟩
theorem GdR.all : ∀ n, GdR (Ex.lev n)
  | 0 => GdR.mk' none none none True.intro True.intro True.intro
  | n + 1 => GdR.mk' _ _ _ (GdR.all n).un (GdR.all n).imp (GdR.all n).iff
theorem Lx.lexF_pos (n : Nat) : ∀ (l : List Nat) (a : Nat), (∀ x ∈ l, x < 256) → (∀ x ∈ Lx.lexF n l a, x.2 ≤ a + l.length) ∧ (Lx.lexF n l a).length ≤ l.length + 1 := by
  induction n with
  | zero => intro l a _; rw [Lx.lexF]; simp
  | succ n ih =>
    intro l a hl
    rw [Lx.lexF]
    have hs := Lx.skip_le l
    split
    · simp
      omega
    · rename_i hb
      have hll : ∀ x ∈ (l.drop (Lx.skip l)).drop (Lx.scan (l.drop (Lx.skip l))).txt.length, x < 256 := fun x hx => hl x (List.mem_of_mem_drop (List.mem_of_mem_drop hx))
      obtain ⟨i1, i2⟩ := ih ((l.drop (Lx.skip l)).drop (Lx.scan (l.drop (Lx.skip l))).txt.length) (a + Lx.skip l + (Lx.scan (l.drop (Lx.skip l))).txt.length) hll
      have hp := Tok.txt_len (Lx.scan (l.drop (Lx.skip l))) (fun e => hb (.inl e))
      have hsl := Lx.scan_len (l.drop (Lx.skip l)) (fun x hx => hl x (List.mem_of_mem_drop hx))
      rw [List.length_drop, List.length_drop] at i1 i2
      rw [List.length_drop] at hsl
      constructor
      · intro x hx
        rcases List.mem_cons.1 hx with rfl | hx
        · simp only []; omega
        · have := i1 x hx; omega
      · rw [List.length_cons]; omega
theorem Lx.lex_pos (l : List Nat) (hl : ∀ x ∈ l, x < 256) : (∀ x ∈ Lx.lex l 0, x.2 ≤ l.length) ∧ (Lx.lex l 0).length ≤ l.length + 1 := by
  unfold Lx.lex
  have := Lx.lexF_pos (l.length + 1) l 0 hl
  rw [Nat.zero_add] at this
  exact this
/-- what Parse tells: a formula; or an error, its place within the text -/
theorem Ex.parse_good (l : List Nat) (hl : ∀ x ∈ l, x < 256) (h : l.length ≤ 3999) :
    ((Ex.parse l).2.2 = 0 → (Ex.parse l).2.1 = 0 ∧ Ex.is (Ex.parse l).1 = true) ∧ ((Ex.parse l).2.2 ≠ 0 → (Ex.parse l).1 = Tr.zero ∧ (Ex.parse l).2.1 ≤ l.length) := by
  have hg := (GdR.all 30).iff
  obtain ⟨p1, p2⟩ := Lx.lex_pos l hl
  obtain ⟨E1, E2, E3⟩ := Ex.parse_eq l (by omega)
  have hP : Pos l.length (⟨Lx.lex l 0, 0, 0⟩ : St) := ⟨Nat.zero_le _, p1⟩
  have hP2 := hg.pos _ _ hP
  have hgood := hg.good ⟨Lx.lex l 0, 0, 0⟩
  generalize (Ex.lev 30).iff ⟨Lx.lex l 0, 0, 0⟩ = R at *
  by_cases h0 : R.2.e = 0
  · by_cases hn : R.2.now = .eof
    · rw [E1 h0 hn]
      refine ⟨fun _ => ⟨rfl, ?_⟩, fun h => absurd rfl h⟩
      obtain ⟨g1, g2⟩ := hgood h0
      have g3 : (R.1.on .nil).nodes ≤ 4000 := by simp only [] at g2; omega
      show (decide ((R.1.on .nil).nodes ≤ 4000) && (R.1.on .nil).allPlain) = true
      rw [g1, decide_eq_true g3]
      rfl
    · rw [E2 h0 hn]
      exact ⟨fun h => absurd h (bad_ne 230 (by omega) R.2), fun _ => ⟨rfl, (hP2.bad 230).eat⟩⟩
  · rw [E3 h0]
    exact ⟨fun h => absurd h h0, fun _ => ⟨rfl, hP2.eat⟩⟩
end Go.Proofs.Ytfgokhafiffbaaa

/-
  Formulas: Same.
-/
namespace Go.Proofs.Ytfgokhafiffbaaa
set_option linter.unusedVariables false
open Go.RowKit

/-- the same but for their places -/
def Fo.same : Fo → Fo → Bool
  | .nil, .nil => true
  | .cons k _ v kids rest, .cons k' _ v' kids' rest' => (decide (k = k') && decide (v = v') && Fo.same kids kids') && Fo.same rest rest'
  | _, _ => false
def Ex.same (a b : Tr) : Bool := decide (a.k = b.k) && decide (a.v = b.v) && Fo.same a.kids b.kids
theorem Fo.same_on (x y : Tr) (r s : Fo) : Fo.same (x.on r) (y.on s) = (Ex.same x y && Fo.same r s) := by unfold Tr.on Ex.same; simp [Fo.same]
theorem Fo.same_len : ∀ (F G : Fo), F.len ≠ G.len → Fo.same F G = false
  | .nil, .nil, h => absurd rfl h
  | .cons .., .nil, _ => by simp [Fo.same]
  | .nil, .cons .., _ => by simp [Fo.same]
  | .cons k a v kids rest, .cons k' a' v' kids' rest', h => by
    have := Fo.same_len rest rest' (fun e => h (by simp [Fo.len, e]))
    simp [Fo.same, this]
theorem Fo.len_nodes : ∀ F : Fo, F.len ≤ F.nodes
  | .nil => Nat.le_refl _
  | .cons k a v kids rest => by have := Fo.len_nodes rest; simp [Fo.len, Fo.nodes]; omega
theorem intOf_i (k : IntKind) (n : Int) : intOf (.int k n) = n := rfl
/-- what is known of Same for what has so few nodes -/
def Sz (n : Nat) : Prop := ∀ (a b : Tr) (sa sb : Value) (Ba Bb : Nat → Prop) (u : World), (a.on .nil).nodes ≤ n → SlF u Ba sa a.kids → SlF u Bb sb b.kids →
  Calls Try.prog 17 #[Ev a sa, Ev b sb] u fun e w' => e = .returned (.bool (Ex.same a b)) ∧ Below u.heap.size u w'
/-- where EqualFunc's loop stands -/
structure EQ (w wr : World) (b o b' o' i : Nat) (F G F2 G2 : Fo) : Prop where
  be : Below w.heap.size w wr
  f : RdF w (fun _ => True) F2 b (o + i * 4)
  g : RdF w (fun _ => True) G2 b' (o' + i * 4)
  lf : F.len = i + F2.len
  lg : G.len = i + G2.len
  nd : F2.nodes ≤ F.nodes
  val : Fo.same F G = Fo.same F2 G2
theorem RdF.top {w : World} {B : Nat → Prop} {F : Fo} {b o : Nat} (h : RdF w B F b o) : RdF w (fun _ => True) F b o := RdF.mono (fun _ _ _ => True.intro) F b o h

set_option maxHeartbeats 8000000 in
theorem eqf_any (n : Nat) (hn1 : n ≤ 1000000) (ih : Sz n) (F G : Fo) (sF sG : Value) (Bf Bg : Nat → Prop) (w : World) (hF : SlF w Bf sF F) (hG : SlF w Bg sG G) (hn : F.nodes ≤ n) :
    Calls Try.prog 36 #[sF, sG, .func (.func 17) #[] #[]] w fun e w' => e = .returned (.bool (Fo.same F G)) ∧ Below w.heap.size w w' := by
  obtain ⟨p, c, b, o, rfl, hp, hc, hr⟩ := hF
  obtain ⟨p', c', b', o', rfl, hp', hc', hr'⟩ := hG
  by_cases hl : F.len = G.len
  · have q : (F.len : Int) = (G.len : Int) := by omega
    have q2 : ((F.len : Int) == (G.len : Int)) = true := by rw [beq_iff_eq]; exact q
    have hlb := Fo.len_nodes F
    have H0 : Bx (EQ w w b o b' o' 0 F G F G) := ⟨⟨Below.refl _ _, by rw [Nat.zero_mul, Nat.add_zero]; exact hr.top, by rw [Nat.zero_mul, Nat.add_zero]; exact hr'.top, by omega, by omega, Nat.le_refl _, rfl⟩⟩
    have HP : Bx ((F.len ≠ 0 → p = some ⟨b, o, none⟩) ∧ (G.len ≠ 0 → p' = some ⟨b', o', none⟩)) := ⟨by
      constructor
      · intro h
        rcases hp with ⟨rfl, _⟩ | e
        · exact absurd rfl h
        · exact e
      · intro h
        rcases hp' with ⟨rfl, _⟩ | e
        · exact absurd rfl h
        · exact e⟩
    have HL := Bx.mk hl
    have HB := Bx.mk (show F.len ≤ 1000000 from by omega)
    have HN := Bx.mk hn
    have IH := Bx.mk ih
    clear hp hp' hr hr' hlb hn ih hl hc hc'
    have hcf : ∀ args w, (callFunc 17 args).run Try.prog w = .ok (.enter 17 args) w := fun _ _ => rfl
    go_enter Try.func36, Try.ntmps36
    go_wp2_with fail
    go_loopw [17] (fun j wr => ∃ (i : Nat) (F2 G2 : Fo), j = .int .i64 (i : Int) ∧ EQ w wr b o b' o' i F G F2 G2) (fun j _ => F.len - (intOf j).toNat)
    case atStart => exact ⟨0, F, G, rfl, H0.out⟩
    case round =>
      obtain ⟨i, F2, G2, rfl, HQ⟩ := hrel
      have HQ := Bx.mk HQ
      cases F2 with
      | nil =>
        have hv : Bx (Fo.same F G = true) := ⟨by
          have h1 := HQ.out.lf
          have h2 := HQ.out.lg
          have h3 := HL.out
          have hG2 : G2 = .nil := Fo.len0 (by rw [show Fo.nil.len = 0 from rfl] at h1; omega)
          rw [HQ.out.val, hG2]; rfl⟩
        have q3 : ¬ (i : Int) < (F.len : Int) := by have h1 := HQ.out.lf; rw [show Fo.nil.len = 0 from rfl] at h1; omega
        have q4 : ¬ (i : Int) < (G.len : Int) := by have h1 := HQ.out.lf; have h3 := HL.out; rw [show Fo.nil.len = 0 from rfl] at h1; omega
        go_wp2_with fail
        go_ret
        exact ⟨by rw [hv.out]; rfl, HQ.out.be⟩
      | cons k a v kids rest =>
        cases G2 with
        | nil => exact absurd HL.out (by have h1 := HQ.out.lf; have h2 := HQ.out.lg; simp [Fo.len] at h1 h2; omega)
        | cons k' a' v' kids' rest' =>
          have h1 := HQ.out.lf
          have h2 := HQ.out.lg
          rw [show (Fo.cons k a v kids rest).len = rest.len + 1 from rfl] at h1
          rw [show (Fo.cons k' a' v' kids' rest').len = rest'.len + 1 from rfl] at h2
          have q3 : (i : Int) < (F.len : Int) := by omega
          have q4 : (i : Int) < (G.len : Int) := by omega
          obtain rfl := HP.out.1 (by omega)
          obtain rfl := HP.out.2 (by omega)
          have hib : i < 1000000 := by have := HB.out; omega
          obtain ⟨sx, Kx, hr1⟩ := kid_of HQ.out.f
          obtain ⟨sy, Ky, hr2⟩ := kid_of HQ.out.g
          obtain ⟨px, cx, hsx⟩ := Kx.sl.is
          obtain ⟨py, cy, hsy⟩ := Ky.sl.is
          subst hsx hsy
          have hba := HQ.out.be.alloc HQ.out.be.size (.cells #[.int .i64 k, .int .i64 a, .int .i64 v, .slice px kids.len cx] 36)
          have hbb := hba.alloc (by rw [alloc_size]; have := HQ.out.be.size; omega) (.cells #[.int .i64 k', .int .i64 a', .int .i64 v', .slice py kids'.len cy] 36)
          obtain ⟨y0, y1, y2, y3, _⟩ := Ky.below hba
          obtain ⟨x0, x1, x2, x3, _⟩ := Kx.below HQ.out.be
          obtain ⟨_, _, _, _, xS⟩ := Kx.below hbb
          obtain ⟨_, _, _, _, yS2⟩ := Ky.below hbb
          have hnd := HQ.out.nd
          have HI := Bx.mk (IH.out ⟨k, a, v, kids⟩ ⟨k', a', v', kids'⟩ _ _ _ _ _ (by have := HN.out; rw [Fo.nodes_on]; simp only [Fo.nodes] at hnd ⊢; omega) xS yS2)
          have HBA := Bx.mk hbb
          have HR1 := Bx.mk hr1
          have HR2 := Bx.mk hr2
          have H12 := Bx.mk (show F.len = i + (rest.len + 1) ∧ G.len = i + (rest'.len + 1) from ⟨h1, h2⟩)
          have HIB := Bx.mk hib
          simp only [] at x0 x1 x2 x3 y0 y1 y2 y3
          have hw : wrap64 ((i : Int) + 1) = (i : Int) + 1 := w64 _ (by omega)
          clear hba hbb Kx Ky hr1 hr2 xS yS2 hnd h1 h2 hib
          unfold Ev at HI
          go_wp2_with fail
          refine HI.out.mono ?_
          rintro e u ⟨rfl, hb⟩
          have HU := Bx.mk (HBA.out.trans (hb.mono HBA.out.size))
          clear hb
          have hvv : Bx (Fo.same F G = (Ex.same ⟨k, a, v, kids⟩ ⟨k', a', v', kids'⟩ && Fo.same rest rest')) := ⟨by rw [HQ.out.val]; exact Fo.same_on ⟨k, a, v, kids⟩ ⟨k', a', v', kids'⟩ rest rest'⟩
          cases hs : Ex.same ⟨k, a, v, kids⟩ ⟨k', a', v', kids'⟩ with
          | false =>
            have hv : Bx (Fo.same F G = false) := ⟨by rw [hvv.out, hs]; rfl⟩
            clear hs
            go_wp2_with fail
            go_ret
            exact ⟨by rw [hv.out]; rfl, HU.out⟩
          | true =>
            have hv : Bx (Fo.same F G = Fo.same rest rest') := ⟨by rw [hvv.out, hs]; rfl⟩
            clear hs
            go_wp2_with fail
            have h12 := H12.out
            have hib := HIB.out
            have hndq := HQ.out.nd
            refine ⟨⟨i + 1, rest, rest', by go_num, HU.out, ?_, ?_, by omega, by omega, by simp only [Fo.nodes] at hndq; omega, hv.out⟩, ?_⟩
            · have := HR1.out
              rw [show o + (i + 1) * 4 = o + i * 4 + 4 from by omega]
              exact this
            · have := HR2.out
              rw [show o' + (i + 1) * 4 = o' + i * 4 + 4 from by omega]
              exact this
            · rw [intOf_i, intOf_i, hw]
              clear hw hndq
              omega
  · have q : ¬ (F.len : Int) = (G.len : Int) := by omega
    have q2 : ((F.len : Int) == (G.len : Int)) = false := by rw [beq_eq_false_iff_ne]; exact q
    have hv := Bx.mk (Fo.same_len F G hl)
    clear hl hp hp' hr hr' hn ih hc hc'
    go_enter Try.func36, Try.ntmps36
    go_wp2_with fail
    go_ret
    exact ⟨by rw [hv.out]; rfl, Below.refl _ _⟩
set_option maxHeartbeats 8000000 in
theorem Sz.succ (n : Nat) (hn1 : n ≤ 1000000) (ih : Sz n) : Sz (n + 1) := by
  intro a b sa sb Ba Bb w hn ha hb
  obtain ⟨pa, ca, rfl⟩ := ha.is
  obtain ⟨pb, cb, rfl⟩ := hb.is
  rw [Fo.nodes_on] at hn
  have hb1 := boxE w a.k a.a a.v (.slice pa a.kids.len ca)
  have hb2 := boxE (w.alloc (.cells #[.int .i64 a.k, .int .i64 a.a, .int .i64 a.v, .slice pa a.kids.len ca] 36)) b.k b.a b.v (.slice pb b.kids.len cb)
  have hb1' := hb1.alloc (.cells #[.int .i64 b.k, .int .i64 b.a, .int .i64 b.v, .slice pb b.kids.len cb] 36)
  rw [alloc_size] at hb2
  have hE := eqf_any n hn1 ih a.kids b.kids _ _ _ _ _ ((ha.alloc (.cells #[.int .i64 a.k, .int .i64 a.a, .int .i64 a.v, .slice pa a.kids.len ca] 36)).alloc (.cells #[.int .i64 b.k, .int .i64 b.a, .int .i64 b.v, .slice pb b.kids.len cb] 36))
    ((hb.alloc (.cells #[.int .i64 a.k, .int .i64 a.a, .int .i64 a.v, .slice pa a.kids.len ca] 36)).alloc (.cells #[.int .i64 b.k, .int .i64 b.a, .int .i64 b.v, .slice pb b.kids.len cb] 36)) (by rw [show Fo.nil.nodes = 0 from rfl] at hn; omega)
  have hbe := ((Below.refl w.heap.size w).alloc (Nat.le_refl _) (.cells #[.int .i64 a.k, .int .i64 a.a, .int .i64 a.v, .slice pa a.kids.len ca] 36)).alloc (by rw [alloc_size]; omega) (.cells #[.int .i64 b.k, .int .i64 b.a, .int .i64 b.v, .slice pb b.kids.len cb] 36)
  have HE := Bx.mk hE
  have HBE := Bx.mk hbe
  obtain ⟨c0, c1, c2, c3, _, _, _, _⟩ := cells4 hb1'
  obtain ⟨d0, d1, d2, d3, _, _, _, _⟩ := cells4 hb2
  clear hb1 hb2 hb1' hE hbe ha hb hn ih hn1
  unfold Ev
  by_cases hk : a.k = b.k
  · have q1 : (a.k == b.k) = true := by rw [beq_iff_eq]; exact hk
    by_cases hv : a.v = b.v
    · have q2 : (a.v == b.v) = true := by rw [beq_iff_eq]; exact hv
      have hS := Bx.mk (show Ex.same a b = Fo.same a.kids b.kids from by unfold Ex.same; rw [decide_eq_true hk, decide_eq_true hv]; rfl)
      clear hk hv
      go_enter Try.func17, Try.ntmps17
      go_wp2_with fail
      refine HE.out.mono ?_
      rintro e u ⟨rfl, hbu⟩
      have HU := Bx.mk (HBE.out.trans (hbu.mono HBE.out.size))
      clear hbu
      go_wp2_with fail
      go_ret
      exact ⟨by rw [hS.out]; rfl, HU.out⟩
    · have q2 : (a.v == b.v) = false := by rw [beq_eq_false_iff_ne]; exact hv
      have hS := Bx.mk (show Ex.same a b = false from by unfold Ex.same; rw [decide_eq_false hv]; simp)
      clear hk hv
      go_enter Try.func17, Try.ntmps17
      go_wp2_with fail
      go_ret
      exact ⟨by rw [hS.out]; rfl, HBE.out⟩
  · have q1 : (a.k == b.k) = false := by rw [beq_eq_false_iff_ne]; exact hk
    have hS := Bx.mk (show Ex.same a b = false from by unfold Ex.same; rw [decide_eq_false hk]; simp)
    clear hk
    go_enter Try.func17, Try.ntmps17
    go_wp2_with fail
    go_ret
    exact ⟨by rw [hS.out]; rfl, HBE.out⟩
theorem Sz.all : ∀ n, n ≤ 1000000 → Sz n
  | 0, _ => fun a b sa sb Ba Bb u h => by rw [Fo.nodes_on] at h; omega
  | n + 1, h => Sz.succ n (by omega) (Sz.all n (by omega))
theorem same_any (a b : Tr) (sa sb : Value) (Ba Bb : Nat → Prop) (u : World) (hn : (a.on .nil).nodes ≤ 1000000) (ha : SlF u Ba sa a.kids) (hb : SlF u Bb sb b.kids) :
    Calls Try.prog 17 #[Ev a sa, Ev b sb] u fun e w' => e = .returned (.bool (Ex.same a b)) ∧ Below u.heap.size u w' := Sz.all _ (Nat.le_refl _) a b sa sb Ba Bb u hn ha hb
end Go.Proofs.Ytfgokhafiffbaaa

/-
  Formulas: digit; a variable's print.
-/
namespace Go.Proofs.Ytfgokhafiffbaaa
set_option linter.unusedVariables false
open Go.RowKit Go.Lib

/-- a slice of bytes in a block of one's own, or none yet -/
def OwnB (w : World) (base : Nat) (v : Value) (l : List UInt8) : Prop := w.ownsRow base 5 1 v l.length (l.map fun b => .int .u8 (b.toNat : Int))
theorem OwnB.nil (w : World) (base : Nat) : OwnB w base (.slice none 0 0) [] := World.ownsRow_nil w base _ 1
theorem OwnB.kept {w w' : World} {base : Nat} {v : Value} {l : List UInt8} {row : Option Nat} (h : OwnB w base v l) (hg : w.grownBy w' row) (hne : v.ownBlock = none ∨ v.ownBlock ≠ row) : OwnB w' base v l := World.ownsRow.kept h hg hne
theorem OwnB.below {w w' : World} {base : Nat} {v : Value} {l : List UInt8} (h : OwnB w base v l) (hb : Below w.heap.size w w') : OwnB w' base v l :=
  h.kept (below_gr hb) (by cases e : v.ownBlock <;> simp)
theorem OwnB.lt {w : World} {base : Nat} {v : Value} {l : List UInt8} (h : OwnB w base v l) {k : Nat} (hk : v.ownBlock = some k) : base ≤ k ∧ k < w.heap.size := World.ownsRow.lt h k hk
theorem u8_info : ∃ i, Try.prog.info? 5 = some i ∧ i.zero = some (.int .u8 0) ∧ i.size = 1 ∧ i.bytes = 1 := by
  refine ⟨_, rfl, ?_⟩
  exact ⟨by kernel_rfl, by kernel_rfl, by kernel_rfl⟩
theorem strCells_of (s : ByteArray) : strCells s = s.data.toList.map fun b => (.int .u8 (b.toNat : Int) : Value) := by
  unfold strCells
  simp
/-- a string appended -/
theorem OwnB.app_str {w : World} {base : Nat} {v : Value} {l : List UInt8} (h : OwnB w base v l) (s : ByteArray) (hn : l.length + s.size ≤ 1000000) (hb : base ≤ w.heap.size) (ty : TypeId) :
    ∃ v' w', (Builtin.append_ #[22, 9] ty #[v, .string s]).run Try.prog w = .ok v' w' ∧ OwnB w' base v' (l ++ s.data.toList) ∧ w.grownBy w' v.ownBlock := by
  obtain ⟨i, hi, hz, hs, hby⟩ := u8_info
  obtain ⟨v', w', hr, ho, hg, _⟩ := run_append_own_string (P := Try.prog) w base 22 9 ty 5 i Try.underlying22 Try.underlying9 hi hz hs hby v l.length _ h s (by unfold maxLen; omega) (by omega) hb
  refine ⟨v', w', hr, ?_, hg⟩
  unfold OwnB
  rw [List.length_append, List.map_append, ← strCells_of, show s.data.toList.length = s.size from by simp]
  exact ho
/-- one byte appended, that lies in a block -/
theorem OwnB.app_one {w : World} {base : Nat} {v : Value} {l : List UInt8} (h : OwnB w base v l) (p c : Nat) (x : UInt8) (hx : w.cell? ⟨p, 0, none⟩ = some (.int .u8 (x.toNat : Int))) (hn : l.length + 1 ≤ 1000000) (hb : base ≤ w.heap.size) (ty : TypeId) :
    ∃ v' w', (Builtin.append_ #[22, 22] ty #[v, .slice (some ⟨p, 0, none⟩) 1 c]).run Try.prog w = .ok v' w' ∧ OwnB w' base v' (l ++ [x]) ∧ w.grownBy w' v.ownBlock := by
  obtain ⟨i, hi, hz, hs, hby⟩ := u8_info
  obtain ⟨v', w', hr, ho, hg, _⟩ := run_append_own (P := Try.prog) w base 22 ty 5 i _ 1 1 Try.underlying22 hi hz hs hby rfl (by omega) v l.length _ h ⟨p, 0, none⟩ 1 c [.int .u8 (x.toNat : Int)] rfl
    (fun j u hj => by
      match j, hj with
      | 0, hj => cases hj; exact hx
      | j + 1, hj => simp at hj) (by intro u hu; simp at hu; subst hu; rfl) (by unfold maxLen; omega) (by omega) hb
  refine ⟨v', w', hr, ?_, hg⟩
  unfold OwnB
  rw [List.length_append, List.map_append]
  exact ho
/-- the bytes as a string -/
theorem OwnB.str {w : World} {base : Nat} {v : Value} {l : List UInt8} (h : OwnB w base v l) (hl : l ≠ []) : (convert 22 9 v).run Try.prog w = .ok (.string ⟨l.toArray⟩) w := by
  have h0 := h
  rcases h0.2 with ⟨rfl, e⟩ | ⟨g, cap, cur, rfl, hbg, hg, hnc, hcm, hcs, htake⟩
  · exact absurd (List.eq_nil_of_length_eq_zero e) hl
  · refine run_convert_bytes_back (P := Try.prog) w 22 9 5 ⟨g, 0, none⟩ cap l Try.underlying22 Try.underlying5 Try.underlying9 fun j hj => ?_
    have := World.ownsRow.cells h (g := g) rfl j (.int .u8 (l[j].toNat : Int)) (by rw [List.getElem?_map, List.getElem?_eq_getElem hj]; rfl)
    exact this
theorem wp_app {P : Program} {w w' : World} {o : Oper} {a : Act} {K : Act → World → Prop} {Q : Exit → Act → World → Prop} {v y v' : Value} (s x : Operand) (t u : TypeId)
    (hr : (Builtin.append_ #[t, u] o.type #[v, y]).run P w = .ok v' w')
    (ho : o.op = .call { callee := .builtin .append, args := #[s, x], argTypes := #[t, u] }) (hs : a.eval s = v) (hx : a.eval x = y)
    (h : K (a.put o.dst v') w') : o.wp P a w K Q := by
  unfold Oper.wp execOp
  simp only [ho, resolve, invoke, builtin, Sem.run_bind, Sem.run_pure, Result.andThen_ok, List.map_toArray, List.map_cons, List.map_nil, hs, hx, hr]
  exact h

set_option maxHeartbeats 2000000 in
theorem digit_any (n : Nat) (hn : n < 10) (w : World) : Calls Try.prog 54 #[.int .i64 (n : Int)] w fun e w' => e = .returned (.string (strOf [48 + n])) ∧ Below w.heap.size w w' := by
  have hw1 : wrap64 (48 + (n : Int)) = 48 + (n : Int) := w64 _ (by omega)
  have hw2 : IntKind.i64.wrap (48 + (n : Int)) = 48 + (n : Int) := by rw [IntKind.wrap_i64]; omega
  have hw3 : IntKind.u8.wrap (48 + (n : Int)) = 48 + (n : Int) := by rw [IntKind.wrap_u8]; omega
  have hB := Blk.new w 5 #[.int .u8 (48 + (n : Int))]
  have hO : OwnB (w.alloc (.cells #[.int .u8 (48 + (n : Int))] 5)) w.heap.size (.slice (some ⟨w.heap.size, 0, none⟩) 1 1) [Nat.toUInt8 (48 + n)] := by
    refine ⟨rfl, .inr ⟨w.heap.size, 1, #[.int .u8 (48 + (n : Int))], rfl, Nat.le_refl _, hB.eq, Nat.le_refl _, by unfold maxLen; omega, rfl, ?_⟩⟩
    have e : ((Nat.toUInt8 (48 + n)).toNat : Int) = 48 + (n : Int) := by
      have : (Nat.toUInt8 (48 + n)).toNat = 48 + n := by simp [Nat.toUInt8, UInt8.toNat_ofNat', Nat.mod_eq_of_lt (show 48 + n < 256 by omega)]
      rw [this]; omega
    simp
    omega
  have hC := hO.str (by simp)
  have hE : strOf [48 + n] = ⟨#[48 + UInt8.ofNat n]⟩ := by unfold strOf; simp [Nat.toUInt8]
  have HE := Bx.mk hE
  clear hE hO hB
  go_enter Try.func54, Try.ntmps54
  go_wp2_with fail
  go_ret
  exact ⟨by rw [HE.out]; rfl, (Below.refl _ _).alloc (Nat.le_refl _) _⟩

/-- what is kept while a variable is printed -/
def VB (w u : World) : Prop := Below w.heap.size w u ∧ Blk u w.heap.size 36 #[.int .i64 1, .int .i64 0, .int .i64 3, .slice none 0 0]
theorem VB.step {w u u' : World} (h : VB w u) (hb : Below u.heap.size u u') : VB w u' := ⟨h.1.trans (hb.mono h.1.size), h.2.below hb h.2.lt⟩
theorem VB.grown {w u u' : World} (h : VB w u) {row : Option Nat} (hg : u.grownBy u' row) (hr : row = none) : VB w u' := by
  subst hr
  exact h.step ⟨hg.os, hg.tape, hg.output, hg.size, fun k hk => hg.block k hk (by simp)⟩
theorem VB.far {w u u' : World} (h : VB w u) {row : Option Nat} (hg : u.grownBy u' row) (hr : ∀ k, row = some k → w.heap.size + 1 ≤ k) : VB w u' :=
  ⟨h.1.grown hg h.1.size (fun k e => by have := hr k e; omega), ⟨(hg.block _ h.2.lt (fun e => by have := hr _ e.symm; omega)).trans h.2.eq⟩⟩
set_option maxHeartbeats 8000000 in
theorem put_v3 (w : World) : Calls Try.prog 35 #[.slice none 0 0, .agg #[.int .i64 1, .int .i64 0, .int .i64 3, .slice none 0 0]] w fun e w' => ∃ v, e = .returned v ∧ OwnB w' (w.heap.size + 1) v [118, 51] ∧ Below w.heap.size w w' := by
  have hb := boxE w 1 0 3 (.slice none 0 0)
  have hbe := (Below.refl w.heap.size w).alloc (Nat.le_refl _) (.cells #[.int .i64 1, .int .i64 0, .int .i64 3, .slice none 0 0] 36)
  obtain ⟨c0, c1, c2, c3, _, _, _, _⟩ := cells4 hb
  have HV : Bx (VB w (w.alloc (.cells #[.int .i64 1, .int .i64 0, .int .i64 3, .slice none 0 0] 36))) := ⟨⟨hbe, hb⟩⟩
  clear hb hbe
  go_enter Try.func35, Try.ntmps35
  go_wp2_with fail
  refine region_any 7 (VB w) (by kernel_rfl) ?_
  generalize hu : World.drew _ = u0
  have hS0 : VB w u0 := by rw [← hu]; exact HV.out.step ((Below.refl _ _).drew)
  clear hu c0 c1 c2 c3 HV
  refine any_take (i := 0) (.slice none 0 0) rfl rfl (by kernel_rfl) (by kernel_rfl) (by kernel_rfl) (by kernel_rfl) (fun _ _ d _ _ h => by cases d <;> exact h) (fun u hS => rfl) hS0 ?_
  (try simp only [Act.put]); (try simp only [List.getElem_toArray]); (try simp only [List.getElem_cons_succ]); (try simp only [List.getElem_cons_zero]); (try simp only [List.setIfInBounds_toArray]); (try simp only [List.set_cons_succ]); (try simp only [List.set_cons_zero])
  refine any_take (i := 3) (.pointer (some ⟨w.heap.size, 2, none⟩)) rfl rfl (by kernel_rfl) (by kernel_rfl) (by kernel_rfl) (by kernel_rfl) (fun _ _ d _ _ h => by cases d <;> exact h) (fun u hS => rfl) hS0 ?_
  (try simp only [Act.put]); (try simp only [List.getElem_toArray]); (try simp only [List.getElem_cons_succ]); (try simp only [List.getElem_cons_zero]); (try simp only [List.setIfInBounds_toArray]); (try simp only [List.set_cons_succ]); (try simp only [List.set_cons_zero])
  refine any_take (i := 4) (.int .i64 3) rfl rfl (by kernel_rfl) (by kernel_rfl) (by kernel_rfl) (by kernel_rfl) (fun _ _ d _ _ h => by cases d <;> exact h) (fun u hS => exec_loadI rfl rfl (hS.2.cell 2)) hS0 ?_
  (try simp only [Act.put]); (try simp only [List.getElem_toArray]); (try simp only [List.getElem_cons_succ]); (try simp only [List.getElem_cons_zero]); (try simp only [List.setIfInBounds_toArray]); (try simp only [List.set_cons_succ]); (try simp only [List.set_cons_zero])
  refine any_branch [1] (by kernel_rfl) rfl fun ix hix => ?_
  simp only [List.mem_cons, List.not_mem_nil, or_false] at hix
  subst hix
  refine any_op rfl rfl fun K hK => ?_
  go_simp
  have hp := Blk.new u0 5 #[.int .u8 118]
  have hbs := (Below.refl u0.heap.size u0).alloc (Nat.le_refl _) (.cells #[.int .u8 118] 5)
  have hSs := hS0.step hbs
  generalize hpn : u0.heap.size = pn at hp ⊢
  generalize u0.alloc (.cells #[.int .u8 118] 5) = us at hp hbs hSs ⊢
  refine hK _ _ (fun _ => hSs) ?_
  (try simp only [Act.put]); (try simp only [List.getElem_toArray]); (try simp only [List.getElem_cons_succ]); (try simp only [List.getElem_cons_zero]); (try simp only [List.setIfInBounds_toArray]); (try simp only [List.set_cons_succ]); (try simp only [List.set_cons_zero])
  clear hK
  clear hbs hpn
  replace hS0 := hSs
  clear hSs
  refine any_branch [2] (by kernel_rfl) rfl fun ix hix => ?_
  simp only [List.mem_cons, List.not_mem_nil, or_false] at hix
  subst hix
  refine any_op rfl rfl fun K hK => ?_
  obtain ⟨v1, ua, hr, ho, hg⟩ := (OwnB.nil us (w.heap.size + 1)).app_one pn 1 118 (hp.cell 0) (by simp) hS0.2.lt 22
  refine wp_app _ _ _ _ hr rfl rfl rfl ?_
  have hSs := hS0.grown hg rfl
  refine hK _ _ (fun _ => hSs) ?_
  (try simp only [Act.put]); (try simp only [List.getElem_toArray]); (try simp only [List.getElem_cons_succ]); (try simp only [List.getElem_cons_zero]); (try simp only [List.setIfInBounds_toArray]); (try simp only [List.set_cons_succ]); (try simp only [List.set_cons_zero])
  clear hK
  replace hS0 := hSs
  clear hSs hr hg hp
  refine any_branch [5] (by kernel_rfl) rfl fun ix hix => ?_
  simp only [List.mem_cons, List.not_mem_nil, or_false] at hix
  subst hix
  refine any_op rfl rfl fun K hK => ?_
  go_simp
  refine (digit_any 3 (by omega) _).mono ?_
  rintro e ud ⟨rfl, hbd⟩
  have hSs := hS0.step hbd
  have ho2 := ho.below hbd
  clear ho
  have ho := ho2
  clear ho2
  refine hK _ _ (fun _ => hSs) ?_
  (try simp only [Act.put]); (try simp only [List.getElem_toArray]); (try simp only [List.getElem_cons_succ]); (try simp only [List.getElem_cons_zero]); (try simp only [List.setIfInBounds_toArray]); (try simp only [List.set_cons_succ]); (try simp only [List.set_cons_zero])
  clear hK
  replace hS0 := hSs
  clear hSs hbd
  refine any_branch [6] (by kernel_rfl) rfl fun ix hix => ?_
  simp only [List.mem_cons, List.not_mem_nil, or_false] at hix
  subst hix
  refine any_op rfl rfl fun K hK => ?_
  obtain ⟨v6, u6, hr, ho6, hg6⟩ := ho.app_str (strOf [48 + 3]) (by unfold strOf; decide +kernel) (Nat.le_of_lt (Nat.lt_of_lt_of_le (Nat.lt_succ_self _) hS0.2.lt) |> fun _ => hS0.2.lt) 22
  refine wp_app _ _ _ _ hr rfl rfl rfl ?_
  have hS6 := hS0.far hg6 (fun k hk => (ho.lt hk).1)
  refine hK _ _ (fun _ => hS6) ?_
  (try simp only [Act.put]); (try simp only [List.getElem_toArray]); (try simp only [List.getElem_cons_succ]); (try simp only [List.getElem_cons_zero]); (try simp only [List.setIfInBounds_toArray]); (try simp only [List.set_cons_succ]); (try simp only [List.set_cons_zero])
  clear hK
  refine any_branch [7] (by kernel_rfl) rfl fun ix hix => ?_
  simp only [List.mem_cons, List.not_mem_nil, or_false] at hix
  subst hix
  refine any_op rfl rfl fun K hK => ?_
  go_simp
  refine hK _ _ (fun h => absurd rfl h) ?_
  (try simp only [Act.put]); (try simp only [List.getElem_toArray]); (try simp only [List.getElem_cons_succ]); (try simp only [List.getElem_cons_zero]); (try simp only [List.setIfInBounds_toArray]); (try simp only [List.set_cons_succ]); (try simp only [List.set_cons_zero])
  clear hK
  refine any_end (by kernel_rfl) ?_
  have HO := Bx.mk ho6
  have HS := Bx.mk hS6
  clear ho ho6 hg6 hr hS6 hS0
  go_wp2_with fail
  go_ret
  refine ⟨_, rfl, ?_, HS.out.1⟩
  have e : [118] ++ (strOf [48 + 3]).data.toList = [118, 51] := by unfold strOf; decide +kernel
  have h := HO.out
  simp only [List.nil_append] at h
  rw [e] at h
  exact h
set_option maxHeartbeats 4000000 in
theorem print_v3 (w : World) : Calls Try.prog 16 #[.agg #[.int .i64 1, .int .i64 0, .int .i64 3, .slice none 0 0]] w fun e w' => e = .returned (.string { data := #[118, 51] }) ∧ Below w.heap.size w w' := by
  have hb := boxE w 1 0 3 (.slice none 0 0)
  have hbe := (Below.refl w.heap.size w).alloc (Nat.le_refl _) (.cells #[.int .i64 1, .int .i64 0, .int .i64 3, .slice none 0 0] 36)
  have HB := Bx.mk hb
  have HBE := Bx.mk hbe
  have hI := fun u => is_any ⟨1, 0, 3, .nil⟩ (.slice none 0 0) (fun _ => True) u (SlF.nil _ _)
  have ht : Ex.is ⟨1, 0, 3, .nil⟩ = true := by decide +kernel
  rw [ht] at hI
  unfold Ev at hI
  have HI := Bx.mk hI
  clear hI hb hbe ht
  go_enter Try.func16, Try.ntmps16
  go_wp2_with fail
  refine (HI.out _).mono ?_
  rintro e w1 ⟨rfl, hb1⟩
  have hb2 := HB.out.below hb1 HB.out.lt
  have HBE1 := Bx.mk (HBE.out.trans (hb1.mono HBE.out.size))
  obtain ⟨c0, c1, c2, c3, _, _, _, _⟩ := cells4 hb2
  clear hb1 hb2
  go_wp2_with fail
  refine (put_v3 _).mono ?_
  rintro e w2 ⟨v, rfl, ho, hb3⟩
  have hC := ho.str (by simp)
  have HB3 := Bx.mk (HBE1.out.trans (hb3.mono HBE1.out.size))
  clear ho hb3 c0 c1 c2 c3
  go_wp2_with fail
  go_ret
  exact ⟨rfl, HB3.out⟩
end Go.Proofs.Ytfgokhafiffbaaa
