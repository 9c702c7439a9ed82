/-
  Texts on which the law ExprBinds rests, part 4 of 9.
-/
import Derived.Test.YtfgokhafiffbaaaExprBindsM3
import Derived.Lib.AppendStr
import Derived.Laws.IdiomStrings
/-
  Formulas, plain: what the parser hands back: a formula, or the first error and its place.
-/
namespace Go.Proofs.Ytfgokhafiffbaaa
set_option linter.unusedVariables false
open Go.RowKit

/-- all places are within the text -/
structure Pos (L : Nat) (st : St) : Prop where
  eat : st.eat ≤ L
  ts : ∀ x ∈ st.ts, x.2 ≤ L
theorem Pos.at_ {L : Nat} {st : St} (h : Pos L st) : st.at_ ≤ L := by
  unfold St.at_
  cases e : st.ts with
  | nil => exact Nat.zero_le _
  | cons x r => exact h.ts x (by rw [e]; exact List.mem_cons_self)
theorem Pos.goes {L : Nat} {st : St} (h : Pos L st) : Pos L st.goes := ⟨h.eat, fun x hx => h.ts x (List.mem_of_mem_tail hx)⟩
theorem Pos.bad {L : Nat} {st : St} (h : Pos L st) (e : Nat) : Pos L (st.bad e) := by
  unfold St.bad
  split
  · exact ⟨h.at_, h.ts⟩
  · exact h
theorem Pos.must {L : Nat} {st : St} (h : Pos L st) (t : Tok) : Pos L (st.must t) := by
  unfold St.must
  split
  · exact h.goes
  · exact h.bad _
theorem may_no {st : St} (h : st.e ≠ 0) (t : Tok) : st.may t = false := by unfold St.may; rw [decide_eq_false h]; rfl
theorem bad_keep {st : St} (h : st.e ≠ 0) (e : Nat) : st.bad e = st := by unfold St.bad; rw [if_neg h]
theorem must_keep {st : St} (h : st.e ≠ 0) (t : Tok) : st.must t = st := by unfold St.must; rw [may_no h, if_neg (by simp), bad_keep h]
theorem may_yes {st : St} {t : Tok} (h : st.may t = true) : st.e = 0 ∧ st.now = t := by
  unfold St.may at h
  rw [Bool.and_eq_true] at h
  exact ⟨of_decide_eq_true h.1, of_decide_eq_true h.2⟩
theorem now_len {st : St} (h : st.now ≠ .eof) : st.goes.ts.length + 1 = st.ts.length := by
  unfold St.now at h
  unfold St.goes
  cases e : st.ts with
  | nil => rw [e] at h; exact absurd rfl h
  | cons x r => simp
theorem must_e {st : St} {t : Tok} (h : (st.must t).e = 0) : st.e = 0 := by
  rcases Nat.eq_zero_or_pos st.e with h0 | h0
  · exact h0
  · rw [must_keep (by omega)] at h; exact h
/-- what a reader is good for -/
structure Gd (p : St → Tr × St) : Prop where
  keep : ∀ st, st.e ≠ 0 → (p st).2.e = st.e
  pos : ∀ L st, Pos L st → Pos L (p st).2
  good : ∀ st, (p st).2.e = 0 → ((p st).1.on .nil).allPlain = true ∧ ((p st).1.on .nil).nodes + (p st).2.ts.length ≤ st.ts.length
def GdO (r : Option (St → Tr × St)) : Prop := match r with | none => True | some p => Gd p
theorem GdO.within {r : Option (St → Tr × St)} (h : GdO r) : Gd (Ex.within r) := by
  cases r with
  | none =>
    refine ⟨fun st he => by unfold Ex.within; rw [bad_keep he], fun L st hp => hp.bad _, fun st he => ?_⟩
    exact absurd he (bad_ne 231 (by omega) st)
  | some p =>
    have h : Gd p := h
    refine ⟨fun st he => ?_, fun L st hp => ?_, fun st he => ?_⟩
    · unfold Ex.within; simp only [if_neg he]
    · unfold Ex.within; simp only []; split
      · exact h.pos L st hp
      · exact hp
    · unfold Ex.within at he ⊢
      simp only [] at he ⊢
      by_cases h0 : st.e = 0
      · rw [if_pos h0] at he ⊢; exact h.good st he
      · rw [if_neg h0] at he; exact absurd he h0
theorem plain_two {k : Int} {a : Nat} {x y : Tr} (hk : 4 ≤ k ∧ k ≤ 8) (hx : (x.on .nil).allPlain = true) (hy : (y.on .nil).allPlain = true) : ((Ex.two k a x y).on .nil).allPlain = true := by
  rw [Fo.allPlain_on] at hx hy ⊢
  unfold Ex.two
  simp only [Fo.allPlain_on] at hx hy ⊢
  have e : Ex.plain ⟨k, a, 0, x.on (y.on .nil)⟩ = true := by
    unfold Ex.plain
    rw [show (x.on (y.on Fo.nil)).len = 2 from rfl, Ex.kids2 hk]
    have ht : Ex.top k = 0 := by unfold Ex.top; rw [if_neg (by omega), if_neg (by omega)]
    rw [ht]
    simp; omega
  rw [e]
  rw [Bool.and_eq_true, Bool.and_eq_true] at hx hy
  rw [hx.1.1, hx.1.2, hy.1.1, hy.1.2]
  rfl
theorem plain_one {k : Int} {a : Nat} {v : Int} {x : Tr} (hk : k = 3 ∨ k = 10 ∨ k = 11) (hv : 0 ≤ v) (hv2 : v ≤ Ex.top k) (hx : (x.on .nil).allPlain = true) : ((Ex.one k a v x).on .nil).allPlain = true := by
  rw [Fo.allPlain_on] at hx ⊢
  unfold Ex.one
  simp only [Fo.allPlain_on] at hx ⊢
  have e : Ex.plain ⟨k, a, v, x.on .nil⟩ = true := by
    unfold Ex.plain
    rw [show (x.on Fo.nil).len = 1 from rfl, Ex.kids1 hk]
    simp; omega
  rw [e, hx]
  rfl
theorem nodes_two (k : Int) (a : Nat) (x y : Tr) : ((Ex.two k a x y).on .nil).nodes = 1 + (x.on .nil).nodes + (y.on .nil).nodes := by
  unfold Ex.two
  simp only [Fo.nodes_on, show Fo.nil.nodes = 0 from rfl]
  omega
theorem nodes_one (k : Int) (a : Nat) (v : Int) (x : Tr) : ((Ex.one k a v x).on .nil).nodes = 1 + (x.on .nil).nodes := by
  unfold Ex.one
  simp only [Fo.nodes_on, show Fo.nil.nodes = 0 from rfl]
  omega
theorem Gd.chainF {t : Tok} {k : Int} {p : St → Tr × St} (h : Gd p) (ht : t ≠ .eof) (hk : 4 ≤ k ∧ k ≤ 8) : ∀ (n : Nat) (x : Tr) (st : St),
    (st.e ≠ 0 → (Ex.chainF n t k p x st).2.e = st.e) ∧ (∀ L, Pos L st → Pos L (Ex.chainF n t k p x st).2) ∧
    ((Ex.chainF n t k p x st).2.e = 0 → (x.on .nil).allPlain = true → ((Ex.chainF n t k p x st).1.on .nil).allPlain = true ∧ ((Ex.chainF n t k p x st).1.on .nil).nodes + (Ex.chainF n t k p x st).2.ts.length ≤ (x.on .nil).nodes + st.ts.length) := by
  intro n
  induction n with
  | zero => exact fun x st => ⟨fun _ => rfl, fun L hp => hp, fun _ hx => ⟨hx, Nat.le_refl _⟩⟩
  | succ n ih =>
    intro x st
    cases hm : st.may t with
    | false =>
      rw [Ex.chainF_no hm]
      exact ⟨fun _ => rfl, fun L hp => hp, fun _ hx => ⟨hx, Nat.le_refl _⟩⟩
    | true =>
      have hg := St.goes_len hm ht
      rw [Ex.chainF, if_pos hm]
      obtain ⟨i1, i2, i3⟩ := ih (Ex.two k st.at_ x (p st.goes).1) (p st.goes).2
      refine ⟨fun he => absurd (may_yes hm).1 he, fun L hp => i2 L (h.pos L _ hp.goes), fun he hx => ?_⟩
      have he2 : (p st.goes).2.e = 0 := by
        rcases Nat.eq_zero_or_pos (p st.goes).2.e with h0 | h0
        · exact h0
        · rw [i1 (by omega)] at he; exact he
      obtain ⟨g1, g2⟩ := h.good _ he2
      obtain ⟨j1, j2⟩ := i3 he (plain_two hk hx g1)
      refine ⟨j1, ?_⟩
      rw [nodes_two] at j2
      omega
theorem Gd.chain {t : Tok} {k : Int} {p : St → Tr × St} (h : Gd p) (ht : t ≠ .eof) (hk : 4 ≤ k ∧ k ≤ 8) : Gd (Ex.chain t k p) := by
  refine ⟨fun st he => ?_, fun L st hp => ?_, fun st he => ?_⟩
  · unfold Ex.chain
    have := h.keep st he
    rw [(Gd.chainF h ht hk _ _ _).1 (by rw [this]; exact he), this]
  · exact (Gd.chainF h ht hk _ _ _).2.1 L (h.pos L st hp)
  · unfold Ex.chain at he ⊢
    obtain ⟨i1, i2, i3⟩ := Gd.chainF h ht hk (p st).2.ts.length (p st).1 (p st).2
    have he2 : (p st).2.e = 0 := by
      rcases Nat.eq_zero_or_pos (p st).2.e with h0 | h0
      · exact h0
      · rw [i1 (by omega)] at he; exact he
    obtain ⟨g1, g2⟩ := h.good _ he2
    obtain ⟨j1, j2⟩ := i3 he g1
    exact ⟨j1, by omega⟩
theorem Gd.imp {r : Option (St → Tr × St)} {p : St → Tr × St} (hr : GdO r) (h : Gd p) : Gd (Ex.imp r p) := by
  have hw := hr.within
  refine ⟨fun st he => ?_, fun L st hp => ?_, fun st he => ?_⟩
  · unfold Ex.imp
    have := h.keep st he
    rw [may_no (by rw [this]; exact he), if_neg (by simp), this]
  · unfold Ex.imp
    split
    · exact hw.pos L _ (h.pos L st hp).goes
    · exact h.pos L st hp
  · unfold Ex.imp at he ⊢
    cases hm : (p st).2.may .imp with
    | false =>
      rw [hm, if_neg (by simp)] at he
      rw [if_neg (by simp)]
      exact h.good st he
    | true =>
      rw [hm, if_pos rfl] at he
      rw [if_pos rfl]
      obtain ⟨g1, g2⟩ := h.good st (may_yes hm).1
      obtain ⟨j1, j2⟩ := hw.good _ he
      have hg := St.goes_len hm (by decide)
      refine ⟨plain_two (by omega) g1 j1, ?_⟩
      rw [nodes_two]
      simp only []
      omega
theorem Gd.bound {r : Option (St → Tr × St)} (hr : GdO r) (k : Int) (hk : k = 10 ∨ k = 11) (a : Nat) (st : St) (hs : st.e = 0) : (∀ L, Pos L st → Pos L (Ex.bound r k a st).2) ∧
    ((Ex.bound r k a st).2.e = 0 → ((Ex.bound r k a st).1.on .nil).allPlain = true ∧ ((Ex.bound r k a st).1.on .nil).nodes + (Ex.bound r k a st).2.ts.length ≤ st.ts.length) := by
  have hw := hr.within
  unfold Ex.bound
  split
  · rename_i n hn
    have hl := now_len (st := st) (by rw [hn]; simp)
    refine ⟨fun L hp => hw.pos L _ hp.goes, fun he => ?_⟩
    obtain ⟨j1, j2⟩ := hw.good _ he
    refine ⟨plain_one (by omega) (by omega) ?_ j1, ?_⟩
    · have := n.isLt
      have ht : Ex.top k = 7 := by unfold Ex.top; rw [if_pos (by omega)]
      omega
    · rw [nodes_one]
      simp only []
      omega
  · exact ⟨fun L hp => hp.bad _, fun he => absurd he (bad_ne 230 (by omega) st)⟩
theorem Gd.ite {r : Option (St → Tr × St)} (hr : GdO r) (a : Nat) : (∀ st, st.e ≠ 0 → (Ex.ite r a st).2.e = st.e) ∧ (∀ L st, Pos L st → Pos L (Ex.ite r a st).2) ∧
    (∀ st, (Ex.ite r a st).2.e = 0 → ((Ex.ite r a st).1.on .nil).allPlain = true ∧ ((Ex.ite r a st).1.on .nil).nodes + (Ex.ite r a st).2.ts.length ≤ st.ts.length + 1) := by
  have hw := hr.within
  refine ⟨fun st he => ?_, fun L st hp => ?_, fun st he => ?_⟩
  · unfold Ex.ite
    simp only []
    have k : ∀ t (st : St), st.e ≠ 0 → (Ex.within r (st.must t)).2.e = st.e := fun t st h => by rw [must_keep h]; exact hw.keep st h
    have e1 := k .lp st he
    have e2 := k .comma (Ex.within r (st.must .lp)).2 (by rw [e1]; exact he)
    have e3 := k .comma (Ex.within r ((Ex.within r (st.must .lp)).2.must .comma)).2 (by rw [e2, e1]; exact he)
    rw [must_keep (by rw [e3, e2, e1]; exact he), e3, e2, e1]
  · unfold Ex.ite
    simp only []
    exact (hw.pos L _ ((hw.pos L _ ((hw.pos L _ (hp.must _)).must _)).must _)).must _
  · unfold Ex.ite at he ⊢
    simp only [] at he ⊢
    have e3 := must_e he
    obtain ⟨a3, b3⟩ := hw.good _ e3
    have e2 : (Ex.within r ((Ex.within r (st.must .lp)).2.must .comma)).2.e = 0 := by
      rcases Nat.eq_zero_or_pos (Ex.within r ((Ex.within r (st.must .lp)).2.must .comma)).2.e with h0 | h0
      · exact h0
      · have := hw.keep ((Ex.within r ((Ex.within r (st.must .lp)).2.must .comma)).2.must .comma) (by rw [must_keep (by omega)]; omega)
        rw [this, must_keep (by omega)] at e3; exact e3
    obtain ⟨a2, b2⟩ := hw.good _ e2
    have e1 : (Ex.within r (st.must .lp)).2.e = 0 := by
      rcases Nat.eq_zero_or_pos (Ex.within r (st.must .lp)).2.e with h0 | h0
      · exact h0
      · have := hw.keep ((Ex.within r (st.must .lp)).2.must .comma) (by rw [must_keep (by omega)]; omega)
        rw [this, must_keep (by omega)] at e2; exact e2
    obtain ⟨a1, b1⟩ := hw.good _ e1
    have l0 := must_le .lp st
    have l1 := must_le .comma (Ex.within r (st.must .lp)).2
    have l2 := must_le .comma (Ex.within r ((Ex.within r (st.must .lp)).2.must .comma)).2
    have l3 := must_le .rp (Ex.within r ((Ex.within r ((Ex.within r (st.must .lp)).2.must .comma)).2.must .comma)).2
    generalize Ex.within r (st.must .lp) = r1 at *
    generalize Ex.within r (r1.2.must .comma) = r2 at *
    generalize Ex.within r (r2.2.must .comma) = r3 at *
    constructor
    · rw [Fo.allPlain_on] at a1 a2 a3 ⊢
      simp only [Fo.allPlain_on] at a1 a2 a3 ⊢
      have e : Ex.plain ⟨9, a, 0, r1.1.on (r2.1.on (r3.1.on .nil))⟩ = true := by
        unfold Ex.plain
        rw [show (r1.1.on (r2.1.on (r3.1.on Fo.nil))).len = 3 from rfl, Ex.kids3 rfl]
        simp only []
        unfold Ex.top
        simp
      rw [e]
      rw [Bool.and_eq_true, Bool.and_eq_true] at a1 a2 a3
      rw [a1.1.1, a1.1.2, a2.1.1, a2.1.2, a3.1.1, a3.1.2]
      rfl
    · simp only [Fo.nodes_on, show Fo.nil.nodes = 0 from rfl] at b1 b2 b3 ⊢
      omega
theorem plain_leaf {k a v : Int} (h : (k = 1 ∧ 0 ≤ v ∧ v ≤ 7) ∨ (k = 2 ∧ 0 ≤ v ∧ v ≤ 1)) : ((⟨k, a, v, .nil⟩ : Tr).on .nil).allPlain = true := by
  rw [Fo.allPlain_on]
  have e : Ex.plain ⟨k, a, v, .nil⟩ = true := by
    unfold Ex.plain
    simp only []
    rw [show (Fo.nil).len = 0 from rfl, Ex.kids0 (by omega)]
    unfold Ex.top
    rcases h with ⟨rfl, h⟩ | ⟨rfl, h⟩
    · simp; omega
    · simp; omega
  rw [e]
  rfl
theorem Gd.prim {r : Option (St → Tr × St)} (hr : GdO r) (st : St) (hs : st.e = 0) : (∀ L, Pos L st → Pos L (Ex.prim r st).2) ∧
    ((Ex.prim r st).2.e = 0 → ((Ex.prim r st).1.on .nil).allPlain = true ∧ ((Ex.prim r st).1.on .nil).nodes + (Ex.prim r st).2.ts.length ≤ st.ts.length) := by
  have hw := hr.within
  have hnil : ∀ (k a v : Int), ((⟨k, a, v, .nil⟩ : Tr).on .nil).nodes = 1 := fun _ _ _ => rfl
  unfold Ex.prim
  split
  · rename_i n hn
    have hl := now_len (st := st) (by rw [hn]; simp)
    exact ⟨fun L hp => hp.goes, fun _ => ⟨plain_leaf (.inl ⟨rfl, by have := n.isLt; omega, by have := n.isLt; omega⟩), by rw [hnil]; simp only []; omega⟩⟩
  · rename_i hn
    have hl := now_len (st := st) (by rw [hn]; simp)
    exact ⟨fun L hp => hp.goes, fun _ => ⟨plain_leaf (.inr ⟨rfl, by omega, by omega⟩), by rw [hnil]; simp only []; omega⟩⟩
  · rename_i hn
    have hl := now_len (st := st) (by rw [hn]; simp)
    exact ⟨fun L hp => hp.goes, fun _ => ⟨plain_leaf (.inr ⟨rfl, by omega, by omega⟩), by rw [hnil]; simp only []; omega⟩⟩
  · split
    · rename_i hm
      have hg := St.goes_len hm (by decide)
      refine ⟨fun L hp => (hw.pos L _ hp.goes).must _, fun he => ?_⟩
      simp only [] at he ⊢
      obtain ⟨j1, j2⟩ := hw.good _ (must_e he)
      have := must_le .rp (Ex.within r st.goes).2
      exact ⟨j1, by omega⟩
    · split
      · rename_i hm
        have hg := St.goes_len hm (by decide)
        refine ⟨fun L hp => (Gd.ite hr _).2.1 L _ hp.goes, fun he => ?_⟩
        obtain ⟨j1, j2⟩ := (Gd.ite hr _).2.2 _ he
        exact ⟨j1, by omega⟩
      · exact ⟨fun L hp => hp.bad _, fun he => absurd he (bad_ne 230 (by omega) st)⟩
theorem Gd.un {ru rf : Option (St → Tr × St)} (hu : GdO ru) (hf : GdO rf) : Gd (Ex.un ru rf) := by
  have hw := hu.within
  refine ⟨fun st he => by unfold Ex.un; rw [if_pos he], fun L st hp => ?_, fun st he => ?_⟩
  · unfold Ex.un
    by_cases h0 : st.e = 0
    · rw [if_neg (by simpa using h0)]
      split
      · exact hw.pos L _ hp.goes
      · split
        · exact (Gd.bound hu 10 (by omega) _ _ (show st.goes.e = 0 from h0)).1 L hp.goes
        · split
          · exact (Gd.bound hu 11 (by omega) _ _ (show st.goes.e = 0 from h0)).1 L hp.goes
          · exact (Gd.prim hf st h0).1 L hp
    · rw [if_pos h0]; exact hp
  · unfold Ex.un at he ⊢
    by_cases h0 : st.e = 0
    · rw [if_neg (by simpa using h0)] at he ⊢
      cases m0 : st.may .not with
      | true =>
        have hg := St.goes_len m0 (by decide)
        rw [m0, if_pos rfl] at he
        rw [if_pos rfl]
        simp only [] at he ⊢
        obtain ⟨j1, j2⟩ := hw.good _ he
        refine ⟨plain_one (by omega) (by omega) (by unfold Ex.top; simp) j1, ?_⟩
        rw [nodes_one]
        omega
      | false =>
        rw [m0, if_neg (by simp)] at he
        rw [if_neg (by simp)]
        cases m1 : st.may .all with
        | true =>
          have hg := St.goes_len m1 (by decide)
          rw [m1, if_pos rfl] at he
          rw [if_pos rfl]
          obtain ⟨j1, j2⟩ := (Gd.bound hu 10 (by omega) _ _ (show st.goes.e = 0 from h0)).2 he
          exact ⟨j1, by omega⟩
        | false =>
          rw [m1, if_neg (by simp)] at he
          rw [if_neg (by simp)]
          cases m2 : st.may .any with
          | true =>
            have hg := St.goes_len m2 (by decide)
            rw [m2, if_pos rfl] at he
            rw [if_pos rfl]
            obtain ⟨j1, j2⟩ := (Gd.bound hu 11 (by omega) _ _ (show st.goes.e = 0 from h0)).2 he
            exact ⟨j1, by omega⟩
          | false =>
            rw [m2, if_neg (by simp)] at he
            rw [if_neg (by simp)]
            exact (Gd.prim hf st h0).2 he
    · rw [if_pos h0] at he
      exact absurd he h0
structure GdR (r : Rd) : Prop where
  iff : Gd r.iff
  imp : Gd r.imp
  un : Gd r.un
theorem GdR.mk' (ru ri rf : Option (St → Tr × St)) (hu : GdO ru) (hi : GdO ri) (hf : GdO rf) : GdR (Ex.mk ru ri rf) := by
  have h1 := Gd.un hu hf
  have h2 := Gd.imp hi (((h1.chain (t := .and) (k := 4) (by decide) (by omega)).chain (t := .xor) (k := 6) (by decide) (by omega)).chain (t := .or) (k := 5) (by decide) (by omega))
  exact ⟨h2.chain (by decide) (by omega), h2, h1⟩
theorem GdR.all : ∀ n, GdR (Ex.lev n)
  | 0 => GdR.mk' none none none True.intro True.intro True.intro
  | n + 1 => GdR.mk' _ _ _ (GdR.all n).un (GdR.all n).imp (GdR.all n).iff
theorem Lx.lexF_pos (n : Nat) : ∀ (l : List Nat) (a : Nat), (∀ x ∈ l, x < 256) → (∀ x ∈ Lx.lexF n l a, x.2 ≤ a + l.length) ∧ (Lx.lexF n l a).length ≤ l.length + 1 := by
  induction n with
  | zero => intro l a _; rw [Lx.lexF]; simp
  | succ n ih =>
    intro l a hl
    rw [Lx.lexF]
    have hs := Lx.skip_le l
    split
    · simp
      omega
    · rename_i hb
      have hll : ∀ x ∈ (l.drop (Lx.skip l)).drop (Lx.scan (l.drop (Lx.skip l))).txt.length, x < 256 := fun x hx => hl x (List.mem_of_mem_drop (List.mem_of_mem_drop hx))
      obtain ⟨i1, i2⟩ := ih ((l.drop (Lx.skip l)).drop (Lx.scan (l.drop (Lx.skip l))).txt.length) (a + Lx.skip l + (Lx.scan (l.drop (Lx.skip l))).txt.length) hll
      have hp := Tok.txt_len (Lx.scan (l.drop (Lx.skip l))) (fun e => hb (.inl e))
      have hsl := Lx.scan_len (l.drop (Lx.skip l)) (fun x hx => hl x (List.mem_of_mem_drop hx))
      rw [List.length_drop, List.length_drop] at i1 i2
      rw [List.length_drop] at hsl
      constructor
      · intro x hx
        rcases List.mem_cons.1 hx with rfl | hx
        · simp only []; omega
        · have := i1 x hx; omega
      · rw [List.length_cons]; omega
theorem Lx.lex_pos (l : List Nat) (hl : ∀ x ∈ l, x < 256) : (∀ x ∈ Lx.lex l 0, x.2 ≤ l.length) ∧ (Lx.lex l 0).length ≤ l.length + 1 := by
  unfold Lx.lex
  have := Lx.lexF_pos (l.length + 1) l 0 hl
  rw [Nat.zero_add] at this
  exact this
/-- what Parse tells: a formula; or an error, its place within the text -/
theorem Ex.parse_good (l : List Nat) (hl : ∀ x ∈ l, x < 256) (h : l.length ≤ 3999) :
    ((Ex.parse l).2.2 = 0 → (Ex.parse l).2.1 = 0 ∧ Ex.is (Ex.parse l).1 = true) ∧ ((Ex.parse l).2.2 ≠ 0 → (Ex.parse l).1 = Tr.zero ∧ (Ex.parse l).2.1 ≤ l.length) := by
  have hg := (GdR.all 30).iff
  obtain ⟨p1, p2⟩ := Lx.lex_pos l hl
  obtain ⟨E1, E2, E3⟩ := Ex.parse_eq l (by omega)
  have hP : Pos l.length (⟨Lx.lex l 0, 0, 0⟩ : St) := ⟨Nat.zero_le _, p1⟩
  have hP2 := hg.pos _ _ hP
  have hgood := hg.good ⟨Lx.lex l 0, 0, 0⟩
  generalize (Ex.lev 30).iff ⟨Lx.lex l 0, 0, 0⟩ = R at *
  by_cases h0 : R.2.e = 0
  · by_cases hn : R.2.now = .eof
    · rw [E1 h0 hn]
      refine ⟨fun _ => ⟨rfl, ?_⟩, fun h => absurd rfl h⟩
      obtain ⟨g1, g2⟩ := hgood h0
      have g3 : (R.1.on .nil).nodes ≤ 4000 := by simp only [] at g2; omega
      show (decide ((R.1.on .nil).nodes ≤ 4000) && (R.1.on .nil).allPlain) = true
      rw [g1, decide_eq_true g3]
      rfl
    · rw [E2 h0 hn]
      exact ⟨fun h => absurd h (bad_ne 230 (by omega) R.2), fun _ => ⟨rfl, (hP2.bad 230).eat⟩⟩
  · rw [E3 h0]
    exact ⟨fun h => absurd h h0, fun _ => ⟨rfl, hP2.eat⟩⟩
end Go.Proofs.Ytfgokhafiffbaaa

/-
  Formulas: Same.
-/
namespace Go.Proofs.Ytfgokhafiffbaaa
set_option linter.unusedVariables false
open Go.RowKit

/-- the same but for their places -/
def Fo.same : Fo → Fo → Bool
  | .nil, .nil => true
  | .cons k _ v kids rest, .cons k' _ v' kids' rest' => (decide (k = k') && decide (v = v') && Fo.same kids kids') && Fo.same rest rest'
  | _, _ => false
def Ex.same (a b : Tr) : Bool := decide (a.k = b.k) && decide (a.v = b.v) && Fo.same a.kids b.kids
theorem Fo.same_on (x y : Tr) (r s : Fo) : Fo.same (x.on r) (y.on s) = (Ex.same x y && Fo.same r s) := by unfold Tr.on Ex.same; simp [Fo.same]
theorem Fo.same_len : ∀ (F G : Fo), F.len ≠ G.len → Fo.same F G = false
  | .nil, .nil, h => absurd rfl h
  | .cons .., .nil, _ => by simp [Fo.same]
  | .nil, .cons .., _ => by simp [Fo.same]
  | .cons k a v kids rest, .cons k' a' v' kids' rest', h => by
    have := Fo.same_len rest rest' (fun e => h (by simp [Fo.len, e]))
    simp [Fo.same, this]
theorem Fo.len_nodes : ∀ F : Fo, F.len ≤ F.nodes
  | .nil => Nat.le_refl _
  | .cons k a v kids rest => by have := Fo.len_nodes rest; simp [Fo.len, Fo.nodes]; omega
theorem intOf_i (k : IntKind) (n : Int) : intOf (.int k n) = n := rfl
/-- what is known of Same for what has so few nodes -/
def Sz (n : Nat) : Prop := ∀ (a b : Tr) (sa sb : Value) (Ba Bb : Nat → Prop) (u : World), (a.on .nil).nodes ≤ n → SlF u Ba sa a.kids → SlF u Bb sb b.kids →
  Calls Try.prog 17 #[Ev a sa, Ev b sb] u fun e w' => e = .returned (.bool (Ex.same a b)) ∧ Below u.heap.size u w'
/-- where EqualFunc's loop stands -/
structure EQ (w wr : World) (b o b' o' i : Nat) (F G F2 G2 : Fo) : Prop where
  be : Below w.heap.size w wr
  f : RdF w (fun _ => True) F2 b (o + i * 4)
  g : RdF w (fun _ => True) G2 b' (o' + i * 4)
  lf : F.len = i + F2.len
  lg : G.len = i + G2.len
  nd : F2.nodes ≤ F.nodes
  val : Fo.same F G = Fo.same F2 G2
theorem RdF.top {w : World} {B : Nat → Prop} {F : Fo} {b o : Nat} (h : RdF w B F b o) : RdF w (fun _ => True) F b o := RdF.mono (fun _ _ _ => True.intro) F b o h

set_option maxHeartbeats 8000000 in
theorem eqf_any (n : Nat) (hn1 : n ≤ 1000000) (ih : Sz n) (F G : Fo) (sF sG : Value) (Bf Bg : Nat → Prop) (w : World) (hF : SlF w Bf sF F) (hG : SlF w Bg sG G) (hn : F.nodes ≤ n) :
    Calls Try.prog 36 #[sF, sG, .func (.func 17) #[] #[]] w fun e w' => e = .returned (.bool (Fo.same F G)) ∧ Below w.heap.size w w' := by
  obtain ⟨p, c, b, o, rfl, hp, hc, hr⟩ := hF
  obtain ⟨p', c', b', o', rfl, hp', hc', hr'⟩ := hG
  by_cases hl : F.len = G.len
  · have q : (F.len : Int) = (G.len : Int) := by omega
    have q2 : ((F.len : Int) == (G.len : Int)) = true := by rw [beq_iff_eq]; exact q
    have hlb := Fo.len_nodes F
    have H0 : Bx (EQ w w b o b' o' 0 F G F G) := ⟨⟨Below.refl _ _, by rw [Nat.zero_mul, Nat.add_zero]; exact hr.top, by rw [Nat.zero_mul, Nat.add_zero]; exact hr'.top, by omega, by omega, Nat.le_refl _, rfl⟩⟩
    have HP : Bx ((F.len ≠ 0 → p = some ⟨b, o, none⟩) ∧ (G.len ≠ 0 → p' = some ⟨b', o', none⟩)) := ⟨by
      constructor
      · intro h
        rcases hp with ⟨rfl, _⟩ | e
        · exact absurd rfl h
        · exact e
      · intro h
        rcases hp' with ⟨rfl, _⟩ | e
        · exact absurd rfl h
        · exact e⟩
    have HL := Bx.mk hl
    have HB := Bx.mk (show F.len ≤ 1000000 from by omega)
    have HN := Bx.mk hn
    have IH := Bx.mk ih
    clear hp hp' hr hr' hlb hn ih hl hc hc'
    have hcf : ∀ args w, (callFunc 17 args).run Try.prog w = .ok (.enter 17 args) w := fun _ _ => rfl
    go_enter Try.func36, Try.ntmps36
    go_wp2_with fail
    go_loopw [17] (fun j wr => ∃ (i : Nat) (F2 G2 : Fo), j = .int .i64 (i : Int) ∧ EQ w wr b o b' o' i F G F2 G2) (fun j _ => F.len - (intOf j).toNat)
    case atStart => exact ⟨0, F, G, rfl, H0.out⟩
    case round =>
      obtain ⟨i, F2, G2, rfl, HQ⟩ := hrel
      have HQ := Bx.mk HQ
      cases F2 with
      | nil =>
        have hv : Bx (Fo.same F G = true) := ⟨by
          have h1 := HQ.out.lf
          have h2 := HQ.out.lg
          have h3 := HL.out
          have hG2 : G2 = .nil := Fo.len0 (by rw [show Fo.nil.len = 0 from rfl] at h1; omega)
          rw [HQ.out.val, hG2]; rfl⟩
        have q3 : ¬ (i : Int) < (F.len : Int) := by have h1 := HQ.out.lf; rw [show Fo.nil.len = 0 from rfl] at h1; omega
        have q4 : ¬ (i : Int) < (G.len : Int) := by have h1 := HQ.out.lf; have h3 := HL.out; rw [show Fo.nil.len = 0 from rfl] at h1; omega
        go_wp2_with fail
        go_ret
        exact ⟨by rw [hv.out]; rfl, HQ.out.be⟩
      | cons k a v kids rest =>
        cases G2 with
        | nil => exact absurd HL.out (by have h1 := HQ.out.lf; have h2 := HQ.out.lg; simp [Fo.len] at h1 h2; omega)
        | cons k' a' v' kids' rest' =>
          have h1 := HQ.out.lf
          have h2 := HQ.out.lg
          rw [show (Fo.cons k a v kids rest).len = rest.len + 1 from rfl] at h1
          rw [show (Fo.cons k' a' v' kids' rest').len = rest'.len + 1 from rfl] at h2
          have q3 : (i : Int) < (F.len : Int) := by omega
          have q4 : (i : Int) < (G.len : Int) := by omega
          obtain rfl := HP.out.1 (by omega)
          obtain rfl := HP.out.2 (by omega)
          have hib : i < 1000000 := by have := HB.out; omega
          obtain ⟨sx, Kx, hr1⟩ := kid_of HQ.out.f
          obtain ⟨sy, Ky, hr2⟩ := kid_of HQ.out.g
          obtain ⟨px, cx, hsx⟩ := Kx.sl.is
          obtain ⟨py, cy, hsy⟩ := Ky.sl.is
          subst hsx hsy
          have hba := HQ.out.be.alloc HQ.out.be.size (.cells #[.int .i64 k, .int .i64 a, .int .i64 v, .slice px kids.len cx] 36)
          have hbb := hba.alloc (by rw [alloc_size]; have := HQ.out.be.size; omega) (.cells #[.int .i64 k', .int .i64 a', .int .i64 v', .slice py kids'.len cy] 36)
          obtain ⟨y0, y1, y2, y3, _⟩ := Ky.below hba
          obtain ⟨x0, x1, x2, x3, _⟩ := Kx.below HQ.out.be
          obtain ⟨_, _, _, _, xS⟩ := Kx.below hbb
          obtain ⟨_, _, _, _, yS2⟩ := Ky.below hbb
          have hnd := HQ.out.nd
          have HI := Bx.mk (IH.out ⟨k, a, v, kids⟩ ⟨k', a', v', kids'⟩ _ _ _ _ _ (by have := HN.out; rw [Fo.nodes_on]; simp only [Fo.nodes] at hnd ⊢; omega) xS yS2)
          have HBA := Bx.mk hbb
          have HR1 := Bx.mk hr1
          have HR2 := Bx.mk hr2
          have H12 := Bx.mk (show F.len = i + (rest.len + 1) ∧ G.len = i + (rest'.len + 1) from ⟨h1, h2⟩)
          have HIB := Bx.mk hib
          simp only [] at x0 x1 x2 x3 y0 y1 y2 y3
          have hw : wrap64 ((i : Int) + 1) = (i : Int) + 1 := w64 _ (by omega)
          clear hba hbb Kx Ky hr1 hr2 xS yS2 hnd h1 h2 hib
          unfold Ev at HI
          go_wp2_with fail
          refine HI.out.mono ?_
          rintro e u ⟨rfl, hb⟩
          have HU := Bx.mk (HBA.out.trans (hb.mono HBA.out.size))
          clear hb
          have hvv : Bx (Fo.same F G = (Ex.same ⟨k, a, v, kids⟩ ⟨k', a', v', kids'⟩ && Fo.same rest rest')) := ⟨by rw [HQ.out.val]; exact Fo.same_on ⟨k, a, v, kids⟩ ⟨k', a', v', kids'⟩ rest rest'⟩
          cases hs : Ex.same ⟨k, a, v, kids⟩ ⟨k', a', v', kids'⟩ with
          | false =>
            have hv : Bx (Fo.same F G = false) := ⟨by rw [hvv.out, hs]; rfl⟩
            clear hs
            go_wp2_with fail
            go_ret
            exact ⟨by rw [hv.out]; rfl, HU.out⟩
          | true =>
            have hv : Bx (Fo.same F G = Fo.same rest rest') := ⟨by rw [hvv.out, hs]; rfl⟩
            clear hs
            go_wp2_with fail
            have h12 := H12.out
            have hib := HIB.out
            have hndq := HQ.out.nd
            refine ⟨⟨i + 1, rest, rest', by go_num, HU.out, ?_, ?_, by omega, by omega, by simp only [Fo.nodes] at hndq; omega, hv.out⟩, ?_⟩
            · have := HR1.out
              rw [show o + (i + 1) * 4 = o + i * 4 + 4 from by omega]
              exact this
            · have := HR2.out
              rw [show o' + (i + 1) * 4 = o' + i * 4 + 4 from by omega]
              exact this
            · rw [intOf_i, intOf_i, hw]
              clear hw hndq
              omega
  · have q : ¬ (F.len : Int) = (G.len : Int) := by omega
    have q2 : ((F.len : Int) == (G.len : Int)) = false := by rw [beq_eq_false_iff_ne]; exact q
    have hv := Bx.mk (Fo.same_len F G hl)
    clear hl hp hp' hr hr' hn ih hc hc'
    go_enter Try.func36, Try.ntmps36
    go_wp2_with fail
    go_ret
    exact ⟨by rw [hv.out]; rfl, Below.refl _ _⟩
set_option maxHeartbeats 8000000 in
theorem Sz.succ (n : Nat) (hn1 : n ≤ 1000000) (ih : Sz n) : Sz (n + 1) := by
  intro a b sa sb Ba Bb w hn ha hb
  obtain ⟨pa, ca, rfl⟩ := ha.is
  obtain ⟨pb, cb, rfl⟩ := hb.is
  rw [Fo.nodes_on] at hn
  have hb1 := boxE w a.k a.a a.v (.slice pa a.kids.len ca)
  have hb2 := boxE (w.alloc (.cells #[.int .i64 a.k, .int .i64 a.a, .int .i64 a.v, .slice pa a.kids.len ca] 36)) b.k b.a b.v (.slice pb b.kids.len cb)
  have hb1' := hb1.alloc (.cells #[.int .i64 b.k, .int .i64 b.a, .int .i64 b.v, .slice pb b.kids.len cb] 36)
  rw [alloc_size] at hb2
  have hE := eqf_any n hn1 ih a.kids b.kids _ _ _ _ _ ((ha.alloc (.cells #[.int .i64 a.k, .int .i64 a.a, .int .i64 a.v, .slice pa a.kids.len ca] 36)).alloc (.cells #[.int .i64 b.k, .int .i64 b.a, .int .i64 b.v, .slice pb b.kids.len cb] 36))
    ((hb.alloc (.cells #[.int .i64 a.k, .int .i64 a.a, .int .i64 a.v, .slice pa a.kids.len ca] 36)).alloc (.cells #[.int .i64 b.k, .int .i64 b.a, .int .i64 b.v, .slice pb b.kids.len cb] 36)) (by rw [show Fo.nil.nodes = 0 from rfl] at hn; omega)
  have hbe := ((Below.refl w.heap.size w).alloc (Nat.le_refl _) (.cells #[.int .i64 a.k, .int .i64 a.a, .int .i64 a.v, .slice pa a.kids.len ca] 36)).alloc (by rw [alloc_size]; omega) (.cells #[.int .i64 b.k, .int .i64 b.a, .int .i64 b.v, .slice pb b.kids.len cb] 36)
  have HE := Bx.mk hE
  have HBE := Bx.mk hbe
  obtain ⟨c0, c1, c2, c3, _, _, _, _⟩ := cells4 hb1'
  obtain ⟨d0, d1, d2, d3, _, _, _, _⟩ := cells4 hb2
  clear hb1 hb2 hb1' hE hbe ha hb hn ih hn1
  unfold Ev
  by_cases hk : a.k = b.k
  · have q1 : (a.k == b.k) = true := by rw [beq_iff_eq]; exact hk
    by_cases hv : a.v = b.v
    · have q2 : (a.v == b.v) = true := by rw [beq_iff_eq]; exact hv
      have hS := Bx.mk (show Ex.same a b = Fo.same a.kids b.kids from by unfold Ex.same; rw [decide_eq_true hk, decide_eq_true hv]; rfl)
      clear hk hv
      go_enter Try.func17, Try.ntmps17
      go_wp2_with fail
      refine HE.out.mono ?_
      rintro e u ⟨rfl, hbu⟩
      have HU := Bx.mk (HBE.out.trans (hbu.mono HBE.out.size))
      clear hbu
      go_wp2_with fail
      go_ret
      exact ⟨by rw [hS.out]; rfl, HU.out⟩
    · have q2 : (a.v == b.v) = false := by rw [beq_eq_false_iff_ne]; exact hv
      have hS := Bx.mk (show Ex.same a b = false from by unfold Ex.same; rw [decide_eq_false hv]; simp)
      clear hk hv
      go_enter Try.func17, Try.ntmps17
      go_wp2_with fail
      go_ret
      exact ⟨by rw [hS.out]; rfl, HBE.out⟩
  · have q1 : (a.k == b.k) = false := by rw [beq_eq_false_iff_ne]; exact hk
    have hS := Bx.mk (show Ex.same a b = false from by unfold Ex.same; rw [decide_eq_false hk]; simp)
    clear hk
    go_enter Try.func17, Try.ntmps17
    go_wp2_with fail
    go_ret
    exact ⟨by rw [hS.out]; rfl, HBE.out⟩
theorem Sz.all : ∀ n, n ≤ 1000000 → Sz n
  | 0, _ => fun a b sa sb Ba Bb u h => by rw [Fo.nodes_on] at h; omega
  | n + 1, h => Sz.succ n (by omega) (Sz.all n (by omega))
theorem same_any (a b : Tr) (sa sb : Value) (Ba Bb : Nat → Prop) (u : World) (hn : (a.on .nil).nodes ≤ 1000000) (ha : SlF u Ba sa a.kids) (hb : SlF u Bb sb b.kids) :
    Calls Try.prog 17 #[Ev a sa, Ev b sb] u fun e w' => e = .returned (.bool (Ex.same a b)) ∧ Below u.heap.size u w' := Sz.all _ (Nat.le_refl _) a b sa sb Ba Bb u hn ha hb
end Go.Proofs.Ytfgokhafiffbaaa

/-
  Formulas: digit; a variable's print.
-/
namespace Go.Proofs.Ytfgokhafiffbaaa
set_option linter.unusedVariables false
open Go.RowKit Go.Lib

/-- a slice of bytes in a block of one's own, or none yet -/
def OwnB (w : World) (base : Nat) (v : Value) (l : List UInt8) : Prop := w.ownsRow base 5 1 v l.length (l.map fun b => .int .u8 (b.toNat : Int))
theorem OwnB.nil (w : World) (base : Nat) : OwnB w base (.slice none 0 0) [] := World.ownsRow_nil w base _ 1
theorem OwnB.kept {w w' : World} {base : Nat} {v : Value} {l : List UInt8} {row : Option Nat} (h : OwnB w base v l) (hg : w.grownBy w' row) (hne : v.ownBlock = none ∨ v.ownBlock ≠ row) : OwnB w' base v l := World.ownsRow.kept h hg hne
theorem OwnB.below {w w' : World} {base : Nat} {v : Value} {l : List UInt8} (h : OwnB w base v l) (hb : Below w.heap.size w w') : OwnB w' base v l :=
  h.kept (below_gr hb) (by cases e : v.ownBlock <;> simp)
theorem OwnB.lt {w : World} {base : Nat} {v : Value} {l : List UInt8} (h : OwnB w base v l) {k : Nat} (hk : v.ownBlock = some k) : base ≤ k ∧ k < w.heap.size := World.ownsRow.lt h k hk
theorem u8_info : ∃ i, Try.prog.info? 5 = some i ∧ i.zero = some (.int .u8 0) ∧ i.size = 1 ∧ i.bytes = 1 := by
  refine ⟨_, rfl, ?_⟩
  exact ⟨by kernel_rfl, by kernel_rfl, by kernel_rfl⟩
theorem strCells_of (s : ByteArray) : strCells s = s.data.toList.map fun b => (.int .u8 (b.toNat : Int) : Value) := by
  unfold strCells
  simp
/-- a string appended -/
theorem OwnB.app_str {w : World} {base : Nat} {v : Value} {l : List UInt8} (h : OwnB w base v l) (s : ByteArray) (hn : l.length + s.size ≤ 1000000) (hb : base ≤ w.heap.size) (ty : TypeId) :
    ∃ v' w', (Builtin.append_ #[22, 9] ty #[v, .string s]).run Try.prog w = .ok v' w' ∧ OwnB w' base v' (l ++ s.data.toList) ∧ w.grownBy w' v.ownBlock := by
  obtain ⟨i, hi, hz, hs, hby⟩ := u8_info
  obtain ⟨v', w', hr, ho, hg, _⟩ := run_append_own_string (P := Try.prog) w base 22 9 ty 5 i Try.underlying22 Try.underlying9 hi hz hs hby v l.length _ h s (by unfold maxLen; omega) (by omega) hb
  refine ⟨v', w', hr, ?_, hg⟩
  unfold OwnB
  rw [List.length_append, List.map_append, ← strCells_of, show s.data.toList.length = s.size from by simp]
  exact ho
/-- one byte appended, that lies in a block -/
theorem OwnB.app_one {w : World} {base : Nat} {v : Value} {l : List UInt8} (h : OwnB w base v l) (p c : Nat) (x : UInt8) (hx : w.cell? ⟨p, 0, none⟩ = some (.int .u8 (x.toNat : Int))) (hn : l.length + 1 ≤ 1000000) (hb : base ≤ w.heap.size) (ty : TypeId) :
    ∃ v' w', (Builtin.append_ #[22, 22] ty #[v, .slice (some ⟨p, 0, none⟩) 1 c]).run Try.prog w = .ok v' w' ∧ OwnB w' base v' (l ++ [x]) ∧ w.grownBy w' v.ownBlock := by
  obtain ⟨i, hi, hz, hs, hby⟩ := u8_info
  obtain ⟨v', w', hr, ho, hg, _⟩ := run_append_own (P := Try.prog) w base 22 ty 5 i _ 1 1 Try.underlying22 hi hz hs hby rfl (by omega) v l.length _ h ⟨p, 0, none⟩ 1 c [.int .u8 (x.toNat : Int)] rfl
    (fun j u hj => by
      match j, hj with
      | 0, hj => cases hj; exact hx
      | j + 1, hj => simp at hj) (by intro u hu; simp at hu; subst hu; rfl) (by unfold maxLen; omega) (by omega) hb
  refine ⟨v', w', hr, ?_, hg⟩
  unfold OwnB
  rw [List.length_append, List.map_append]
  exact ho
/-- the bytes as a string -/
theorem OwnB.str {w : World} {base : Nat} {v : Value} {l : List UInt8} (h : OwnB w base v l) (hl : l ≠ []) : (convert 22 9 v).run Try.prog w = .ok (.string ⟨l.toArray⟩) w := by
  have h0 := h
  rcases h0.2 with ⟨rfl, e⟩ | ⟨g, cap, cur, rfl, hbg, hg, hnc, hcm, hcs, htake⟩
  · exact absurd (List.eq_nil_of_length_eq_zero e) hl
  · refine run_convert_bytes_back (P := Try.prog) w 22 9 5 ⟨g, 0, none⟩ cap l Try.underlying22 Try.underlying5 Try.underlying9 fun j hj => ?_
    have := World.ownsRow.cells h (g := g) rfl j (.int .u8 (l[j].toNat : Int)) (by rw [List.getElem?_map, List.getElem?_eq_getElem hj]; rfl)
    exact this
theorem wp_app {P : Program} {w w' : World} {o : Oper} {a : Act} {K : Act → World → Prop} {Q : Exit → Act → World → Prop} {v y v' : Value} (s x : Operand) (t u : TypeId)
    (hr : (Builtin.append_ #[t, u] o.type #[v, y]).run P w = .ok v' w')
    (ho : o.op = .call { callee := .builtin .append, args := #[s, x], argTypes := #[t, u] }) (hs : a.eval s = v) (hx : a.eval x = y)
    (h : K (a.put o.dst v') w') : o.wp P a w K Q := by
  unfold Oper.wp execOp
  simp only [ho, resolve, invoke, builtin, Sem.run_bind, Sem.run_pure, Result.andThen_ok, List.map_toArray, List.map_cons, List.map_nil, hs, hx, hr]
  exact h

set_option maxHeartbeats 2000000 in
theorem digit_any (n : Nat) (hn : n < 10) (w : World) : Calls Try.prog 54 #[.int .i64 (n : Int)] w fun e w' => e = .returned (.string (strOf [48 + n])) ∧ Below w.heap.size w w' := by
  have hw1 : wrap64 (48 + (n : Int)) = 48 + (n : Int) := w64 _ (by omega)
  have hw2 : IntKind.i64.wrap (48 + (n : Int)) = 48 + (n : Int) := by rw [IntKind.wrap_i64]; omega
  have hw3 : IntKind.u8.wrap (48 + (n : Int)) = 48 + (n : Int) := by rw [IntKind.wrap_u8]; omega
  have hB := Blk.new w 5 #[.int .u8 (48 + (n : Int))]
  have hO : OwnB (w.alloc (.cells #[.int .u8 (48 + (n : Int))] 5)) w.heap.size (.slice (some ⟨w.heap.size, 0, none⟩) 1 1) [Nat.toUInt8 (48 + n)] := by
    refine ⟨rfl, .inr ⟨w.heap.size, 1, #[.int .u8 (48 + (n : Int))], rfl, Nat.le_refl _, hB.eq, Nat.le_refl _, by unfold maxLen; omega, rfl, ?_⟩⟩
    have e : ((Nat.toUInt8 (48 + n)).toNat : Int) = 48 + (n : Int) := by
      have : (Nat.toUInt8 (48 + n)).toNat = 48 + n := by simp [Nat.toUInt8, UInt8.toNat_ofNat', Nat.mod_eq_of_lt (show 48 + n < 256 by omega)]
      rw [this]; omega
    simp
    omega
  have hC := hO.str (by simp)
  have hE : strOf [48 + n] = ⟨#[48 + UInt8.ofNat n]⟩ := by unfold strOf; simp [Nat.toUInt8]
  have HE := Bx.mk hE
  clear hE hO hB
  go_enter Try.func54, Try.ntmps54
  go_wp2_with fail
  go_ret
  exact ⟨by rw [HE.out]; rfl, (Below.refl _ _).alloc (Nat.le_refl _) _⟩

/-- what is kept while a variable is printed -/
def VB (w u : World) : Prop := Below w.heap.size w u ∧ Blk u w.heap.size 36 #[.int .i64 1, .int .i64 0, .int .i64 3, .slice none 0 0]
theorem VB.step {w u u' : World} (h : VB w u) (hb : Below u.heap.size u u') : VB w u' := ⟨h.1.trans (hb.mono h.1.size), h.2.below hb h.2.lt⟩
theorem VB.grown {w u u' : World} (h : VB w u) {row : Option Nat} (hg : u.grownBy u' row) (hr : row = none) : VB w u' := by
  subst hr
  exact h.step ⟨hg.os, hg.tape, hg.output, hg.size, fun k hk => hg.block k hk (by simp)⟩
theorem VB.far {w u u' : World} (h : VB w u) {row : Option Nat} (hg : u.grownBy u' row) (hr : ∀ k, row = some k → w.heap.size + 1 ≤ k) : VB w u' :=
  ⟨h.1.grown hg h.1.size (fun k e => by have := hr k e; omega), ⟨(hg.block _ h.2.lt (fun e => by have := hr _ e.symm; omega)).trans h.2.eq⟩⟩
set_option maxHeartbeats 8000000 in
theorem put_v3 (w : World) : Calls Try.prog 35 #[.slice none 0 0, .agg #[.int .i64 1, .int .i64 0, .int .i64 3, .slice none 0 0]] w fun e w' => ∃ v, e = .returned v ∧ OwnB w' (w.heap.size + 1) v [118, 51] ∧ Below w.heap.size w w' := by
  have hb := boxE w 1 0 3 (.slice none 0 0)
  have hbe := (Below.refl w.heap.size w).alloc (Nat.le_refl _) (.cells #[.int .i64 1, .int .i64 0, .int .i64 3, .slice none 0 0] 36)
  obtain ⟨c0, c1, c2, c3, _, _, _, _⟩ := cells4 hb
  have HV : Bx (VB w (w.alloc (.cells #[.int .i64 1, .int .i64 0, .int .i64 3, .slice none 0 0] 36))) := ⟨⟨hbe, hb⟩⟩
  clear hb hbe
  go_enter Try.func35, Try.ntmps35
  go_wp2_with fail
  refine region_any 7 (VB w) (by kernel_rfl) ?_
  generalize hu : World.drew _ = u0
  have hS0 : VB w u0 := by rw [← hu]; exact HV.out.step ((Below.refl _ _).drew)
  clear hu c0 c1 c2 c3 HV
  refine any_take (i := 0) (.slice none 0 0) rfl rfl (by kernel_rfl) (by kernel_rfl) (by kernel_rfl) (by kernel_rfl) (fun _ _ d _ _ h => by cases d <;> exact h) (fun u hS => rfl) hS0 ?_
  (try simp only [Act.put]); (try simp only [List.getElem_toArray]); (try simp only [List.getElem_cons_succ]); (try simp only [List.getElem_cons_zero]); (try simp only [List.setIfInBounds_toArray]); (try simp only [List.set_cons_succ]); (try simp only [List.set_cons_zero])
  refine any_take (i := 3) (.pointer (some ⟨w.heap.size, 2, none⟩)) rfl rfl (by kernel_rfl) (by kernel_rfl) (by kernel_rfl) (by kernel_rfl) (fun _ _ d _ _ h => by cases d <;> exact h) (fun u hS => rfl) hS0 ?_
  (try simp only [Act.put]); (try simp only [List.getElem_toArray]); (try simp only [List.getElem_cons_succ]); (try simp only [List.getElem_cons_zero]); (try simp only [List.setIfInBounds_toArray]); (try simp only [List.set_cons_succ]); (try simp only [List.set_cons_zero])
  refine any_take (i := 4) (.int .i64 3) rfl rfl (by kernel_rfl) (by kernel_rfl) (by kernel_rfl) (by kernel_rfl) (fun _ _ d _ _ h => by cases d <;> exact h) (fun u hS => exec_loadI rfl rfl (hS.2.cell 2)) hS0 ?_
  (try simp only [Act.put]); (try simp only [List.getElem_toArray]); (try simp only [List.getElem_cons_succ]); (try simp only [List.getElem_cons_zero]); (try simp only [List.setIfInBounds_toArray]); (try simp only [List.set_cons_succ]); (try simp only [List.set_cons_zero])
  refine any_branch [1] (by kernel_rfl) rfl fun ix hix => ?_
  simp only [List.mem_cons, List.not_mem_nil, or_false] at hix
  subst hix
  refine any_op rfl rfl fun K hK => ?_
  go_simp
  have hp := Blk.new u0 5 #[.int .u8 118]
  have hbs := (Below.refl u0.heap.size u0).alloc (Nat.le_refl _) (.cells #[.int .u8 118] 5)
  have hSs := hS0.step hbs
  generalize hpn : u0.heap.size = pn at hp ⊢
  generalize u0.alloc (.cells #[.int .u8 118] 5) = us at hp hbs hSs ⊢
  refine hK _ _ (fun _ => hSs) ?_
  (try simp only [Act.put]); (try simp only [List.getElem_toArray]); (try simp only [List.getElem_cons_succ]); (try simp only [List.getElem_cons_zero]); (try simp only [List.setIfInBounds_toArray]); (try simp only [List.set_cons_succ]); (try simp only [List.set_cons_zero])
  clear hK
  clear hbs hpn
  replace hS0 := hSs
  clear hSs
  refine any_branch [2] (by kernel_rfl) rfl fun ix hix => ?_
  simp only [List.mem_cons, List.not_mem_nil, or_false] at hix
  subst hix
  refine any_op rfl rfl fun K hK => ?_
  obtain ⟨v1, ua, hr, ho, hg⟩ := (OwnB.nil us (w.heap.size + 1)).app_one pn 1 118 (hp.cell 0) (by simp) hS0.2.lt 22
  refine wp_app _ _ _ _ hr rfl rfl rfl ?_
  have hSs := hS0.grown hg rfl
  refine hK _ _ (fun _ => hSs) ?_
  (try simp only [Act.put]); (try simp only [List.getElem_toArray]); (try simp only [List.getElem_cons_succ]); (try simp only [List.getElem_cons_zero]); (try simp only [List.setIfInBounds_toArray]); (try simp only [List.set_cons_succ]); (try simp only [List.set_cons_zero])
  clear hK
  replace hS0 := hSs
  clear hSs hr hg hp
  refine any_branch [5] (by kernel_rfl) rfl fun ix hix => ?_
  simp only [List.mem_cons, List.not_mem_nil, or_false] at hix
  subst hix
  refine any_op rfl rfl fun K hK => ?_
  go_simp
  refine (digit_any 3 (by omega) _).mono ?_
  rintro e ud ⟨rfl, hbd⟩
  have hSs := hS0.step hbd
  have ho2 := ho.below hbd
  clear ho
  have ho := ho2
  clear ho2
  refine hK _ _ (fun _ => hSs) ?_
  (try simp only [Act.put]); (try simp only [List.getElem_toArray]); (try simp only [List.getElem_cons_succ]); (try simp only [List.getElem_cons_zero]); (try simp only [List.setIfInBounds_toArray]); (try simp only [List.set_cons_succ]); (try simp only [List.set_cons_zero])
  clear hK
  replace hS0 := hSs
  clear hSs hbd
  refine any_branch [6] (by kernel_rfl) rfl fun ix hix => ?_
  simp only [List.mem_cons, List.not_mem_nil, or_false] at hix
  subst hix
  refine any_op rfl rfl fun K hK => ?_
  obtain ⟨v6, u6, hr, ho6, hg6⟩ := ho.app_str (strOf [48 + 3]) (by unfold strOf; decide +kernel) (Nat.le_of_lt (Nat.lt_of_lt_of_le (Nat.lt_succ_self _) hS0.2.lt) |> fun _ => hS0.2.lt) 22
  refine wp_app _ _ _ _ hr rfl rfl rfl ?_
  have hS6 := hS0.far hg6 (fun k hk => (ho.lt hk).1)
  refine hK _ _ (fun _ => hS6) ?_
  (try simp only [Act.put]); (try simp only [List.getElem_toArray]); (try simp only [List.getElem_cons_succ]); (try simp only [List.getElem_cons_zero]); (try simp only [List.setIfInBounds_toArray]); (try simp only [List.set_cons_succ]); (try simp only [List.set_cons_zero])
  clear hK
  refine any_branch [7] (by kernel_rfl) rfl fun ix hix => ?_
  simp only [List.mem_cons, List.not_mem_nil, or_false] at hix
  subst hix
  refine any_op rfl rfl fun K hK => ?_
  go_simp
  refine hK _ _ (fun h => absurd rfl h) ?_
  (try simp only [Act.put]); (try simp only [List.getElem_toArray]); (try simp only [List.getElem_cons_succ]); (try simp only [List.getElem_cons_zero]); (try simp only [List.setIfInBounds_toArray]); (try simp only [List.set_cons_succ]); (try simp only [List.set_cons_zero])
  clear hK
  refine any_end (by kernel_rfl) ?_
  have HO := Bx.mk ho6
  have HS := Bx.mk hS6
  clear ho ho6 hg6 hr hS6 hS0
  go_wp2_with fail
  go_ret
  refine ⟨_, rfl, ?_, HS.out.1⟩
  have e : [118] ++ (strOf [48 + 3]).data.toList = [118, 51] := by unfold strOf; decide +kernel
  have h := HO.out
  simp only [List.nil_append] at h
  rw [e] at h
  exact h
set_option maxHeartbeats 4000000 in
theorem print_v3 (w : World) : Calls Try.prog 16 #[.agg #[.int .i64 1, .int .i64 0, .int .i64 3, .slice none 0 0]] w fun e w' => e = .returned (.string { data := #[118, 51] }) ∧ Below w.heap.size w w' := by
  have hb := boxE w 1 0 3 (.slice none 0 0)
  have hbe := (Below.refl w.heap.size w).alloc (Nat.le_refl _) (.cells #[.int .i64 1, .int .i64 0, .int .i64 3, .slice none 0 0] 36)
  have HB := Bx.mk hb
  have HBE := Bx.mk hbe
  have hI := fun u => is_any ⟨1, 0, 3, .nil⟩ (.slice none 0 0) (fun _ => True) u (SlF.nil _ _)
  have ht : Ex.is ⟨1, 0, 3, .nil⟩ = true := by decide +kernel
  rw [ht] at hI
  unfold Ev at hI
  have HI := Bx.mk hI
  clear hI hb hbe ht
  go_enter Try.func16, Try.ntmps16
  go_wp2_with fail
  refine (HI.out _).mono ?_
  rintro e w1 ⟨rfl, hb1⟩
  have hb2 := HB.out.below hb1 HB.out.lt
  have HBE1 := Bx.mk (HBE.out.trans (hb1.mono HBE.out.size))
  obtain ⟨c0, c1, c2, c3, _, _, _, _⟩ := cells4 hb2
  clear hb1 hb2
  go_wp2_with fail
  refine (put_v3 _).mono ?_
  rintro e w2 ⟨v, rfl, ho, hb3⟩
  have hC := ho.str (by simp)
  have HB3 := Bx.mk (HBE1.out.trans (hb3.mono HBE1.out.size))
  clear ho hb3 c0 c1 c2 c3
  go_wp2_with fail
  go_ret
  exact ⟨rfl, HB3.out⟩
end Go.Proofs.Ytfgokhafiffbaaa

/-
  Formulas: put, what a formula is printed as.
-/
namespace Go.Proofs.Ytfgokhafiffbaaa
set_option linter.unusedVariables false
open Go.RowKit Go.Lib

def Ex.sgn (k : Int) : List UInt8 := if k = 4 then [38] else if k = 5 then [124] else if k = 6 then [94] else if k = 7 then [45, 62] else [60, 45, 62]
def Ex.dig (v : Int) : UInt8 := Nat.toUInt8 (48 + v.toNat)
def Ex.par (l : List UInt8) : List UInt8 := [40] ++ l ++ [41]
/-- a node's print, of the prints of its kids -/
def Ex.prk (k v : Int) (l : List (List UInt8)) : List UInt8 :=
  if k = 1 then [118] ++ [Ex.dig v] else if k = 2 then [Ex.dig v] else if k = 3 then [33] ++ Ex.par (l.getD 0 [])
  else if k = 10 then ([97, 108, 108, 32, 118] ++ [Ex.dig v] ++ [32]) ++ Ex.par (l.getD 0 []) else if k = 11 then ([97, 110, 121, 32, 118] ++ [Ex.dig v] ++ [32]) ++ Ex.par (l.getD 0 [])
  else if k = 9 then [105, 116, 101, 40] ++ Ex.par (l.getD 0 []) ++ [44, 32] ++ Ex.par (l.getD 1 []) ++ [44, 32] ++ Ex.par (l.getD 2 []) ++ [41]
  else [40] ++ Ex.par (l.getD 0 []) ++ ([32] ++ Ex.sgn k ++ [32]) ++ Ex.par (l.getD 1 []) ++ [41]
def Fo.prs : Fo → List (List UInt8)
  | .nil => []
  | .cons k _ v kids rest => Ex.prk k v kids.prs :: rest.prs
def Ex.pr (t : Tr) : List UInt8 := Ex.prk t.k t.v t.kids.prs

/-- all but v's own block, of what was there, is as it was; v' lies where v lay, or in a new block -/
structure Fr (v : Value) (u : World) (v' : Value) (u' : World) : Prop where
  g : u.grownBy u' v.ownBlock
  o : ∀ k, v'.ownBlock = some k → v.ownBlock = some k ∨ u.heap.size ≤ k
theorem Fr.trans {v v' v'' : Value} {a b c : World} (h : Fr v a v' b) (k : Fr v' b v'' c) : Fr v a v'' c := by
  refine ⟨⟨k.g.os.trans h.g.os, k.g.tape.trans h.g.tape, k.g.output.trans h.g.output, Nat.le_trans h.g.size k.g.size, fun i hi hn => ?_⟩, fun i hi => ?_⟩
  · refine (k.g.block i (Nat.lt_of_lt_of_le hi h.g.size) (fun e => ?_)).trans (h.g.block i hi hn)
    rcases h.o i e.symm with e' | e'
    · exact hn e'.symm
    · omega
  · have hs := h.g.size
    rcases k.o i hi with e | e
    · exact h.o i e
    · exact .inr (by omega)
theorem Fr.below {v : Value} {a b : World} (hb : Below a.heap.size a b) : Fr v a v b := ⟨⟨hb.os, hb.tape, hb.output, hb.size, fun g hg _ => hb.block g hg⟩, fun k hk => .inl hk⟩
theorem Fr.low {v v' : Value} {a b : World} {base : Nat} (h : Fr v a v' b) (hv : ∀ k, v.ownBlock = some k → base ≤ k) (hb : base ≤ a.heap.size) (g : Nat) (hg : g < base) : b.heap[g]? = a.heap[g]? :=
  h.g.block g (by omega) (fun e => by have := hv g e.symm; omega)
theorem Fr.to_below {v v' : Value} {a b c : World} {base : Nat} (h : Below base a b) (k : Fr v b v' c) (hv : ∀ x, v.ownBlock = some x → base ≤ x) (hb : base ≤ b.heap.size) : Below base a c :=
  ⟨k.g.os.trans h.os, k.g.tape.trans h.tape, k.g.output.trans h.output, Nat.le_trans h.size k.g.size, fun g hg => (k.low hv hb g hg).trans (h.block g hg)⟩
/-- a string appended, and where -/
theorem OwnB.put_str {w : World} {base : Nat} {v : Value} {l : List UInt8} (h : OwnB w base v l) (s : ByteArray) (hn : l.length + s.size ≤ 1000000) (hb : base ≤ w.heap.size) (ty : TypeId) :
    ∃ v' w', (Builtin.append_ #[22, 9] ty #[v, .string s]).run Try.prog w = .ok v' w' ∧ OwnB w' base v' (l ++ s.data.toList) ∧ Fr v w v' w' := by
  obtain ⟨i, hi, hz, hs, hby⟩ := u8_info
  obtain ⟨v', w', hr, ho, hg, hnil⟩ := run_append_own_string (P := Try.prog) w base 22 9 ty 5 i Try.underlying22 Try.underlying9 hi hz hs hby v l.length _ h s (by unfold maxLen; omega) (by omega) hb
  refine ⟨v', w', hr, ?_, hg, ?_⟩
  · unfold OwnB
    rw [List.length_append, List.map_append, ← strCells_of, show s.data.toList.length = s.size from by simp]
    exact ho
  · have h0 := h
    rcases h0.2 with ⟨rfl, e⟩ | ⟨g, cap, cur, rfl, hbg, hg, hnc, hcm, hcs, htake⟩
    · by_cases hm : s.size = 0
      · have := hnil.2 ⟨rfl, hm⟩
        subst this
        intro k hk
        cases hk
      · have hr2 := run_append_nil_string (P := Try.prog) w 22 9 ty 5 i (.int .u8 0) Try.underlying22 Try.underlying9 hi hz s (by omega) (by omega) (by rw [hby]; omega)
        rw [hr] at hr2
        cases hr2
        intro k hk
        simp [Value.ownBlock] at hk
        omega
    · by_cases hroom : l.length + s.size ≤ cap
      · have hcs' : cur.size = cap := by simpa using hcs
        have hr2 := run_append_room_string (P := Try.prog) w 22 9 ty 5 i Try.underlying22 Try.underlying9 hi hs g l.length cap cur hg s hroom (by omega)
        rw [hr] at hr2
        cases hr2
        intro k hk
        exact .inl hk
      · have holds : ∀ j u, (l.map fun b => (.int .u8 (b.toNat : Int) : Value))[j]? = some u → w.cell? ((⟨g, 0, none⟩ : Addr).add j) = some u := World.ownsRow.cells h (g := g) rfl
        have hr2 := run_append_grow_string (P := Try.prog) w 22 9 ty 5 i (.int .u8 0) Try.underlying22 Try.underlying9 hi hz ⟨g, 0, none⟩ l.length cap _ (by rw [hs]; simp) holds s (by omega) (by omega) (by rw [hby]; exact growslice_fits (by omega) (by omega))
        rw [hr] at hr2
        cases hr2
        intro k hk
        simp [Value.ownBlock] at hk
        omega
/-- one byte appended, and where -/
theorem OwnB.put_one {w : World} {base : Nat} {v : Value} {l : List UInt8} (h : OwnB w base v l) (p c : Nat) (x : UInt8) (hx : w.cell? ⟨p, 0, none⟩ = some (.int .u8 (x.toNat : Int))) (hn : l.length + 1 ≤ 1000000) (hb : base ≤ w.heap.size) (ty : TypeId) :
    ∃ v' w', (Builtin.append_ #[22, 22] ty #[v, .slice (some ⟨p, 0, none⟩) 1 c]).run Try.prog w = .ok v' w' ∧ OwnB w' base v' (l ++ [x]) ∧ Fr v w v' w' := by
  obtain ⟨i, hi, hz, hs, hby⟩ := u8_info
  obtain ⟨v', w', hr, ho, hg, _, hat⟩ := run_append_own_at (P := Try.prog) w base 22 ty 5 i _ 1 1 Try.underlying22 hi hz hs hby rfl (by omega) v l.length _ h ⟨p, 0, none⟩ 1 c [.int .u8 (x.toNat : Int)] rfl
    (fun j u hj => by
      match j, hj with
      | 0, hj => cases hj; exact hx
      | j + 1, hj => simp at hj) (by intro u hu; simp at hu; subst hu; rfl) (by unfold maxLen; omega) (by omega) hb
  refine ⟨v', w', hr, ?_, hg, fun k hk => ?_⟩
  · unfold OwnB
    rw [List.length_append, List.map_append]
    exact ho
  · rcases hat with e | e
    · exact .inl (by rw [← e]; exact hk)
    · rw [e] at hk; cases hk; exact .inr (Nat.le_refl _)
/-- where put stands: w its entry, u now -/
structure PQ (base : Nat) (v0 : Value) (w u : World) (cs : Array Value) (v : Value) (l : List UInt8) : Prop where
  own : OwnB u base v l
  fr : Fr v0 w v u
  e : Blk u w.heap.size 36 cs
  le : base ≤ w.heap.size
  ne : v.ownBlock ≠ some w.heap.size
  o0 : ∀ k, v0.ownBlock = some k → base ≤ k
theorem PQ.next {base : Nat} {v0 : Value} {w u u' : World} {cs : Array Value} {v v' : Value} {l l' : List UInt8} (h : PQ base v0 w u cs v l) (ho : OwnB u' base v' l') (hf : Fr v u v' u') : PQ base v0 w u' cs v' l' :=
  ⟨ho, h.fr.trans hf, ⟨(hf.g.block _ h.e.lt (fun e => h.ne e.symm)).trans h.e.eq⟩, h.le, fun e => by
    have := h.e.lt
    rcases hf.o _ e with e' | e'
    · exact h.ne e'
    · omega, h.o0⟩
theorem PQ.step {base : Nat} {v0 : Value} {w u u' : World} {cs : Array Value} {v : Value} {l : List UInt8} (h : PQ base v0 w u cs v l) (hb : Below u.heap.size u u') : PQ base v0 w u' cs v l := h.next (h.own.below hb) (Fr.below hb)
theorem PQ.sz {base : Nat} {v0 : Value} {w u : World} {cs : Array Value} {v : Value} {l : List UInt8} (h : PQ base v0 w u cs v l) : base ≤ u.heap.size := Nat.le_trans h.le h.fr.g.size
theorem PQ.low {base : Nat} {v0 : Value} {w u : World} {cs : Array Value} {v : Value} {l : List UInt8} (h : PQ base v0 w u cs v l) (g : Nat) (hg : g < base) : u.heap[g]? = w.heap[g]? := h.fr.low h.o0 h.le g hg
theorem PQ.start {base : Nat} {w : World} {k a x : Int} {sl : Value} {v : Value} {l : List UInt8} (ho : OwnB w base v l) (hb : base ≤ w.heap.size) :
    PQ base v w (w.alloc (.cells #[.int .i64 k, .int .i64 a, .int .i64 x, sl] 36)) #[.int .i64 k, .int .i64 a, .int .i64 x, sl] v l :=
  ⟨ho.below ((Below.refl _ _).alloc (Nat.le_refl _) _), Fr.below ((Below.refl _ _).alloc (Nat.le_refl _) _), boxE _ _ _ _ _, hb, fun e => by have := (ho.lt e).2; omega, fun k hk => (ho.lt hk).1⟩
/-- a byte of one's own, that is not v's -/
structure Fl (u : World) (v : Value) (g : Nat) (x : UInt8) : Prop where
  blk : Blk u g 5 #[.int .u8 (x.toNat : Int)]
  ne : v.ownBlock ≠ some g
theorem Fl.next {u u' : World} {v v' : Value} {g : Nat} {x : UInt8} (h : Fl u v g x) (hf : Fr v u v' u') : Fl u' v' g x :=
  ⟨⟨(hf.g.block _ h.blk.lt (fun e => h.ne e.symm)).trans h.blk.eq⟩, fun e => by
    have := h.blk.lt
    rcases hf.o _ e with e' | e'
    · exact h.ne e'
    · omega⟩
theorem Fl.new {u : World} {v : Value} {base : Nat} {l : List UInt8} (ho : OwnB u base v l) (x : UInt8) : Fl (u.alloc (.cells #[.int .u8 (x.toNat : Int)] 5)) v u.heap.size x :=
  ⟨Blk.new _ _ _, fun e => by have := (ho.lt e).2; omega⟩
/-- one kid of what is printed, where it lies -/
structure KidB (w : World) (base b o : Nat) (x : Tr) (sx : Value) : Prop where
  lt : b < base
  c0 : w.cell? ⟨b, o, none⟩ = some (.int .i64 x.k)
  c1 : w.cell? ⟨b, o + 1, none⟩ = some (.int .i64 x.a)
  c2 : w.cell? ⟨b, o + 2, none⟩ = some (.int .i64 x.v)
  c3 : w.cell? ⟨b, o + 3, none⟩ = some sx
  sl : SlF w (fun g => g < base) sx x.kids
theorem KidB.fr {w u : World} {base b o : Nat} {x : Tr} {sx : Value} (h : KidB w base b o x sx) (hf : ∀ g, g < base → u.heap[g]? = w.heap[g]?) : KidB u base b o x sx :=
  ⟨h.lt, (World.cell?_of_block (a := ⟨b, o, none⟩) (hf b h.lt)).trans h.c0, (World.cell?_of_block (a := ⟨b, o + 1, none⟩) (hf b h.lt)).trans h.c1, (World.cell?_of_block (a := ⟨b, o + 2, none⟩) (hf b h.lt)).trans h.c2,
    (World.cell?_of_block (a := ⟨b, o + 3, none⟩) (hf b h.lt)).trans h.c3, h.sl.kept fun g hg _ => hf g hg⟩
/-- what is known of put for what has so few nodes -/
def Pw (n : Nat) : Prop := ∀ (t : Tr) (sl : Value) (base : Nat) (v : Value) (l : List UInt8) (u : World), (t.on .nil).nodes ≤ n → (t.on .nil).allPlain = true → SlF u (fun g => g < base) sl t.kids → OwnB u base v l → base ≤ u.heap.size →
  l.length + 32 * (t.on .nil).nodes ≤ 500000 → Calls Try.prog 35 #[v, Ev t sl] u fun e w' => ∃ v', e = .returned v' ∧ OwnB w' base v' (l ++ Ex.pr t) ∧ Fr v u v' w'
section
variable {a : Act} {u : World} {o : Oper} {x y : Operand}
theorem exec_loadX {p off : Nat} {t : Tr} {sl : Value} (hop : o.op = .load 36 x) (hx : a.eval x = .pointer (some ⟨p, off, none⟩)) (h0 : u.cell? ⟨p, off, none⟩ = some (.int .i64 t.k)) (h1 : u.cell? ⟨p, off + 1, none⟩ = some (.int .i64 t.a))
    (h2 : u.cell? ⟨p, off + 2, none⟩ = some (.int .i64 t.v)) (h3 : u.cell? ⟨p, off + 3, none⟩ = some sl) :
    (execOp a.eval o).run Try.prog u = .ok (.value (Ev t sl)) u := by
  unfold execOp
  simp only [hop, hx]
  go_simp
  rfl
theorem exec_loadS {p off : Nat} {v : Value} (hop : o.op = .load 34 x) (hx : a.eval x = .pointer (some ⟨p, off, none⟩)) (hc : u.cell? ⟨p, off, none⟩ = some v) :
    (execOp a.eval o).run Try.prog u = .ok (.value v) u := by
  unfold execOp
  simp only [hop, hx]
  go_simp
end
theorem sign_any (k : Int) (h : 4 ≤ k ∧ k ≤ 8) (w : World) : Calls Try.prog 55 #[.int .i64 k] w fun e w' => e = .returned (.string ⟨(Ex.sgn k).toArray⟩) ∧ w' = w := by
  have hc : k = 4 ∨ k = 5 ∨ k = 6 ∨ k = 7 ∨ k = 8 := by omega
  rcases hc with rfl | rfl | rfl | rfl | rfl
  all_goals
    (go_enter Try.func55, Try.ntmps55
     go_wp2_with fail
     go_ret
     exact ⟨rfl, rfl⟩)

theorem getD3 : ∀ (L : List (List UInt8)), (L.getD 0 []).length + (L.getD 1 []).length + (L.getD 2 []).length ≤ (L.map List.length).sum
  | [] => by simp
  | [a] => by simp
  | [a, b] => by simp
  | a :: b :: c :: r => by simp; omega
theorem prk_len (k v : Int) (L : List (List UInt8)) : (Ex.prk k v L).length ≤ 16 + (L.map List.length).sum := by
  have h := getD3 L
  have hs : (Ex.sgn k).length ≤ 3 := by unfold Ex.sgn; repeat' split
                                        all_goals simp
  unfold Ex.prk Ex.par
  repeat' split
  all_goals (simp only [List.length_append, List.length_cons, List.length_nil]; omega)
theorem prs_len : ∀ F : Fo, (F.prs.map List.length).sum ≤ 16 * F.nodes
  | .nil => by simp [Fo.prs]
  | .cons k a v kids rest => by
    have h1 := prs_len kids
    have h2 := prs_len rest
    have h3 := prk_len k v kids.prs
    simp only [Fo.prs, Fo.nodes, List.map_cons, List.sum_cons]
    omega
theorem pr_len (t : Tr) : (Ex.pr t).length ≤ 16 * (t.on .nil).nodes := by
  have h1 := prs_len t.kids
  have h3 := prk_len t.k t.v t.kids.prs
  rw [Fo.nodes_on]
  unfold Ex.pr
  omega
theorem str_add' (s t : ByteArray) (h : s.size + t.size ≤ 1000000) (w : World) : (Op.stringOp .add s t).run Try.prog w = .ok (.string (s ++ t)) w := run_string_add_sum w s t (by omega)
theorem strOf_size (l : List Nat) : (strOf l).size = l.length := by unfold strOf; simp [ByteArray.size]
theorem dig_of (m : Nat) : (strOf [48 + m]).data.toList = [Ex.dig (m : Int)] := by unfold strOf Ex.dig; simp
section
variable {a : Act} {u : World} {o : Oper} {x y : Operand}

theorem exec_ix01 {b o_ c : Nat} (hop : o.op = .indexAddr 34 x y) (hx : a.eval x = .slice (some ⟨b, o_, none⟩) 1 c) (hy : a.eval y = .int .i64 0) :
    (execOp a.eval o).run Try.prog u = .ok (.value (.pointer (some ⟨b, o_, none⟩))) u := by
  unfold execOp
  simp only [hop, hx, hy]
  go_simp
theorem exec_ix02 {b o_ c : Nat} (hop : o.op = .indexAddr 34 x y) (hx : a.eval x = .slice (some ⟨b, o_, none⟩) 2 c) (hy : a.eval y = .int .i64 0) :
    (execOp a.eval o).run Try.prog u = .ok (.value (.pointer (some ⟨b, o_, none⟩))) u := by
  unfold execOp
  simp only [hop, hx, hy]
  go_simp
theorem exec_ix12 {b o_ c : Nat} (hop : o.op = .indexAddr 34 x y) (hx : a.eval x = .slice (some ⟨b, o_, none⟩) 2 c) (hy : a.eval y = .int .i64 1) :
    (execOp a.eval o).run Try.prog u = .ok (.value (.pointer (some ⟨b, (o_ + 4), none⟩))) u := by
  unfold execOp
  simp only [hop, hx, hy]
  go_simp
theorem exec_ix03 {b o_ c : Nat} (hop : o.op = .indexAddr 34 x y) (hx : a.eval x = .slice (some ⟨b, o_, none⟩) 3 c) (hy : a.eval y = .int .i64 0) :
    (execOp a.eval o).run Try.prog u = .ok (.value (.pointer (some ⟨b, o_, none⟩))) u := by
  unfold execOp
  simp only [hop, hx, hy]
  go_simp
theorem exec_ix13 {b o_ c : Nat} (hop : o.op = .indexAddr 34 x y) (hx : a.eval x = .slice (some ⟨b, o_, none⟩) 3 c) (hy : a.eval y = .int .i64 1) :
    (execOp a.eval o).run Try.prog u = .ok (.value (.pointer (some ⟨b, (o_ + 4), none⟩))) u := by
  unfold execOp
  simp only [hop, hx, hy]
  go_simp
theorem exec_ix23 {b o_ c : Nat} (hop : o.op = .indexAddr 34 x y) (hx : a.eval x = .slice (some ⟨b, o_, none⟩) 3 c) (hy : a.eval y = .int .i64 2) :
    (execOp a.eval o).run Try.prog u = .ok (.value (.pointer (some ⟨b, (o_ + 8), none⟩))) u := by
  unfold execOp
  simp only [hop, hx, hy]
  go_simp
end
section
variable {a : Act} {u : World} {o : Oper} {x y : Operand}
theorem exec_addS {s t : ByteArray} (hop : o.op = .binOp .add 9 x y 9) (hx : a.eval x = .string s) (hy : a.eval y = .string t) (h : s.size + t.size ≤ 1000000) :
    (execOp a.eval o).run Try.prog u = .ok (.value (.string (s ++ t))) u := by
  have ha := str_add' s t h u
  unfold execOp
  simp only [hop, hx, hy]
  go_simp
end
theorem lst3 (a b c : ByteArray) : ((a ++ b) ++ c).data.toList = a.data.toList ++ b.data.toList ++ c.data.toList := by simp [ByteArray.data_append]
theorem size_lst (a : ByteArray) : a.size = a.data.toList.length := by rw [Array.length_toList]; rfl
theorem sgn_len (k : Int) : (Ex.sgn k).length ≤ 3 := by unfold Ex.sgn; repeat' split
                                                        all_goals simp

theorem OwnB.sl {w : World} {base : Nat} {v : Value} {l : List UInt8} (h : OwnB w base v l) : ∃ p z c, v = .slice p z c := by
  rcases h.2 with ⟨e, _⟩ | ⟨g, c, cu, e, _⟩
  · exact ⟨_, _, _, e⟩
  · exact ⟨_, _, _, e⟩

set_option maxHeartbeats 8000000 in
theorem in_any (n : Nat) (ih : Pw n) (t : Tr) (sl : Value) (base : Nat) (v : Value) (l : List UInt8) (w : World) (hn : (t.on .nil).nodes ≤ n) (hp : (t.on .nil).allPlain = true) (hs : SlF w (fun g => g < base) sl t.kids) (ho : OwnB w base v l) (hb : base ≤ w.heap.size) (hl : l.length + 2 + 32 * (t.on .nil).nodes ≤ 500000) (hlp : (Ex.pr t).length ≤ 16 * (t.on .nil).nodes) :
    Calls Try.prog 53 #[v, Ev t sl] w fun e w' => ∃ v', e = .returned v' ∧ OwnB w' base v' (l ++ Ex.par (Ex.pr t)) ∧ Fr v w v' w' := by
  obtain ⟨pp, cap, rfl⟩ := hs.is
  have hP : PQ base v w (w.alloc (.cells #[.int .i64 t.k, .int .i64 t.a, .int .i64 t.v, .slice pp t.kids.len cap] 36)) #[.int .i64 t.k, .int .i64 t.a, .int .i64 t.v, .slice pp t.kids.len cap] v l := PQ.start ho hb
  have HP := Bx.mk hP
  have HN := Bx.mk hn
  have HA := Bx.mk hp
  have HS := Bx.mk hs
  have HL := Bx.mk hl
  have HLP := Bx.mk hlp
  have IH := Bx.mk ih
  clear hP hn hp hs ho hl hlp ih
  unfold Ev
  go_enter Try.func53, Try.ntmps53
  go_wp2_with fail
  refine region_any 100 (fun u => ∃ v' l', PQ base v w u #[.int .i64 t.k, .int .i64 t.a, .int .i64 t.v, .slice pp t.kids.len cap] v' l') (by kernel_rfl) ?_
  generalize hu : World.drew _ = u0
  have hq0 : PQ base v w u0 #[.int .i64 t.k, .int .i64 t.a, .int .i64 t.v, .slice pp t.kids.len cap] v l := by rw [← hu]; exact HP.out.step ((Below.refl _ _).drew)
  clear hu HP
  refine any_take (i := 0) (v) rfl rfl (by kernel_rfl) (by kernel_rfl) (by kernel_rfl) (by kernel_rfl) (fun _ _ d _ _ h => by cases d <;> exact h) (fun u hS => rfl) ⟨_, _, hq0⟩ ?_
  (try simp only [Act.put]); (try simp only [List.getElem_toArray]); (try simp only [List.getElem_cons_succ]); (try simp only [List.getElem_cons_zero]); (try simp only [List.setIfInBounds_toArray]); (try simp only [List.set_cons_succ]); (try simp only [List.set_cons_zero])
  refine any_take (i := 3) (Ev t (.slice pp t.kids.len cap)) rfl rfl (by kernel_rfl) (by kernel_rfl) (by kernel_rfl) (by kernel_rfl) (fun _ _ d _ _ h => by cases d <;> exact h) (fun u hS => by obtain ⟨v9, l9, q9⟩ := hS; exact exec_loadE rfl rfl q9.e) ⟨_, _, hq0⟩ ?_
  (try simp only [Act.put]); (try simp only [List.getElem_toArray]); (try simp only [List.getElem_cons_succ]); (try simp only [List.getElem_cons_zero]); (try simp only [List.setIfInBounds_toArray]); (try simp only [List.set_cons_succ]); (try simp only [List.set_cons_zero])
  refine any_branch [1, 5] (by kernel_rfl) rfl fun ix hix => ?_
  simp only [List.mem_cons, List.not_mem_nil, or_false] at hix
  rcases hix with rfl | rfl
  · refine any_op rfl rfl fun K hK => ?_
    go_simp
    have hN1 := Fl.new hq0.own 40
    have hf1 := Fr.below (v := v) ((Below.refl u0.heap.size u0).alloc (Nat.le_refl _) (.cells #[.int .u8 40] 5))
    have hq1 := hq0.step ((Below.refl _ _).alloc (Nat.le_refl _) (.cells #[.int .u8 40] 5))
    change Fl (u0.alloc (.cells #[.int .u8 40] 5)) _ _ _ at hN1
    generalize u0.heap.size = pn1 at hN1 ⊢
    generalize u0.alloc (.cells #[.int .u8 40] 5) = u1 at hN1 hq1 hf1 ⊢
    refine hK _ _ (fun _ => ⟨_, _, hq1⟩) ?_
    (try simp only [Act.put]); (try simp only [List.getElem_toArray]); (try simp only [List.getElem_cons_succ]); (try simp only [List.getElem_cons_zero]); (try simp only [List.setIfInBounds_toArray]); (try simp only [List.set_cons_succ]); (try simp only [List.set_cons_zero])
    clear hK
    refine any_branch [2, 5] (by kernel_rfl) rfl fun ix hix => ?_
    simp only [List.mem_cons, List.not_mem_nil, or_false] at hix
    rcases hix with rfl | rfl
    · refine any_op rfl rfl fun K hK => ?_
      obtain ⟨v2, u2, hr2, ho2, hf2⟩ := hq1.own.put_one pn1 1 40 (hN1.blk.cell 0) (by have h0 := HL.out; have hx := HLP.out; (try simp only [Ex.par]); (try simp only [List.length_append]); (try simp only [List.length_cons]); (try simp only [List.length_nil]); omega) hq1.sz 22
      refine wp_app _ _ _ _ hr2 rfl rfl rfl ?_
      have hq2 := hq1.next ho2 hf2
      refine hK _ _ (fun _ => ⟨_, _, hq2⟩) ?_
      (try simp only [Act.put]); (try simp only [List.getElem_toArray]); (try simp only [List.getElem_cons_succ]); (try simp only [List.getElem_cons_zero]); (try simp only [List.setIfInBounds_toArray]); (try simp only [List.set_cons_succ]); (try simp only [List.set_cons_zero])
      clear hK
      refine any_branch [4, 5] (by kernel_rfl) rfl fun ix hix => ?_
      simp only [List.mem_cons, List.not_mem_nil, or_false] at hix
      rcases hix with rfl | rfl
      · refine any_op rfl rfl fun K hK => ?_
        go_simp
        refine (IH.out t _ base _ _ u2 HN.out HA.out (HS.out.kept fun g hg _ => hq2.low g hg) hq2.own hq2.sz (by have h0 := HL.out; have hx := HLP.out; (try simp only [Ex.par]); (try simp only [List.length_append]); (try simp only [List.length_cons]); (try simp only [List.length_nil]); omega)).mono ?_
        rintro e u3 ⟨v3, rfl, ho3, hf3⟩
        have hq3 := hq2.next ho3 hf3
        refine hK _ _ (fun _ => ⟨_, _, hq3⟩) ?_
        (try simp only [Act.put]); (try simp only [List.getElem_toArray]); (try simp only [List.getElem_cons_succ]); (try simp only [List.getElem_cons_zero]); (try simp only [List.setIfInBounds_toArray]); (try simp only [List.set_cons_succ]); (try simp only [List.set_cons_zero])
        clear hK
        refine any_branch [5] (by kernel_rfl) rfl fun ix hix => ?_
        simp only [List.mem_cons, List.not_mem_nil, or_false] at hix
        subst hix
        refine any_op rfl rfl fun K hK => ?_
        go_simp
        have hN4 := Fl.new hq3.own 41
        have hf4 := Fr.below (v := v3) ((Below.refl u3.heap.size u3).alloc (Nat.le_refl _) (.cells #[.int .u8 41] 5))
        have hq4 := hq3.step ((Below.refl _ _).alloc (Nat.le_refl _) (.cells #[.int .u8 41] 5))
        change Fl (u3.alloc (.cells #[.int .u8 41] 5)) _ _ _ at hN4
        generalize u3.heap.size = pn4 at hN4 ⊢
        generalize u3.alloc (.cells #[.int .u8 41] 5) = u4 at hN4 hq4 hf4 ⊢
        refine hK _ _ (fun _ => ⟨_, _, hq4⟩) ?_
        (try simp only [Act.put]); (try simp only [List.getElem_toArray]); (try simp only [List.getElem_cons_succ]); (try simp only [List.getElem_cons_zero]); (try simp only [List.setIfInBounds_toArray]); (try simp only [List.set_cons_succ]); (try simp only [List.set_cons_zero])
        clear hK
        refine any_branch [6] (by kernel_rfl) rfl fun ix hix => ?_
        simp only [List.mem_cons, List.not_mem_nil, or_false] at hix
        subst hix
        refine any_op rfl rfl fun K hK => ?_
        obtain ⟨v5, u5, hr5, ho5, hf5⟩ := hq4.own.put_one pn4 1 41 (hN4.blk.cell 0) (by have h0 := HL.out; have hx := HLP.out; (try simp only [Ex.par]); (try simp only [List.length_append]); (try simp only [List.length_cons]); (try simp only [List.length_nil]); omega) hq4.sz 22
        refine wp_app _ _ _ _ hr5 rfl rfl rfl ?_
        have hq5 := hq4.next ho5 hf5
        refine hK _ _ (fun _ => ⟨_, _, hq5⟩) ?_
        (try simp only [Act.put]); (try simp only [List.getElem_toArray]); (try simp only [List.getElem_cons_succ]); (try simp only [List.getElem_cons_zero]); (try simp only [List.setIfInBounds_toArray]); (try simp only [List.set_cons_succ]); (try simp only [List.set_cons_zero])
        clear hK
        refine any_branch [7] (by kernel_rfl) rfl fun ix hix => ?_
        simp only [List.mem_cons, List.not_mem_nil, or_false] at hix
        subst hix
        refine any_op rfl rfl fun K hK => ?_
        go_simp
        refine hK _ _ (fun _ => ⟨_, _, hq5⟩) ?_
        (try simp only [Act.put]); (try simp only [List.getElem_toArray]); (try simp only [List.getElem_cons_succ]); (try simp only [List.getElem_cons_zero]); (try simp only [List.setIfInBounds_toArray]); (try simp only [List.set_cons_succ]); (try simp only [List.set_cons_zero])
        clear hK
        refine any_end (by kernel_rfl) ?_
        have HQ := Bx.mk hq5
        have hsl := hq5.own.sl
        clear hq0 hq1 hq2 hq3 hq4 hq5 hf1 hf2 hf3 hf4 hf5
        obtain ⟨p9, z9, y9, rfl⟩ := hsl
        go_wp2_with fail
        go_ret
        refine ⟨.slice p9 z9 y9, rfl, ?_, HQ.out.fr⟩
        have h5 := HQ.out.own
        unfold Ex.par
        simpa only [List.append_assoc] using h5
      · refine any_op rfl rfl fun K hK => ?_
        go_simp
        have hN3 := Fl.new hq2.own 41
        have hf3 := Fr.below (v := v2) ((Below.refl u2.heap.size u2).alloc (Nat.le_refl _) (.cells #[.int .u8 41] 5))
        have hq3 := hq2.step ((Below.refl _ _).alloc (Nat.le_refl _) (.cells #[.int .u8 41] 5))
        change Fl (u2.alloc (.cells #[.int .u8 41] 5)) _ _ _ at hN3
        generalize u2.heap.size = pn3 at hN3 ⊢
        generalize u2.alloc (.cells #[.int .u8 41] 5) = u3 at hN3 hq3 hf3 ⊢
        refine hK _ _ (fun _ => ⟨_, _, hq3⟩) ?_
        (try simp only [Act.put]); (try simp only [List.getElem_toArray]); (try simp only [List.getElem_cons_succ]); (try simp only [List.getElem_cons_zero]); (try simp only [List.setIfInBounds_toArray]); (try simp only [List.set_cons_succ]); (try simp only [List.set_cons_zero])
        clear hK
        refine any_branch [4] (by kernel_rfl) rfl fun ix hix => ?_
        simp only [List.mem_cons, List.not_mem_nil, or_false] at hix
        subst hix
        refine any_op rfl rfl fun K hK => ?_
        go_simp
        refine (IH.out t _ base _ _ u3 HN.out HA.out (HS.out.kept fun g hg _ => hq3.low g hg) hq3.own hq3.sz (by have h0 := HL.out; have hx := HLP.out; (try simp only [Ex.par]); (try simp only [List.length_append]); (try simp only [List.length_cons]); (try simp only [List.length_nil]); omega)).mono ?_
        rintro e u4 ⟨v4, rfl, ho4, hf4⟩
        have hq4 := hq3.next ho4 hf4
        have hF5_4 := hN3.next hf4
        refine hK _ _ (fun _ => ⟨_, _, hq4⟩) ?_
        (try simp only [Act.put]); (try simp only [List.getElem_toArray]); (try simp only [List.getElem_cons_succ]); (try simp only [List.getElem_cons_zero]); (try simp only [List.setIfInBounds_toArray]); (try simp only [List.set_cons_succ]); (try simp only [List.set_cons_zero])
        clear hK
        refine any_branch [6] (by kernel_rfl) rfl fun ix hix => ?_
        simp only [List.mem_cons, List.not_mem_nil, or_false] at hix
        subst hix
        refine any_op rfl rfl fun K hK => ?_
        obtain ⟨v5, u5, hr5, ho5, hf5⟩ := hq4.own.put_one pn3 1 41 (hF5_4.blk.cell 0) (by have h0 := HL.out; have hx := HLP.out; (try simp only [Ex.par]); (try simp only [List.length_append]); (try simp only [List.length_cons]); (try simp only [List.length_nil]); omega) hq4.sz 22
        refine wp_app _ _ _ _ hr5 rfl rfl rfl ?_
        have hq5 := hq4.next ho5 hf5
        refine hK _ _ (fun _ => ⟨_, _, hq5⟩) ?_
        (try simp only [Act.put]); (try simp only [List.getElem_toArray]); (try simp only [List.getElem_cons_succ]); (try simp only [List.getElem_cons_zero]); (try simp only [List.setIfInBounds_toArray]); (try simp only [List.set_cons_succ]); (try simp only [List.set_cons_zero])
        clear hK
        refine any_branch [7] (by kernel_rfl) rfl fun ix hix => ?_
        simp only [List.mem_cons, List.not_mem_nil, or_false] at hix
        subst hix
        refine any_op rfl rfl fun K hK => ?_
        go_simp
        refine hK _ _ (fun _ => ⟨_, _, hq5⟩) ?_
        (try simp only [Act.put]); (try simp only [List.getElem_toArray]); (try simp only [List.getElem_cons_succ]); (try simp only [List.getElem_cons_zero]); (try simp only [List.setIfInBounds_toArray]); (try simp only [List.set_cons_succ]); (try simp only [List.set_cons_zero])
        clear hK
        refine any_end (by kernel_rfl) ?_
        have HQ := Bx.mk hq5
        have hsl := hq5.own.sl
        clear hq0 hq1 hq2 hq3 hq4 hq5 hf1 hf2 hf3 hf4 hf5
        obtain ⟨p9, z9, y9, rfl⟩ := hsl
        go_wp2_with fail
        go_ret
        refine ⟨.slice p9 z9 y9, rfl, ?_, HQ.out.fr⟩
        have h5 := HQ.out.own
        unfold Ex.par
        simpa only [List.append_assoc] using h5
    · refine any_op rfl rfl fun K hK => ?_
      go_simp
      have hN2 := Fl.new hq1.own 41
      have hf2 := Fr.below (v := v) ((Below.refl u1.heap.size u1).alloc (Nat.le_refl _) (.cells #[.int .u8 41] 5))
      have hq2 := hq1.step ((Below.refl _ _).alloc (Nat.le_refl _) (.cells #[.int .u8 41] 5))
      change Fl (u1.alloc (.cells #[.int .u8 41] 5)) _ _ _ at hN2
      generalize u1.heap.size = pn2 at hN2 ⊢
      generalize u1.alloc (.cells #[.int .u8 41] 5) = u2 at hN2 hq2 hf2 ⊢
      have hF1_2 := hN1.next hf2
      refine hK _ _ (fun _ => ⟨_, _, hq2⟩) ?_
      (try simp only [Act.put]); (try simp only [List.getElem_toArray]); (try simp only [List.getElem_cons_succ]); (try simp only [List.getElem_cons_zero]); (try simp only [List.setIfInBounds_toArray]); (try simp only [List.set_cons_succ]); (try simp only [List.set_cons_zero])
      clear hK
      refine any_branch [2] (by kernel_rfl) rfl fun ix hix => ?_
      simp only [List.mem_cons, List.not_mem_nil, or_false] at hix
      subst hix
      refine any_op rfl rfl fun K hK => ?_
      obtain ⟨v3, u3, hr3, ho3, hf3⟩ := hq2.own.put_one pn1 1 40 (hF1_2.blk.cell 0) (by have h0 := HL.out; have hx := HLP.out; (try simp only [Ex.par]); (try simp only [List.length_append]); (try simp only [List.length_cons]); (try simp only [List.length_nil]); omega) hq2.sz 22
      refine wp_app _ _ _ _ hr3 rfl rfl rfl ?_
      have hq3 := hq2.next ho3 hf3
      have hF5_3 := hN2.next hf3
      refine hK _ _ (fun _ => ⟨_, _, hq3⟩) ?_
      (try simp only [Act.put]); (try simp only [List.getElem_toArray]); (try simp only [List.getElem_cons_succ]); (try simp only [List.getElem_cons_zero]); (try simp only [List.setIfInBounds_toArray]); (try simp only [List.set_cons_succ]); (try simp only [List.set_cons_zero])
      clear hK
      refine any_branch [4] (by kernel_rfl) rfl fun ix hix => ?_
      simp only [List.mem_cons, List.not_mem_nil, or_false] at hix
      subst hix
      refine any_op rfl rfl fun K hK => ?_
      go_simp
      refine (IH.out t _ base _ _ u3 HN.out HA.out (HS.out.kept fun g hg _ => hq3.low g hg) hq3.own hq3.sz (by have h0 := HL.out; have hx := HLP.out; (try simp only [Ex.par]); (try simp only [List.length_append]); (try simp only [List.length_cons]); (try simp only [List.length_nil]); omega)).mono ?_
      rintro e u4 ⟨v4, rfl, ho4, hf4⟩
      have hq4 := hq3.next ho4 hf4
      have hF5_4 := hF5_3.next hf4
      refine hK _ _ (fun _ => ⟨_, _, hq4⟩) ?_
      (try simp only [Act.put]); (try simp only [List.getElem_toArray]); (try simp only [List.getElem_cons_succ]); (try simp only [List.getElem_cons_zero]); (try simp only [List.setIfInBounds_toArray]); (try simp only [List.set_cons_succ]); (try simp only [List.set_cons_zero])
      clear hK
      refine any_branch [6] (by kernel_rfl) rfl fun ix hix => ?_
      simp only [List.mem_cons, List.not_mem_nil, or_false] at hix
      subst hix
      refine any_op rfl rfl fun K hK => ?_
      obtain ⟨v5, u5, hr5, ho5, hf5⟩ := hq4.own.put_one pn2 1 41 (hF5_4.blk.cell 0) (by have h0 := HL.out; have hx := HLP.out; (try simp only [Ex.par]); (try simp only [List.length_append]); (try simp only [List.length_cons]); (try simp only [List.length_nil]); omega) hq4.sz 22
      refine wp_app _ _ _ _ hr5 rfl rfl rfl ?_
      have hq5 := hq4.next ho5 hf5
      refine hK _ _ (fun _ => ⟨_, _, hq5⟩) ?_
      (try simp only [Act.put]); (try simp only [List.getElem_toArray]); (try simp only [List.getElem_cons_succ]); (try simp only [List.getElem_cons_zero]); (try simp only [List.setIfInBounds_toArray]); (try simp only [List.set_cons_succ]); (try simp only [List.set_cons_zero])
      clear hK
      refine any_branch [7] (by kernel_rfl) rfl fun ix hix => ?_
      simp only [List.mem_cons, List.not_mem_nil, or_false] at hix
      subst hix
      refine any_op rfl rfl fun K hK => ?_
      go_simp
      refine hK _ _ (fun _ => ⟨_, _, hq5⟩) ?_
      (try simp only [Act.put]); (try simp only [List.getElem_toArray]); (try simp only [List.getElem_cons_succ]); (try simp only [List.getElem_cons_zero]); (try simp only [List.setIfInBounds_toArray]); (try simp only [List.set_cons_succ]); (try simp only [List.set_cons_zero])
      clear hK
      refine any_end (by kernel_rfl) ?_
      have HQ := Bx.mk hq5
      have hsl := hq5.own.sl
      clear hq0 hq1 hq2 hq3 hq4 hq5 hf1 hf2 hf3 hf4 hf5
      obtain ⟨p9, z9, y9, rfl⟩ := hsl
      go_wp2_with fail
      go_ret
      refine ⟨.slice p9 z9 y9, rfl, ?_, HQ.out.fr⟩
      have h5 := HQ.out.own
      unfold Ex.par
      simpa only [List.append_assoc] using h5
  · refine any_op rfl rfl fun K hK => ?_
    go_simp
    have hN1 := Fl.new hq0.own 41
    have hf1 := Fr.below (v := v) ((Below.refl u0.heap.size u0).alloc (Nat.le_refl _) (.cells #[.int .u8 41] 5))
    have hq1 := hq0.step ((Below.refl _ _).alloc (Nat.le_refl _) (.cells #[.int .u8 41] 5))
    change Fl (u0.alloc (.cells #[.int .u8 41] 5)) _ _ _ at hN1
    generalize u0.heap.size = pn1 at hN1 ⊢
    generalize u0.alloc (.cells #[.int .u8 41] 5) = u1 at hN1 hq1 hf1 ⊢
    refine hK _ _ (fun _ => ⟨_, _, hq1⟩) ?_
    (try simp only [Act.put]); (try simp only [List.getElem_toArray]); (try simp only [List.getElem_cons_succ]); (try simp only [List.getElem_cons_zero]); (try simp only [List.setIfInBounds_toArray]); (try simp only [List.set_cons_succ]); (try simp only [List.set_cons_zero])
    clear hK
    refine any_branch [1] (by kernel_rfl) rfl fun ix hix => ?_
    simp only [List.mem_cons, List.not_mem_nil, or_false] at hix
    subst hix
    refine any_op rfl rfl fun K hK => ?_
    go_simp
    have hN2 := Fl.new hq1.own 40
    have hf2 := Fr.below (v := v) ((Below.refl u1.heap.size u1).alloc (Nat.le_refl _) (.cells #[.int .u8 40] 5))
    have hq2 := hq1.step ((Below.refl _ _).alloc (Nat.le_refl _) (.cells #[.int .u8 40] 5))
    change Fl (u1.alloc (.cells #[.int .u8 40] 5)) _ _ _ at hN2
    generalize u1.heap.size = pn2 at hN2 ⊢
    generalize u1.alloc (.cells #[.int .u8 40] 5) = u2 at hN2 hq2 hf2 ⊢
    have hF5_2 := hN1.next hf2
    refine hK _ _ (fun _ => ⟨_, _, hq2⟩) ?_
    (try simp only [Act.put]); (try simp only [List.getElem_toArray]); (try simp only [List.getElem_cons_succ]); (try simp only [List.getElem_cons_zero]); (try simp only [List.setIfInBounds_toArray]); (try simp only [List.set_cons_succ]); (try simp only [List.set_cons_zero])
    clear hK
    refine any_branch [2] (by kernel_rfl) rfl fun ix hix => ?_
    simp only [List.mem_cons, List.not_mem_nil, or_false] at hix
    subst hix
    refine any_op rfl rfl fun K hK => ?_
    obtain ⟨v3, u3, hr3, ho3, hf3⟩ := hq2.own.put_one pn2 1 40 (hN2.blk.cell 0) (by have h0 := HL.out; have hx := HLP.out; (try simp only [Ex.par]); (try simp only [List.length_append]); (try simp only [List.length_cons]); (try simp only [List.length_nil]); omega) hq2.sz 22
    refine wp_app _ _ _ _ hr3 rfl rfl rfl ?_
    have hq3 := hq2.next ho3 hf3
    have hF5_3 := hF5_2.next hf3
    refine hK _ _ (fun _ => ⟨_, _, hq3⟩) ?_
    (try simp only [Act.put]); (try simp only [List.getElem_toArray]); (try simp only [List.getElem_cons_succ]); (try simp only [List.getElem_cons_zero]); (try simp only [List.setIfInBounds_toArray]); (try simp only [List.set_cons_succ]); (try simp only [List.set_cons_zero])
    clear hK
    refine any_branch [4] (by kernel_rfl) rfl fun ix hix => ?_
    simp only [List.mem_cons, List.not_mem_nil, or_false] at hix
    subst hix
    refine any_op rfl rfl fun K hK => ?_
    go_simp
    refine (IH.out t _ base _ _ u3 HN.out HA.out (HS.out.kept fun g hg _ => hq3.low g hg) hq3.own hq3.sz (by have h0 := HL.out; have hx := HLP.out; (try simp only [Ex.par]); (try simp only [List.length_append]); (try simp only [List.length_cons]); (try simp only [List.length_nil]); omega)).mono ?_
    rintro e u4 ⟨v4, rfl, ho4, hf4⟩
    have hq4 := hq3.next ho4 hf4
    have hF5_4 := hF5_3.next hf4
    refine hK _ _ (fun _ => ⟨_, _, hq4⟩) ?_
    (try simp only [Act.put]); (try simp only [List.getElem_toArray]); (try simp only [List.getElem_cons_succ]); (try simp only [List.getElem_cons_zero]); (try simp only [List.setIfInBounds_toArray]); (try simp only [List.set_cons_succ]); (try simp only [List.set_cons_zero])
    clear hK
    refine any_branch [6] (by kernel_rfl) rfl fun ix hix => ?_
    simp only [List.mem_cons, List.not_mem_nil, or_false] at hix
    subst hix
    refine any_op rfl rfl fun K hK => ?_
    obtain ⟨v5, u5, hr5, ho5, hf5⟩ := hq4.own.put_one pn1 1 41 (hF5_4.blk.cell 0) (by have h0 := HL.out; have hx := HLP.out; (try simp only [Ex.par]); (try simp only [List.length_append]); (try simp only [List.length_cons]); (try simp only [List.length_nil]); omega) hq4.sz 22
    refine wp_app _ _ _ _ hr5 rfl rfl rfl ?_
    have hq5 := hq4.next ho5 hf5
    refine hK _ _ (fun _ => ⟨_, _, hq5⟩) ?_
    (try simp only [Act.put]); (try simp only [List.getElem_toArray]); (try simp only [List.getElem_cons_succ]); (try simp only [List.getElem_cons_zero]); (try simp only [List.setIfInBounds_toArray]); (try simp only [List.set_cons_succ]); (try simp only [List.set_cons_zero])
    clear hK
    refine any_branch [7] (by kernel_rfl) rfl fun ix hix => ?_
    simp only [List.mem_cons, List.not_mem_nil, or_false] at hix
    subst hix
    refine any_op rfl rfl fun K hK => ?_
    go_simp
    refine hK _ _ (fun _ => ⟨_, _, hq5⟩) ?_
    (try simp only [Act.put]); (try simp only [List.getElem_toArray]); (try simp only [List.getElem_cons_succ]); (try simp only [List.getElem_cons_zero]); (try simp only [List.setIfInBounds_toArray]); (try simp only [List.set_cons_succ]); (try simp only [List.set_cons_zero])
    clear hK
    refine any_end (by kernel_rfl) ?_
    have HQ := Bx.mk hq5
    have hsl := hq5.own.sl
    clear hq0 hq1 hq2 hq3 hq4 hq5 hf1 hf2 hf3 hf4 hf5
    obtain ⟨p9, z9, y9, rfl⟩ := hsl
    go_wp2_with fail
    go_ret
    refine ⟨.slice p9 z9 y9, rfl, ?_, HQ.out.fr⟩
    have h5 := HQ.out.own
    unfold Ex.par
    simpa only [List.append_assoc] using h5
set_option maxHeartbeats 8000000 in
theorem put_3 (n : Nat) (ih : Pw n) (a : Int) (vv : Int) (b o cap : Nat) (base : Nat) (v : Value) (l : List UInt8) (w : World) (x : Tr) (sx : Value) (Kx : KidB w base b o x sx) (Nx : (x.on .nil).nodes ≤ n) (Px : (x.on .nil).allPlain = true) (ho : OwnB w base v l) (hb : base ≤ w.heap.size) (hl : l.length + 32 * (1 + ((x.on .nil).nodes)) ≤ 500000) :
    Calls Try.prog 35 #[v, .agg #[.int .i64 3, .int .i64 a, .int .i64 vv, .slice (some ⟨b, o, none⟩) 1 cap]] w fun e w' => ∃ v', e = .returned v' ∧ OwnB w' base v' (l ++ Ex.prk 3 vv [Ex.pr x]) ∧ Fr v w v' w' := by
  have hP : PQ base v w (w.alloc (.cells #[.int .i64 3, .int .i64 a, .int .i64 vv, .slice (some ⟨b, o, none⟩) 1 cap] 36)) #[.int .i64 3, .int .i64 a, .int .i64 vv, .slice (some ⟨b, o, none⟩) 1 cap] v l := PQ.start ho hb
  obtain ⟨c0, c1, c2, c3, _, _, _, _⟩ := cells4 hP.e
  have HP := Bx.mk hP
  have IH := Bx.mk ih
  have HL := Bx.mk hl
  have BKx := Bx.mk Kx
  have BNx := Bx.mk Nx
  have BPx := Bx.mk Px
  have BLx := Bx.mk (pr_len x)
  clear hP ih ho hl Kx Nx Px
  go_enter Try.func35, Try.ntmps35
  go_wp2_with fail
  refine region_any 100 (fun u => ∃ v' l', PQ base v w u #[.int .i64 3, .int .i64 a, .int .i64 vv, .slice (some ⟨b, o, none⟩) 1 cap] v' l') (by kernel_rfl) ?_
  generalize hu : World.drew _ = u0
  have hq0 := HP.out.step ((Below.refl _ _).drew)
  rw [hu] at hq0
  clear hu HP c0 c1 c2 c3
  refine any_take (i := 0) (.func (.func 53) #[] #[]) rfl rfl (by kernel_rfl) (by kernel_rfl) (by kernel_rfl) (by kernel_rfl) (fun _ _ d _ _ h => by cases d <;> exact h) (fun u hS => rfl) ⟨_, _, hq0⟩ ?_
  (try simp only [Act.put]); (try simp only [List.getElem_toArray]); (try simp only [List.getElem_cons_succ]); (try simp only [List.getElem_cons_zero]); (try simp only [List.setIfInBounds_toArray]); (try simp only [List.set_cons_succ]); (try simp only [List.set_cons_zero])
  refine any_take (i := 1) (v) rfl rfl (by kernel_rfl) (by kernel_rfl) (by kernel_rfl) (by kernel_rfl) (fun _ _ d _ _ h => by cases d <;> exact h) (fun u hS => rfl) ⟨_, _, hq0⟩ ?_
  (try simp only [Act.put]); (try simp only [List.getElem_toArray]); (try simp only [List.getElem_cons_succ]); (try simp only [List.getElem_cons_zero]); (try simp only [List.setIfInBounds_toArray]); (try simp only [List.set_cons_succ]); (try simp only [List.set_cons_zero])
  refine any_take (i := 4) (.pointer (some ⟨w.heap.size, 3, none⟩)) rfl rfl (by kernel_rfl) (by kernel_rfl) (by kernel_rfl) (by kernel_rfl) (fun _ _ d _ _ h => by cases d <;> exact h) (fun u hS => rfl) ⟨_, _, hq0⟩ ?_
  (try simp only [Act.put]); (try simp only [List.getElem_toArray]); (try simp only [List.getElem_cons_succ]); (try simp only [List.getElem_cons_zero]); (try simp only [List.setIfInBounds_toArray]); (try simp only [List.set_cons_succ]); (try simp only [List.set_cons_zero])
  refine any_take (i := 5) (.slice (some ⟨b, o, none⟩) 1 cap) rfl rfl (by kernel_rfl) (by kernel_rfl) (by kernel_rfl) (by kernel_rfl) (fun _ _ d _ _ h => by cases d <;> exact h) (fun u hS => by obtain ⟨v9, l9, q9⟩ := hS; exact exec_loadS rfl rfl (q9.e.cell 3)) ⟨_, _, hq0⟩ ?_
  (try simp only [Act.put]); (try simp only [List.getElem_toArray]); (try simp only [List.getElem_cons_succ]); (try simp only [List.getElem_cons_zero]); (try simp only [List.setIfInBounds_toArray]); (try simp only [List.set_cons_succ]); (try simp only [List.set_cons_zero])
  refine any_take (i := 6) (.pointer (some ⟨b, o, none⟩)) rfl rfl (by kernel_rfl) (by kernel_rfl) (by kernel_rfl) (by kernel_rfl) (fun _ _ d _ _ h => by cases d <;> exact h) (fun u hS => exec_ix01 rfl rfl rfl) ⟨_, _, hq0⟩ ?_
  (try simp only [Act.put]); (try simp only [List.getElem_toArray]); (try simp only [List.getElem_cons_succ]); (try simp only [List.getElem_cons_zero]); (try simp only [List.setIfInBounds_toArray]); (try simp only [List.set_cons_succ]); (try simp only [List.set_cons_zero])
  refine any_take (i := 7) (Ev x sx) rfl rfl (by kernel_rfl) (by kernel_rfl) (by kernel_rfl) (by kernel_rfl) (fun _ _ d _ _ h => by cases d <;> exact h) (fun u hS => by obtain ⟨v9, l9, q9⟩ := hS; have kk := BKx.out.fr q9.low; exact exec_loadX rfl rfl kk.c0 kk.c1 kk.c2 kk.c3) ⟨_, _, hq0⟩ ?_
  (try simp only [Act.put]); (try simp only [List.getElem_toArray]); (try simp only [List.getElem_cons_succ]); (try simp only [List.getElem_cons_zero]); (try simp only [List.setIfInBounds_toArray]); (try simp only [List.set_cons_succ]); (try simp only [List.set_cons_zero])
  refine any_branch [2] (by kernel_rfl) rfl fun ix hix => ?_
  simp only [List.mem_cons, List.not_mem_nil, or_false] at hix
  subst hix
  refine any_op rfl rfl fun K hK => ?_
  go_simp
  have hN1 := Fl.new hq0.own 33
  have hf1 := Fr.below (v := v) ((Below.refl u0.heap.size u0).alloc (Nat.le_refl _) (.cells #[.int .u8 33] 5))
  have hq1 := hq0.step ((Below.refl _ _).alloc (Nat.le_refl _) (.cells #[.int .u8 33] 5))
  change Fl (u0.alloc (.cells #[.int .u8 33] 5)) _ _ _ at hN1
  generalize u0.heap.size = pn1 at hN1 ⊢
  generalize u0.alloc (.cells #[.int .u8 33] 5) = u1 at hN1 hq1 hf1 ⊢
  refine hK _ _ (fun _ => ⟨_, _, hq1⟩) ?_
  (try simp only [Act.put]); (try simp only [List.getElem_toArray]); (try simp only [List.getElem_cons_succ]); (try simp only [List.getElem_cons_zero]); (try simp only [List.setIfInBounds_toArray]); (try simp only [List.set_cons_succ]); (try simp only [List.set_cons_zero])
  clear hK
  refine any_branch [3] (by kernel_rfl) rfl fun ix hix => ?_
  simp only [List.mem_cons, List.not_mem_nil, or_false] at hix
  subst hix
  refine any_op rfl rfl fun K hK => ?_
  obtain ⟨v2, u2, hr2, ho2, hf2⟩ := hq1.own.put_one pn1 1 33 (hN1.blk.cell 0) (by have h0 := HL.out; have hx := BLx.out; (try simp only [Ex.par]); (try simp only [List.length_append]); (try simp only [List.length_cons]); (try simp only [List.length_nil]); omega) hq1.sz 22
  refine wp_app _ _ _ _ hr2 rfl rfl rfl ?_
  have hq2 := hq1.next ho2 hf2
  refine hK _ _ (fun _ => ⟨_, _, hq2⟩) ?_
  (try simp only [Act.put]); (try simp only [List.getElem_toArray]); (try simp only [List.getElem_cons_succ]); (try simp only [List.getElem_cons_zero]); (try simp only [List.setIfInBounds_toArray]); (try simp only [List.set_cons_succ]); (try simp only [List.set_cons_zero])
  clear hK
  refine any_branch [8] (by kernel_rfl) rfl fun ix hix => ?_
  simp only [List.mem_cons, List.not_mem_nil, or_false] at hix
  subst hix
  refine any_op rfl rfl fun K hK => ?_
  go_simp
  refine (in_any n IH.out x _ base _ _ u2 BNx.out BPx.out ((BKx.out.fr hq2.low).sl) hq2.own hq2.sz (by have h0 := HL.out; have hx := BLx.out; (try simp only [Ex.par]); (try simp only [List.length_append]); (try simp only [List.length_cons]); (try simp only [List.length_nil]); omega) BLx.out).mono ?_
  rintro e u3 ⟨v3, rfl, ho3, hf3⟩
  have hq3 := hq2.next ho3 hf3
  refine hK _ _ (fun _ => ⟨_, _, hq3⟩) ?_
  (try simp only [Act.put]); (try simp only [List.getElem_toArray]); (try simp only [List.getElem_cons_succ]); (try simp only [List.getElem_cons_zero]); (try simp only [List.setIfInBounds_toArray]); (try simp only [List.set_cons_succ]); (try simp only [List.set_cons_zero])
  clear hK
  refine any_branch [9] (by kernel_rfl) rfl fun ix hix => ?_
  simp only [List.mem_cons, List.not_mem_nil, or_false] at hix
  subst hix
  refine any_op rfl rfl fun K hK => ?_
  go_simp
  refine hK _ _ (fun _ => ⟨_, _, hq3⟩) ?_
  (try simp only [Act.put]); (try simp only [List.getElem_toArray]); (try simp only [List.getElem_cons_succ]); (try simp only [List.getElem_cons_zero]); (try simp only [List.setIfInBounds_toArray]); (try simp only [List.set_cons_succ]); (try simp only [List.set_cons_zero])
  clear hK
  refine any_end (by kernel_rfl) ?_
  have HP := Bx.mk hq3
  have hsl := hq3.own.sl
  clear hq0 hq1 hq2 hq3 hf1 hf2 hf3 
  obtain ⟨pz, zz, yz, rfl⟩ := hsl
  obtain ⟨c0, c1, c2, c3, _, _, _, _⟩ := cells4 HP.out.e
  go_wp2_with fail
  go_ret
  refine ⟨.slice pz zz yz, rfl, ?_, HP.out.fr⟩
  have h5 := HP.out.own
  unfold Ex.prk
  simp only [List.append_assoc] at h5 ⊢
  simpa using h5
set_option maxHeartbeats 8000000 in
theorem put_1 (n : Nat) (ih : Pw n) (a : Int) (m : Nat) (hm : m < 8) (pp : Option Addr) (cap : Nat) (base : Nat) (v : Value) (l : List UInt8) (w : World)  (ho : OwnB w base v l) (hb : base ≤ w.heap.size) (hl : l.length + 32 * (1 + (0)) ≤ 500000) :
    Calls Try.prog 35 #[v, .agg #[.int .i64 1, .int .i64 a, .int .i64 (m : Int), .slice pp 0 cap]] w fun e w' => ∃ v', e = .returned v' ∧ OwnB w' base v' (l ++ Ex.prk 1 (m : Int) []) ∧ Fr v w v' w' := by
  have hP : PQ base v w (w.alloc (.cells #[.int .i64 1, .int .i64 a, .int .i64 (m : Int), .slice pp 0 cap] 36)) #[.int .i64 1, .int .i64 a, .int .i64 (m : Int), .slice pp 0 cap] v l := PQ.start ho hb
  obtain ⟨c0, c1, c2, c3, _, _, _, _⟩ := cells4 hP.e
  have HP := Bx.mk hP
  have IH := Bx.mk ih
  have HL := Bx.mk hl
  clear hP ih ho hl 
  go_enter Try.func35, Try.ntmps35
  go_wp2_with fail
  refine region_any 100 (fun u => ∃ v' l', PQ base v w u #[.int .i64 1, .int .i64 a, .int .i64 (m : Int), .slice pp 0 cap] v' l') (by kernel_rfl) ?_
  generalize hu : World.drew _ = u0
  have hq0 := HP.out.step ((Below.refl _ _).drew)
  rw [hu] at hq0
  clear hu HP c0 c1 c2 c3
  refine any_take (i := 0) (v) rfl rfl (by kernel_rfl) (by kernel_rfl) (by kernel_rfl) (by kernel_rfl) (fun _ _ d _ _ h => by cases d <;> exact h) (fun u hS => rfl) ⟨_, _, hq0⟩ ?_
  (try simp only [Act.put]); (try simp only [List.getElem_toArray]); (try simp only [List.getElem_cons_succ]); (try simp only [List.getElem_cons_zero]); (try simp only [List.setIfInBounds_toArray]); (try simp only [List.set_cons_succ]); (try simp only [List.set_cons_zero])
  refine any_take (i := 3) (.pointer (some ⟨w.heap.size, 2, none⟩)) rfl rfl (by kernel_rfl) (by kernel_rfl) (by kernel_rfl) (by kernel_rfl) (fun _ _ d _ _ h => by cases d <;> exact h) (fun u hS => rfl) ⟨_, _, hq0⟩ ?_
  (try simp only [Act.put]); (try simp only [List.getElem_toArray]); (try simp only [List.getElem_cons_succ]); (try simp only [List.getElem_cons_zero]); (try simp only [List.setIfInBounds_toArray]); (try simp only [List.set_cons_succ]); (try simp only [List.set_cons_zero])
  refine any_take (i := 4) (.int .i64 (m : Int)) rfl rfl (by kernel_rfl) (by kernel_rfl) (by kernel_rfl) (by kernel_rfl) (fun _ _ d _ _ h => by cases d <;> exact h) (fun u hS => by obtain ⟨v9, l9, q9⟩ := hS; exact exec_loadI rfl rfl (q9.e.cell 2)) ⟨_, _, hq0⟩ ?_
  (try simp only [Act.put]); (try simp only [List.getElem_toArray]); (try simp only [List.getElem_cons_succ]); (try simp only [List.getElem_cons_zero]); (try simp only [List.setIfInBounds_toArray]); (try simp only [List.set_cons_succ]); (try simp only [List.set_cons_zero])
  refine any_branch [1] (by kernel_rfl) rfl fun ix hix => ?_
  simp only [List.mem_cons, List.not_mem_nil, or_false] at hix
  subst hix
  refine any_op rfl rfl fun K hK => ?_
  go_simp
  have hN1 := Fl.new hq0.own 118
  have hf1 := Fr.below (v := v) ((Below.refl u0.heap.size u0).alloc (Nat.le_refl _) (.cells #[.int .u8 118] 5))
  have hq1 := hq0.step ((Below.refl _ _).alloc (Nat.le_refl _) (.cells #[.int .u8 118] 5))
  change Fl (u0.alloc (.cells #[.int .u8 118] 5)) _ _ _ at hN1
  generalize u0.heap.size = pn1 at hN1 ⊢
  generalize u0.alloc (.cells #[.int .u8 118] 5) = u1 at hN1 hq1 hf1 ⊢
  refine hK _ _ (fun _ => ⟨_, _, hq1⟩) ?_
  (try simp only [Act.put]); (try simp only [List.getElem_toArray]); (try simp only [List.getElem_cons_succ]); (try simp only [List.getElem_cons_zero]); (try simp only [List.setIfInBounds_toArray]); (try simp only [List.set_cons_succ]); (try simp only [List.set_cons_zero])
  clear hK
  refine any_branch [2] (by kernel_rfl) rfl fun ix hix => ?_
  simp only [List.mem_cons, List.not_mem_nil, or_false] at hix
  subst hix
  refine any_op rfl rfl fun K hK => ?_
  obtain ⟨v2, u2, hr2, ho2, hf2⟩ := hq1.own.put_one pn1 1 118 (hN1.blk.cell 0) (by have h0 := HL.out; (try simp only [Ex.par]); (try simp only [List.length_append]); (try simp only [List.length_cons]); (try simp only [List.length_nil]); omega) hq1.sz 22
  refine wp_app _ _ _ _ hr2 rfl rfl rfl ?_
  have hq2 := hq1.next ho2 hf2
  refine hK _ _ (fun _ => ⟨_, _, hq2⟩) ?_
  (try simp only [Act.put]); (try simp only [List.getElem_toArray]); (try simp only [List.getElem_cons_succ]); (try simp only [List.getElem_cons_zero]); (try simp only [List.setIfInBounds_toArray]); (try simp only [List.set_cons_succ]); (try simp only [List.set_cons_zero])
  clear hK
  refine any_branch [5] (by kernel_rfl) rfl fun ix hix => ?_
  simp only [List.mem_cons, List.not_mem_nil, or_false] at hix
  subst hix
  refine any_op rfl rfl fun K hK => ?_
  go_simp
  refine (digit_any m (by omega) _).mono ?_
  rintro e u3 ⟨rfl, hbd3⟩
  have hf3 := Fr.below (v := v2) hbd3
  have hq3 := hq2.step hbd3
  refine hK _ _ (fun _ => ⟨_, _, hq3⟩) ?_
  (try simp only [Act.put]); (try simp only [List.getElem_toArray]); (try simp only [List.getElem_cons_succ]); (try simp only [List.getElem_cons_zero]); (try simp only [List.setIfInBounds_toArray]); (try simp only [List.set_cons_succ]); (try simp only [List.set_cons_zero])
  clear hK
  refine any_branch [6] (by kernel_rfl) rfl fun ix hix => ?_
  simp only [List.mem_cons, List.not_mem_nil, or_false] at hix
  subst hix
  refine any_op rfl rfl fun K hK => ?_
  have hls4 : ((strOf [48 + m]) : ByteArray).data.toList = [Ex.dig (m : Int)] := dig_of m
  obtain ⟨v4, u4, hr4, ho4, hf4⟩ := hq3.own.put_str (strOf [48 + m]) (by rw [size_lst, hls4]; exact (by have h0 := HL.out; (try simp only [Ex.par]); (try simp only [List.length_append]); (try simp only [List.length_cons]); (try simp only [List.length_nil]); omega)) hq3.sz 22
  rw [hls4] at ho4
  refine wp_app _ _ _ _ hr4 rfl rfl rfl ?_
  have hq4 := hq3.next ho4 hf4
  refine hK _ _ (fun _ => ⟨_, _, hq4⟩) ?_
  (try simp only [Act.put]); (try simp only [List.getElem_toArray]); (try simp only [List.getElem_cons_succ]); (try simp only [List.getElem_cons_zero]); (try simp only [List.setIfInBounds_toArray]); (try simp only [List.set_cons_succ]); (try simp only [List.set_cons_zero])
  clear hK
  refine any_branch [7] (by kernel_rfl) rfl fun ix hix => ?_
  simp only [List.mem_cons, List.not_mem_nil, or_false] at hix
  subst hix
  refine any_op rfl rfl fun K hK => ?_
  go_simp
  refine hK _ _ (fun _ => ⟨_, _, hq4⟩) ?_
  (try simp only [Act.put]); (try simp only [List.getElem_toArray]); (try simp only [List.getElem_cons_succ]); (try simp only [List.getElem_cons_zero]); (try simp only [List.setIfInBounds_toArray]); (try simp only [List.set_cons_succ]); (try simp only [List.set_cons_zero])
  clear hK
  refine any_end (by kernel_rfl) ?_
  have HP := Bx.mk hq4
  have hsl := hq4.own.sl
  clear hq0 hq1 hq2 hq3 hq4 hf1 hf2 hf3 hf4 
  obtain ⟨pz, zz, yz, rfl⟩ := hsl
  obtain ⟨c0, c1, c2, c3, _, _, _, _⟩ := cells4 HP.out.e
  go_wp2_with fail
  go_ret
  refine ⟨.slice pz zz yz, rfl, ?_, HP.out.fr⟩
  have h5 := HP.out.own
  unfold Ex.prk
  simp only [List.append_assoc] at h5 ⊢
  simpa using h5
set_option maxHeartbeats 8000000 in
theorem put_2 (n : Nat) (ih : Pw n) (a : Int) (m : Nat) (hm : m < 8) (pp : Option Addr) (cap : Nat) (base : Nat) (v : Value) (l : List UInt8) (w : World)  (ho : OwnB w base v l) (hb : base ≤ w.heap.size) (hl : l.length + 32 * (1 + (0)) ≤ 500000) :
    Calls Try.prog 35 #[v, .agg #[.int .i64 2, .int .i64 a, .int .i64 (m : Int), .slice pp 0 cap]] w fun e w' => ∃ v', e = .returned v' ∧ OwnB w' base v' (l ++ Ex.prk 2 (m : Int) []) ∧ Fr v w v' w' := by
  have hP : PQ base v w (w.alloc (.cells #[.int .i64 2, .int .i64 a, .int .i64 (m : Int), .slice pp 0 cap] 36)) #[.int .i64 2, .int .i64 a, .int .i64 (m : Int), .slice pp 0 cap] v l := PQ.start ho hb
  obtain ⟨c0, c1, c2, c3, _, _, _, _⟩ := cells4 hP.e
  have HP := Bx.mk hP
  have IH := Bx.mk ih
  have HL := Bx.mk hl
  clear hP ih ho hl 
  go_enter Try.func35, Try.ntmps35
  go_wp2_with fail
  refine (digit_any m (by omega) _).mono ?_
  rintro e u1 ⟨rfl, hbd1⟩
  have hq1 := HP.out.step hbd1
  obtain ⟨v2, u2, hr2, ho2, hf2⟩ := hq1.own.put_str (strOf [48 + m]) (by rw [size_lst, dig_of]; exact (by have h0 := HL.out; (try simp only [Ex.par]); (try simp only [List.length_append]); (try simp only [List.length_cons]); (try simp only [List.length_nil]); omega)) hq1.sz 22
  rw [dig_of] at ho2
  have HP2 := Bx.mk (hq1.next ho2 hf2)
  clear c0 c1 c2 c3 hbd1 hq1 ho2 hf2
  go_wp2_with (refine wpList_app _ _ _ _ hr2 rfl rfl rfl rfl ?_)
  clear hr2
  have hsl2 := HP2.out.own.sl
  obtain ⟨p2, z2, y2, rfl⟩ := hsl2
  obtain ⟨c0, c1, c2, c3, _, _, _, _⟩ := cells4 HP2.out.e
  go_wp2_with fail
  go_ret
  refine ⟨.slice p2 z2 y2, rfl, ?_, HP2.out.fr⟩
  have h5 := HP2.out.own
  unfold Ex.prk
  simpa using h5
set_option maxHeartbeats 8000000 in
theorem put_10 (n : Nat) (ih : Pw n) (a : Int) (m : Nat) (hm : m < 8) (b o cap : Nat) (base : Nat) (v : Value) (l : List UInt8) (w : World) (x : Tr) (sx : Value) (Kx : KidB w base b o x sx) (Nx : (x.on .nil).nodes ≤ n) (Px : (x.on .nil).allPlain = true) (ho : OwnB w base v l) (hb : base ≤ w.heap.size) (hl : l.length + 32 * (1 + ((x.on .nil).nodes)) ≤ 500000) :
    Calls Try.prog 35 #[v, .agg #[.int .i64 10, .int .i64 a, .int .i64 (m : Int), .slice (some ⟨b, o, none⟩) 1 cap]] w fun e w' => ∃ v', e = .returned v' ∧ OwnB w' base v' (l ++ Ex.prk 10 (m : Int) [Ex.pr x]) ∧ Fr v w v' w' := by
  have hP : PQ base v w (w.alloc (.cells #[.int .i64 10, .int .i64 a, .int .i64 (m : Int), .slice (some ⟨b, o, none⟩) 1 cap] 36)) #[.int .i64 10, .int .i64 a, .int .i64 (m : Int), .slice (some ⟨b, o, none⟩) 1 cap] v l := PQ.start ho hb
  obtain ⟨c0, c1, c2, c3, _, _, _, _⟩ := cells4 hP.e
  have HP := Bx.mk hP
  have IH := Bx.mk ih
  have HL := Bx.mk hl
  have BKx := Bx.mk Kx
  have BNx := Bx.mk Nx
  have BPx := Bx.mk Px
  have BLx := Bx.mk (pr_len x)
  clear hP ih ho hl Kx Nx Px
  go_enter Try.func35, Try.ntmps35
  go_wp2_with fail
  refine region_any 100 (fun u => ∃ v' l', PQ base v w u #[.int .i64 10, .int .i64 a, .int .i64 (m : Int), .slice (some ⟨b, o, none⟩) 1 cap] v' l') (by kernel_rfl) ?_
  generalize hu : World.drew _ = u0
  have hq0 := HP.out.step ((Below.refl _ _).drew)
  rw [hu] at hq0
  clear hu HP c0 c1 c2 c3
  refine any_take (i := 0) (.func (.func 53) #[] #[]) rfl rfl (by kernel_rfl) (by kernel_rfl) (by kernel_rfl) (by kernel_rfl) (fun _ _ d _ _ h => by cases d <;> exact h) (fun u hS => rfl) ⟨_, _, hq0⟩ ?_
  (try simp only [Act.put]); (try simp only [List.getElem_toArray]); (try simp only [List.getElem_cons_succ]); (try simp only [List.getElem_cons_zero]); (try simp only [List.setIfInBounds_toArray]); (try simp only [List.set_cons_succ]); (try simp only [List.set_cons_zero])
  refine any_take (i := 1) (v) rfl rfl (by kernel_rfl) (by kernel_rfl) (by kernel_rfl) (by kernel_rfl) (fun _ _ d _ _ h => by cases d <;> exact h) (fun u hS => rfl) ⟨_, _, hq0⟩ ?_
  (try simp only [Act.put]); (try simp only [List.getElem_toArray]); (try simp only [List.getElem_cons_succ]); (try simp only [List.getElem_cons_zero]); (try simp only [List.setIfInBounds_toArray]); (try simp only [List.set_cons_succ]); (try simp only [List.set_cons_zero])
  refine any_take (i := 2) (.pointer (some ⟨w.heap.size, 2, none⟩)) rfl rfl (by kernel_rfl) (by kernel_rfl) (by kernel_rfl) (by kernel_rfl) (fun _ _ d _ _ h => by cases d <;> exact h) (fun u hS => rfl) ⟨_, _, hq0⟩ ?_
  (try simp only [Act.put]); (try simp only [List.getElem_toArray]); (try simp only [List.getElem_cons_succ]); (try simp only [List.getElem_cons_zero]); (try simp only [List.setIfInBounds_toArray]); (try simp only [List.set_cons_succ]); (try simp only [List.set_cons_zero])
  refine any_take (i := 3) (.int .i64 (m : Int)) rfl rfl (by kernel_rfl) (by kernel_rfl) (by kernel_rfl) (by kernel_rfl) (fun _ _ d _ _ h => by cases d <;> exact h) (fun u hS => by obtain ⟨v9, l9, q9⟩ := hS; exact exec_loadI rfl rfl (q9.e.cell 2)) ⟨_, _, hq0⟩ ?_
  (try simp only [Act.put]); (try simp only [List.getElem_toArray]); (try simp only [List.getElem_cons_succ]); (try simp only [List.getElem_cons_zero]); (try simp only [List.setIfInBounds_toArray]); (try simp only [List.set_cons_succ]); (try simp only [List.set_cons_zero])
  refine any_take (i := 8) (.pointer (some ⟨w.heap.size, 3, none⟩)) rfl rfl (by kernel_rfl) (by kernel_rfl) (by kernel_rfl) (by kernel_rfl) (fun _ _ d _ _ h => by cases d <;> exact h) (fun u hS => rfl) ⟨_, _, hq0⟩ ?_
  (try simp only [Act.put]); (try simp only [List.getElem_toArray]); (try simp only [List.getElem_cons_succ]); (try simp only [List.getElem_cons_zero]); (try simp only [List.setIfInBounds_toArray]); (try simp only [List.set_cons_succ]); (try simp only [List.set_cons_zero])
  refine any_take (i := 9) (.slice (some ⟨b, o, none⟩) 1 cap) rfl rfl (by kernel_rfl) (by kernel_rfl) (by kernel_rfl) (by kernel_rfl) (fun _ _ d _ _ h => by cases d <;> exact h) (fun u hS => by obtain ⟨v9, l9, q9⟩ := hS; exact exec_loadS rfl rfl (q9.e.cell 3)) ⟨_, _, hq0⟩ ?_
  (try simp only [Act.put]); (try simp only [List.getElem_toArray]); (try simp only [List.getElem_cons_succ]); (try simp only [List.getElem_cons_zero]); (try simp only [List.setIfInBounds_toArray]); (try simp only [List.set_cons_succ]); (try simp only [List.set_cons_zero])
  refine any_take (i := 10) (.pointer (some ⟨b, o, none⟩)) rfl rfl (by kernel_rfl) (by kernel_rfl) (by kernel_rfl) (by kernel_rfl) (fun _ _ d _ _ h => by cases d <;> exact h) (fun u hS => exec_ix01 rfl rfl rfl) ⟨_, _, hq0⟩ ?_
  (try simp only [Act.put]); (try simp only [List.getElem_toArray]); (try simp only [List.getElem_cons_succ]); (try simp only [List.getElem_cons_zero]); (try simp only [List.setIfInBounds_toArray]); (try simp only [List.set_cons_succ]); (try simp only [List.set_cons_zero])
  refine any_take (i := 11) (Ev x sx) rfl rfl (by kernel_rfl) (by kernel_rfl) (by kernel_rfl) (by kernel_rfl) (fun _ _ d _ _ h => by cases d <;> exact h) (fun u hS => by obtain ⟨v9, l9, q9⟩ := hS; have kk := BKx.out.fr q9.low; exact exec_loadX rfl rfl kk.c0 kk.c1 kk.c2 kk.c3) ⟨_, _, hq0⟩ ?_
  (try simp only [Act.put]); (try simp only [List.getElem_toArray]); (try simp only [List.getElem_cons_succ]); (try simp only [List.getElem_cons_zero]); (try simp only [List.setIfInBounds_toArray]); (try simp only [List.set_cons_succ]); (try simp only [List.set_cons_zero])
  refine any_branch [4] (by kernel_rfl) rfl fun ix hix => ?_
  simp only [List.mem_cons, List.not_mem_nil, or_false] at hix
  subst hix
  refine any_op rfl rfl fun K hK => ?_
  go_simp
  refine (digit_any m (by omega) _).mono ?_
  rintro e u1 ⟨rfl, hbd1⟩
  have hf1 := Fr.below (v := v) hbd1
  have hq1 := hq0.step hbd1
  refine hK _ _ (fun _ => ⟨_, _, hq1⟩) ?_
  (try simp only [Act.put]); (try simp only [List.getElem_toArray]); (try simp only [List.getElem_cons_succ]); (try simp only [List.getElem_cons_zero]); (try simp only [List.setIfInBounds_toArray]); (try simp only [List.set_cons_succ]); (try simp only [List.set_cons_zero])
  clear hK
  refine any_take (i := 5) (.string ({ data := #[97, 108, 108, 32, 118] } ++ strOf [48 + m])) rfl rfl (by kernel_rfl) (by kernel_rfl) (by kernel_rfl) (by kernel_rfl) (fun _ _ d _ _ h => by cases d <;> exact h) (fun u hS => exec_addS rfl rfl rfl (by rw [strOf_size]; show 5 + 1 ≤ 1000000; omega)) ⟨_, _, hq1⟩ ?_
  (try simp only [Act.put]); (try simp only [List.getElem_toArray]); (try simp only [List.getElem_cons_succ]); (try simp only [List.getElem_cons_zero]); (try simp only [List.setIfInBounds_toArray]); (try simp only [List.set_cons_succ]); (try simp only [List.set_cons_zero])
  refine any_take (i := 6) (.string (({ data := #[97, 108, 108, 32, 118] } ++ strOf [48 + m]) ++ { data := #[32] })) rfl rfl (by kernel_rfl) (by kernel_rfl) (by kernel_rfl) (by kernel_rfl) (fun _ _ d _ _ h => by cases d <;> exact h) (fun u hS => exec_addS rfl rfl rfl (by rw [ByteArray.size_append, strOf_size]; show 5 + 1 + 1 ≤ 1000000; omega)) ⟨_, _, hq1⟩ ?_
  (try simp only [Act.put]); (try simp only [List.getElem_toArray]); (try simp only [List.getElem_cons_succ]); (try simp only [List.getElem_cons_zero]); (try simp only [List.setIfInBounds_toArray]); (try simp only [List.set_cons_succ]); (try simp only [List.set_cons_zero])
  refine any_branch [7] (by kernel_rfl) rfl fun ix hix => ?_
  simp only [List.mem_cons, List.not_mem_nil, or_false] at hix
  subst hix
  refine any_op rfl rfl fun K hK => ?_
  have hls2 : ((({ data := #[97, 108, 108, 32, 118] } ++ strOf [48 + m]) ++ { data := #[32] }) : ByteArray).data.toList = [97, 108, 108, 32, 118] ++ [Ex.dig (m : Int)] ++ [32] := by rw [lst3, dig_of]
  obtain ⟨v2, u2, hr2, ho2, hf2⟩ := hq1.own.put_str (({ data := #[97, 108, 108, 32, 118] } ++ strOf [48 + m]) ++ { data := #[32] }) (by rw [size_lst, hls2]; exact (by have h0 := HL.out; have hx := BLx.out; (try simp only [Ex.par]); (try simp only [List.length_append]); (try simp only [List.length_cons]); (try simp only [List.length_nil]); omega)) hq1.sz 22
  rw [hls2] at ho2
  refine wp_app _ _ _ _ hr2 rfl rfl rfl ?_
  have hq2 := hq1.next ho2 hf2
  refine hK _ _ (fun _ => ⟨_, _, hq2⟩) ?_
  (try simp only [Act.put]); (try simp only [List.getElem_toArray]); (try simp only [List.getElem_cons_succ]); (try simp only [List.getElem_cons_zero]); (try simp only [List.setIfInBounds_toArray]); (try simp only [List.set_cons_succ]); (try simp only [List.set_cons_zero])
  clear hK
  refine any_branch [12] (by kernel_rfl) rfl fun ix hix => ?_
  simp only [List.mem_cons, List.not_mem_nil, or_false] at hix
  subst hix
  refine any_op rfl rfl fun K hK => ?_
  go_simp
  refine (in_any n IH.out x _ base _ _ u2 BNx.out BPx.out ((BKx.out.fr hq2.low).sl) hq2.own hq2.sz (by have h0 := HL.out; have hx := BLx.out; (try simp only [Ex.par]); (try simp only [List.length_append]); (try simp only [List.length_cons]); (try simp only [List.length_nil]); omega) BLx.out).mono ?_
  rintro e u3 ⟨v3, rfl, ho3, hf3⟩
  have hq3 := hq2.next ho3 hf3
  refine hK _ _ (fun _ => ⟨_, _, hq3⟩) ?_
  (try simp only [Act.put]); (try simp only [List.getElem_toArray]); (try simp only [List.getElem_cons_succ]); (try simp only [List.getElem_cons_zero]); (try simp only [List.setIfInBounds_toArray]); (try simp only [List.set_cons_succ]); (try simp only [List.set_cons_zero])
  clear hK
  refine any_branch [13] (by kernel_rfl) rfl fun ix hix => ?_
  simp only [List.mem_cons, List.not_mem_nil, or_false] at hix
  subst hix
  refine any_op rfl rfl fun K hK => ?_
  go_simp
  refine hK _ _ (fun _ => ⟨_, _, hq3⟩) ?_
  (try simp only [Act.put]); (try simp only [List.getElem_toArray]); (try simp only [List.getElem_cons_succ]); (try simp only [List.getElem_cons_zero]); (try simp only [List.setIfInBounds_toArray]); (try simp only [List.set_cons_succ]); (try simp only [List.set_cons_zero])
  clear hK
  refine any_end (by kernel_rfl) ?_
  have HP := Bx.mk hq3
  have hsl := hq3.own.sl
  clear hq0 hq1 hq2 hq3 hf1 hf2 hf3 
  obtain ⟨pz, zz, yz, rfl⟩ := hsl
  obtain ⟨c0, c1, c2, c3, _, _, _, _⟩ := cells4 HP.out.e
  go_wp2_with fail
  go_ret
  refine ⟨.slice pz zz yz, rfl, ?_, HP.out.fr⟩
  have h5 := HP.out.own
  unfold Ex.prk
  simp only [List.append_assoc] at h5 ⊢
  simpa using h5
set_option maxHeartbeats 8000000 in
theorem put_11 (n : Nat) (ih : Pw n) (a : Int) (m : Nat) (hm : m < 8) (b o cap : Nat) (base : Nat) (v : Value) (l : List UInt8) (w : World) (x : Tr) (sx : Value) (Kx : KidB w base b o x sx) (Nx : (x.on .nil).nodes ≤ n) (Px : (x.on .nil).allPlain = true) (ho : OwnB w base v l) (hb : base ≤ w.heap.size) (hl : l.length + 32 * (1 + ((x.on .nil).nodes)) ≤ 500000) :
    Calls Try.prog 35 #[v, .agg #[.int .i64 11, .int .i64 a, .int .i64 (m : Int), .slice (some ⟨b, o, none⟩) 1 cap]] w fun e w' => ∃ v', e = .returned v' ∧ OwnB w' base v' (l ++ Ex.prk 11 (m : Int) [Ex.pr x]) ∧ Fr v w v' w' := by
  have hP : PQ base v w (w.alloc (.cells #[.int .i64 11, .int .i64 a, .int .i64 (m : Int), .slice (some ⟨b, o, none⟩) 1 cap] 36)) #[.int .i64 11, .int .i64 a, .int .i64 (m : Int), .slice (some ⟨b, o, none⟩) 1 cap] v l := PQ.start ho hb
  obtain ⟨c0, c1, c2, c3, _, _, _, _⟩ := cells4 hP.e
  have HP := Bx.mk hP
  have IH := Bx.mk ih
  have HL := Bx.mk hl
  have BKx := Bx.mk Kx
  have BNx := Bx.mk Nx
  have BPx := Bx.mk Px
  have BLx := Bx.mk (pr_len x)
  clear hP ih ho hl Kx Nx Px
  go_enter Try.func35, Try.ntmps35
  go_wp2_with fail
  refine region_any 100 (fun u => ∃ v' l', PQ base v w u #[.int .i64 11, .int .i64 a, .int .i64 (m : Int), .slice (some ⟨b, o, none⟩) 1 cap] v' l') (by kernel_rfl) ?_
  generalize hu : World.drew _ = u0
  have hq0 := HP.out.step ((Below.refl _ _).drew)
  rw [hu] at hq0
  clear hu HP c0 c1 c2 c3
  refine any_take (i := 0) (.func (.func 53) #[] #[]) rfl rfl (by kernel_rfl) (by kernel_rfl) (by kernel_rfl) (by kernel_rfl) (fun _ _ d _ _ h => by cases d <;> exact h) (fun u hS => rfl) ⟨_, _, hq0⟩ ?_
  (try simp only [Act.put]); (try simp only [List.getElem_toArray]); (try simp only [List.getElem_cons_succ]); (try simp only [List.getElem_cons_zero]); (try simp only [List.setIfInBounds_toArray]); (try simp only [List.set_cons_succ]); (try simp only [List.set_cons_zero])
  refine any_take (i := 1) (v) rfl rfl (by kernel_rfl) (by kernel_rfl) (by kernel_rfl) (by kernel_rfl) (fun _ _ d _ _ h => by cases d <;> exact h) (fun u hS => rfl) ⟨_, _, hq0⟩ ?_
  (try simp only [Act.put]); (try simp only [List.getElem_toArray]); (try simp only [List.getElem_cons_succ]); (try simp only [List.getElem_cons_zero]); (try simp only [List.setIfInBounds_toArray]); (try simp only [List.set_cons_succ]); (try simp only [List.set_cons_zero])
  refine any_take (i := 2) (.pointer (some ⟨w.heap.size, 2, none⟩)) rfl rfl (by kernel_rfl) (by kernel_rfl) (by kernel_rfl) (by kernel_rfl) (fun _ _ d _ _ h => by cases d <;> exact h) (fun u hS => rfl) ⟨_, _, hq0⟩ ?_
  (try simp only [Act.put]); (try simp only [List.getElem_toArray]); (try simp only [List.getElem_cons_succ]); (try simp only [List.getElem_cons_zero]); (try simp only [List.setIfInBounds_toArray]); (try simp only [List.set_cons_succ]); (try simp only [List.set_cons_zero])
  refine any_take (i := 3) (.int .i64 (m : Int)) rfl rfl (by kernel_rfl) (by kernel_rfl) (by kernel_rfl) (by kernel_rfl) (fun _ _ d _ _ h => by cases d <;> exact h) (fun u hS => by obtain ⟨v9, l9, q9⟩ := hS; exact exec_loadI rfl rfl (q9.e.cell 2)) ⟨_, _, hq0⟩ ?_
  (try simp only [Act.put]); (try simp only [List.getElem_toArray]); (try simp only [List.getElem_cons_succ]); (try simp only [List.getElem_cons_zero]); (try simp only [List.setIfInBounds_toArray]); (try simp only [List.set_cons_succ]); (try simp only [List.set_cons_zero])
  refine any_take (i := 8) (.pointer (some ⟨w.heap.size, 3, none⟩)) rfl rfl (by kernel_rfl) (by kernel_rfl) (by kernel_rfl) (by kernel_rfl) (fun _ _ d _ _ h => by cases d <;> exact h) (fun u hS => rfl) ⟨_, _, hq0⟩ ?_
  (try simp only [Act.put]); (try simp only [List.getElem_toArray]); (try simp only [List.getElem_cons_succ]); (try simp only [List.getElem_cons_zero]); (try simp only [List.setIfInBounds_toArray]); (try simp only [List.set_cons_succ]); (try simp only [List.set_cons_zero])
  refine any_take (i := 9) (.slice (some ⟨b, o, none⟩) 1 cap) rfl rfl (by kernel_rfl) (by kernel_rfl) (by kernel_rfl) (by kernel_rfl) (fun _ _ d _ _ h => by cases d <;> exact h) (fun u hS => by obtain ⟨v9, l9, q9⟩ := hS; exact exec_loadS rfl rfl (q9.e.cell 3)) ⟨_, _, hq0⟩ ?_
  (try simp only [Act.put]); (try simp only [List.getElem_toArray]); (try simp only [List.getElem_cons_succ]); (try simp only [List.getElem_cons_zero]); (try simp only [List.setIfInBounds_toArray]); (try simp only [List.set_cons_succ]); (try simp only [List.set_cons_zero])
  refine any_take (i := 10) (.pointer (some ⟨b, o, none⟩)) rfl rfl (by kernel_rfl) (by kernel_rfl) (by kernel_rfl) (by kernel_rfl) (fun _ _ d _ _ h => by cases d <;> exact h) (fun u hS => exec_ix01 rfl rfl rfl) ⟨_, _, hq0⟩ ?_
  (try simp only [Act.put]); (try simp only [List.getElem_toArray]); (try simp only [List.getElem_cons_succ]); (try simp only [List.getElem_cons_zero]); (try simp only [List.setIfInBounds_toArray]); (try simp only [List.set_cons_succ]); (try simp only [List.set_cons_zero])
  refine any_take (i := 11) (Ev x sx) rfl rfl (by kernel_rfl) (by kernel_rfl) (by kernel_rfl) (by kernel_rfl) (fun _ _ d _ _ h => by cases d <;> exact h) (fun u hS => by obtain ⟨v9, l9, q9⟩ := hS; have kk := BKx.out.fr q9.low; exact exec_loadX rfl rfl kk.c0 kk.c1 kk.c2 kk.c3) ⟨_, _, hq0⟩ ?_
  (try simp only [Act.put]); (try simp only [List.getElem_toArray]); (try simp only [List.getElem_cons_succ]); (try simp only [List.getElem_cons_zero]); (try simp only [List.setIfInBounds_toArray]); (try simp only [List.set_cons_succ]); (try simp only [List.set_cons_zero])
  refine any_branch [4] (by kernel_rfl) rfl fun ix hix => ?_
  simp only [List.mem_cons, List.not_mem_nil, or_false] at hix
  subst hix
  refine any_op rfl rfl fun K hK => ?_
  go_simp
  refine (digit_any m (by omega) _).mono ?_
  rintro e u1 ⟨rfl, hbd1⟩
  have hf1 := Fr.below (v := v) hbd1
  have hq1 := hq0.step hbd1
  refine hK _ _ (fun _ => ⟨_, _, hq1⟩) ?_
  (try simp only [Act.put]); (try simp only [List.getElem_toArray]); (try simp only [List.getElem_cons_succ]); (try simp only [List.getElem_cons_zero]); (try simp only [List.setIfInBounds_toArray]); (try simp only [List.set_cons_succ]); (try simp only [List.set_cons_zero])
  clear hK
  refine any_take (i := 5) (.string ({ data := #[97, 110, 121, 32, 118] } ++ strOf [48 + m])) rfl rfl (by kernel_rfl) (by kernel_rfl) (by kernel_rfl) (by kernel_rfl) (fun _ _ d _ _ h => by cases d <;> exact h) (fun u hS => exec_addS rfl rfl rfl (by rw [strOf_size]; show 5 + 1 ≤ 1000000; omega)) ⟨_, _, hq1⟩ ?_
  (try simp only [Act.put]); (try simp only [List.getElem_toArray]); (try simp only [List.getElem_cons_succ]); (try simp only [List.getElem_cons_zero]); (try simp only [List.setIfInBounds_toArray]); (try simp only [List.set_cons_succ]); (try simp only [List.set_cons_zero])
  refine any_take (i := 6) (.string (({ data := #[97, 110, 121, 32, 118] } ++ strOf [48 + m]) ++ { data := #[32] })) rfl rfl (by kernel_rfl) (by kernel_rfl) (by kernel_rfl) (by kernel_rfl) (fun _ _ d _ _ h => by cases d <;> exact h) (fun u hS => exec_addS rfl rfl rfl (by rw [ByteArray.size_append, strOf_size]; show 5 + 1 + 1 ≤ 1000000; omega)) ⟨_, _, hq1⟩ ?_
  (try simp only [Act.put]); (try simp only [List.getElem_toArray]); (try simp only [List.getElem_cons_succ]); (try simp only [List.getElem_cons_zero]); (try simp only [List.setIfInBounds_toArray]); (try simp only [List.set_cons_succ]); (try simp only [List.set_cons_zero])
  refine any_branch [7] (by kernel_rfl) rfl fun ix hix => ?_
  simp only [List.mem_cons, List.not_mem_nil, or_false] at hix
  subst hix
  refine any_op rfl rfl fun K hK => ?_
  have hls2 : ((({ data := #[97, 110, 121, 32, 118] } ++ strOf [48 + m]) ++ { data := #[32] }) : ByteArray).data.toList = [97, 110, 121, 32, 118] ++ [Ex.dig (m : Int)] ++ [32] := by rw [lst3, dig_of]
  obtain ⟨v2, u2, hr2, ho2, hf2⟩ := hq1.own.put_str (({ data := #[97, 110, 121, 32, 118] } ++ strOf [48 + m]) ++ { data := #[32] }) (by rw [size_lst, hls2]; exact (by have h0 := HL.out; have hx := BLx.out; (try simp only [Ex.par]); (try simp only [List.length_append]); (try simp only [List.length_cons]); (try simp only [List.length_nil]); omega)) hq1.sz 22
  rw [hls2] at ho2
  refine wp_app _ _ _ _ hr2 rfl rfl rfl ?_
  have hq2 := hq1.next ho2 hf2
  refine hK _ _ (fun _ => ⟨_, _, hq2⟩) ?_
  (try simp only [Act.put]); (try simp only [List.getElem_toArray]); (try simp only [List.getElem_cons_succ]); (try simp only [List.getElem_cons_zero]); (try simp only [List.setIfInBounds_toArray]); (try simp only [List.set_cons_succ]); (try simp only [List.set_cons_zero])
  clear hK
  refine any_branch [12] (by kernel_rfl) rfl fun ix hix => ?_
  simp only [List.mem_cons, List.not_mem_nil, or_false] at hix
  subst hix
  refine any_op rfl rfl fun K hK => ?_
  go_simp
  refine (in_any n IH.out x _ base _ _ u2 BNx.out BPx.out ((BKx.out.fr hq2.low).sl) hq2.own hq2.sz (by have h0 := HL.out; have hx := BLx.out; (try simp only [Ex.par]); (try simp only [List.length_append]); (try simp only [List.length_cons]); (try simp only [List.length_nil]); omega) BLx.out).mono ?_
  rintro e u3 ⟨v3, rfl, ho3, hf3⟩
  have hq3 := hq2.next ho3 hf3
  refine hK _ _ (fun _ => ⟨_, _, hq3⟩) ?_
  (try simp only [Act.put]); (try simp only [List.getElem_toArray]); (try simp only [List.getElem_cons_succ]); (try simp only [List.getElem_cons_zero]); (try simp only [List.setIfInBounds_toArray]); (try simp only [List.set_cons_succ]); (try simp only [List.set_cons_zero])
  clear hK
  refine any_branch [13] (by kernel_rfl) rfl fun ix hix => ?_
  simp only [List.mem_cons, List.not_mem_nil, or_false] at hix
  subst hix
  refine any_op rfl rfl fun K hK => ?_
  go_simp
  refine hK _ _ (fun _ => ⟨_, _, hq3⟩) ?_
  (try simp only [Act.put]); (try simp only [List.getElem_toArray]); (try simp only [List.getElem_cons_succ]); (try simp only [List.getElem_cons_zero]); (try simp only [List.setIfInBounds_toArray]); (try simp only [List.set_cons_succ]); (try simp only [List.set_cons_zero])
  clear hK
  refine any_end (by kernel_rfl) ?_
  have HP := Bx.mk hq3
  have hsl := hq3.own.sl
  clear hq0 hq1 hq2 hq3 hf1 hf2 hf3 
  obtain ⟨pz, zz, yz, rfl⟩ := hsl
  obtain ⟨c0, c1, c2, c3, _, _, _, _⟩ := cells4 HP.out.e
  go_wp2_with fail
  go_ret
  refine ⟨.slice pz zz yz, rfl, ?_, HP.out.fr⟩
  have h5 := HP.out.own
  unfold Ex.prk
  simp only [List.append_assoc] at h5 ⊢
  simpa using h5
set_option maxHeartbeats 8000000 in
theorem put_9 (n : Nat) (ih : Pw n) (a : Int) (vv : Int) (b o cap : Nat) (base : Nat) (v : Value) (l : List UInt8) (w : World) (x : Tr) (sx : Value) (Kx : KidB w base b o x sx) (Nx : (x.on .nil).nodes ≤ n) (Px : (x.on .nil).allPlain = true) (y : Tr) (sy : Value) (Ky : KidB w base b (o + 4) y sy) (Ny : (y.on .nil).nodes ≤ n) (Py : (y.on .nil).allPlain = true) (z : Tr) (sz : Value) (Kz : KidB w base b (o + 8) z sz) (Nz : (z.on .nil).nodes ≤ n) (Pz : (z.on .nil).allPlain = true) (ho : OwnB w base v l) (hb : base ≤ w.heap.size) (hl : l.length + 32 * (1 + ((x.on .nil).nodes + (y.on .nil).nodes + (z.on .nil).nodes)) ≤ 500000) :
    Calls Try.prog 35 #[v, .agg #[.int .i64 9, .int .i64 a, .int .i64 vv, .slice (some ⟨b, o, none⟩) 3 cap]] w fun e w' => ∃ v', e = .returned v' ∧ OwnB w' base v' (l ++ Ex.prk 9 vv [Ex.pr x, Ex.pr y, Ex.pr z]) ∧ Fr v w v' w' := by
  have hP : PQ base v w (w.alloc (.cells #[.int .i64 9, .int .i64 a, .int .i64 vv, .slice (some ⟨b, o, none⟩) 3 cap] 36)) #[.int .i64 9, .int .i64 a, .int .i64 vv, .slice (some ⟨b, o, none⟩) 3 cap] v l := PQ.start ho hb
  obtain ⟨c0, c1, c2, c3, _, _, _, _⟩ := cells4 hP.e
  have HP := Bx.mk hP
  have IH := Bx.mk ih
  have HL := Bx.mk hl
  have BKx := Bx.mk Kx
  have BNx := Bx.mk Nx
  have BPx := Bx.mk Px
  have BLx := Bx.mk (pr_len x)
  have BKy := Bx.mk Ky
  have BNy := Bx.mk Ny
  have BPy := Bx.mk Py
  have BLy := Bx.mk (pr_len y)
  have BKz := Bx.mk Kz
  have BNz := Bx.mk Nz
  have BPz := Bx.mk Pz
  have BLz := Bx.mk (pr_len z)
  clear hP ih ho hl Kx Nx Px Ky Ny Py Kz Nz Pz
  go_enter Try.func35, Try.ntmps35
  go_wp2_with fail
  refine region_any 100 (fun u => ∃ v' l', PQ base v w u #[.int .i64 9, .int .i64 a, .int .i64 vv, .slice (some ⟨b, o, none⟩) 3 cap] v' l') (by kernel_rfl) ?_
  generalize hu : World.drew _ = u0
  have hq0 := HP.out.step ((Below.refl _ _).drew)
  rw [hu] at hq0
  clear hu HP c0 c1 c2 c3
  refine any_take (i := 0) (.func (.func 53) #[] #[]) rfl rfl (by kernel_rfl) (by kernel_rfl) (by kernel_rfl) (by kernel_rfl) (fun _ _ d _ _ h => by cases d <;> exact h) (fun u hS => rfl) ⟨_, _, hq0⟩ ?_
  (try simp only [Act.put]); (try simp only [List.getElem_toArray]); (try simp only [List.getElem_cons_succ]); (try simp only [List.getElem_cons_zero]); (try simp only [List.setIfInBounds_toArray]); (try simp only [List.set_cons_succ]); (try simp only [List.set_cons_zero])
  refine any_take (i := 1) (v) rfl rfl (by kernel_rfl) (by kernel_rfl) (by kernel_rfl) (by kernel_rfl) (fun _ _ d _ _ h => by cases d <;> exact h) (fun u hS => rfl) ⟨_, _, hq0⟩ ?_
  (try simp only [Act.put]); (try simp only [List.getElem_toArray]); (try simp only [List.getElem_cons_succ]); (try simp only [List.getElem_cons_zero]); (try simp only [List.setIfInBounds_toArray]); (try simp only [List.set_cons_succ]); (try simp only [List.set_cons_zero])
  refine any_take (i := 3) (.pointer (some ⟨w.heap.size, 3, none⟩)) rfl rfl (by kernel_rfl) (by kernel_rfl) (by kernel_rfl) (by kernel_rfl) (fun _ _ d _ _ h => by cases d <;> exact h) (fun u hS => rfl) ⟨_, _, hq0⟩ ?_
  (try simp only [Act.put]); (try simp only [List.getElem_toArray]); (try simp only [List.getElem_cons_succ]); (try simp only [List.getElem_cons_zero]); (try simp only [List.setIfInBounds_toArray]); (try simp only [List.set_cons_succ]); (try simp only [List.set_cons_zero])
  refine any_take (i := 4) (.slice (some ⟨b, o, none⟩) 3 cap) rfl rfl (by kernel_rfl) (by kernel_rfl) (by kernel_rfl) (by kernel_rfl) (fun _ _ d _ _ h => by cases d <;> exact h) (fun u hS => by obtain ⟨v9, l9, q9⟩ := hS; exact exec_loadS rfl rfl (q9.e.cell 3)) ⟨_, _, hq0⟩ ?_
  (try simp only [Act.put]); (try simp only [List.getElem_toArray]); (try simp only [List.getElem_cons_succ]); (try simp only [List.getElem_cons_zero]); (try simp only [List.setIfInBounds_toArray]); (try simp only [List.set_cons_succ]); (try simp only [List.set_cons_zero])
  refine any_take (i := 5) (.pointer (some ⟨b, o, none⟩)) rfl rfl (by kernel_rfl) (by kernel_rfl) (by kernel_rfl) (by kernel_rfl) (fun _ _ d _ _ h => by cases d <;> exact h) (fun u hS => exec_ix03 rfl rfl rfl) ⟨_, _, hq0⟩ ?_
  (try simp only [Act.put]); (try simp only [List.getElem_toArray]); (try simp only [List.getElem_cons_succ]); (try simp only [List.getElem_cons_zero]); (try simp only [List.setIfInBounds_toArray]); (try simp only [List.set_cons_succ]); (try simp only [List.set_cons_zero])
  refine any_take (i := 6) (Ev x sx) rfl rfl (by kernel_rfl) (by kernel_rfl) (by kernel_rfl) (by kernel_rfl) (fun _ _ d _ _ h => by cases d <;> exact h) (fun u hS => by obtain ⟨v9, l9, q9⟩ := hS; have kk := BKx.out.fr q9.low; exact exec_loadX rfl rfl kk.c0 kk.c1 kk.c2 kk.c3) ⟨_, _, hq0⟩ ?_
  (try simp only [Act.put]); (try simp only [List.getElem_toArray]); (try simp only [List.getElem_cons_succ]); (try simp only [List.getElem_cons_zero]); (try simp only [List.setIfInBounds_toArray]); (try simp only [List.set_cons_succ]); (try simp only [List.set_cons_zero])
  refine any_branch [2] (by kernel_rfl) rfl fun ix hix => ?_
  simp only [List.mem_cons, List.not_mem_nil, or_false] at hix
  subst hix
  refine any_op rfl rfl fun K hK => ?_
  have hls1 : ({ data := #[105, 116, 101, 40] } : ByteArray).data.toList = [105, 116, 101, 40] := rfl
  obtain ⟨v1, u1, hr1, ho1, hf1⟩ := hq0.own.put_str { data := #[105, 116, 101, 40] } (by rw [size_lst, hls1]; exact (by have h0 := HL.out; have hx := BLx.out; have hy := BLy.out; have hz := BLz.out; (try simp only [Ex.par]); (try simp only [List.length_append]); (try simp only [List.length_cons]); (try simp only [List.length_nil]); omega)) hq0.sz 22
  rw [hls1] at ho1
  refine wp_app _ _ _ _ hr1 rfl rfl rfl ?_
  have hq1 := hq0.next ho1 hf1
  refine hK _ _ (fun _ => ⟨_, _, hq1⟩) ?_
  (try simp only [Act.put]); (try simp only [List.getElem_toArray]); (try simp only [List.getElem_cons_succ]); (try simp only [List.getElem_cons_zero]); (try simp only [List.setIfInBounds_toArray]); (try simp only [List.set_cons_succ]); (try simp only [List.set_cons_zero])
  clear hK
  refine any_branch [7] (by kernel_rfl) rfl fun ix hix => ?_
  simp only [List.mem_cons, List.not_mem_nil, or_false] at hix
  subst hix
  refine any_op rfl rfl fun K hK => ?_
  go_simp
  refine (in_any n IH.out x _ base _ _ u1 BNx.out BPx.out ((BKx.out.fr hq1.low).sl) hq1.own hq1.sz (by have h0 := HL.out; have hx := BLx.out; have hy := BLy.out; have hz := BLz.out; (try simp only [Ex.par]); (try simp only [List.length_append]); (try simp only [List.length_cons]); (try simp only [List.length_nil]); omega) BLx.out).mono ?_
  rintro e u2 ⟨v2, rfl, ho2, hf2⟩
  have hq2 := hq1.next ho2 hf2
  refine hK _ _ (fun _ => ⟨_, _, hq2⟩) ?_
  (try simp only [Act.put]); (try simp only [List.getElem_toArray]); (try simp only [List.getElem_cons_succ]); (try simp only [List.getElem_cons_zero]); (try simp only [List.setIfInBounds_toArray]); (try simp only [List.set_cons_succ]); (try simp only [List.set_cons_zero])
  clear hK
  refine any_branch [8] (by kernel_rfl) rfl fun ix hix => ?_
  simp only [List.mem_cons, List.not_mem_nil, or_false] at hix
  subst hix
  refine any_op rfl rfl fun K hK => ?_
  go_simp
  refine hK _ _ (fun _ => ⟨_, _, hq2⟩) ?_
  (try simp only [Act.put]); (try simp only [List.getElem_toArray]); (try simp only [List.getElem_cons_succ]); (try simp only [List.getElem_cons_zero]); (try simp only [List.setIfInBounds_toArray]); (try simp only [List.set_cons_succ]); (try simp only [List.set_cons_zero])
  clear hK
  refine any_end (by kernel_rfl) ?_
  have HP := Bx.mk hq2
  have hsl := hq2.own.sl
  clear hq0 hq1 hq2 hf1 hf2 
  obtain ⟨pa, za, ya, rfl⟩ := hsl
  obtain ⟨c0, c1, c2, c3, _, _, _, _⟩ := cells4 HP.out.e
  go_wp2_with fail
  refine region_any 100 (fun u => ∃ v' l', PQ base v w u #[.int .i64 9, .int .i64 a, .int .i64 vv, .slice (some ⟨b, o, none⟩) 3 cap] v' l') (by kernel_rfl) ?_
  generalize hu : World.drew _ = u0
  have hq0 := HP.out.step ((Below.refl _ _).drew)
  rw [hu] at hq0
  clear hu HP c0 c1 c2 c3
  refine any_take (i := 0) (.func (.func 53) #[] #[]) rfl rfl (by kernel_rfl) (by kernel_rfl) (by kernel_rfl) (by kernel_rfl) (fun _ _ d _ _ h => by cases d <;> exact h) (fun u hS => rfl) ⟨_, _, hq0⟩ ?_
  (try simp only [Act.put]); (try simp only [List.getElem_toArray]); (try simp only [List.getElem_cons_succ]); (try simp only [List.getElem_cons_zero]); (try simp only [List.setIfInBounds_toArray]); (try simp only [List.set_cons_succ]); (try simp only [List.set_cons_zero])
  refine any_take (i := 1) (.slice pa za ya) rfl rfl (by kernel_rfl) (by kernel_rfl) (by kernel_rfl) (by kernel_rfl) (fun _ _ d _ _ h => by cases d <;> exact h) (fun u hS => rfl) ⟨_, _, hq0⟩ ?_
  (try simp only [Act.put]); (try simp only [List.getElem_toArray]); (try simp only [List.getElem_cons_succ]); (try simp only [List.getElem_cons_zero]); (try simp only [List.setIfInBounds_toArray]); (try simp only [List.set_cons_succ]); (try simp only [List.set_cons_zero])
  refine any_take (i := 3) (.pointer (some ⟨w.heap.size, 3, none⟩)) rfl rfl (by kernel_rfl) (by kernel_rfl) (by kernel_rfl) (by kernel_rfl) (fun _ _ d _ _ h => by cases d <;> exact h) (fun u hS => rfl) ⟨_, _, hq0⟩ ?_
  (try simp only [Act.put]); (try simp only [List.getElem_toArray]); (try simp only [List.getElem_cons_succ]); (try simp only [List.getElem_cons_zero]); (try simp only [List.setIfInBounds_toArray]); (try simp only [List.set_cons_succ]); (try simp only [List.set_cons_zero])
  refine any_take (i := 4) (.slice (some ⟨b, o, none⟩) 3 cap) rfl rfl (by kernel_rfl) (by kernel_rfl) (by kernel_rfl) (by kernel_rfl) (fun _ _ d _ _ h => by cases d <;> exact h) (fun u hS => by obtain ⟨v9, l9, q9⟩ := hS; exact exec_loadS rfl rfl (q9.e.cell 3)) ⟨_, _, hq0⟩ ?_
  (try simp only [Act.put]); (try simp only [List.getElem_toArray]); (try simp only [List.getElem_cons_succ]); (try simp only [List.getElem_cons_zero]); (try simp only [List.setIfInBounds_toArray]); (try simp only [List.set_cons_succ]); (try simp only [List.set_cons_zero])
  refine any_take (i := 5) (.pointer (some ⟨b, o + 4, none⟩)) rfl rfl (by kernel_rfl) (by kernel_rfl) (by kernel_rfl) (by kernel_rfl) (fun _ _ d _ _ h => by cases d <;> exact h) (fun u hS => exec_ix13 rfl rfl rfl) ⟨_, _, hq0⟩ ?_
  (try simp only [Act.put]); (try simp only [List.getElem_toArray]); (try simp only [List.getElem_cons_succ]); (try simp only [List.getElem_cons_zero]); (try simp only [List.setIfInBounds_toArray]); (try simp only [List.set_cons_succ]); (try simp only [List.set_cons_zero])
  refine any_take (i := 6) (Ev y sy) rfl rfl (by kernel_rfl) (by kernel_rfl) (by kernel_rfl) (by kernel_rfl) (fun _ _ d _ _ h => by cases d <;> exact h) (fun u hS => by obtain ⟨v9, l9, q9⟩ := hS; have kk := BKy.out.fr q9.low; exact exec_loadX rfl rfl kk.c0 kk.c1 kk.c2 kk.c3) ⟨_, _, hq0⟩ ?_
  (try simp only [Act.put]); (try simp only [List.getElem_toArray]); (try simp only [List.getElem_cons_succ]); (try simp only [List.getElem_cons_zero]); (try simp only [List.setIfInBounds_toArray]); (try simp only [List.set_cons_succ]); (try simp only [List.set_cons_zero])
  refine any_branch [2] (by kernel_rfl) rfl fun ix hix => ?_
  simp only [List.mem_cons, List.not_mem_nil, or_false] at hix
  subst hix
  refine any_op rfl rfl fun K hK => ?_
  have hls1 : ({ data := #[44, 32] } : ByteArray).data.toList = [44, 32] := rfl
  obtain ⟨v1, u1, hr1, ho1, hf1⟩ := hq0.own.put_str { data := #[44, 32] } (by rw [size_lst, hls1]; exact (by have h0 := HL.out; have hx := BLx.out; have hy := BLy.out; have hz := BLz.out; (try simp only [Ex.par]); (try simp only [List.length_append]); (try simp only [List.length_cons]); (try simp only [List.length_nil]); omega)) hq0.sz 22
  rw [hls1] at ho1
  refine wp_app _ _ _ _ hr1 rfl rfl rfl ?_
  have hq1 := hq0.next ho1 hf1
  refine hK _ _ (fun _ => ⟨_, _, hq1⟩) ?_
  (try simp only [Act.put]); (try simp only [List.getElem_toArray]); (try simp only [List.getElem_cons_succ]); (try simp only [List.getElem_cons_zero]); (try simp only [List.setIfInBounds_toArray]); (try simp only [List.set_cons_succ]); (try simp only [List.set_cons_zero])
  clear hK
  refine any_branch [7] (by kernel_rfl) rfl fun ix hix => ?_
  simp only [List.mem_cons, List.not_mem_nil, or_false] at hix
  subst hix
  refine any_op rfl rfl fun K hK => ?_
  go_simp
  refine (in_any n IH.out y _ base _ _ u1 BNy.out BPy.out ((BKy.out.fr hq1.low).sl) hq1.own hq1.sz (by have h0 := HL.out; have hx := BLx.out; have hy := BLy.out; have hz := BLz.out; (try simp only [Ex.par]); (try simp only [List.length_append]); (try simp only [List.length_cons]); (try simp only [List.length_nil]); omega) BLy.out).mono ?_
  rintro e u2 ⟨v2, rfl, ho2, hf2⟩
  have hq2 := hq1.next ho2 hf2
  refine hK _ _ (fun _ => ⟨_, _, hq2⟩) ?_
  (try simp only [Act.put]); (try simp only [List.getElem_toArray]); (try simp only [List.getElem_cons_succ]); (try simp only [List.getElem_cons_zero]); (try simp only [List.setIfInBounds_toArray]); (try simp only [List.set_cons_succ]); (try simp only [List.set_cons_zero])
  clear hK
  refine any_branch [8] (by kernel_rfl) rfl fun ix hix => ?_
  simp only [List.mem_cons, List.not_mem_nil, or_false] at hix
  subst hix
  refine any_op rfl rfl fun K hK => ?_
  go_simp
  refine hK _ _ (fun _ => ⟨_, _, hq2⟩) ?_
  (try simp only [Act.put]); (try simp only [List.getElem_toArray]); (try simp only [List.getElem_cons_succ]); (try simp only [List.getElem_cons_zero]); (try simp only [List.setIfInBounds_toArray]); (try simp only [List.set_cons_succ]); (try simp only [List.set_cons_zero])
  clear hK
  refine any_end (by kernel_rfl) ?_
  have HP := Bx.mk hq2
  have hsl := hq2.own.sl
  clear hq0 hq1 hq2 hf1 hf2 
  obtain ⟨pb, zb, yb, rfl⟩ := hsl
  obtain ⟨c0, c1, c2, c3, _, _, _, _⟩ := cells4 HP.out.e
  go_wp2_with fail
  refine region_any 100 (fun u => ∃ v' l', PQ base v w u #[.int .i64 9, .int .i64 a, .int .i64 vv, .slice (some ⟨b, o, none⟩) 3 cap] v' l') (by kernel_rfl) ?_
  generalize hu : World.drew _ = u0
  have hq0 := HP.out.step ((Below.refl _ _).drew)
  rw [hu] at hq0
  clear hu HP c0 c1 c2 c3
  refine any_take (i := 0) (.func (.func 53) #[] #[]) rfl rfl (by kernel_rfl) (by kernel_rfl) (by kernel_rfl) (by kernel_rfl) (fun _ _ d _ _ h => by cases d <;> exact h) (fun u hS => rfl) ⟨_, _, hq0⟩ ?_
  (try simp only [Act.put]); (try simp only [List.getElem_toArray]); (try simp only [List.getElem_cons_succ]); (try simp only [List.getElem_cons_zero]); (try simp only [List.setIfInBounds_toArray]); (try simp only [List.set_cons_succ]); (try simp only [List.set_cons_zero])
  refine any_take (i := 1) (.slice pb zb yb) rfl rfl (by kernel_rfl) (by kernel_rfl) (by kernel_rfl) (by kernel_rfl) (fun _ _ d _ _ h => by cases d <;> exact h) (fun u hS => rfl) ⟨_, _, hq0⟩ ?_
  (try simp only [Act.put]); (try simp only [List.getElem_toArray]); (try simp only [List.getElem_cons_succ]); (try simp only [List.getElem_cons_zero]); (try simp only [List.setIfInBounds_toArray]); (try simp only [List.set_cons_succ]); (try simp only [List.set_cons_zero])
  refine any_take (i := 3) (.pointer (some ⟨w.heap.size, 3, none⟩)) rfl rfl (by kernel_rfl) (by kernel_rfl) (by kernel_rfl) (by kernel_rfl) (fun _ _ d _ _ h => by cases d <;> exact h) (fun u hS => rfl) ⟨_, _, hq0⟩ ?_
  (try simp only [Act.put]); (try simp only [List.getElem_toArray]); (try simp only [List.getElem_cons_succ]); (try simp only [List.getElem_cons_zero]); (try simp only [List.setIfInBounds_toArray]); (try simp only [List.set_cons_succ]); (try simp only [List.set_cons_zero])
  refine any_take (i := 4) (.slice (some ⟨b, o, none⟩) 3 cap) rfl rfl (by kernel_rfl) (by kernel_rfl) (by kernel_rfl) (by kernel_rfl) (fun _ _ d _ _ h => by cases d <;> exact h) (fun u hS => by obtain ⟨v9, l9, q9⟩ := hS; exact exec_loadS rfl rfl (q9.e.cell 3)) ⟨_, _, hq0⟩ ?_
  (try simp only [Act.put]); (try simp only [List.getElem_toArray]); (try simp only [List.getElem_cons_succ]); (try simp only [List.getElem_cons_zero]); (try simp only [List.setIfInBounds_toArray]); (try simp only [List.set_cons_succ]); (try simp only [List.set_cons_zero])
  refine any_take (i := 5) (.pointer (some ⟨b, o + 8, none⟩)) rfl rfl (by kernel_rfl) (by kernel_rfl) (by kernel_rfl) (by kernel_rfl) (fun _ _ d _ _ h => by cases d <;> exact h) (fun u hS => exec_ix23 rfl rfl rfl) ⟨_, _, hq0⟩ ?_
  (try simp only [Act.put]); (try simp only [List.getElem_toArray]); (try simp only [List.getElem_cons_succ]); (try simp only [List.getElem_cons_zero]); (try simp only [List.setIfInBounds_toArray]); (try simp only [List.set_cons_succ]); (try simp only [List.set_cons_zero])
  refine any_take (i := 6) (Ev z sz) rfl rfl (by kernel_rfl) (by kernel_rfl) (by kernel_rfl) (by kernel_rfl) (fun _ _ d _ _ h => by cases d <;> exact h) (fun u hS => by obtain ⟨v9, l9, q9⟩ := hS; have kk := BKz.out.fr q9.low; exact exec_loadX rfl rfl kk.c0 kk.c1 kk.c2 kk.c3) ⟨_, _, hq0⟩ ?_
  (try simp only [Act.put]); (try simp only [List.getElem_toArray]); (try simp only [List.getElem_cons_succ]); (try simp only [List.getElem_cons_zero]); (try simp only [List.setIfInBounds_toArray]); (try simp only [List.set_cons_succ]); (try simp only [List.set_cons_zero])
  refine any_branch [2, 8] (by kernel_rfl) rfl fun ix hix => ?_
  simp only [List.mem_cons, List.not_mem_nil, or_false] at hix
  rcases hix with rfl | rfl
  · refine any_op rfl rfl fun K hK => ?_
    have hls1 : ({ data := #[44, 32] } : ByteArray).data.toList = [44, 32] := rfl
    obtain ⟨v1, u1, hr1, ho1, hf1⟩ := hq0.own.put_str { data := #[44, 32] } (by rw [size_lst, hls1]; exact (by have h0 := HL.out; have hx := BLx.out; have hy := BLy.out; have hz := BLz.out; (try simp only [Ex.par]); (try simp only [List.length_append]); (try simp only [List.length_cons]); (try simp only [List.length_nil]); omega)) hq0.sz 22
    rw [hls1] at ho1
    refine wp_app _ _ _ _ hr1 rfl rfl rfl ?_
    have hq1 := hq0.next ho1 hf1
    refine hK _ _ (fun _ => ⟨_, _, hq1⟩) ?_
    (try simp only [Act.put]); (try simp only [List.getElem_toArray]); (try simp only [List.getElem_cons_succ]); (try simp only [List.getElem_cons_zero]); (try simp only [List.setIfInBounds_toArray]); (try simp only [List.set_cons_succ]); (try simp only [List.set_cons_zero])
    clear hK
    refine any_branch [7, 8] (by kernel_rfl) rfl fun ix hix => ?_
    simp only [List.mem_cons, List.not_mem_nil, or_false] at hix
    rcases hix with rfl | rfl
    · refine any_op rfl rfl fun K hK => ?_
      go_simp
      refine (in_any n IH.out z _ base _ _ u1 BNz.out BPz.out ((BKz.out.fr hq1.low).sl) hq1.own hq1.sz (by have h0 := HL.out; have hx := BLx.out; have hy := BLy.out; have hz := BLz.out; (try simp only [Ex.par]); (try simp only [List.length_append]); (try simp only [List.length_cons]); (try simp only [List.length_nil]); omega) BLz.out).mono ?_
      rintro e u2 ⟨v2, rfl, ho2, hf2⟩
      have hq2 := hq1.next ho2 hf2
      refine hK _ _ (fun _ => ⟨_, _, hq2⟩) ?_
      (try simp only [Act.put]); (try simp only [List.getElem_toArray]); (try simp only [List.getElem_cons_succ]); (try simp only [List.getElem_cons_zero]); (try simp only [List.setIfInBounds_toArray]); (try simp only [List.set_cons_succ]); (try simp only [List.set_cons_zero])
      clear hK
      refine any_branch [8] (by kernel_rfl) rfl fun ix hix => ?_
      simp only [List.mem_cons, List.not_mem_nil, or_false] at hix
      subst hix
      refine any_op rfl rfl fun K hK => ?_
      go_simp
      have hN3 := Fl.new hq2.own 41
      have hf3 := Fr.below (v := v2) ((Below.refl u2.heap.size u2).alloc (Nat.le_refl _) (.cells #[.int .u8 41] 5))
      have hq3 := hq2.step ((Below.refl _ _).alloc (Nat.le_refl _) (.cells #[.int .u8 41] 5))
      change Fl (u2.alloc (.cells #[.int .u8 41] 5)) _ _ _ at hN3
      generalize u2.heap.size = pn3 at hN3 ⊢
      generalize u2.alloc (.cells #[.int .u8 41] 5) = u3 at hN3 hq3 hf3 ⊢
      refine hK _ _ (fun _ => ⟨_, _, hq3⟩) ?_
      (try simp only [Act.put]); (try simp only [List.getElem_toArray]); (try simp only [List.getElem_cons_succ]); (try simp only [List.getElem_cons_zero]); (try simp only [List.setIfInBounds_toArray]); (try simp only [List.set_cons_succ]); (try simp only [List.set_cons_zero])
      clear hK
      refine any_branch [9] (by kernel_rfl) rfl fun ix hix => ?_
      simp only [List.mem_cons, List.not_mem_nil, or_false] at hix
      subst hix
      refine any_op rfl rfl fun K hK => ?_
      obtain ⟨v4, u4, hr4, ho4, hf4⟩ := hq3.own.put_one pn3 1 41 (hN3.blk.cell 0) (by have h0 := HL.out; have hx := BLx.out; have hy := BLy.out; have hz := BLz.out; (try simp only [Ex.par]); (try simp only [List.length_append]); (try simp only [List.length_cons]); (try simp only [List.length_nil]); omega) hq3.sz 22
      refine wp_app _ _ _ _ hr4 rfl rfl rfl ?_
      have hq4 := hq3.next ho4 hf4
      refine hK _ _ (fun _ => ⟨_, _, hq4⟩) ?_
      (try simp only [Act.put]); (try simp only [List.getElem_toArray]); (try simp only [List.getElem_cons_succ]); (try simp only [List.getElem_cons_zero]); (try simp only [List.setIfInBounds_toArray]); (try simp only [List.set_cons_succ]); (try simp only [List.set_cons_zero])
      clear hK
      refine any_branch [10] (by kernel_rfl) rfl fun ix hix => ?_
      simp only [List.mem_cons, List.not_mem_nil, or_false] at hix
      subst hix
      refine any_op rfl rfl fun K hK => ?_
      go_simp
      refine hK _ _ (fun _ => ⟨_, _, hq4⟩) ?_
      (try simp only [Act.put]); (try simp only [List.getElem_toArray]); (try simp only [List.getElem_cons_succ]); (try simp only [List.getElem_cons_zero]); (try simp only [List.setIfInBounds_toArray]); (try simp only [List.set_cons_succ]); (try simp only [List.set_cons_zero])
      clear hK
      refine any_end (by kernel_rfl) ?_
      have HP := Bx.mk hq4
      have hsl := hq4.own.sl
      clear hq0 hq1 hq2 hq3 hq4 hf1 hf2 hf3 hf4 
      obtain ⟨pz, zz, yz, rfl⟩ := hsl
      obtain ⟨c0, c1, c2, c3, _, _, _, _⟩ := cells4 HP.out.e
      go_wp2_with fail
      go_ret
      refine ⟨.slice pz zz yz, rfl, ?_, HP.out.fr⟩
      have h5 := HP.out.own
      unfold Ex.prk
      simp only [List.append_assoc] at h5 ⊢
      simpa using h5
    · refine any_op rfl rfl fun K hK => ?_
      go_simp
      have hN2 := Fl.new hq1.own 41
      have hf2 := Fr.below (v := v1) ((Below.refl u1.heap.size u1).alloc (Nat.le_refl _) (.cells #[.int .u8 41] 5))
      have hq2 := hq1.step ((Below.refl _ _).alloc (Nat.le_refl _) (.cells #[.int .u8 41] 5))
      change Fl (u1.alloc (.cells #[.int .u8 41] 5)) _ _ _ at hN2
      generalize u1.heap.size = pn2 at hN2 ⊢
      generalize u1.alloc (.cells #[.int .u8 41] 5) = u2 at hN2 hq2 hf2 ⊢
      refine hK _ _ (fun _ => ⟨_, _, hq2⟩) ?_
      (try simp only [Act.put]); (try simp only [List.getElem_toArray]); (try simp only [List.getElem_cons_succ]); (try simp only [List.getElem_cons_zero]); (try simp only [List.setIfInBounds_toArray]); (try simp only [List.set_cons_succ]); (try simp only [List.set_cons_zero])
      clear hK
      refine any_branch [7] (by kernel_rfl) rfl fun ix hix => ?_
      simp only [List.mem_cons, List.not_mem_nil, or_false] at hix
      subst hix
      refine any_op rfl rfl fun K hK => ?_
      go_simp
      refine (in_any n IH.out z _ base _ _ u2 BNz.out BPz.out ((BKz.out.fr hq2.low).sl) hq2.own hq2.sz (by have h0 := HL.out; have hx := BLx.out; have hy := BLy.out; have hz := BLz.out; (try simp only [Ex.par]); (try simp only [List.length_append]); (try simp only [List.length_cons]); (try simp only [List.length_nil]); omega) BLz.out).mono ?_
      rintro e u3 ⟨v3, rfl, ho3, hf3⟩
      have hq3 := hq2.next ho3 hf3
      have hF8_3 := hN2.next hf3
      refine hK _ _ (fun _ => ⟨_, _, hq3⟩) ?_
      (try simp only [Act.put]); (try simp only [List.getElem_toArray]); (try simp only [List.getElem_cons_succ]); (try simp only [List.getElem_cons_zero]); (try simp only [List.setIfInBounds_toArray]); (try simp only [List.set_cons_succ]); (try simp only [List.set_cons_zero])
      clear hK
      refine any_branch [9] (by kernel_rfl) rfl fun ix hix => ?_
      simp only [List.mem_cons, List.not_mem_nil, or_false] at hix
      subst hix
      refine any_op rfl rfl fun K hK => ?_
      obtain ⟨v4, u4, hr4, ho4, hf4⟩ := hq3.own.put_one pn2 1 41 (hF8_3.blk.cell 0) (by have h0 := HL.out; have hx := BLx.out; have hy := BLy.out; have hz := BLz.out; (try simp only [Ex.par]); (try simp only [List.length_append]); (try simp only [List.length_cons]); (try simp only [List.length_nil]); omega) hq3.sz 22
      refine wp_app _ _ _ _ hr4 rfl rfl rfl ?_
      have hq4 := hq3.next ho4 hf4
      refine hK _ _ (fun _ => ⟨_, _, hq4⟩) ?_
      (try simp only [Act.put]); (try simp only [List.getElem_toArray]); (try simp only [List.getElem_cons_succ]); (try simp only [List.getElem_cons_zero]); (try simp only [List.setIfInBounds_toArray]); (try simp only [List.set_cons_succ]); (try simp only [List.set_cons_zero])
      clear hK
      refine any_branch [10] (by kernel_rfl) rfl fun ix hix => ?_
      simp only [List.mem_cons, List.not_mem_nil, or_false] at hix
      subst hix
      refine any_op rfl rfl fun K hK => ?_
      go_simp
      refine hK _ _ (fun _ => ⟨_, _, hq4⟩) ?_
      (try simp only [Act.put]); (try simp only [List.getElem_toArray]); (try simp only [List.getElem_cons_succ]); (try simp only [List.getElem_cons_zero]); (try simp only [List.setIfInBounds_toArray]); (try simp only [List.set_cons_succ]); (try simp only [List.set_cons_zero])
      clear hK
      refine any_end (by kernel_rfl) ?_
      have HP := Bx.mk hq4
      have hsl := hq4.own.sl
      clear hq0 hq1 hq2 hq3 hq4 hf1 hf2 hf3 hf4 
      obtain ⟨pz, zz, yz, rfl⟩ := hsl
      obtain ⟨c0, c1, c2, c3, _, _, _, _⟩ := cells4 HP.out.e
      go_wp2_with fail
      go_ret
      refine ⟨.slice pz zz yz, rfl, ?_, HP.out.fr⟩
      have h5 := HP.out.own
      unfold Ex.prk
      simp only [List.append_assoc] at h5 ⊢
      simpa using h5
  · refine any_op rfl rfl fun K hK => ?_
    go_simp
    have hN1 := Fl.new hq0.own 41
    have hf1 := Fr.below (v := (.slice pb zb yb)) ((Below.refl u0.heap.size u0).alloc (Nat.le_refl _) (.cells #[.int .u8 41] 5))
    have hq1 := hq0.step ((Below.refl _ _).alloc (Nat.le_refl _) (.cells #[.int .u8 41] 5))
    change Fl (u0.alloc (.cells #[.int .u8 41] 5)) _ _ _ at hN1
    generalize u0.heap.size = pn1 at hN1 ⊢
    generalize u0.alloc (.cells #[.int .u8 41] 5) = u1 at hN1 hq1 hf1 ⊢
    refine hK _ _ (fun _ => ⟨_, _, hq1⟩) ?_
    (try simp only [Act.put]); (try simp only [List.getElem_toArray]); (try simp only [List.getElem_cons_succ]); (try simp only [List.getElem_cons_zero]); (try simp only [List.setIfInBounds_toArray]); (try simp only [List.set_cons_succ]); (try simp only [List.set_cons_zero])
    clear hK
    refine any_branch [2] (by kernel_rfl) rfl fun ix hix => ?_
    simp only [List.mem_cons, List.not_mem_nil, or_false] at hix
    subst hix
    refine any_op rfl rfl fun K hK => ?_
    have hls2 : ({ data := #[44, 32] } : ByteArray).data.toList = [44, 32] := rfl
    obtain ⟨v2, u2, hr2, ho2, hf2⟩ := hq1.own.put_str { data := #[44, 32] } (by rw [size_lst, hls2]; exact (by have h0 := HL.out; have hx := BLx.out; have hy := BLy.out; have hz := BLz.out; (try simp only [Ex.par]); (try simp only [List.length_append]); (try simp only [List.length_cons]); (try simp only [List.length_nil]); omega)) hq1.sz 22
    rw [hls2] at ho2
    refine wp_app _ _ _ _ hr2 rfl rfl rfl ?_
    have hq2 := hq1.next ho2 hf2
    have hF8_2 := hN1.next hf2
    refine hK _ _ (fun _ => ⟨_, _, hq2⟩) ?_
    (try simp only [Act.put]); (try simp only [List.getElem_toArray]); (try simp only [List.getElem_cons_succ]); (try simp only [List.getElem_cons_zero]); (try simp only [List.setIfInBounds_toArray]); (try simp only [List.set_cons_succ]); (try simp only [List.set_cons_zero])
    clear hK
    refine any_branch [7] (by kernel_rfl) rfl fun ix hix => ?_
    simp only [List.mem_cons, List.not_mem_nil, or_false] at hix
    subst hix
    refine any_op rfl rfl fun K hK => ?_
    go_simp
    refine (in_any n IH.out z _ base _ _ u2 BNz.out BPz.out ((BKz.out.fr hq2.low).sl) hq2.own hq2.sz (by have h0 := HL.out; have hx := BLx.out; have hy := BLy.out; have hz := BLz.out; (try simp only [Ex.par]); (try simp only [List.length_append]); (try simp only [List.length_cons]); (try simp only [List.length_nil]); omega) BLz.out).mono ?_
    rintro e u3 ⟨v3, rfl, ho3, hf3⟩
    have hq3 := hq2.next ho3 hf3
    have hF8_3 := hF8_2.next hf3
    refine hK _ _ (fun _ => ⟨_, _, hq3⟩) ?_
    (try simp only [Act.put]); (try simp only [List.getElem_toArray]); (try simp only [List.getElem_cons_succ]); (try simp only [List.getElem_cons_zero]); (try simp only [List.setIfInBounds_toArray]); (try simp only [List.set_cons_succ]); (try simp only [List.set_cons_zero])
    clear hK
    refine any_branch [9] (by kernel_rfl) rfl fun ix hix => ?_
    simp only [List.mem_cons, List.not_mem_nil, or_false] at hix
    subst hix
    refine any_op rfl rfl fun K hK => ?_
    obtain ⟨v4, u4, hr4, ho4, hf4⟩ := hq3.own.put_one pn1 1 41 (hF8_3.blk.cell 0) (by have h0 := HL.out; have hx := BLx.out; have hy := BLy.out; have hz := BLz.out; (try simp only [Ex.par]); (try simp only [List.length_append]); (try simp only [List.length_cons]); (try simp only [List.length_nil]); omega) hq3.sz 22
    refine wp_app _ _ _ _ hr4 rfl rfl rfl ?_
    have hq4 := hq3.next ho4 hf4
    refine hK _ _ (fun _ => ⟨_, _, hq4⟩) ?_
    (try simp only [Act.put]); (try simp only [List.getElem_toArray]); (try simp only [List.getElem_cons_succ]); (try simp only [List.getElem_cons_zero]); (try simp only [List.setIfInBounds_toArray]); (try simp only [List.set_cons_succ]); (try simp only [List.set_cons_zero])
    clear hK
    refine any_branch [10] (by kernel_rfl) rfl fun ix hix => ?_
    simp only [List.mem_cons, List.not_mem_nil, or_false] at hix
    subst hix
    refine any_op rfl rfl fun K hK => ?_
    go_simp
    refine hK _ _ (fun _ => ⟨_, _, hq4⟩) ?_
    (try simp only [Act.put]); (try simp only [List.getElem_toArray]); (try simp only [List.getElem_cons_succ]); (try simp only [List.getElem_cons_zero]); (try simp only [List.setIfInBounds_toArray]); (try simp only [List.set_cons_succ]); (try simp only [List.set_cons_zero])
    clear hK
    refine any_end (by kernel_rfl) ?_
    have HP := Bx.mk hq4
    have hsl := hq4.own.sl
    clear hq0 hq1 hq2 hq3 hq4 hf1 hf2 hf3 hf4 
    obtain ⟨pz, zz, yz, rfl⟩ := hsl
    obtain ⟨c0, c1, c2, c3, _, _, _, _⟩ := cells4 HP.out.e
    go_wp2_with fail
    go_ret
    refine ⟨.slice pz zz yz, rfl, ?_, HP.out.fr⟩
    have h5 := HP.out.own
    unfold Ex.prk
    simp only [List.append_assoc] at h5 ⊢
    simpa using h5
set_option maxHeartbeats 8000000 in
theorem put_4 (n : Nat) (ih : Pw n) (k : Int) (hk : 4 ≤ k ∧ k ≤ 8) (a : Int) (vv : Int) (b o cap : Nat) (base : Nat) (v : Value) (l : List UInt8) (w : World) (x : Tr) (sx : Value) (Kx : KidB w base b o x sx) (Nx : (x.on .nil).nodes ≤ n) (Px : (x.on .nil).allPlain = true) (y : Tr) (sy : Value) (Ky : KidB w base b (o + 4) y sy) (Ny : (y.on .nil).nodes ≤ n) (Py : (y.on .nil).allPlain = true) (ho : OwnB w base v l) (hb : base ≤ w.heap.size) (hl : l.length + 32 * (1 + ((x.on .nil).nodes + (y.on .nil).nodes)) ≤ 500000) :
    Calls Try.prog 35 #[v, .agg #[.int .i64 k, .int .i64 a, .int .i64 vv, .slice (some ⟨b, o, none⟩) 2 cap]] w fun e w' => ∃ v', e = .returned v' ∧ OwnB w' base v' (l ++ Ex.prk k vv [Ex.pr x, Ex.pr y]) ∧ Fr v w v' w' := by
  have hP : PQ base v w (w.alloc (.cells #[.int .i64 k, .int .i64 a, .int .i64 vv, .slice (some ⟨b, o, none⟩) 2 cap] 36)) #[.int .i64 k, .int .i64 a, .int .i64 vv, .slice (some ⟨b, o, none⟩) 2 cap] v l := PQ.start ho hb
  obtain ⟨c0, c1, c2, c3, _, _, _, _⟩ := cells4 hP.e
  have HP := Bx.mk hP
  have IH := Bx.mk ih
  have HL := Bx.mk hl
  have BKx := Bx.mk Kx
  have BNx := Bx.mk Nx
  have BPx := Bx.mk Px
  have BLx := Bx.mk (pr_len x)
  have BKy := Bx.mk Ky
  have BNy := Bx.mk Ny
  have BPy := Bx.mk Py
  have BLy := Bx.mk (pr_len y)
  have q1 : (k == 1) = false := by rw [beq_eq_false_iff_ne]; omega
  have r1 : ¬ k = 1 := by omega
  have q2 : (k == 2) = false := by rw [beq_eq_false_iff_ne]; omega
  have r2 : ¬ k = 2 := by omega
  have q3 : (k == 3) = false := by rw [beq_eq_false_iff_ne]; omega
  have r3 : ¬ k = 3 := by omega
  have q10 : (k == 10) = false := by rw [beq_eq_false_iff_ne]; omega
  have r10 : ¬ k = 10 := by omega
  have q11 : (k == 11) = false := by rw [beq_eq_false_iff_ne]; omega
  have r11 : ¬ k = 11 := by omega
  have q9 : (k == 9) = false := by rw [beq_eq_false_iff_ne]; omega
  have r9 : ¬ k = 9 := by omega
  have HSG := Bx.mk (sgn_len k)
  have HK := Bx.mk (And.intro hk (And.intro r1 (And.intro r2 (And.intro r3 (And.intro r10 (And.intro r11 r9))))))
  clear hk
  clear hP ih ho hl Kx Nx Px Ky Ny Py
  go_enter Try.func35, Try.ntmps35
  go_wp2_with fail
  refine region_any 100 (fun u => ∃ v' l', PQ base v w u #[.int .i64 k, .int .i64 a, .int .i64 vv, .slice (some ⟨b, o, none⟩) 2 cap] v' l') (by kernel_rfl) ?_
  generalize hu : World.drew _ = u0
  have hq0 := HP.out.step ((Below.refl _ _).drew)
  rw [hu] at hq0
  clear hu HP c0 c1 c2 c3
  refine any_take (i := 0) (.func (.func 53) #[] #[]) rfl rfl (by kernel_rfl) (by kernel_rfl) (by kernel_rfl) (by kernel_rfl) (fun _ _ d _ _ h => by cases d <;> exact h) (fun u hS => rfl) ⟨_, _, hq0⟩ ?_
  (try simp only [Act.put]); (try simp only [List.getElem_toArray]); (try simp only [List.getElem_cons_succ]); (try simp only [List.getElem_cons_zero]); (try simp only [List.setIfInBounds_toArray]); (try simp only [List.set_cons_succ]); (try simp only [List.set_cons_zero])
  refine any_take (i := 1) (v) rfl rfl (by kernel_rfl) (by kernel_rfl) (by kernel_rfl) (by kernel_rfl) (fun _ _ d _ _ h => by cases d <;> exact h) (fun u hS => rfl) ⟨_, _, hq0⟩ ?_
  (try simp only [Act.put]); (try simp only [List.getElem_toArray]); (try simp only [List.getElem_cons_succ]); (try simp only [List.getElem_cons_zero]); (try simp only [List.setIfInBounds_toArray]); (try simp only [List.set_cons_succ]); (try simp only [List.set_cons_zero])
  refine any_take (i := 4) (.pointer (some ⟨w.heap.size, 3, none⟩)) rfl rfl (by kernel_rfl) (by kernel_rfl) (by kernel_rfl) (by kernel_rfl) (fun _ _ d _ _ h => by cases d <;> exact h) (fun u hS => rfl) ⟨_, _, hq0⟩ ?_
  (try simp only [Act.put]); (try simp only [List.getElem_toArray]); (try simp only [List.getElem_cons_succ]); (try simp only [List.getElem_cons_zero]); (try simp only [List.setIfInBounds_toArray]); (try simp only [List.set_cons_succ]); (try simp only [List.set_cons_zero])
  refine any_take (i := 5) (.slice (some ⟨b, o, none⟩) 2 cap) rfl rfl (by kernel_rfl) (by kernel_rfl) (by kernel_rfl) (by kernel_rfl) (fun _ _ d _ _ h => by cases d <;> exact h) (fun u hS => by obtain ⟨v9, l9, q9⟩ := hS; exact exec_loadS rfl rfl (q9.e.cell 3)) ⟨_, _, hq0⟩ ?_
  (try simp only [Act.put]); (try simp only [List.getElem_toArray]); (try simp only [List.getElem_cons_succ]); (try simp only [List.getElem_cons_zero]); (try simp only [List.setIfInBounds_toArray]); (try simp only [List.set_cons_succ]); (try simp only [List.set_cons_zero])
  refine any_take (i := 6) (.pointer (some ⟨b, o, none⟩)) rfl rfl (by kernel_rfl) (by kernel_rfl) (by kernel_rfl) (by kernel_rfl) (fun _ _ d _ _ h => by cases d <;> exact h) (fun u hS => exec_ix02 rfl rfl rfl) ⟨_, _, hq0⟩ ?_
  (try simp only [Act.put]); (try simp only [List.getElem_toArray]); (try simp only [List.getElem_cons_succ]); (try simp only [List.getElem_cons_zero]); (try simp only [List.setIfInBounds_toArray]); (try simp only [List.set_cons_succ]); (try simp only [List.set_cons_zero])
  refine any_take (i := 7) (Ev x sx) rfl rfl (by kernel_rfl) (by kernel_rfl) (by kernel_rfl) (by kernel_rfl) (fun _ _ d _ _ h => by cases d <;> exact h) (fun u hS => by obtain ⟨v9, l9, q9⟩ := hS; have kk := BKx.out.fr q9.low; exact exec_loadX rfl rfl kk.c0 kk.c1 kk.c2 kk.c3) ⟨_, _, hq0⟩ ?_
  (try simp only [Act.put]); (try simp only [List.getElem_toArray]); (try simp only [List.getElem_cons_succ]); (try simp only [List.getElem_cons_zero]); (try simp only [List.setIfInBounds_toArray]); (try simp only [List.set_cons_succ]); (try simp only [List.set_cons_zero])
  refine any_branch [2] (by kernel_rfl) rfl fun ix hix => ?_
  simp only [List.mem_cons, List.not_mem_nil, or_false] at hix
  subst hix
  refine any_op rfl rfl fun K hK => ?_
  go_simp
  have hN1 := Fl.new hq0.own 40
  have hf1 := Fr.below (v := v) ((Below.refl u0.heap.size u0).alloc (Nat.le_refl _) (.cells #[.int .u8 40] 5))
  have hq1 := hq0.step ((Below.refl _ _).alloc (Nat.le_refl _) (.cells #[.int .u8 40] 5))
  change Fl (u0.alloc (.cells #[.int .u8 40] 5)) _ _ _ at hN1
  generalize u0.heap.size = pn1 at hN1 ⊢
  generalize u0.alloc (.cells #[.int .u8 40] 5) = u1 at hN1 hq1 hf1 ⊢
  refine hK _ _ (fun _ => ⟨_, _, hq1⟩) ?_
  (try simp only [Act.put]); (try simp only [List.getElem_toArray]); (try simp only [List.getElem_cons_succ]); (try simp only [List.getElem_cons_zero]); (try simp only [List.setIfInBounds_toArray]); (try simp only [List.set_cons_succ]); (try simp only [List.set_cons_zero])
  clear hK
  refine any_branch [3] (by kernel_rfl) rfl fun ix hix => ?_
  simp only [List.mem_cons, List.not_mem_nil, or_false] at hix
  subst hix
  refine any_op rfl rfl fun K hK => ?_
  obtain ⟨v2, u2, hr2, ho2, hf2⟩ := hq1.own.put_one pn1 1 40 (hN1.blk.cell 0) (by have h0 := HL.out; have hx := BLx.out; have hy := BLy.out; have hsg := HSG.out; (try simp only [Ex.par]); (try simp only [List.length_append]); (try simp only [List.length_cons]); (try simp only [List.length_nil]); omega) hq1.sz 22
  refine wp_app _ _ _ _ hr2 rfl rfl rfl ?_
  have hq2 := hq1.next ho2 hf2
  refine hK _ _ (fun _ => ⟨_, _, hq2⟩) ?_
  (try simp only [Act.put]); (try simp only [List.getElem_toArray]); (try simp only [List.getElem_cons_succ]); (try simp only [List.getElem_cons_zero]); (try simp only [List.setIfInBounds_toArray]); (try simp only [List.set_cons_succ]); (try simp only [List.set_cons_zero])
  clear hK
  refine any_branch [8] (by kernel_rfl) rfl fun ix hix => ?_
  simp only [List.mem_cons, List.not_mem_nil, or_false] at hix
  subst hix
  refine any_op rfl rfl fun K hK => ?_
  go_simp
  refine (in_any n IH.out x _ base _ _ u2 BNx.out BPx.out ((BKx.out.fr hq2.low).sl) hq2.own hq2.sz (by have h0 := HL.out; have hx := BLx.out; have hy := BLy.out; have hsg := HSG.out; (try simp only [Ex.par]); (try simp only [List.length_append]); (try simp only [List.length_cons]); (try simp only [List.length_nil]); omega) BLx.out).mono ?_
  rintro e u3 ⟨v3, rfl, ho3, hf3⟩
  have hq3 := hq2.next ho3 hf3
  refine hK _ _ (fun _ => ⟨_, _, hq3⟩) ?_
  (try simp only [Act.put]); (try simp only [List.getElem_toArray]); (try simp only [List.getElem_cons_succ]); (try simp only [List.getElem_cons_zero]); (try simp only [List.setIfInBounds_toArray]); (try simp only [List.set_cons_succ]); (try simp only [List.set_cons_zero])
  clear hK
  refine any_branch [9] (by kernel_rfl) rfl fun ix hix => ?_
  simp only [List.mem_cons, List.not_mem_nil, or_false] at hix
  subst hix
  refine any_op rfl rfl fun K hK => ?_
  go_simp
  refine hK _ _ (fun _ => ⟨_, _, hq3⟩) ?_
  (try simp only [Act.put]); (try simp only [List.getElem_toArray]); (try simp only [List.getElem_cons_succ]); (try simp only [List.getElem_cons_zero]); (try simp only [List.setIfInBounds_toArray]); (try simp only [List.set_cons_succ]); (try simp only [List.set_cons_zero])
  clear hK
  refine any_end (by kernel_rfl) ?_
  have HP := Bx.mk hq3
  have hsl := hq3.own.sl
  clear hq0 hq1 hq2 hq3 hf1 hf2 hf3 
  obtain ⟨pa, za, ya, rfl⟩ := hsl
  obtain ⟨c0, c1, c2, c3, _, _, _, _⟩ := cells4 HP.out.e
  go_wp2_with fail
  refine region_any 100 (fun u => ∃ v' l', PQ base v w u #[.int .i64 k, .int .i64 a, .int .i64 vv, .slice (some ⟨b, o, none⟩) 2 cap] v' l') (by kernel_rfl) ?_
  generalize hu : World.drew _ = u0
  have hq0 := HP.out.step ((Below.refl _ _).drew)
  rw [hu] at hq0
  clear hu HP c0 c1 c2 c3
  refine any_take (i := 0) (.func (.func 53) #[] #[]) rfl rfl (by kernel_rfl) (by kernel_rfl) (by kernel_rfl) (by kernel_rfl) (fun _ _ d _ _ h => by cases d <;> exact h) (fun u hS => rfl) ⟨_, _, hq0⟩ ?_
  (try simp only [Act.put]); (try simp only [List.getElem_toArray]); (try simp only [List.getElem_cons_succ]); (try simp only [List.getElem_cons_zero]); (try simp only [List.setIfInBounds_toArray]); (try simp only [List.set_cons_succ]); (try simp only [List.set_cons_zero])
  refine any_take (i := 1) (.slice pa za ya) rfl rfl (by kernel_rfl) (by kernel_rfl) (by kernel_rfl) (by kernel_rfl) (fun _ _ d _ _ h => by cases d <;> exact h) (fun u hS => rfl) ⟨_, _, hq0⟩ ?_
  (try simp only [Act.put]); (try simp only [List.getElem_toArray]); (try simp only [List.getElem_cons_succ]); (try simp only [List.getElem_cons_zero]); (try simp only [List.setIfInBounds_toArray]); (try simp only [List.set_cons_succ]); (try simp only [List.set_cons_zero])
  refine any_take (i := 2) (.pointer (some ⟨w.heap.size, 0, none⟩)) rfl rfl (by kernel_rfl) (by kernel_rfl) (by kernel_rfl) (by kernel_rfl) (fun _ _ d _ _ h => by cases d <;> exact h) (fun u hS => rfl) ⟨_, _, hq0⟩ ?_
  (try simp only [Act.put]); (try simp only [List.getElem_toArray]); (try simp only [List.getElem_cons_succ]); (try simp only [List.getElem_cons_zero]); (try simp only [List.setIfInBounds_toArray]); (try simp only [List.set_cons_succ]); (try simp only [List.set_cons_zero])
  refine any_take (i := 3) (.int .i64 k) rfl rfl (by kernel_rfl) (by kernel_rfl) (by kernel_rfl) (by kernel_rfl) (fun _ _ d _ _ h => by cases d <;> exact h) (fun u hS => by obtain ⟨v9, l9, q9⟩ := hS; exact exec_loadI rfl rfl (q9.e.cell 0)) ⟨_, _, hq0⟩ ?_
  (try simp only [Act.put]); (try simp only [List.getElem_toArray]); (try simp only [List.getElem_cons_succ]); (try simp only [List.getElem_cons_zero]); (try simp only [List.setIfInBounds_toArray]); (try simp only [List.set_cons_succ]); (try simp only [List.set_cons_zero])
  refine any_take (i := 8) (.pointer (some ⟨w.heap.size, 3, none⟩)) rfl rfl (by kernel_rfl) (by kernel_rfl) (by kernel_rfl) (by kernel_rfl) (fun _ _ d _ _ h => by cases d <;> exact h) (fun u hS => rfl) ⟨_, _, hq0⟩ ?_
  (try simp only [Act.put]); (try simp only [List.getElem_toArray]); (try simp only [List.getElem_cons_succ]); (try simp only [List.getElem_cons_zero]); (try simp only [List.setIfInBounds_toArray]); (try simp only [List.set_cons_succ]); (try simp only [List.set_cons_zero])
  refine any_take (i := 9) (.slice (some ⟨b, o, none⟩) 2 cap) rfl rfl (by kernel_rfl) (by kernel_rfl) (by kernel_rfl) (by kernel_rfl) (fun _ _ d _ _ h => by cases d <;> exact h) (fun u hS => by obtain ⟨v9, l9, q9⟩ := hS; exact exec_loadS rfl rfl (q9.e.cell 3)) ⟨_, _, hq0⟩ ?_
  (try simp only [Act.put]); (try simp only [List.getElem_toArray]); (try simp only [List.getElem_cons_succ]); (try simp only [List.getElem_cons_zero]); (try simp only [List.setIfInBounds_toArray]); (try simp only [List.set_cons_succ]); (try simp only [List.set_cons_zero])
  refine any_take (i := 10) (.pointer (some ⟨b, o + 4, none⟩)) rfl rfl (by kernel_rfl) (by kernel_rfl) (by kernel_rfl) (by kernel_rfl) (fun _ _ d _ _ h => by cases d <;> exact h) (fun u hS => exec_ix12 rfl rfl rfl) ⟨_, _, hq0⟩ ?_
  (try simp only [Act.put]); (try simp only [List.getElem_toArray]); (try simp only [List.getElem_cons_succ]); (try simp only [List.getElem_cons_zero]); (try simp only [List.setIfInBounds_toArray]); (try simp only [List.set_cons_succ]); (try simp only [List.set_cons_zero])
  refine any_take (i := 11) (Ev y sy) rfl rfl (by kernel_rfl) (by kernel_rfl) (by kernel_rfl) (by kernel_rfl) (fun _ _ d _ _ h => by cases d <;> exact h) (fun u hS => by obtain ⟨v9, l9, q9⟩ := hS; have kk := BKy.out.fr q9.low; exact exec_loadX rfl rfl kk.c0 kk.c1 kk.c2 kk.c3) ⟨_, _, hq0⟩ ?_
  (try simp only [Act.put]); (try simp only [List.getElem_toArray]); (try simp only [List.getElem_cons_succ]); (try simp only [List.getElem_cons_zero]); (try simp only [List.setIfInBounds_toArray]); (try simp only [List.set_cons_succ]); (try simp only [List.set_cons_zero])
  refine any_branch [4, 13] (by kernel_rfl) rfl fun ix hix => ?_
  simp only [List.mem_cons, List.not_mem_nil, or_false] at hix
  rcases hix with rfl | rfl
  · refine any_op rfl rfl fun K hK => ?_
    go_simp
    refine (sign_any k HK.out.1 _).mono ?_
    rintro e u9 ⟨rfl, e9⟩
    obtain rfl : u0 = u9 := e9.symm
    refine hK _ _ (fun _ => ⟨_, _, hq0⟩) ?_
    (try simp only [Act.put]); (try simp only [List.getElem_toArray]); (try simp only [List.getElem_cons_succ]); (try simp only [List.getElem_cons_zero]); (try simp only [List.setIfInBounds_toArray]); (try simp only [List.set_cons_succ]); (try simp only [List.set_cons_zero])
    clear hK
    refine any_take (i := 5) (.string ({ data := #[32] } ++ ⟨(Ex.sgn k).toArray⟩)) rfl rfl (by kernel_rfl) (by kernel_rfl) (by kernel_rfl) (by kernel_rfl) (fun _ _ d _ _ h => by cases d <;> exact h) (fun u hS => exec_addS rfl rfl rfl (by have := HSG.out; simp only [ByteArray.size, List.size_toArray, List.length_cons, List.length_nil]; omega)) ⟨_, _, hq0⟩ ?_
    (try simp only [Act.put]); (try simp only [List.getElem_toArray]); (try simp only [List.getElem_cons_succ]); (try simp only [List.getElem_cons_zero]); (try simp only [List.setIfInBounds_toArray]); (try simp only [List.set_cons_succ]); (try simp only [List.set_cons_zero])
    refine any_take (i := 6) (.string (({ data := #[32] } ++ ⟨(Ex.sgn k).toArray⟩) ++ { data := #[32] })) rfl rfl (by kernel_rfl) (by kernel_rfl) (by kernel_rfl) (by kernel_rfl) (fun _ _ d _ _ h => by cases d <;> exact h) (fun u hS => exec_addS rfl rfl rfl (by have := HSG.out; rw [ByteArray.size_append]; simp only [ByteArray.size, List.size_toArray, List.length_cons, List.length_nil]; omega)) ⟨_, _, hq0⟩ ?_
    (try simp only [Act.put]); (try simp only [List.getElem_toArray]); (try simp only [List.getElem_cons_succ]); (try simp only [List.getElem_cons_zero]); (try simp only [List.setIfInBounds_toArray]); (try simp only [List.set_cons_succ]); (try simp only [List.set_cons_zero])
    refine any_branch [7, 13] (by kernel_rfl) rfl fun ix hix => ?_
    simp only [List.mem_cons, List.not_mem_nil, or_false] at hix
    rcases hix with rfl | rfl
    · refine any_op rfl rfl fun K hK => ?_
      have hls1 : ((({ data := #[32] } ++ ⟨(Ex.sgn k).toArray⟩) ++ { data := #[32] }) : ByteArray).data.toList = [32] ++ Ex.sgn k ++ [32] := by rw [lst3]
      obtain ⟨v1, u1, hr1, ho1, hf1⟩ := hq0.own.put_str (({ data := #[32] } ++ ⟨(Ex.sgn k).toArray⟩) ++ { data := #[32] }) (by rw [size_lst, hls1]; exact (by have h0 := HL.out; have hx := BLx.out; have hy := BLy.out; have hsg := HSG.out; (try simp only [Ex.par]); (try simp only [List.length_append]); (try simp only [List.length_cons]); (try simp only [List.length_nil]); omega)) hq0.sz 22
      rw [hls1] at ho1
      refine wp_app _ _ _ _ hr1 rfl rfl rfl ?_
      have hq1 := hq0.next ho1 hf1
      refine hK _ _ (fun _ => ⟨_, _, hq1⟩) ?_
      (try simp only [Act.put]); (try simp only [List.getElem_toArray]); (try simp only [List.getElem_cons_succ]); (try simp only [List.getElem_cons_zero]); (try simp only [List.setIfInBounds_toArray]); (try simp only [List.set_cons_succ]); (try simp only [List.set_cons_zero])
      clear hK
      refine any_branch [12, 13] (by kernel_rfl) rfl fun ix hix => ?_
      simp only [List.mem_cons, List.not_mem_nil, or_false] at hix
      rcases hix with rfl | rfl
      · refine any_op rfl rfl fun K hK => ?_
        go_simp
        refine (in_any n IH.out y _ base _ _ u1 BNy.out BPy.out ((BKy.out.fr hq1.low).sl) hq1.own hq1.sz (by have h0 := HL.out; have hx := BLx.out; have hy := BLy.out; have hsg := HSG.out; (try simp only [Ex.par]); (try simp only [List.length_append]); (try simp only [List.length_cons]); (try simp only [List.length_nil]); omega) BLy.out).mono ?_
        rintro e u2 ⟨v2, rfl, ho2, hf2⟩
        have hq2 := hq1.next ho2 hf2
        refine hK _ _ (fun _ => ⟨_, _, hq2⟩) ?_
        (try simp only [Act.put]); (try simp only [List.getElem_toArray]); (try simp only [List.getElem_cons_succ]); (try simp only [List.getElem_cons_zero]); (try simp only [List.setIfInBounds_toArray]); (try simp only [List.set_cons_succ]); (try simp only [List.set_cons_zero])
        clear hK
        refine any_branch [13] (by kernel_rfl) rfl fun ix hix => ?_
        simp only [List.mem_cons, List.not_mem_nil, or_false] at hix
        subst hix
        refine any_op rfl rfl fun K hK => ?_
        go_simp
        have hN3 := Fl.new hq2.own 41
        have hf3 := Fr.below (v := v2) ((Below.refl u2.heap.size u2).alloc (Nat.le_refl _) (.cells #[.int .u8 41] 5))
        have hq3 := hq2.step ((Below.refl _ _).alloc (Nat.le_refl _) (.cells #[.int .u8 41] 5))
        change Fl (u2.alloc (.cells #[.int .u8 41] 5)) _ _ _ at hN3
        generalize u2.heap.size = pn3 at hN3 ⊢
        generalize u2.alloc (.cells #[.int .u8 41] 5) = u3 at hN3 hq3 hf3 ⊢
        refine hK _ _ (fun _ => ⟨_, _, hq3⟩) ?_
        (try simp only [Act.put]); (try simp only [List.getElem_toArray]); (try simp only [List.getElem_cons_succ]); (try simp only [List.getElem_cons_zero]); (try simp only [List.setIfInBounds_toArray]); (try simp only [List.set_cons_succ]); (try simp only [List.set_cons_zero])
        clear hK
        refine any_branch [14] (by kernel_rfl) rfl fun ix hix => ?_
        simp only [List.mem_cons, List.not_mem_nil, or_false] at hix
        subst hix
        refine any_op rfl rfl fun K hK => ?_
        obtain ⟨v4, u4, hr4, ho4, hf4⟩ := hq3.own.put_one pn3 1 41 (hN3.blk.cell 0) (by have h0 := HL.out; have hx := BLx.out; have hy := BLy.out; have hsg := HSG.out; (try simp only [Ex.par]); (try simp only [List.length_append]); (try simp only [List.length_cons]); (try simp only [List.length_nil]); omega) hq3.sz 22
        refine wp_app _ _ _ _ hr4 rfl rfl rfl ?_
        have hq4 := hq3.next ho4 hf4
        refine hK _ _ (fun _ => ⟨_, _, hq4⟩) ?_
        (try simp only [Act.put]); (try simp only [List.getElem_toArray]); (try simp only [List.getElem_cons_succ]); (try simp only [List.getElem_cons_zero]); (try simp only [List.setIfInBounds_toArray]); (try simp only [List.set_cons_succ]); (try simp only [List.set_cons_zero])
        clear hK
        refine any_branch [15] (by kernel_rfl) rfl fun ix hix => ?_
        simp only [List.mem_cons, List.not_mem_nil, or_false] at hix
        subst hix
        refine any_op rfl rfl fun K hK => ?_
        go_simp
        refine hK _ _ (fun _ => ⟨_, _, hq4⟩) ?_
        (try simp only [Act.put]); (try simp only [List.getElem_toArray]); (try simp only [List.getElem_cons_succ]); (try simp only [List.getElem_cons_zero]); (try simp only [List.setIfInBounds_toArray]); (try simp only [List.set_cons_succ]); (try simp only [List.set_cons_zero])
        clear hK
        refine any_end (by kernel_rfl) ?_
        have HP := Bx.mk hq4
        have hsl := hq4.own.sl
        clear hq0 hq1 hq2 hq3 hq4 hf1 hf2 hf3 hf4 
        obtain ⟨pz, zz, yz, rfl⟩ := hsl
        obtain ⟨c0, c1, c2, c3, _, _, _, _⟩ := cells4 HP.out.e
        go_wp2_with fail
        go_ret
        refine ⟨.slice pz zz yz, rfl, ?_, HP.out.fr⟩
        have h5 := HP.out.own
        unfold Ex.prk
        simp only [if_neg HK.out.2.1, if_neg HK.out.2.2.1, if_neg HK.out.2.2.2.1, if_neg HK.out.2.2.2.2.1, if_neg HK.out.2.2.2.2.2.1, if_neg HK.out.2.2.2.2.2.2, List.append_assoc] at h5 ⊢
        simpa using h5
      · refine any_op rfl rfl fun K hK => ?_
        go_simp
        have hN2 := Fl.new hq1.own 41
        have hf2 := Fr.below (v := v1) ((Below.refl u1.heap.size u1).alloc (Nat.le_refl _) (.cells #[.int .u8 41] 5))
        have hq2 := hq1.step ((Below.refl _ _).alloc (Nat.le_refl _) (.cells #[.int .u8 41] 5))
        change Fl (u1.alloc (.cells #[.int .u8 41] 5)) _ _ _ at hN2
        generalize u1.heap.size = pn2 at hN2 ⊢
        generalize u1.alloc (.cells #[.int .u8 41] 5) = u2 at hN2 hq2 hf2 ⊢
        refine hK _ _ (fun _ => ⟨_, _, hq2⟩) ?_
        (try simp only [Act.put]); (try simp only [List.getElem_toArray]); (try simp only [List.getElem_cons_succ]); (try simp only [List.getElem_cons_zero]); (try simp only [List.setIfInBounds_toArray]); (try simp only [List.set_cons_succ]); (try simp only [List.set_cons_zero])
        clear hK
        refine any_branch [12] (by kernel_rfl) rfl fun ix hix => ?_
        simp only [List.mem_cons, List.not_mem_nil, or_false] at hix
        subst hix
        refine any_op rfl rfl fun K hK => ?_
        go_simp
        refine (in_any n IH.out y _ base _ _ u2 BNy.out BPy.out ((BKy.out.fr hq2.low).sl) hq2.own hq2.sz (by have h0 := HL.out; have hx := BLx.out; have hy := BLy.out; have hsg := HSG.out; (try simp only [Ex.par]); (try simp only [List.length_append]); (try simp only [List.length_cons]); (try simp only [List.length_nil]); omega) BLy.out).mono ?_
        rintro e u3 ⟨v3, rfl, ho3, hf3⟩
        have hq3 := hq2.next ho3 hf3
        have hF13_3 := hN2.next hf3
        refine hK _ _ (fun _ => ⟨_, _, hq3⟩) ?_
        (try simp only [Act.put]); (try simp only [List.getElem_toArray]); (try simp only [List.getElem_cons_succ]); (try simp only [List.getElem_cons_zero]); (try simp only [List.setIfInBounds_toArray]); (try simp only [List.set_cons_succ]); (try simp only [List.set_cons_zero])
        clear hK
        refine any_branch [14] (by kernel_rfl) rfl fun ix hix => ?_
        simp only [List.mem_cons, List.not_mem_nil, or_false] at hix
        subst hix
        refine any_op rfl rfl fun K hK => ?_
        obtain ⟨v4, u4, hr4, ho4, hf4⟩ := hq3.own.put_one pn2 1 41 (hF13_3.blk.cell 0) (by have h0 := HL.out; have hx := BLx.out; have hy := BLy.out; have hsg := HSG.out; (try simp only [Ex.par]); (try simp only [List.length_append]); (try simp only [List.length_cons]); (try simp only [List.length_nil]); omega) hq3.sz 22
        refine wp_app _ _ _ _ hr4 rfl rfl rfl ?_
        have hq4 := hq3.next ho4 hf4
        refine hK _ _ (fun _ => ⟨_, _, hq4⟩) ?_
        (try simp only [Act.put]); (try simp only [List.getElem_toArray]); (try simp only [List.getElem_cons_succ]); (try simp only [List.getElem_cons_zero]); (try simp only [List.setIfInBounds_toArray]); (try simp only [List.set_cons_succ]); (try simp only [List.set_cons_zero])
        clear hK
        refine any_branch [15] (by kernel_rfl) rfl fun ix hix => ?_
        simp only [List.mem_cons, List.not_mem_nil, or_false] at hix
        subst hix
        refine any_op rfl rfl fun K hK => ?_
        go_simp
        refine hK _ _ (fun _ => ⟨_, _, hq4⟩) ?_
        (try simp only [Act.put]); (try simp only [List.getElem_toArray]); (try simp only [List.getElem_cons_succ]); (try simp only [List.getElem_cons_zero]); (try simp only [List.setIfInBounds_toArray]); (try simp only [List.set_cons_succ]); (try simp only [List.set_cons_zero])
        clear hK
        refine any_end (by kernel_rfl) ?_
        have HP := Bx.mk hq4
        have hsl := hq4.own.sl
        clear hq0 hq1 hq2 hq3 hq4 hf1 hf2 hf3 hf4 
        obtain ⟨pz, zz, yz, rfl⟩ := hsl
        obtain ⟨c0, c1, c2, c3, _, _, _, _⟩ := cells4 HP.out.e
        go_wp2_with fail
        go_ret
        refine ⟨.slice pz zz yz, rfl, ?_, HP.out.fr⟩
        have h5 := HP.out.own
        unfold Ex.prk
        simp only [if_neg HK.out.2.1, if_neg HK.out.2.2.1, if_neg HK.out.2.2.2.1, if_neg HK.out.2.2.2.2.1, if_neg HK.out.2.2.2.2.2.1, if_neg HK.out.2.2.2.2.2.2, List.append_assoc] at h5 ⊢
        simpa using h5
    · refine any_op rfl rfl fun K hK => ?_
      go_simp
      have hN1 := Fl.new hq0.own 41
      have hf1 := Fr.below (v := (.slice pa za ya)) ((Below.refl u0.heap.size u0).alloc (Nat.le_refl _) (.cells #[.int .u8 41] 5))
      have hq1 := hq0.step ((Below.refl _ _).alloc (Nat.le_refl _) (.cells #[.int .u8 41] 5))
      change Fl (u0.alloc (.cells #[.int .u8 41] 5)) _ _ _ at hN1
      generalize u0.heap.size = pn1 at hN1 ⊢
      generalize u0.alloc (.cells #[.int .u8 41] 5) = u1 at hN1 hq1 hf1 ⊢
      refine hK _ _ (fun _ => ⟨_, _, hq1⟩) ?_
      (try simp only [Act.put]); (try simp only [List.getElem_toArray]); (try simp only [List.getElem_cons_succ]); (try simp only [List.getElem_cons_zero]); (try simp only [List.setIfInBounds_toArray]); (try simp only [List.set_cons_succ]); (try simp only [List.set_cons_zero])
      clear hK
      refine any_branch [7] (by kernel_rfl) rfl fun ix hix => ?_
      simp only [List.mem_cons, List.not_mem_nil, or_false] at hix
      subst hix
      refine any_op rfl rfl fun K hK => ?_
      have hls2 : ((({ data := #[32] } ++ ⟨(Ex.sgn k).toArray⟩) ++ { data := #[32] }) : ByteArray).data.toList = [32] ++ Ex.sgn k ++ [32] := by rw [lst3]
      obtain ⟨v2, u2, hr2, ho2, hf2⟩ := hq1.own.put_str (({ data := #[32] } ++ ⟨(Ex.sgn k).toArray⟩) ++ { data := #[32] }) (by rw [size_lst, hls2]; exact (by have h0 := HL.out; have hx := BLx.out; have hy := BLy.out; have hsg := HSG.out; (try simp only [Ex.par]); (try simp only [List.length_append]); (try simp only [List.length_cons]); (try simp only [List.length_nil]); omega)) hq1.sz 22
      rw [hls2] at ho2
      refine wp_app _ _ _ _ hr2 rfl rfl rfl ?_
      have hq2 := hq1.next ho2 hf2
      have hF13_2 := hN1.next hf2
      refine hK _ _ (fun _ => ⟨_, _, hq2⟩) ?_
      (try simp only [Act.put]); (try simp only [List.getElem_toArray]); (try simp only [List.getElem_cons_succ]); (try simp only [List.getElem_cons_zero]); (try simp only [List.setIfInBounds_toArray]); (try simp only [List.set_cons_succ]); (try simp only [List.set_cons_zero])
      clear hK
      refine any_branch [12] (by kernel_rfl) rfl fun ix hix => ?_
      simp only [List.mem_cons, List.not_mem_nil, or_false] at hix
      subst hix
      refine any_op rfl rfl fun K hK => ?_
      go_simp
      refine (in_any n IH.out y _ base _ _ u2 BNy.out BPy.out ((BKy.out.fr hq2.low).sl) hq2.own hq2.sz (by have h0 := HL.out; have hx := BLx.out; have hy := BLy.out; have hsg := HSG.out; (try simp only [Ex.par]); (try simp only [List.length_append]); (try simp only [List.length_cons]); (try simp only [List.length_nil]); omega) BLy.out).mono ?_
      rintro e u3 ⟨v3, rfl, ho3, hf3⟩
      have hq3 := hq2.next ho3 hf3
      have hF13_3 := hF13_2.next hf3
      refine hK _ _ (fun _ => ⟨_, _, hq3⟩) ?_
      (try simp only [Act.put]); (try simp only [List.getElem_toArray]); (try simp only [List.getElem_cons_succ]); (try simp only [List.getElem_cons_zero]); (try simp only [List.setIfInBounds_toArray]); (try simp only [List.set_cons_succ]); (try simp only [List.set_cons_zero])
      clear hK
      refine any_branch [14] (by kernel_rfl) rfl fun ix hix => ?_
      simp only [List.mem_cons, List.not_mem_nil, or_false] at hix
      subst hix
      refine any_op rfl rfl fun K hK => ?_
      obtain ⟨v4, u4, hr4, ho4, hf4⟩ := hq3.own.put_one pn1 1 41 (hF13_3.blk.cell 0) (by have h0 := HL.out; have hx := BLx.out; have hy := BLy.out; have hsg := HSG.out; (try simp only [Ex.par]); (try simp only [List.length_append]); (try simp only [List.length_cons]); (try simp only [List.length_nil]); omega) hq3.sz 22
      refine wp_app _ _ _ _ hr4 rfl rfl rfl ?_
      have hq4 := hq3.next ho4 hf4
      refine hK _ _ (fun _ => ⟨_, _, hq4⟩) ?_
      (try simp only [Act.put]); (try simp only [List.getElem_toArray]); (try simp only [List.getElem_cons_succ]); (try simp only [List.getElem_cons_zero]); (try simp only [List.setIfInBounds_toArray]); (try simp only [List.set_cons_succ]); (try simp only [List.set_cons_zero])
      clear hK
      refine any_branch [15] (by kernel_rfl) rfl fun ix hix => ?_
      simp only [List.mem_cons, List.not_mem_nil, or_false] at hix
      subst hix
      refine any_op rfl rfl fun K hK => ?_
      go_simp
      refine hK _ _ (fun _ => ⟨_, _, hq4⟩) ?_
      (try simp only [Act.put]); (try simp only [List.getElem_toArray]); (try simp only [List.getElem_cons_succ]); (try simp only [List.getElem_cons_zero]); (try simp only [List.setIfInBounds_toArray]); (try simp only [List.set_cons_succ]); (try simp only [List.set_cons_zero])
      clear hK
      refine any_end (by kernel_rfl) ?_
      have HP := Bx.mk hq4
      have hsl := hq4.own.sl
      clear hq0 hq1 hq2 hq3 hq4 hf1 hf2 hf3 hf4 
      obtain ⟨pz, zz, yz, rfl⟩ := hsl
      obtain ⟨c0, c1, c2, c3, _, _, _, _⟩ := cells4 HP.out.e
      go_wp2_with fail
      go_ret
      refine ⟨.slice pz zz yz, rfl, ?_, HP.out.fr⟩
      have h5 := HP.out.own
      unfold Ex.prk
      simp only [if_neg HK.out.2.1, if_neg HK.out.2.2.1, if_neg HK.out.2.2.2.1, if_neg HK.out.2.2.2.2.1, if_neg HK.out.2.2.2.2.2.1, if_neg HK.out.2.2.2.2.2.2, List.append_assoc] at h5 ⊢
      simpa using h5
  · refine any_op rfl rfl fun K hK => ?_
    go_simp
    have hN1 := Fl.new hq0.own 41
    have hf1 := Fr.below (v := (.slice pa za ya)) ((Below.refl u0.heap.size u0).alloc (Nat.le_refl _) (.cells #[.int .u8 41] 5))
    have hq1 := hq0.step ((Below.refl _ _).alloc (Nat.le_refl _) (.cells #[.int .u8 41] 5))
    change Fl (u0.alloc (.cells #[.int .u8 41] 5)) _ _ _ at hN1
    generalize u0.heap.size = pn1 at hN1 ⊢
    generalize u0.alloc (.cells #[.int .u8 41] 5) = u1 at hN1 hq1 hf1 ⊢
    refine hK _ _ (fun _ => ⟨_, _, hq1⟩) ?_
    (try simp only [Act.put]); (try simp only [List.getElem_toArray]); (try simp only [List.getElem_cons_succ]); (try simp only [List.getElem_cons_zero]); (try simp only [List.setIfInBounds_toArray]); (try simp only [List.set_cons_succ]); (try simp only [List.set_cons_zero])
    clear hK
    refine any_branch [4] (by kernel_rfl) rfl fun ix hix => ?_
    simp only [List.mem_cons, List.not_mem_nil, or_false] at hix
    subst hix
    refine any_op rfl rfl fun K hK => ?_
    go_simp
    refine (sign_any k HK.out.1 _).mono ?_
    rintro e u9 ⟨rfl, e9⟩
    obtain rfl : u1 = u9 := e9.symm
    refine hK _ _ (fun _ => ⟨_, _, hq1⟩) ?_
    (try simp only [Act.put]); (try simp only [List.getElem_toArray]); (try simp only [List.getElem_cons_succ]); (try simp only [List.getElem_cons_zero]); (try simp only [List.setIfInBounds_toArray]); (try simp only [List.set_cons_succ]); (try simp only [List.set_cons_zero])
    clear hK
    refine any_take (i := 5) (.string ({ data := #[32] } ++ ⟨(Ex.sgn k).toArray⟩)) rfl rfl (by kernel_rfl) (by kernel_rfl) (by kernel_rfl) (by kernel_rfl) (fun _ _ d _ _ h => by cases d <;> exact h) (fun u hS => exec_addS rfl rfl rfl (by have := HSG.out; simp only [ByteArray.size, List.size_toArray, List.length_cons, List.length_nil]; omega)) ⟨_, _, hq1⟩ ?_
    (try simp only [Act.put]); (try simp only [List.getElem_toArray]); (try simp only [List.getElem_cons_succ]); (try simp only [List.getElem_cons_zero]); (try simp only [List.setIfInBounds_toArray]); (try simp only [List.set_cons_succ]); (try simp only [List.set_cons_zero])
    refine any_take (i := 6) (.string (({ data := #[32] } ++ ⟨(Ex.sgn k).toArray⟩) ++ { data := #[32] })) rfl rfl (by kernel_rfl) (by kernel_rfl) (by kernel_rfl) (by kernel_rfl) (fun _ _ d _ _ h => by cases d <;> exact h) (fun u hS => exec_addS rfl rfl rfl (by have := HSG.out; rw [ByteArray.size_append]; simp only [ByteArray.size, List.size_toArray, List.length_cons, List.length_nil]; omega)) ⟨_, _, hq1⟩ ?_
    (try simp only [Act.put]); (try simp only [List.getElem_toArray]); (try simp only [List.getElem_cons_succ]); (try simp only [List.getElem_cons_zero]); (try simp only [List.setIfInBounds_toArray]); (try simp only [List.set_cons_succ]); (try simp only [List.set_cons_zero])
    refine any_branch [7] (by kernel_rfl) rfl fun ix hix => ?_
    simp only [List.mem_cons, List.not_mem_nil, or_false] at hix
    subst hix
    refine any_op rfl rfl fun K hK => ?_
    have hls2 : ((({ data := #[32] } ++ ⟨(Ex.sgn k).toArray⟩) ++ { data := #[32] }) : ByteArray).data.toList = [32] ++ Ex.sgn k ++ [32] := by rw [lst3]
    obtain ⟨v2, u2, hr2, ho2, hf2⟩ := hq1.own.put_str (({ data := #[32] } ++ ⟨(Ex.sgn k).toArray⟩) ++ { data := #[32] }) (by rw [size_lst, hls2]; exact (by have h0 := HL.out; have hx := BLx.out; have hy := BLy.out; have hsg := HSG.out; (try simp only [Ex.par]); (try simp only [List.length_append]); (try simp only [List.length_cons]); (try simp only [List.length_nil]); omega)) hq1.sz 22
    rw [hls2] at ho2
    refine wp_app _ _ _ _ hr2 rfl rfl rfl ?_
    have hq2 := hq1.next ho2 hf2
    have hF13_2 := hN1.next hf2
    refine hK _ _ (fun _ => ⟨_, _, hq2⟩) ?_
    (try simp only [Act.put]); (try simp only [List.getElem_toArray]); (try simp only [List.getElem_cons_succ]); (try simp only [List.getElem_cons_zero]); (try simp only [List.setIfInBounds_toArray]); (try simp only [List.set_cons_succ]); (try simp only [List.set_cons_zero])
    clear hK
    refine any_branch [12] (by kernel_rfl) rfl fun ix hix => ?_
    simp only [List.mem_cons, List.not_mem_nil, or_false] at hix
    subst hix
    refine any_op rfl rfl fun K hK => ?_
    go_simp
    refine (in_any n IH.out y _ base _ _ u2 BNy.out BPy.out ((BKy.out.fr hq2.low).sl) hq2.own hq2.sz (by have h0 := HL.out; have hx := BLx.out; have hy := BLy.out; have hsg := HSG.out; (try simp only [Ex.par]); (try simp only [List.length_append]); (try simp only [List.length_cons]); (try simp only [List.length_nil]); omega) BLy.out).mono ?_
    rintro e u3 ⟨v3, rfl, ho3, hf3⟩
    have hq3 := hq2.next ho3 hf3
    have hF13_3 := hF13_2.next hf3
    refine hK _ _ (fun _ => ⟨_, _, hq3⟩) ?_
    (try simp only [Act.put]); (try simp only [List.getElem_toArray]); (try simp only [List.getElem_cons_succ]); (try simp only [List.getElem_cons_zero]); (try simp only [List.setIfInBounds_toArray]); (try simp only [List.set_cons_succ]); (try simp only [List.set_cons_zero])
    clear hK
    refine any_branch [14] (by kernel_rfl) rfl fun ix hix => ?_
    simp only [List.mem_cons, List.not_mem_nil, or_false] at hix
    subst hix
    refine any_op rfl rfl fun K hK => ?_
    obtain ⟨v4, u4, hr4, ho4, hf4⟩ := hq3.own.put_one pn1 1 41 (hF13_3.blk.cell 0) (by have h0 := HL.out; have hx := BLx.out; have hy := BLy.out; have hsg := HSG.out; (try simp only [Ex.par]); (try simp only [List.length_append]); (try simp only [List.length_cons]); (try simp only [List.length_nil]); omega) hq3.sz 22
    refine wp_app _ _ _ _ hr4 rfl rfl rfl ?_
    have hq4 := hq3.next ho4 hf4
    refine hK _ _ (fun _ => ⟨_, _, hq4⟩) ?_
    (try simp only [Act.put]); (try simp only [List.getElem_toArray]); (try simp only [List.getElem_cons_succ]); (try simp only [List.getElem_cons_zero]); (try simp only [List.setIfInBounds_toArray]); (try simp only [List.set_cons_succ]); (try simp only [List.set_cons_zero])
    clear hK
    refine any_branch [15] (by kernel_rfl) rfl fun ix hix => ?_
    simp only [List.mem_cons, List.not_mem_nil, or_false] at hix
    subst hix
    refine any_op rfl rfl fun K hK => ?_
    go_simp
    refine hK _ _ (fun _ => ⟨_, _, hq4⟩) ?_
    (try simp only [Act.put]); (try simp only [List.getElem_toArray]); (try simp only [List.getElem_cons_succ]); (try simp only [List.getElem_cons_zero]); (try simp only [List.setIfInBounds_toArray]); (try simp only [List.set_cons_succ]); (try simp only [List.set_cons_zero])
    clear hK
    refine any_end (by kernel_rfl) ?_
    have HP := Bx.mk hq4
    have hsl := hq4.own.sl
    clear hq0 hq1 hq2 hq3 hq4 hf1 hf2 hf3 hf4 
    obtain ⟨pz, zz, yz, rfl⟩ := hsl
    obtain ⟨c0, c1, c2, c3, _, _, _, _⟩ := cells4 HP.out.e
    go_wp2_with fail
    go_ret
    refine ⟨.slice pz zz yz, rfl, ?_, HP.out.fr⟩
    have h5 := HP.out.own
    unfold Ex.prk
    simp only [if_neg HK.out.2.1, if_neg HK.out.2.2.1, if_neg HK.out.2.2.2.1, if_neg HK.out.2.2.2.2.1, if_neg HK.out.2.2.2.2.2.1, if_neg HK.out.2.2.2.2.2.2, List.append_assoc] at h5 ⊢
    simpa using h5
end Go.Proofs.Ytfgokhafiffbaaa

/-
  Formulas: put whole, Print.
-/
namespace Go.Proofs.Ytfgokhafiffbaaa
set_option linter.unusedVariables false
open Go.RowKit Go.Lib

theorem kidB_of {w : World} {base : Nat} {k a v : Int} {kk rest : Fo} {b o : Nat} (h : RdF w (fun g => g < base) (.cons k a v kk rest) b o) : ∃ sx, KidB w base b o ⟨k, a, v, kk⟩ sx ∧ RdF w (fun g => g < base) rest b (o + 4) := by
  obtain ⟨hb, h0, h1, h2, ⟨p, cap, b', o', h3, hp, hc, hk⟩, hr⟩ := h
  exact ⟨_, ⟨hb, h0, h1, h2, h3, ⟨p, cap, b', o', rfl, hp, hc, hk⟩⟩, hr⟩
theorem Fo.prs_on (t : Tr) (r : Fo) : (t.on r).prs = Ex.pr t :: r.prs := rfl
set_option maxHeartbeats 1000000 in
theorem Pw.succ (n : Nat) (ih : Pw n) : Pw (n + 1) := by
  intro t sl base v l u hn hp hs ho hb hl
  rw [Fo.nodes_on] at hn hl
  rw [Fo.allPlain_on, Bool.and_eq_true, Bool.and_eq_true] at hp
  obtain ⟨⟨hpl, hka⟩, _⟩ := hp
  obtain ⟨h1, h2, h3, h4, h5⟩ := plain_shape hpl
  obtain ⟨k, a, vv, kids⟩ := t
  simp only [] at h1 h2 h3 h4 h5 hn hka hs hl
  have hnil : (Fo.nil).nodes = 0 := rfl
  rw [hnil] at hn hl
  obtain ⟨p, cap, b, o, rfl, hpn, hcap, hr⟩ := hs
  unfold Ev Ex.pr
  simp only []
  have hc : k = 1 ∨ k = 2 ∨ k = 3 ∨ (4 ≤ k ∧ k ≤ 8) ∨ k = 9 ∨ k = 10 ∨ k = 11 := by omega
  have a0 : (k = 1 ∨ k = 2) → kids = .nil := fun h => Fo.len0 (by rw [h3, Ex.kids0 (by omega)])
  have hone : ∀ (x : Tr), kids = x.on .nil → ∃ sx, p = some ⟨b, o, none⟩ ∧ KidB u base b o x sx ∧ (x.on .nil).nodes ≤ n ∧ (x.on .nil).allPlain = true := fun x e => by
    subst e
    obtain ⟨sx, K, _⟩ := kidB_of hr
    rw [Fo.nodes_on] at hn
    refine ⟨sx, ?_, K, by rw [Fo.nodes_on]; omega, hka⟩
    rcases hpn with ⟨e, _⟩ | e
    · cases e
    · exact e
  have htwo : ∀ (x y : Tr), kids = x.on (y.on .nil) → ∃ sx sy, p = some ⟨b, o, none⟩ ∧ (KidB u base b o x sx ∧ (x.on .nil).nodes ≤ n ∧ (x.on .nil).allPlain = true) ∧ (KidB u base b (o + 4) y sy ∧ (y.on .nil).nodes ≤ n ∧ (y.on .nil).allPlain = true) := fun x y e => by
    subst e
    obtain ⟨sx, K, hr2⟩ := kidB_of hr
    obtain ⟨sy, K2, _⟩ := kidB_of hr2
    rw [Fo.nodes_on, Fo.nodes_on] at hn
    rw [Fo.allPlain_on, Bool.and_eq_true] at hka
    refine ⟨sx, sy, ?_, ⟨K, by rw [Fo.nodes_on]; omega, by rw [Fo.allPlain_on, hka.1]; rfl⟩, ⟨K2, by rw [Fo.nodes_on]; omega, hka.2⟩⟩
    rcases hpn with ⟨e, _⟩ | e
    · cases e
    · exact e
  have hthree : ∀ (x y z : Tr), kids = x.on (y.on (z.on .nil)) → ∃ sx sy sz, p = some ⟨b, o, none⟩ ∧ (KidB u base b o x sx ∧ (x.on .nil).nodes ≤ n ∧ (x.on .nil).allPlain = true) ∧ (KidB u base b (o + 4) y sy ∧ (y.on .nil).nodes ≤ n ∧ (y.on .nil).allPlain = true) ∧ (KidB u base b (o + 8) z sz ∧ (z.on .nil).nodes ≤ n ∧ (z.on .nil).allPlain = true) := fun x y z e => by
    subst e
    obtain ⟨sx, K, hr2⟩ := kidB_of hr
    obtain ⟨sy, K2, hr3⟩ := kidB_of hr2
    obtain ⟨sz, K3, _⟩ := kidB_of hr3
    rw [Fo.nodes_on, Fo.nodes_on, Fo.nodes_on] at hn
    rw [Fo.allPlain_on, Bool.and_eq_true, Fo.allPlain_on y, Bool.and_eq_true (Ex.plain y && y.kids.allPlain)] at hka
    refine ⟨sx, sy, sz, ?_, ⟨K, by rw [Fo.nodes_on]; omega, by rw [Fo.allPlain_on, hka.1]; rfl⟩, ⟨K2, by rw [Fo.nodes_on]; omega, by rw [Fo.allPlain_on, hka.2.1]; rfl⟩, ⟨K3, by rw [Fo.nodes_on]; omega, hka.2.2⟩⟩
    rcases hpn with ⟨e, _⟩ | e
    · cases e
    · exact e
  have k1 : (k = 3 ∨ k = 10 ∨ k = 11) → kids.len = 1 := fun h => by rw [h3, Ex.kids1 h]
  have k2 : (4 ≤ k ∧ k ≤ 8) → kids.len = 2 := fun h => by rw [h3, Ex.kids2 h]
  have k3 : k = 9 → kids.len = 3 := fun h => by rw [h3, Ex.kids3 h]
  have hv8 : (k = 1 ∨ k = 2 ∨ k = 10 ∨ k = 11) → ∃ m : Nat, vv = (m : Int) ∧ m < 8 := fun h => by
    have ht : Ex.top k ≤ 7 := by unfold Ex.top; repeat' split
                                 all_goals omega
    exact ⟨vv.toNat, by omega, by omega⟩
  rcases hc with rfl | rfl | rfl | hk | rfl | rfl | rfl
  · have e := a0 (.inl rfl); subst e
    obtain ⟨m, rfl, hm⟩ := hv8 (.inl rfl)
    exact put_1 n ih a m hm p cap base v l u ho hb (by rw [hnil] at hl; omega)
  · have e := a0 (.inr rfl); subst e
    obtain ⟨m, rfl, hm⟩ := hv8 (.inr (.inl rfl))
    exact put_2 n ih a m hm p cap base v l u ho hb (by rw [hnil] at hl; omega)
  · obtain ⟨x, e⟩ := Fo.len1 (k1 (by omega))
    obtain ⟨sx, rfl, K, hx, px⟩ := hone x e
    subst e
    rw [Fo.nodes_on, hnil] at hl
    exact put_3 n ih a vv b o cap base v l u x sx K hx px ho hb (by rw [Fo.nodes_on, hnil]; omega)
  · obtain ⟨x, y, e⟩ := Fo.len2 (k2 hk)
    obtain ⟨sx, sy, rfl, ⟨K, hx, px⟩, K2, hy, py⟩ := htwo x y e
    subst e
    rw [Fo.nodes_on, Fo.nodes_on, hnil] at hl
    exact put_4 n ih k hk a vv b o cap base v l u x sx K hx px y sy K2 hy py ho hb (by rw [Fo.nodes_on, Fo.nodes_on, hnil]; omega)
  · obtain ⟨x, y, z, e⟩ := Fo.len3 (k3 rfl)
    obtain ⟨sx, sy, sz, rfl, ⟨K, hx, px⟩, ⟨K2, hy, py⟩, K3, hz, pz⟩ := hthree x y z e
    subst e
    rw [Fo.nodes_on, Fo.nodes_on, Fo.nodes_on, hnil] at hl
    exact put_9 n ih a vv b o cap base v l u x sx K hx px y sy K2 hy py z sz K3 hz pz ho hb (by rw [Fo.nodes_on, Fo.nodes_on, Fo.nodes_on, hnil]; omega)
  · obtain ⟨x, e⟩ := Fo.len1 (k1 (by omega))
    obtain ⟨sx, rfl, K, hx, px⟩ := hone x e
    obtain ⟨m, rfl, hm⟩ := hv8 (.inr (.inr (.inl rfl)))
    subst e
    rw [Fo.nodes_on, hnil] at hl
    exact put_10 n ih a m hm b o cap base v l u x sx K hx px ho hb (by rw [Fo.nodes_on, hnil]; omega)
  · obtain ⟨x, e⟩ := Fo.len1 (k1 (by omega))
    obtain ⟨sx, rfl, K, hx, px⟩ := hone x e
    obtain ⟨m, rfl, hm⟩ := hv8 (.inr (.inr (.inr rfl)))
    subst e
    rw [Fo.nodes_on, hnil] at hl
    exact put_11 n ih a m hm b o cap base v l u x sx K hx px ho hb (by rw [Fo.nodes_on, hnil]; omega)
theorem Pw.all : ∀ n, Pw n
  | 0 => fun t sl base v l u h => by rw [Fo.nodes_on] at h; omega
  | n + 1 => Pw.succ n (Pw.all n)
/-- what a formula is printed as; nothing where it is none -/
def Ex.print (t : Tr) : List UInt8 := if Ex.is t then Ex.pr t else []
theorem Ex.pr_ne (t : Tr) : Ex.pr t ≠ [] := by
  unfold Ex.pr Ex.prk
  repeat' split
  all_goals simp
theorem Ex.is_nodes {t : Tr} (h : Ex.is t = true) : (t.on .nil).nodes ≤ 4000 ∧ (t.on .nil).allPlain = true := by
  unfold Ex.is at h
  rw [Bool.and_eq_true] at h
  exact ⟨of_decide_eq_true h.1, h.2⟩
set_option maxHeartbeats 4000000 in
theorem print_any (t : Tr) (sl : Value) (B : Nat → Prop) (w : World) (hs : SlF w B sl t.kids) :
    Calls Try.prog 16 #[Ev t sl] w fun e w' => e = .returned (.string ⟨(Ex.print t).toArray⟩) ∧ Below w.heap.size w w' := by
  obtain ⟨pp, cap, rfl⟩ := hs.is
  have hb := boxE w t.k t.a t.v (.slice pp t.kids.len cap)
  have hbe := (Below.refl w.heap.size w).alloc (Nat.le_refl _) (.cells #[.int .i64 t.k, .int .i64 t.a, .int .i64 t.v, .slice pp t.kids.len cap] 36)
  have hsA := (hs.mono' (B' := fun g => g < w.heap.size) fun g hg _ => hg).alloc (.cells #[.int .i64 t.k, .int .i64 t.a, .int .i64 t.v, .slice pp t.kids.len cap] 36)
  have HB := Bx.mk hb
  have HBE := Bx.mk hbe
  have HSA := Bx.mk hsA
  have hI := is_any t _ _ _ hsA
  unfold Ev at hI ⊢
  have HI := Bx.mk hI
  obtain ⟨c0, c1, c2, c3, _, _, _, _⟩ := cells4 hb
  clear hI hb hbe hsA hs
  unfold Ex.print
  cases hi : Ex.is t with
  | false =>
    rw [hi] at HI
    have HI := Bx.mk HI.out
    clear hi
    go_enter Try.func16, Try.ntmps16
    go_wp2_with fail
    refine HI.out.mono ?_
    rintro e w1 ⟨rfl, hb1⟩
    have HBE1 := Bx.mk (HBE.out.trans (hb1.mono HBE.out.size))
    clear hb1 c0 c1 c2 c3
    go_wp2_with fail
    go_ret
    exact ⟨rfl, HBE1.out⟩
  | true =>
    rw [hi] at HI
    have HX := Bx.mk (Ex.is_nodes hi)
    clear hi
    go_enter Try.func16, Try.ntmps16
    go_wp2_with fail
    refine HI.out.mono ?_
    rintro e w1 ⟨rfl, hb1⟩
    have hb2 := HB.out.below hb1 HB.out.lt
    have HBE1 := Bx.mk (HBE.out.trans (hb1.mono HBE.out.size))
    have hs1 := HSA.out.below hb1
    have HP := Bx.mk (Pw.all _ t _ w1.heap.size (.slice none 0 0) [] w1 (Nat.le_refl _) HX.out.2 (hs1.mono' (B' := fun g => g < w1.heap.size) fun g hg _ => hg) (OwnB.nil w1 _) (Nat.le_refl _) (by have := HX.out.1; simp only [List.length_nil]; omega))
    unfold Ev at HP
    obtain ⟨c0, c1, c2, c3, _, _, _, _⟩ := cells4 hb2
    clear hb1 hb2 hs1
    go_wp2_with fail
    refine HP.out.mono ?_
    rintro e w2 ⟨v, rfl, ho, hf⟩
    have hC := ho.str (by simpa using Ex.pr_ne t)
    have HB3 := Bx.mk (Fr.to_below HBE1.out hf (fun k hk => by cases hk) HBE1.out.size)
    rw [List.nil_append] at hC
    clear ho hf c0 c1 c2 c3
    go_wp2_with fail
    go_ret
    exact ⟨rfl, HB3.out⟩
end Go.Proofs.Ytfgokhafiffbaaa
