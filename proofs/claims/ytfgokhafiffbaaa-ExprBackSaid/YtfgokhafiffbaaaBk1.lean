/-
  Formulas, plain: what the parser hands back: a formula, or the first error and its place.
-/
import Derived.Test.YtfgokhafiffbaaaEx17
import Derived.Test.YtfgokhafiffbaaaEx22
namespace Go.Proofs.Ytfgokhafiffbaaa
set_option linter.unusedVariables false
open Go.RowKit

/-- all places are within the text -/
structure Pos (L : Nat) (st : St) : Prop where
  eat : st.eat ≤ L
  ts : ∀ x ∈ st.ts, x.2 ≤ L
theorem Pos.at_ {L : Nat} {st : St} (h : Pos L st) : st.at_ ≤ L := by
  unfold St.at_
  cases e : st.ts with
  | nil => exact Nat.zero_le _
  | cons x r => exact h.ts x (by rw [e]; exact List.mem_cons_self)
theorem Pos.goes {L : Nat} {st : St} (h : Pos L st) : Pos L st.goes := ⟨h.eat, fun x hx => h.ts x (List.mem_of_mem_tail hx)⟩
theorem Pos.bad {L : Nat} {st : St} (h : Pos L st) (e : Nat) : Pos L (st.bad e) := by
  unfold St.bad
  split
  · exact ⟨h.at_, h.ts⟩
  · exact h
theorem Pos.must {L : Nat} {st : St} (h : Pos L st) (t : Tok) : Pos L (st.must t) := by
  unfold St.must
  split
  · exact h.goes
  · exact h.bad _
theorem may_no {st : St} (h : st.e ≠ 0) (t : Tok) : st.may t = false := by unfold St.may; rw [decide_eq_false h]; rfl
theorem bad_keep {st : St} (h : st.e ≠ 0) (e : Nat) : st.bad e = st := by unfold St.bad; rw [if_neg h]
theorem must_keep {st : St} (h : st.e ≠ 0) (t : Tok) : st.must t = st := by unfold St.must; rw [may_no h, if_neg (by simp), bad_keep h]
theorem may_yes {st : St} {t : Tok} (h : st.may t = true) : st.e = 0 ∧ st.now = t := by
  unfold St.may at h
  rw [Bool.and_eq_true] at h
  exact ⟨of_decide_eq_true h.1, of_decide_eq_true h.2⟩
theorem now_len {st : St} (h : st.now ≠ .eof) : st.goes.ts.length + 1 = st.ts.length := by
  unfold St.now at h
  unfold St.goes
  cases e : st.ts with
  | nil => rw [e] at h; exact absurd rfl h
  | cons x r => simp
theorem must_e {st : St} {t : Tok} (h : (st.must t).e = 0) : st.e = 0 := by
  rcases Nat.eq_zero_or_pos st.e with h0 | h0
  · exact h0
  · rw [must_keep (by omega)] at h; exact h
/-- what a reader is good for -/
structure Gd (p : St → Tr × St) : Prop where
  keep : ∀ st, st.e ≠ 0 → (p st).2.e = st.e
  pos : ∀ L st, Pos L st → Pos L (p st).2
  good : ∀ st, (p st).2.e = 0 → ((p st).1.on .nil).allPlain = true ∧ ((p st).1.on .nil).nodes + (p st).2.ts.length ≤ st.ts.length
def GdO (r : Option (St → Tr × St)) : Prop := match r with | none => True | some p => Gd p
theorem GdO.within {r : Option (St → Tr × St)} (h : GdO r) : Gd (Ex.within r) := by
  cases r with
  | none =>
    refine ⟨fun st he => by unfold Ex.within; rw [bad_keep he], fun L st hp => hp.bad _, fun st he => ?_⟩
    exact absurd he (bad_ne 231 (by omega) st)
  | some p =>
    have h : Gd p := h
    refine ⟨fun st he => ?_, fun L st hp => ?_, fun st he => ?_⟩
    · unfold Ex.within; simp only [if_neg he]
    · unfold Ex.within; simp only []; split
      · exact h.pos L st hp
      · exact hp
    · unfold Ex.within at he ⊢
      simp only [] at he ⊢
      by_cases h0 : st.e = 0
      · rw [if_pos h0] at he ⊢; exact h.good st he
      · rw [if_neg h0] at he; exact absurd he h0
theorem plain_two {k : Int} {a : Nat} {x y : Tr} (hk : 4 ≤ k ∧ k ≤ 8) (hx : (x.on .nil).allPlain = true) (hy : (y.on .nil).allPlain = true) : ((Ex.two k a x y).on .nil).allPlain = true := by
  rw [Fo.allPlain_on] at hx hy ⊢
  unfold Ex.two
  simp only [Fo.allPlain_on] at hx hy ⊢
  have e : Ex.plain ⟨k, a, 0, x.on (y.on .nil)⟩ = true := by
    unfold Ex.plain
    rw [show (x.on (y.on Fo.nil)).len = 2 from rfl, Ex.kids2 hk]
    have ht : Ex.top k = 0 := by unfold Ex.top; rw [if_neg (by omega), if_neg (by omega)]
    rw [ht]
    simp; omega
  rw [e]
  rw [Bool.and_eq_true, Bool.and_eq_true] at hx hy
  rw [hx.1.1, hx.1.2, hy.1.1, hy.1.2]
  rfl
theorem plain_one {k : Int} {a : Nat} {v : Int} {x : Tr} (hk : k = 3 ∨ k = 10 ∨ k = 11) (hv : 0 ≤ v) (hv2 : v ≤ Ex.top k) (hx : (x.on .nil).allPlain = true) : ((Ex.one k a v x).on .nil).allPlain = true := by
  rw [Fo.allPlain_on] at hx ⊢
  unfold Ex.one
  simp only [Fo.allPlain_on] at hx ⊢
  have e : Ex.plain ⟨k, a, v, x.on .nil⟩ = true := by
    unfold Ex.plain
    rw [show (x.on Fo.nil).len = 1 from rfl, Ex.kids1 hk]
    simp; omega
  rw [e, hx]
  rfl
theorem nodes_two (k : Int) (a : Nat) (x y : Tr) : ((Ex.two k a x y).on .nil).nodes = 1 + (x.on .nil).nodes + (y.on .nil).nodes := by
  unfold Ex.two
  simp only [Fo.nodes_on, show Fo.nil.nodes = 0 from rfl]
  omega
theorem nodes_one (k : Int) (a : Nat) (v : Int) (x : Tr) : ((Ex.one k a v x).on .nil).nodes = 1 + (x.on .nil).nodes := by
  unfold Ex.one
  simp only [Fo.nodes_on, show Fo.nil.nodes = 0 from rfl]
  omega
theorem Gd.chainF {t : Tok} {k : Int} {p : St → Tr × St} (h : Gd p) (ht : t ≠ .eof) (hk : 4 ≤ k ∧ k ≤ 8) : ∀ (n : Nat) (x : Tr) (st : St),
    (st.e ≠ 0 → (Ex.chainF n t k p x st).2.e = st.e) ∧ (∀ L, Pos L st → Pos L (Ex.chainF n t k p x st).2) ∧
    ((Ex.chainF n t k p x st).2.e = 0 → (x.on .nil).allPlain = true → ((Ex.chainF n t k p x st).1.on .nil).allPlain = true ∧ ((Ex.chainF n t k p x st).1.on .nil).nodes + (Ex.chainF n t k p x st).2.ts.length ≤ (x.on .nil).nodes + st.ts.length) := by
  intro n
  induction n with
  | zero => exact fun x st => ⟨fun _ => rfl, fun L hp => hp, fun _ hx => ⟨hx, Nat.le_refl _⟩⟩
  | succ n ih =>
    intro x st
    cases hm : st.may t with
    | false =>
      rw [Ex.chainF_no hm]
      exact ⟨fun _ => rfl, fun L hp => hp, fun _ hx => ⟨hx, Nat.le_refl _⟩⟩
    | true =>
      have hg := St.goes_len hm ht
      rw [Ex.chainF, if_pos hm]
      obtain ⟨i1, i2, i3⟩ := ih (Ex.two k st.at_ x (p st.goes).1) (p st.goes).2
      refine ⟨fun he => absurd (may_yes hm).1 he, fun L hp => i2 L (h.pos L _ hp.goes), fun he hx => ?_⟩
      have he2 : (p st.goes).2.e = 0 := by
        rcases Nat.eq_zero_or_pos (p st.goes).2.e with h0 | h0
        · exact h0
        · rw [i1 (by omega)] at he; exact he
      obtain ⟨g1, g2⟩ := h.good _ he2
      obtain ⟨j1, j2⟩ := i3 he (plain_two hk hx g1)
      refine ⟨j1, ?_⟩
      rw [nodes_two] at j2
      omega
theorem Gd.chain {t : Tok} {k : Int} {p : St → Tr × St} (h : Gd p) (ht : t ≠ .eof) (hk : 4 ≤ k ∧ k ≤ 8) : Gd (Ex.chain t k p) := by
  refine ⟨fun st he => ?_, fun L st hp => ?_, fun st he => ?_⟩
  · unfold Ex.chain
    have := h.keep st he
    rw [(Gd.chainF h ht hk _ _ _).1 (by rw [this]; exact he), this]
  · exact (Gd.chainF h ht hk _ _ _).2.1 L (h.pos L st hp)
  · unfold Ex.chain at he ⊢
    obtain ⟨i1, i2, i3⟩ := Gd.chainF h ht hk (p st).2.ts.length (p st).1 (p st).2
    have he2 : (p st).2.e = 0 := by
      rcases Nat.eq_zero_or_pos (p st).2.e with h0 | h0
      · exact h0
      · rw [i1 (by omega)] at he; exact he
    obtain ⟨g1, g2⟩ := h.good _ he2
    obtain ⟨j1, j2⟩ := i3 he g1
    exact ⟨j1, by omega⟩
theorem Gd.imp {r : Option (St → Tr × St)} {p : St → Tr × St} (hr : GdO r) (h : Gd p) : Gd (Ex.imp r p) := by
  have hw := hr.within
  refine ⟨fun st he => ?_, fun L st hp => ?_, fun st he => ?_⟩
  · unfold Ex.imp
    have := h.keep st he
    rw [may_no (by rw [this]; exact he), if_neg (by simp), this]
  · unfold Ex.imp
    split
    · exact hw.pos L _ (h.pos L st hp).goes
    · exact h.pos L st hp
  · unfold Ex.imp at he ⊢
    cases hm : (p st).2.may .imp with
    | false =>
      rw [hm, if_neg (by simp)] at he
      rw [if_neg (by simp)]
      exact h.good st he
    | true =>
      rw [hm, if_pos rfl] at he
      rw [if_pos rfl]
      obtain ⟨g1, g2⟩ := h.good st (may_yes hm).1
      obtain ⟨j1, j2⟩ := hw.good _ he
      have hg := St.goes_len hm (by decide)
      refine ⟨plain_two (by omega) g1 j1, ?_⟩
      rw [nodes_two]
      simp only []
      omega
theorem Gd.bound {r : Option (St → Tr × St)} (hr : GdO r) (k : Int) (hk : k = 10 ∨ k = 11) (a : Nat) (st : St) (hs : st.e = 0) : (∀ L, Pos L st → Pos L (Ex.bound r k a st).2) ∧
    ((Ex.bound r k a st).2.e = 0 → ((Ex.bound r k a st).1.on .nil).allPlain = true ∧ ((Ex.bound r k a st).1.on .nil).nodes + (Ex.bound r k a st).2.ts.length ≤ st.ts.length) := by
  have hw := hr.within
  unfold Ex.bound
  split
  · rename_i n hn
    have hl := now_len (st := st) (by rw [hn]; simp)
    refine ⟨fun L hp => hw.pos L _ hp.goes, fun he => ?_⟩
    obtain ⟨j1, j2⟩ := hw.good _ he
    refine ⟨plain_one (by omega) (by omega) ?_ j1, ?_⟩
    · have := n.isLt
      have ht : Ex.top k = 7 := by unfold Ex.top; rw [if_pos (by omega)]
      omega
    · rw [nodes_one]
      simp only []
      omega
  · exact ⟨fun L hp => hp.bad _, fun he => absurd he (bad_ne 230 (by omega) st)⟩
theorem Gd.ite {r : Option (St → Tr × St)} (hr : GdO r) (a : Nat) : (∀ st, st.e ≠ 0 → (Ex.ite r a st).2.e = st.e) ∧ (∀ L st, Pos L st → Pos L (Ex.ite r a st).2) ∧
    (∀ st, (Ex.ite r a st).2.e = 0 → ((Ex.ite r a st).1.on .nil).allPlain = true ∧ ((Ex.ite r a st).1.on .nil).nodes + (Ex.ite r a st).2.ts.length ≤ st.ts.length + 1) := by
  have hw := hr.within
  refine ⟨fun st he => ?_, fun L st hp => ?_, fun st he => ?_⟩
  · unfold Ex.ite
    simp only []
    have k : ∀ t (st : St), st.e ≠ 0 → (Ex.within r (st.must t)).2.e = st.e := fun t st h => by rw [must_keep h]; exact hw.keep st h
    have e1 := k .lp st he
    have e2 := k .comma (Ex.within r (st.must .lp)).2 (by rw [e1]; exact he)
    have e3 := k .comma (Ex.within r ((Ex.within r (st.must .lp)).2.must .comma)).2 (by rw [e2, e1]; exact he)
    rw [must_keep (by rw [e3, e2, e1]; exact he), e3, e2, e1]
  · unfold Ex.ite
    simp only []
    exact (hw.pos L _ ((hw.pos L _ ((hw.pos L _ (hp.must _)).must _)).must _)).must _
  · unfold Ex.ite at he ⊢
    simp only [] at he ⊢
    have e3 := must_e he
    obtain ⟨a3, b3⟩ := hw.good _ e3
    have e2 : (Ex.within r ((Ex.within r (st.must .lp)).2.must .comma)).2.e = 0 := by
      rcases Nat.eq_zero_or_pos (Ex.within r ((Ex.within r (st.must .lp)).2.must .comma)).2.e with h0 | h0
      · exact h0
      · have := hw.keep ((Ex.within r ((Ex.within r (st.must .lp)).2.must .comma)).2.must .comma) (by rw [must_keep (by omega)]; omega)
        rw [this, must_keep (by omega)] at e3; exact e3
    obtain ⟨a2, b2⟩ := hw.good _ e2
    have e1 : (Ex.within r (st.must .lp)).2.e = 0 := by
      rcases Nat.eq_zero_or_pos (Ex.within r (st.must .lp)).2.e with h0 | h0
      · exact h0
      · have := hw.keep ((Ex.within r (st.must .lp)).2.must .comma) (by rw [must_keep (by omega)]; omega)
        rw [this, must_keep (by omega)] at e2; exact e2
    obtain ⟨a1, b1⟩ := hw.good _ e1
    have l0 := must_le .lp st
    have l1 := must_le .comma (Ex.within r (st.must .lp)).2
    have l2 := must_le .comma (Ex.within r ((Ex.within r (st.must .lp)).2.must .comma)).2
    have l3 := must_le .rp (Ex.within r ((Ex.within r ((Ex.within r (st.must .lp)).2.must .comma)).2.must .comma)).2
    generalize Ex.within r (st.must .lp) = r1 at *
    generalize Ex.within r (r1.2.must .comma) = r2 at *
    generalize Ex.within r (r2.2.must .comma) = r3 at *
    constructor
    · rw [Fo.allPlain_on] at a1 a2 a3 ⊢
      simp only [Fo.allPlain_on] at a1 a2 a3 ⊢
      have e : Ex.plain ⟨9, a, 0, r1.1.on (r2.1.on (r3.1.on .nil))⟩ = true := by
        unfold Ex.plain
        rw [show (r1.1.on (r2.1.on (r3.1.on Fo.nil))).len = 3 from rfl, Ex.kids3 rfl]
        simp only []
        unfold Ex.top
        simp
      rw [e]
      rw [Bool.and_eq_true, Bool.and_eq_true] at a1 a2 a3
      rw [a1.1.1, a1.1.2, a2.1.1, a2.1.2, a3.1.1, a3.1.2]
      rfl
    · simp only [Fo.nodes_on, show Fo.nil.nodes = 0 from rfl] at b1 b2 b3 ⊢
      omega
theorem plain_leaf {k a v : Int} (h : (k = 1 ∧ 0 ≤ v ∧ v ≤ 7) ∨ (k = 2 ∧ 0 ≤ v ∧ v ≤ 1)) : ((⟨k, a, v, .nil⟩ : Tr).on .nil).allPlain = true := by
  rw [Fo.allPlain_on]
  have e : Ex.plain ⟨k, a, v, .nil⟩ = true := by
    unfold Ex.plain
    simp only []
    rw [show (Fo.nil).len = 0 from rfl, Ex.kids0 (by omega)]
    unfold Ex.top
    rcases h with ⟨rfl, h⟩ | ⟨rfl, h⟩
    · simp; omega
    · simp; omega
  rw [e]
  rfl
theorem Gd.prim {r : Option (St → Tr × St)} (hr : GdO r) (st : St) (hs : st.e = 0) : (∀ L, Pos L st → Pos L (Ex.prim r st).2) ∧
    ((Ex.prim r st).2.e = 0 → ((Ex.prim r st).1.on .nil).allPlain = true ∧ ((Ex.prim r st).1.on .nil).nodes + (Ex.prim r st).2.ts.length ≤ st.ts.length) := by
  have hw := hr.within
  have hnil : ∀ (k a v : Int), ((⟨k, a, v, .nil⟩ : Tr).on .nil).nodes = 1 := fun _ _ _ => rfl
  unfold Ex.prim
  split
  · rename_i n hn
    have hl := now_len (st := st) (by rw [hn]; simp)
    exact ⟨fun L hp => hp.goes, fun _ => ⟨plain_leaf (.inl ⟨rfl, by have := n.isLt; omega, by have := n.isLt; omega⟩), by rw [hnil]; simp only []; omega⟩⟩
  · rename_i hn
    have hl := now_len (st := st) (by rw [hn]; simp)
    exact ⟨fun L hp => hp.goes, fun _ => ⟨plain_leaf (.inr ⟨rfl, by omega, by omega⟩), by rw [hnil]; simp only []; omega⟩⟩
  · rename_i hn
    have hl := now_len (st := st) (by rw [hn]; simp)
    exact ⟨fun L hp => hp.goes, fun _ => ⟨plain_leaf (.inr ⟨rfl, by omega, by omega⟩), by rw [hnil]; simp only []; omega⟩⟩
  · split
    · rename_i hm
      have hg := St.goes_len hm (by decide)
      refine ⟨fun L hp => (hw.pos L _ hp.goes).must _, fun he => ?_⟩
      simp only [] at he ⊢
      obtain ⟨j1, j2⟩ := hw.good _ (must_e he)
      have := must_le .rp (Ex.within r st.goes).2
      exact ⟨j1, by omega⟩
    · split
      · rename_i hm
        have hg := St.goes_len hm (by decide)
        refine ⟨fun L hp => (Gd.ite hr _).2.1 L _ hp.goes, fun he => ?_⟩
        obtain ⟨j1, j2⟩ := (Gd.ite hr _).2.2 _ he
        exact ⟨j1, by omega⟩
      · exact ⟨fun L hp => hp.bad _, fun he => absurd he (bad_ne 230 (by omega) st)⟩
theorem Gd.un {ru rf : Option (St → Tr × St)} (hu : GdO ru) (hf : GdO rf) : Gd (Ex.un ru rf) := by
  have hw := hu.within
  refine ⟨fun st he => by unfold Ex.un; rw [if_pos he], fun L st hp => ?_, fun st he => ?_⟩
  · unfold Ex.un
    by_cases h0 : st.e = 0
    · rw [if_neg (by simpa using h0)]
      split
      · exact hw.pos L _ hp.goes
      · split
        · exact (Gd.bound hu 10 (by omega) _ _ (show st.goes.e = 0 from h0)).1 L hp.goes
        · split
          · exact (Gd.bound hu 11 (by omega) _ _ (show st.goes.e = 0 from h0)).1 L hp.goes
          · exact (Gd.prim hf st h0).1 L hp
    · rw [if_pos h0]; exact hp
  · unfold Ex.un at he ⊢
    by_cases h0 : st.e = 0
    · rw [if_neg (by simpa using h0)] at he ⊢
      cases m0 : st.may .not with
      | true =>
        have hg := St.goes_len m0 (by decide)
        rw [m0, if_pos rfl] at he
        rw [if_pos rfl]
        simp only [] at he ⊢
        obtain ⟨j1, j2⟩ := hw.good _ he
        refine ⟨plain_one (by omega) (by omega) (by unfold Ex.top; simp) j1, ?_⟩
        rw [nodes_one]
        omega
      | false =>
        rw [m0, if_neg (by simp)] at he
        rw [if_neg (by simp)]
        cases m1 : st.may .all with
        | true =>
          have hg := St.goes_len m1 (by decide)
          rw [m1, if_pos rfl] at he
          rw [if_pos rfl]
          obtain ⟨j1, j2⟩ := (Gd.bound hu 10 (by omega) _ _ (show st.goes.e = 0 from h0)).2 he
          exact ⟨j1, by omega⟩
        | false =>
          rw [m1, if_neg (by simp)] at he
          rw [if_neg (by simp)]
          cases m2 : st.may .any with
          | true =>
            have hg := St.goes_len m2 (by decide)
            rw [m2, if_pos rfl] at he
            rw [if_pos rfl]
            obtain ⟨j1, j2⟩ := (Gd.bound hu 11 (by omega) _ _ (show st.goes.e = 0 from h0)).2 he
            exact ⟨j1, by omega⟩
          | false =>
            rw [m2, if_neg (by simp)] at he
            rw [if_neg (by simp)]
            exact (Gd.prim hf st h0).2 he
    · rw [if_pos h0] at he
      exact absurd he h0
structure GdR (r : Rd) : Prop where
  iff : Gd r.iff
  imp : Gd r.imp
  un : Gd r.un
theorem GdR.mk' (ru ri rf : Option (St → Tr × St)) (hu : GdO ru) (hi : GdO ri) (hf : GdO rf) : GdR (Ex.mk ru ri rf) := by
  have h1 := Gd.un hu hf
  have h2 := Gd.imp hi (((h1.chain (t := .and) (k := 4) (by decide) (by omega)).chain (t := .xor) (k := 6) (by decide) (by omega)).chain (t := .or) (k := 5) (by decide) (by omega))
  exact ⟨h2.chain (by decide) (by omega), h2, h1⟩
theorem GdR.all : ∀ n, GdR (Ex.lev n)
  | 0 => GdR.mk' none none none True.intro True.intro True.intro
  | n + 1 => GdR.mk' _ _ _ (GdR.all n).un (GdR.all n).imp (GdR.all n).iff
theorem Lx.lexF_pos (n : Nat) : ∀ (l : List Nat) (a : Nat), (∀ x ∈ l, x < 256) → (∀ x ∈ Lx.lexF n l a, x.2 ≤ a + l.length) ∧ (Lx.lexF n l a).length ≤ l.length + 1 := by
  induction n with
  | zero => intro l a _; rw [Lx.lexF]; simp
  | succ n ih =>
    intro l a hl
    rw [Lx.lexF]
    have hs := Lx.skip_le l
    split
    · simp
      omega
    · rename_i hb
      have hll : ∀ x ∈ (l.drop (Lx.skip l)).drop (Lx.scan (l.drop (Lx.skip l))).txt.length, x < 256 := fun x hx => hl x (List.mem_of_mem_drop (List.mem_of_mem_drop hx))
      obtain ⟨i1, i2⟩ := ih ((l.drop (Lx.skip l)).drop (Lx.scan (l.drop (Lx.skip l))).txt.length) (a + Lx.skip l + (Lx.scan (l.drop (Lx.skip l))).txt.length) hll
      have hp := Tok.txt_len (Lx.scan (l.drop (Lx.skip l))) (fun e => hb (.inl e))
      have hsl := Lx.scan_len (l.drop (Lx.skip l)) (fun x hx => hl x (List.mem_of_mem_drop hx))
      rw [List.length_drop, List.length_drop] at i1 i2
      rw [List.length_drop] at hsl
      constructor
      · intro x hx
        rcases List.mem_cons.1 hx with rfl | hx
        · simp only []; omega
        · have := i1 x hx; omega
      · rw [List.length_cons]; omega
theorem Lx.lex_pos (l : List Nat) (hl : ∀ x ∈ l, x < 256) : (∀ x ∈ Lx.lex l 0, x.2 ≤ l.length) ∧ (Lx.lex l 0).length ≤ l.length + 1 := by
  unfold Lx.lex
  have := Lx.lexF_pos (l.length + 1) l 0 hl
  rw [Nat.zero_add] at this
  exact this
/-- what Parse tells: a formula; or an error, its place within the text -/
theorem Ex.parse_good (l : List Nat) (hl : ∀ x ∈ l, x < 256) (h : l.length ≤ 3999) :
    ((Ex.parse l).2.2 = 0 → (Ex.parse l).2.1 = 0 ∧ Ex.is (Ex.parse l).1 = true) ∧ ((Ex.parse l).2.2 ≠ 0 → (Ex.parse l).1 = Tr.zero ∧ (Ex.parse l).2.1 ≤ l.length) := by
  have hg := (GdR.all 30).iff
  obtain ⟨p1, p2⟩ := Lx.lex_pos l hl
  obtain ⟨E1, E2, E3⟩ := Ex.parse_eq l (by omega)
  have hP : Pos l.length (⟨Lx.lex l 0, 0, 0⟩ : St) := ⟨Nat.zero_le _, p1⟩
  have hP2 := hg.pos _ _ hP
  have hgood := hg.good ⟨Lx.lex l 0, 0, 0⟩
  generalize (Ex.lev 30).iff ⟨Lx.lex l 0, 0, 0⟩ = R at *
  by_cases h0 : R.2.e = 0
  · by_cases hn : R.2.now = .eof
    · rw [E1 h0 hn]
      refine ⟨fun _ => ⟨rfl, ?_⟩, fun h => absurd rfl h⟩
      obtain ⟨g1, g2⟩ := hgood h0
      have g3 : (R.1.on .nil).nodes ≤ 4000 := by simp only [] at g2; omega
      show (decide ((R.1.on .nil).nodes ≤ 4000) && (R.1.on .nil).allPlain) = true
      rw [g1, decide_eq_true g3]
      rfl
    · rw [E2 h0 hn]
      exact ⟨fun h => absurd h (bad_ne 230 (by omega) R.2), fun _ => ⟨rfl, (hP2.bad 230).eat⟩⟩
  · rw [E3 h0]
    exact ⟨fun h => absurd h h0, fun _ => ⟨rfl, hP2.eat⟩⟩
end Go.Proofs.Ytfgokhafiffbaaa
