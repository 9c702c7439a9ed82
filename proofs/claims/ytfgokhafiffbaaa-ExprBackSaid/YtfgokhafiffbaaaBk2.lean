/-
  Formulas, plain: what is printed is read back: the signs of a print, and the parser over them.
-/
import Derived.Test.YtfgokhafiffbaaaBk1
import Derived.Test.YtfgokhafiffbaaaEx28
import Derived.Test.YtfgokhafiffbaaaEx29
namespace Go.Proofs.Ytfgokhafiffbaaa
set_option linter.unusedVariables false
open Go.RowKit

/-- what is the same has one print, one table, as many nodes -/
theorem Fo.same_all : ∀ (F G : Fo), Fo.same F G = true → F.prs = G.prs ∧ F.tabs = G.tabs ∧ F.nodes = G.nodes ∧ F.len = G.len ∧ F.allPlain = G.allPlain
  | .nil, .nil, _ => ⟨rfl, rfl, rfl, rfl, rfl⟩
  | .cons .., .nil, h => by simp [Fo.same] at h
  | .nil, .cons .., h => by simp [Fo.same] at h
  | .cons k a v kids rest, .cons k' a' v' kids' rest', h => by
    simp only [Fo.same, Bool.and_eq_true, decide_eq_true_eq] at h
    obtain ⟨⟨⟨rfl, rfl⟩, h2⟩, h3⟩ := h
    obtain ⟨a1, a2, a3, a4, a5⟩ := Fo.same_all kids kids' h2
    obtain ⟨b1, b2, b3, b4, b5⟩ := Fo.same_all rest rest' h3
    refine ⟨by simp only [Fo.prs, a1, b1], by simp only [Fo.tabs, a2, b2], by simp only [Fo.nodes, a3, b3], by simp only [Fo.len, b4], ?_⟩
    simp only [Fo.allPlain, a5, b5]
    unfold Ex.plain
    simp only [a4]
theorem Ex.same_all {s t : Tr} (h : Ex.same s t = true) : Ex.pr s = Ex.pr t ∧ Ex.table s = Ex.table t ∧ Ex.is s = Ex.is t := by
  have h' : Fo.same (s.on .nil) (t.on .nil) = true := by rw [Fo.same_on, h]; rfl
  obtain ⟨a1, a2, a3, a4, a5⟩ := Fo.same_all _ _ h'
  refine ⟨List.head_eq_of_cons_eq a1, List.head_eq_of_cons_eq a2, ?_⟩
  unfold Ex.is
  rw [a3, a5]

/-- the signs of a print -/
def Ex.tkop (k : Int) : Tok := if k = 4 then .and else if k = 5 then .or else if k = 6 then .xor else if k = 7 then .imp else .iff
def Ex.tpar (l : List Tok) : List Tok := [.lp] ++ l ++ [.rp]
def Ex.ptk (k v : Int) (l : List (List Tok)) : List Tok :=
  if k = 1 then [.var (Fin.ofNat 8 v.toNat)] else if k = 2 then [if v = 0 then .zero else .one] else if k = 3 then [.not] ++ Ex.tpar (l.getD 0 [])
  else if k = 10 then [.all, .var (Fin.ofNat 8 v.toNat)] ++ Ex.tpar (l.getD 0 []) else if k = 11 then [.any, .var (Fin.ofNat 8 v.toNat)] ++ Ex.tpar (l.getD 0 [])
  else if k = 9 then [.ite, .lp] ++ Ex.tpar (l.getD 0 []) ++ [.comma] ++ Ex.tpar (l.getD 1 []) ++ [.comma] ++ Ex.tpar (l.getD 2 []) ++ [.rp]
  else [.lp] ++ Ex.tpar (l.getD 0 []) ++ [Ex.tkop k] ++ Ex.tpar (l.getD 1 []) ++ [.rp]
def Fo.pts : Fo → List (List Tok)
  | .nil => []
  | .cons k _ v kids rest => Ex.ptk k v kids.pts :: rest.pts
def Ex.pt (t : Tr) : List Tok := Ex.ptk t.k t.v t.kids.pts

/-- the signs that stand between -/
def Tok.op : Tok → Bool
  | .and | .or | .xor | .imp | .iff => true
  | _ => false
/-- what comes next is none of these -/
def Stop (S : Tok → Bool) (R : List (Tok × Nat)) : Prop := ∀ x r, R = x :: r → S x.1 = false
theorem Stop.mono {S S' : Tok → Bool} {R : List (Tok × Nat)} (h : Stop S R) (hs : ∀ t, S' t = true → S t = true) : Stop S' R := fun x r e => by
  have := h x r e
  cases h2 : S' x.1 with
  | false => rfl
  | true => rw [hs _ h2] at this; cases this
/-- a reader reads signs as a formula, if nothing follows that it would go on with; or it is too deep -/
def Rb (p : St → Tr × St) (S : Tok → Bool) (ts : List Tok) (T : Tr) : Prop :=
  ∀ (st : St) (A R : List (Tok × Nat)), st.e = 0 → st.ts = A ++ R → A.map Prod.fst = ts → Stop S R → (p st).2.e = 231 ∨ ((p st).2.e = 0 ∧ (p st).2.ts = R ∧ Ex.same T (p st).1 = true)
theorem Rb.stop {p : St → Tr × St} {S S' : Tok → Bool} {ts : List Tok} {T : Tr} (h : Rb p S ts T) (hs : ∀ t, S t = true → S' t = true) : Rb p S' ts T := fun st A R h1 h2 h3 h4 => h st A R h1 h2 h3 (h4.mono hs)
theorem may_stop {S : Tok → Bool} {t : Tok} {st : St} {R : List (Tok × Nat)} (hS : S t = true) (h : Stop S R) (hR : st.ts = R) (ht : t ≠ .eof) : st.may t = false := by
  unfold St.may
  have : st.now ≠ t := by
    unfold St.now
    rw [hR]
    cases R with
    | nil => exact fun e => ht e.symm
    | cons x r => intro e; have := h x r rfl; rw [show x.1 = t from e, hS] at this; cases this
  rw [decide_eq_false this]
  simp
theorem may_at {t : Tok} {st : St} {x : Tok × Nat} {R : List (Tok × Nat)} (he : st.e = 0) (hR : st.ts = x :: R) (hx : x.1 = t) : st.may t = true := by
  unfold St.may St.now
  rw [hR, he]
  simp [hx]
theorem may_other {t : Tok} {st : St} {x : Tok × Nat} {R : List (Tok × Nat)} (hR : st.ts = x :: R) (hx : x.1 ≠ t) : st.may t = false := by
  unfold St.may St.now
  rw [hR]
  simp [hx]
theorem goes_ts {st : St} {x : Tok × Nat} {R : List (Tok × Nat)} (hR : st.ts = x :: R) : st.goes.ts = R ∧ st.goes.e = st.e := by
  unfold St.goes
  rw [hR]
  exact ⟨rfl, rfl⟩
/-- no more to go on with -/
theorem Rb.chain1 {p : St → Tr × St} {S : Tok → Bool} {ts : List Tok} {T : Tr} (t : Tok) (k : Int) (ht : t ≠ .eof) (h : Rb p S ts T) : Rb (Ex.chain t k p) (fun x => S x || decide (x = t)) ts T := by
  intro st A R h1 h2 h3 h4
  unfold Ex.chain
  rcases h st A R h1 h2 h3 (h4.mono fun x hx => by rw [hx]; rfl) with h5 | ⟨h5, h6, h7⟩
  · rw [Ex.chainF_no (may_no (by rw [h5]; decide) t)]
    exact .inl h5
  · rw [Ex.chainF_no (may_stop (S := fun x => S x || decide (x = t)) (by simp) h4 h6 ht)]
    exact .inr ⟨h5, h6, h7⟩
theorem same_two {k : Int} {a b : Nat} {v : Int} {X Y X' Y' : Tr} (hv : v = 0) (h1 : Ex.same X X' = true) (h2 : Ex.same Y Y' = true) : Ex.same ⟨k, a, v, X.on (Y.on .nil)⟩ (Ex.two k b X' Y') = true := by
  subst hv
  unfold Ex.two
  rw [show Ex.same ⟨k, (a : Int), 0, X.on (Y.on .nil)⟩ ⟨k, (b : Int), 0, X'.on (Y'.on .nil)⟩ = (decide (k = k) && decide ((0 : Int) = 0) && Fo.same (X.on (Y.on .nil)) (X'.on (Y'.on .nil))) from rfl, Fo.same_on, Fo.same_on, h1, h2]
  simp [Fo.same]
/-- two with a sign between -/
theorem Rb.chain2 {p : St → Tr × St} {S : Tok → Bool} {a b : List Tok} {X Y : Tr} {v : Int} {ai : Int} (t : Tok) (k : Int) (ht : t ≠ .eof) (hS : S t = false) (ha : Rb p S a X) (hb : Rb p S b Y) (hv : v = 0) :
    Rb (Ex.chain t k p) (fun x => S x || decide (x = t)) (a ++ [t] ++ b) ⟨k, ai, v, X.on (Y.on .nil)⟩ := by
  intro st A R h1 h2 h3 h4
  obtain ⟨A1, B, rfl, hA1, hB⟩ := List.map_eq_append_iff.1 h3
  obtain ⟨A2, C, rfl, hA2, hC⟩ := List.map_eq_append_iff.1 hA1
  obtain ⟨x, hx, hxt⟩ : ∃ x, C = [x] ∧ x.1 = t := by
    cases C with
    | nil => simp at hC
    | cons x r => cases r with
      | nil => exact ⟨x, rfl, by simpa using hC⟩
      | cons y r => simp at hC
  subst hx
  unfold Ex.chain
  rcases ha st A2 (x :: (B ++ R)) h1 (by rw [h2]; simp) hA2 (fun y r e => by cases e; rw [hxt]; exact hS) with h5 | ⟨h5, h6, h7⟩
  · rw [Ex.chainF_no (may_no (by rw [h5]; decide) t)]
    exact .inl h5
  · have hm : (p st).2.may t = true := may_at h5 h6 hxt
    obtain ⟨g1, g2⟩ := goes_ts h6
    rw [h6, List.length_cons, Ex.chainF, if_pos hm]
    rcases hb (p st).2.goes B R (by rw [g2]; exact h5) g1 hB (h4.mono fun x hx => by rw [hx]; rfl) with i5 | ⟨i5, i6, i7⟩
    · rw [Ex.chainF_no (may_no (by rw [i5]; decide) t)]
      exact .inl i5
    · rw [Ex.chainF_no (may_stop (S := fun x => S x || decide (x = t)) (by simp) h4 i6 ht)]
      refine .inr ⟨i5, i6, ?_⟩
      subst hv
      unfold Ex.two
      rw [show Ex.same ⟨k, ai, 0, X.on (Y.on .nil)⟩ ⟨k, ((p st).2.at_ : Int), 0, (p st).1.on ((p (p st).2.goes).1.on .nil)⟩ = (decide (k = k) && decide ((0 : Int) = 0) && Fo.same (X.on (Y.on .nil)) ((p st).1.on ((p (p st).2.goes).1.on .nil))) from rfl, Fo.same_on, Fo.same_on, h7, i7]
      simp [Fo.same]
theorem Rb.imp1 {p : St → Tr × St} {w : Option (St → Tr × St)} {S : Tok → Bool} {ts : List Tok} {T : Tr} (h : Rb p S ts T) : Rb (Ex.imp w p) (fun x => S x || decide (x = .imp)) ts T := by
  intro st A R h1 h2 h3 h4
  unfold Ex.imp
  rcases h st A R h1 h2 h3 (h4.mono fun x hx => by rw [hx]; rfl) with h5 | ⟨h5, h6, h7⟩
  · rw [may_no (by rw [h5]; decide), if_neg (by simp)]
    exact .inl h5
  · rw [may_stop (S := fun x => S x || decide (x = .imp)) (by simp) h4 h6 (by decide), if_neg (by simp)]
    exact .inr ⟨h5, h6, h7⟩
/-- one deeper -/
def RbO (w : Option (St → Tr × St)) (S : Tok → Bool) (ts : List Tok) (T : Tr) : Prop := match w with | none => True | some p => Rb p S ts T
theorem RbO.within {w : Option (St → Tr × St)} {S : Tok → Bool} {ts : List Tok} {T : Tr} (h : RbO w S ts T) : Rb (Ex.within w) S ts T := by
  intro st A R h1 h2 h3 h4
  cases w with
  | none =>
    left
    unfold Ex.within St.bad
    simp only [h1, if_true]
  | some p =>
    unfold Ex.within
    simp only [h1, if_true]
    exact h st A R h1 h2 h3 h4
theorem Rb.imp2 {p : St → Tr × St} {w : Option (St → Tr × St)} {S S' : Tok → Bool} {a b : List Tok} {X Y : Tr} {v ai : Int} (hS : S .imp = false) (ha : Rb p S a X) (hb : RbO w S' b Y) (hs : ∀ t, S t = true → S' t = true) (hv : v = 0) :
    Rb (Ex.imp w p) S' (a ++ [.imp] ++ b) ⟨7, ai, v, X.on (Y.on .nil)⟩ := by
  intro st A R h1 h2 h3 h4
  obtain ⟨A1, B, rfl, hA1, hB⟩ := List.map_eq_append_iff.1 h3
  obtain ⟨A2, C, rfl, hA2, hC⟩ := List.map_eq_append_iff.1 hA1
  obtain ⟨x, hx, hxt⟩ : ∃ x, C = [x] ∧ x.1 = Tok.imp := by
    cases C with
    | nil => simp at hC
    | cons x r => cases r with
      | nil => exact ⟨x, rfl, by simpa using hC⟩
      | cons y r => simp at hC
  subst hx
  unfold Ex.imp
  rcases ha st A2 (x :: (B ++ R)) h1 (by rw [h2]; simp) hA2 (fun y r e => by cases e; rw [hxt]; exact hS) with h5 | ⟨h5, h6, h7⟩
  · rw [may_no (by rw [h5]; decide), if_neg (by simp)]
    exact .inl h5
  · rw [may_at h5 h6 hxt, if_pos rfl]
    obtain ⟨g1, g2⟩ := goes_ts h6
    rcases hb.within (p st).2.goes B R (by rw [g2]; exact h5) g1 hB h4 with i5 | ⟨i5, i6, i7⟩
    · exact .inl i5
    · refine .inr ⟨i5, i6, ?_⟩
      subst hv
      unfold Ex.two
      rw [show Ex.same ⟨7, ai, 0, X.on (Y.on .nil)⟩ ⟨7, ((p st).2.at_ : Int), 0, (p st).1.on ((Ex.within w (p st).2.goes).1.on .nil)⟩ = (decide ((7 : Int) = 7) && decide ((0 : Int) = 0) && Fo.same (X.on (Y.on .nil)) ((p st).1.on ((Ex.within w (p st).2.goes).1.on .nil))) from rfl, Fo.same_on, Fo.same_on, h7, i7]
      simp [Fo.same]
/-- what stands at the depths below -/
def Ex.wu : Nat → Option (St → Tr × St) | 0 => none | n + 1 => some (Ex.lev n).un
def Ex.wi : Nat → Option (St → Tr × St) | 0 => none | n + 1 => some (Ex.lev n).imp
def Ex.wf : Nat → Option (St → Tr × St) | 0 => none | n + 1 => some (Ex.lev n).iff
theorem Ex.lev_un (n : Nat) : (Ex.lev n).un = Ex.un (Ex.wu n) (Ex.wf n) := by cases n <;> rfl
theorem Ex.lev_imp (n : Nat) : (Ex.lev n).imp = Ex.imp (Ex.wi n) (Ex.chain .or 5 (Ex.chain .xor 6 (Ex.chain .and 4 (Ex.lev n).un))) := by cases n <;> rfl
theorem Ex.lev_iff (n : Nat) : (Ex.lev n).iff = Ex.chain .iff 8 (Ex.lev n).imp := by cases n <;> rfl
def noS : Tok → Bool := fun _ => false
def opS : Tok → Bool := Tok.op
/-- un reads it, at each depth; iff reads it, at each depth -/
def UB (ts : List Tok) (T : Tr) : Prop := ∀ n, Rb (Ex.lev n).un noS ts T
def IB (ts : List Tok) (T : Tr) : Prop := ∀ n, Rb (Ex.lev n).iff opS ts T
theorem UB.or {ts : List Tok} {T : Tr} (h : UB ts T) (n : Nat) : Rb (Ex.chain .or 5 (Ex.chain .xor 6 (Ex.chain .and 4 (Ex.lev n).un))) (fun x => decide (x = .and) || decide (x = .xor) || decide (x = .or)) ts T :=
  ((((h n).chain1 .and 4 (by decide)).chain1 .xor 6 (by decide)).chain1 .or 5 (by decide)).stop (fun t ht => by simpa [noS] using ht)
theorem UB.imp {ts : List Tok} {T : Tr} (h : UB ts T) (n : Nat) : Rb (Ex.lev n).imp (fun x => decide (x = .and) || decide (x = .xor) || decide (x = .or) || decide (x = .imp)) ts T := by
  rw [Ex.lev_imp]; exact (h.or n).imp1
theorem UB.iff {ts : List Tok} {T : Tr} (h : UB ts T) : IB ts T := fun n => by
  rw [Ex.lev_iff]
  exact ((h.imp n).chain1 .iff 8 (by decide)).stop (fun t ht => by cases t <;> simp at ht <;> rfl)
/-- two formulas with a sign between -/
theorem IB.two {a b : List Tok} {X Y : Tr} {k ai v : Int} (hk : 4 ≤ k ∧ k ≤ 8) (ha : UB a X) (hb : UB b Y) (hv : v = 0) : IB (a ++ [Ex.tkop k] ++ b) ⟨k, ai, v, X.on (Y.on .nil)⟩ := fun n => by
  rw [Ex.lev_iff]
  have hc : k = 4 ∨ k = 5 ∨ k = 6 ∨ k = 7 ∨ k = 8 := by omega
  rcases hc with rfl | rfl | rfl | rfl | rfl
  · rw [Ex.lev_imp]
    exact ((((((Rb.chain2 .and 4 (by decide) rfl (ha n) (hb n) hv).chain1 .xor 6 (by decide)).chain1 .or 5 (by decide)).imp1).chain1 .iff 8 (by decide))).stop (fun t ht => by cases t <;> simp [noS] at ht <;> rfl)
  · rw [Ex.lev_imp]
    exact (((Rb.chain2 .or 5 (by decide) (by simp [noS]) (((ha n).chain1 .and 4 (by decide)).chain1 .xor 6 (by decide)) (((hb n).chain1 .and 4 (by decide)).chain1 .xor 6 (by decide)) hv).imp1).chain1 .iff 8 (by decide)).stop (fun t ht => by cases t <;> simp [noS] at ht <;> rfl)
  · rw [Ex.lev_imp]
    exact ((((Rb.chain2 .xor 6 (by decide) (by simp [noS]) ((ha n).chain1 .and 4 (by decide)) ((hb n).chain1 .and 4 (by decide)) hv).chain1 .or 5 (by decide)).imp1).chain1 .iff 8 (by decide)).stop (fun t ht => by cases t <;> simp [noS] at ht <;> rfl)
  · have hi : Rb (Ex.lev n).imp (fun x => decide (x = .and) || decide (x = .xor) || decide (x = .or) || decide (x = .imp)) (a ++ [Tok.imp] ++ b) ⟨7, ai, v, X.on (Y.on .nil)⟩ := by
      rw [Ex.lev_imp]
      refine Rb.imp2 (by simp) (ha.or n) ?_ (fun t ht => by simp at ht ⊢; simp [ht]) hv
      cases n with
      | zero => exact True.intro
      | succ n => exact hb.imp n
    exact (hi.chain1 .iff 8 (by decide)).stop (fun t ht => by cases t <;> simp at ht <;> rfl)
  · exact (Rb.chain2 .iff 8 (by decide) (by simp) (ha.imp n) (hb.imp n) hv).stop (fun t ht => by cases t <;> simp at ht <;> rfl)

theorem wf_rb {ts : List Tok} {T : Tr} (h : IB ts T) (n : Nat) : RbO (Ex.wf n) opS ts T := by
  cases n with
  | zero => exact True.intro
  | succ n => exact h n
theorem wu_rb {ts : List Tok} {T : Tr} (h : UB ts T) (n : Nat) : RbO (Ex.wu n) noS ts T := by
  cases n with
  | zero => exact True.intro
  | succ n => exact h n
theorem must_at {t : Tok} {st : St} {x : Tok × Nat} {R : List (Tok × Nat)} (he : st.e = 0) (hR : st.ts = x :: R) (hx : x.1 = t) : (st.must t).e = 0 ∧ (st.must t).ts = R := by
  unfold St.must
  rw [may_at he hR hx, if_pos rfl]
  obtain ⟨g1, g2⟩ := goes_ts hR
  exact ⟨by rw [g2]; exact he, g1⟩
/-- in brackets -/
theorem UB.par {ts : List Tok} {T : Tr} (h : IB ts T) : UB (Ex.tpar ts) T := fun n => by
  intro st A R h1 h2 h3 h4
  unfold Ex.tpar at h3
  obtain ⟨A1, B, rfl, hA1, hB⟩ := List.map_eq_append_iff.1 h3
  obtain ⟨C, A2, rfl, hC, hA2⟩ := List.map_eq_append_iff.1 hA1
  obtain ⟨x, rfl, hx⟩ : ∃ x, C = [x] ∧ x.1 = Tok.lp := by
    cases C with
    | nil => simp at hC
    | cons x r => cases r with
      | nil => exact ⟨x, rfl, by simpa using hC⟩
      | cons y r => simp at hC
  obtain ⟨y, rfl, hy⟩ : ∃ y, B = [y] ∧ y.1 = Tok.rp := by
    cases B with
    | nil => simp at hB
    | cons x r => cases r with
      | nil => exact ⟨x, rfl, by simpa using hB⟩
      | cons y r => simp at hB
  have h2' : st.ts = x :: (A2 ++ (y :: R)) := by rw [h2]; simp
  have hnow : st.now = .lp := by unfold St.now; rw [h2']; exact hx
  rw [Ex.lev_un]
  unfold Ex.un
  rw [if_neg (by simpa using h1), may_other h2' (by rw [hx]; decide), if_neg (by simp), may_other h2' (by rw [hx]; decide), if_neg (by simp), may_other h2' (by rw [hx]; decide), if_neg (by simp)]
  unfold Ex.prim
  rw [hnow]
  simp only []
  rw [may_at h1 h2' hx, if_pos rfl]
  obtain ⟨g1, g2⟩ := goes_ts h2'
  rcases (wf_rb h n).within st.goes A2 (y :: R) (by rw [g2]; exact h1) g1 hA2 (fun z r e => by cases e; rw [hy]; rfl) with i5 | ⟨i5, i6, i7⟩
  · left
    simp only []
    rw [must_keep (by rw [i5]; decide), i5]
  · right
    obtain ⟨m1, m2⟩ := must_at i5 i6 hy
    exact ⟨m1, m2, i7⟩
theorem UB.one_ {ts : List Tok} {T : Tr} {ai : Int} (h : UB ts T) {v : Int} (hv : v = 0) : UB ([.not] ++ ts) ⟨3, ai, v, T.on .nil⟩ := fun n => by
  intro st A R h1 h2 h3 h4
  obtain ⟨C, A2, rfl, hC, hA2⟩ := List.map_eq_append_iff.1 h3
  obtain ⟨x, rfl, hx⟩ : ∃ x, C = [x] ∧ x.1 = Tok.not := by
    cases C with
    | nil => simp at hC
    | cons x r => cases r with
      | nil => exact ⟨x, rfl, by simpa using hC⟩
      | cons y r => simp at hC
  have h2' : st.ts = x :: (A2 ++ R) := by rw [h2]; simp
  rw [Ex.lev_un]
  unfold Ex.un
  rw [if_neg (by simpa using h1), may_at h1 h2' hx, if_pos rfl]
  obtain ⟨g1, g2⟩ := goes_ts h2'
  rcases (wu_rb h n).within st.goes A2 R (by rw [g2]; exact h1) g1 hA2 h4 with i5 | ⟨i5, i6, i7⟩
  · exact .inl i5
  · refine .inr ⟨i5, i6, ?_⟩
    subst hv
    unfold Ex.one
    rw [show Ex.same ⟨3, ai, 0, T.on .nil⟩ ⟨3, (st.at_ : Int), 0, (Ex.within (Ex.wu n) st.goes).1.on .nil⟩ = (decide ((3 : Int) = 3) && decide ((0 : Int) = 0) && Fo.same (T.on .nil) ((Ex.within (Ex.wu n) st.goes).1.on .nil)) from rfl, Fo.same_on, i7]
    simp [Fo.same]
theorem UB.quant {ts : List Tok} {T : Tr} {ai k : Int} {q : Tok} (hq : (q = .all ∧ k = 10) ∨ (q = .any ∧ k = 11)) (m : Fin 8) (h : UB ts T) : UB ([q, .var m] ++ ts) ⟨k, ai, (m.val : Int), T.on .nil⟩ := fun n => by
  intro st A R h1 h2 h3 h4
  obtain ⟨C, A2, rfl, hC, hA2⟩ := List.map_eq_append_iff.1 h3
  obtain ⟨x, y, rfl, hx, hy⟩ : ∃ x y, C = [x, y] ∧ x.1 = q ∧ y.1 = Tok.var m := by
    cases C with
    | nil => simp at hC
    | cons x r => cases r with
      | nil => simp at hC
      | cons y r => cases r with
        | nil => exact ⟨x, y, rfl, by simpa using hC⟩
        | cons z r => simp at hC
  have h2' : st.ts = x :: (y :: (A2 ++ R)) := by rw [h2]; simp
  obtain ⟨g1, g2⟩ := goes_ts h2'
  have hnow : st.goes.now = .var m := by unfold St.now; rw [g1]; exact hy
  obtain ⟨j1, j2⟩ := goes_ts g1
  have hb : ∀ a : Nat, (Ex.bound (Ex.wu n) k a st.goes).2.e = 231 ∨ ((Ex.bound (Ex.wu n) k a st.goes).2.e = 0 ∧ (Ex.bound (Ex.wu n) k a st.goes).2.ts = R ∧ Ex.same ⟨k, ai, (m.val : Int), T.on .nil⟩ (Ex.bound (Ex.wu n) k a st.goes).1 = true) := by
    intro a
    unfold Ex.bound
    rw [hnow]
    simp only []
    rcases (wu_rb h n).within st.goes.goes A2 R (by rw [j2, g2]; exact h1) j1 hA2 h4 with i5 | ⟨i5, i6, i7⟩
    · exact .inl i5
    · refine .inr ⟨i5, i6, ?_⟩
      unfold Ex.one
      rw [show Ex.same ⟨k, ai, (m.val : Int), T.on .nil⟩ ⟨k, (a : Int), (m.val : Int), (Ex.within (Ex.wu n) st.goes.goes).1.on .nil⟩ = (decide (k = k) && decide ((m.val : Int) = (m.val : Int)) && Fo.same (T.on .nil) ((Ex.within (Ex.wu n) st.goes.goes).1.on .nil)) from rfl, Fo.same_on, i7]
      simp [Fo.same]
  rw [Ex.lev_un]
  unfold Ex.un
  rcases hq with ⟨rfl, rfl⟩ | ⟨rfl, rfl⟩
  · rw [if_neg (by simpa using h1), may_other h2' (by rw [hx]; decide), if_neg (by simp), may_at h1 h2' hx, if_pos rfl]
    exact hb _
  · rw [if_neg (by simpa using h1), may_other h2' (by rw [hx]; decide), if_neg (by simp), may_other h2' (by rw [hx]; decide), if_neg (by simp), may_at h1 h2' hx, if_pos rfl]
    exact hb _
theorem UB.leaf {k v ai : Int} {t : Tok} (h : (∃ m : Fin 8, t = .var m ∧ k = 1 ∧ v = (m.val : Int)) ∨ (t = .zero ∧ k = 2 ∧ v = 0) ∨ (t = .one ∧ k = 2 ∧ v = 1)) : UB [t] ⟨k, ai, v, .nil⟩ := fun n => by
  intro st A R h1 h2 h3 h4
  obtain ⟨x, rfl, hx⟩ : ∃ x, A = [x] ∧ x.1 = t := by
    cases A with
    | nil => simp at h3
    | cons x r => cases r with
      | nil => exact ⟨x, rfl, by simpa using h3⟩
      | cons y r => simp at h3
  have h2' : st.ts = x :: R := by rw [h2]; simp
  have hnow : st.now = t := by unfold St.now; rw [h2']; exact hx
  obtain ⟨g1, g2⟩ := goes_ts h2'
  rw [Ex.lev_un]
  unfold Ex.un
  have hn : ∀ u : Tok, (u = .not ∨ u = .all ∨ u = .any) → st.may u = false := fun u hu => may_other h2' (by rw [hx]; rcases h with ⟨m, rfl, _⟩ | ⟨rfl, _⟩ | ⟨rfl, _⟩ <;> rcases hu with rfl | rfl | rfl <;> simp)
  rw [if_neg (by simpa using h1), hn _ (.inl rfl), if_neg (by simp), hn _ (.inr (.inl rfl)), if_neg (by simp), hn _ (.inr (.inr rfl)), if_neg (by simp)]
  unfold Ex.prim
  rw [hnow]
  rcases h with ⟨m, rfl, rfl, rfl⟩ | ⟨rfl, rfl, rfl⟩ | ⟨rfl, rfl, rfl⟩
  · exact .inr ⟨by simp only []; rw [g2]; exact h1, g1, by simp [Ex.same, Fo.same]⟩
  · exact .inr ⟨by simp only []; rw [g2]; exact h1, g1, by simp [Ex.same, Fo.same]⟩
  · exact .inr ⟨by simp only []; rw [g2]; exact h1, g1, by simp [Ex.same, Fo.same]⟩
end Go.Proofs.Ytfgokhafiffbaaa
