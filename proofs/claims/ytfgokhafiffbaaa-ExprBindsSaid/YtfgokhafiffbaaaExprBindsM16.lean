/-
  Texts on which the law ExprBinds rests, part 16 of 22.
-/
import Derived.Test.YtfgokhafiffbaaaExprBindsM15
/-
  Formulas: put whole, Print.
-/
namespace Go.Proofs.Ytfgokhafiffbaaa
set_option linter.unusedVariables false
open Go.RowKit Go.Lib

theorem kidB_of {w : World} {base : Nat} {k a v : Int} {kk rest : Fo} {b o : Nat} (h : RdF w (fun g => g < base) (.cons k a v kk rest) b o) : ∃ sx, KidB w base b o ⟨k, a, v, kk⟩ sx ∧ RdF w (fun g => g < base) rest b (o + 4) := by
  obtain ⟨hb, h0, h1, h2, ⟨p, cap, b', o', h3, hp, hc, hk⟩, hr⟩ := h
  exact ⟨_, ⟨hb, h0, h1, h2, h3, ⟨p, cap, b', o', rfl, hp, hc, hk⟩⟩, hr⟩
theorem Fo.prs_on (t : Tr) (r : Fo) : (t.on r).prs = Ex.pr t :: r.prs := rfl
set_option maxHeartbeats 1000000 in
theorem Pw.succ (n : Nat) (ih : Pw n) : Pw (n + 1) := by
  intro t sl base v l u hn hp hs ho hb hl
  rw [Fo.nodes_on] at hn hl
  rw [Fo.allPlain_on, Bool.and_eq_true, Bool.and_eq_true] at hp
  obtain ⟨⟨hpl, hka⟩, _⟩ := hp
  obtain ⟨h1, h2, h3, h4, h5⟩ := plain_shape hpl
  obtain ⟨k, a, vv, kids⟩ := t
  simp only [] at h1 h2 h3 h4 h5 hn hka hs hl
  have hnil : (Fo.nil).nodes = 0 := rfl
  rw [hnil] at hn hl
  obtain ⟨p, cap, b, o, rfl, hpn, hcap, hr⟩ := hs
  unfold Ev Ex.pr
  simp only []
  have hc : k = 1 ∨ k = 2 ∨ k = 3 ∨ (4 ≤ k ∧ k ≤ 8) ∨ k = 9 ∨ k = 10 ∨ k = 11 := by omega
  have a0 : (k = 1 ∨ k = 2) → kids = .nil := fun h => Fo.len0 (by rw [h3, Ex.kids0 (by omega)])
  have hone : ∀ (x : Tr), kids = x.on .nil → ∃ sx, p = some ⟨b, o, none⟩ ∧ KidB u base b o x sx ∧ (x.on .nil).nodes ≤ n ∧ (x.on .nil).allPlain = true := fun x e => by
    subst e
    obtain ⟨sx, K, _⟩ := kidB_of hr
    rw [Fo.nodes_on] at hn
    refine ⟨sx, ?_, K, by rw [Fo.nodes_on]; omega, hka⟩
    rcases hpn with ⟨e, _⟩ | e
    · cases e
    · exact e
  have htwo : ∀ (x y : Tr), kids = x.on (y.on .nil) → ∃ sx sy, p = some ⟨b, o, none⟩ ∧ (KidB u base b o x sx ∧ (x.on .nil).nodes ≤ n ∧ (x.on .nil).allPlain = true) ∧ (KidB u base b (o + 4) y sy ∧ (y.on .nil).nodes ≤ n ∧ (y.on .nil).allPlain = true) := fun x y e => by
    subst e
    obtain ⟨sx, K, hr2⟩ := kidB_of hr
    obtain ⟨sy, K2, _⟩ := kidB_of hr2
    rw [Fo.nodes_on, Fo.nodes_on] at hn
    rw [Fo.allPlain_on, Bool.and_eq_true] at hka
    refine ⟨sx, sy, ?_, ⟨K, by rw [Fo.nodes_on]; omega, by rw [Fo.allPlain_on, hka.1]; rfl⟩, ⟨K2, by rw [Fo.nodes_on]; omega, hka.2⟩⟩
    rcases hpn with ⟨e, _⟩ | e
    · cases e
    · exact e
  have hthree : ∀ (x y z : Tr), kids = x.on (y.on (z.on .nil)) → ∃ sx sy sz, p = some ⟨b, o, none⟩ ∧ (KidB u base b o x sx ∧ (x.on .nil).nodes ≤ n ∧ (x.on .nil).allPlain = true) ∧ (KidB u base b (o + 4) y sy ∧ (y.on .nil).nodes ≤ n ∧ (y.on .nil).allPlain = true) ∧ (KidB u base b (o + 8) z sz ∧ (z.on .nil).nodes ≤ n ∧ (z.on .nil).allPlain = true) := fun x y z e => by
    subst e
    obtain ⟨sx, K, hr2⟩ := kidB_of hr
    obtain ⟨sy, K2, hr3⟩ := kidB_of hr2
    obtain ⟨sz, K3, _⟩ := kidB_of hr3
    rw [Fo.nodes_on, Fo.nodes_on, Fo.nodes_on] at hn
    rw [Fo.allPlain_on, Bool.and_eq_true, Fo.allPlain_on y, Bool.and_eq_true (Ex.plain y && y.kids.allPlain)] at hka
    refine ⟨sx, sy, sz, ?_, ⟨K, by rw [Fo.nodes_on]; omega, by rw [Fo.allPlain_on, hka.1]; rfl⟩, ⟨K2, by rw [Fo.nodes_on]; omega, by rw [Fo.allPlain_on, hka.2.1]; rfl⟩, ⟨K3, by rw [Fo.nodes_on]; omega, hka.2.2⟩⟩
    rcases hpn with ⟨e, _⟩ | e
    · cases e
    · exact e
  have k1 : (k = 3 ∨ k = 10 ∨ k = 11) → kids.len = 1 := fun h => by rw [h3, Ex.kids1 h]
  have k2 : (4 ≤ k ∧ k ≤ 8) → kids.len = 2 := fun h => by rw [h3, Ex.kids2 h]
  have k3 : k = 9 → kids.len = 3 := fun h => by rw [h3, Ex.kids3 h]
  have hv8 : (k = 1 ∨ k = 2 ∨ k = 10 ∨ k = 11) → ∃ m : Nat, vv = (m : Int) ∧ m < 8 := fun h => by
    have ht : Ex.top k ≤ 7 := by unfold Ex.top; repeat' split
                                 all_goals omega
    exact ⟨vv.toNat, by omega, by omega⟩
  rcases hc with rfl | rfl | rfl | hk | rfl | rfl | rfl
  · have e := a0 (.inl rfl); subst e
    obtain ⟨m, rfl, hm⟩ := hv8 (.inl rfl)
    exact put_1 n ih a m hm p cap base v l u ho hb (by rw [hnil] at hl; omega)
  · have e := a0 (.inr rfl); subst e
    obtain ⟨m, rfl, hm⟩ := hv8 (.inr (.inl rfl))
    exact put_2 n ih a m hm p cap base v l u ho hb (by rw [hnil] at hl; omega)
  · obtain ⟨x, e⟩ := Fo.len1 (k1 (by omega))
    obtain ⟨sx, rfl, K, hx, px⟩ := hone x e
    subst e
    rw [Fo.nodes_on, hnil] at hl
    exact put_3 n ih a vv b o cap base v l u x sx K hx px ho hb (by rw [Fo.nodes_on, hnil]; omega)
  · obtain ⟨x, y, e⟩ := Fo.len2 (k2 hk)
    obtain ⟨sx, sy, rfl, ⟨K, hx, px⟩, K2, hy, py⟩ := htwo x y e
    subst e
    rw [Fo.nodes_on, Fo.nodes_on, hnil] at hl
    exact put_4 n ih k hk a vv b o cap base v l u x sx K hx px y sy K2 hy py ho hb (by rw [Fo.nodes_on, Fo.nodes_on, hnil]; omega)
  · obtain ⟨x, y, z, e⟩ := Fo.len3 (k3 rfl)
    obtain ⟨sx, sy, sz, rfl, ⟨K, hx, px⟩, ⟨K2, hy, py⟩, K3, hz, pz⟩ := hthree x y z e
    subst e
    rw [Fo.nodes_on, Fo.nodes_on, Fo.nodes_on, hnil] at hl
    exact put_9 n ih a vv b o cap base v l u x sx K hx px y sy K2 hy py z sz K3 hz pz ho hb (by rw [Fo.nodes_on, Fo.nodes_on, Fo.nodes_on, hnil]; omega)
  · obtain ⟨x, e⟩ := Fo.len1 (k1 (by omega))
    obtain ⟨sx, rfl, K, hx, px⟩ := hone x e
    obtain ⟨m, rfl, hm⟩ := hv8 (.inr (.inr (.inl rfl)))
    subst e
    rw [Fo.nodes_on, hnil] at hl
    exact put_10 n ih a m hm b o cap base v l u x sx K hx px ho hb (by rw [Fo.nodes_on, hnil]; omega)
  · obtain ⟨x, e⟩ := Fo.len1 (k1 (by omega))
    obtain ⟨sx, rfl, K, hx, px⟩ := hone x e
    obtain ⟨m, rfl, hm⟩ := hv8 (.inr (.inr (.inr rfl)))
    subst e
    rw [Fo.nodes_on, hnil] at hl
    exact put_11 n ih a m hm b o cap base v l u x sx K hx px ho hb (by rw [Fo.nodes_on, hnil]; omega)
theorem Pw.all : ∀ n, Pw n
  | 0 => fun t sl base v l u h => by rw [Fo.nodes_on] at h; omega
  | n + 1 => Pw.succ n (Pw.all n)
/-- what a formula is printed as; nothing where it is none -/
def Ex.print (t : Tr) : List UInt8 := if Ex.is t then Ex.pr t else []
theorem Ex.pr_ne (t : Tr) : Ex.pr t ≠ [] := by
  unfold Ex.pr Ex.prk
  repeat' split
  all_goals simp
theorem Ex.is_nodes {t : Tr} (h : Ex.is t = true) : (t.on .nil).nodes ≤ 4000 ∧ (t.on .nil).allPlain = true := by
  unfold Ex.is at h
  rw [Bool.and_eq_true] at h
  exact ⟨of_decide_eq_true h.1, h.2⟩
set_option maxHeartbeats 4000000 in
theorem print_any (t : Tr) (sl : Value) (B : Nat → Prop) (w : World) (hs : SlF w B sl t.kids) :
    Calls Try.prog 16 #[Ev t sl] w fun e w' => e = .returned (.string ⟨(Ex.print t).toArray⟩) ∧ Below w.heap.size w w' := by
  obtain ⟨pp, cap, rfl⟩ := hs.is
  have hb := boxE w t.k t.a t.v (.slice pp t.kids.len cap)
  have hbe := (Below.refl w.heap.size w).alloc (Nat.le_refl _) (.cells #[.int .i64 t.k, .int .i64 t.a, .int .i64 t.v, .slice pp t.kids.len cap] 36)
  have hsA := (hs.mono' (B' := fun g => g < w.heap.size) fun g hg _ => hg).alloc (.cells #[.int .i64 t.k, .int .i64 t.a, .int .i64 t.v, .slice pp t.kids.len cap] 36)
  have HB := Bx.mk hb
  have HBE := Bx.mk hbe
  have HSA := Bx.mk hsA
  have hI := is_any t _ _ _ hsA
  unfold Ev at hI ⊢
  have HI := Bx.mk hI
  obtain ⟨c0, c1, c2, c3, _, _, _, _⟩ := cells4 hb
  clear hI hb hbe hsA hs
  unfold Ex.print
  cases hi : Ex.is t with
  | false =>
    rw [hi] at HI
    have HI := Bx.mk HI.out
    clear hi
    go_enter Try.func16, Try.ntmps16
    go_wp2_with fail
    refine HI.out.mono ?_
    rintro e w1 ⟨rfl, hb1⟩
    have HBE1 := Bx.mk (HBE.out.trans (hb1.mono HBE.out.size))
    clear hb1 c0 c1 c2 c3
    go_wp2_with fail
    go_ret
    exact ⟨rfl, HBE1.out⟩
  | true =>
    rw [hi] at HI
    have HX := Bx.mk (Ex.is_nodes hi)
    clear hi
    go_enter Try.func16, Try.ntmps16
    go_wp2_with fail
    refine HI.out.mono ?_
    rintro e w1 ⟨rfl, hb1⟩
    have hb2 := HB.out.below hb1 HB.out.lt
    have HBE1 := Bx.mk (HBE.out.trans (hb1.mono HBE.out.size))
    have hs1 := HSA.out.below hb1
    have HP := Bx.mk (Pw.all _ t _ w1.heap.size (.slice none 0 0) [] w1 (Nat.le_refl _) HX.out.2 (hs1.mono' (B' := fun g => g < w1.heap.size) fun g hg _ => hg) (OwnB.nil w1 _) (Nat.le_refl _) (by have := HX.out.1; simp only [List.length_nil]; omega))
    unfold Ev at HP
    obtain ⟨c0, c1, c2, c3, _, _, _, _⟩ := cells4 hb2
    clear hb1 hb2 hs1
    go_wp2_with fail
    refine HP.out.mono ?_
    rintro e w2 ⟨v, rfl, ho, hf⟩
    have hC := ho.str (by simpa using Ex.pr_ne t)
    have HB3 := Bx.mk (Fr.to_below HBE1.out hf (fun k hk => by cases hk) HBE1.out.size)
    rw [List.nil_append] at hC
    clear ho hf c0 c1 c2 c3
    go_wp2_with fail
    go_ret
    exact ⟨rfl, HB3.out⟩
end Go.Proofs.Ytfgokhafiffbaaa

/-
  Formulas, plain: what is printed is read back: the signs of a print, and the parser over them.
-/
namespace Go.Proofs.Ytfgokhafiffbaaa
set_option linter.unusedVariables false
open Go.RowKit

/-- what is the same has one print, one table, as many nodes -/
theorem Fo.same_all : ∀ (F G : Fo), Fo.same F G = true → F.prs = G.prs ∧ F.tabs = G.tabs ∧ F.nodes = G.nodes ∧ F.len = G.len ∧ F.allPlain = G.allPlain
  | .nil, .nil, _ => ⟨rfl, rfl, rfl, rfl, rfl⟩
  | .cons .., .nil, h => by simp [Fo.same] at h
  | .nil, .cons .., h => by simp [Fo.same] at h
  | .cons k a v kids rest, .cons k' a' v' kids' rest', h => by
    simp only [Fo.same, Bool.and_eq_true, decide_eq_true_eq] at h
    obtain ⟨⟨⟨rfl, rfl⟩, h2⟩, h3⟩ := h
    obtain ⟨a1, a2, a3, a4, a5⟩ := Fo.same_all kids kids' h2
    obtain ⟨b1, b2, b3, b4, b5⟩ := Fo.same_all rest rest' h3
    refine ⟨by simp only [Fo.prs, a1, b1], by simp only [Fo.tabs, a2, b2], by simp only [Fo.nodes, a3, b3], by simp only [Fo.len, b4], ?_⟩
    simp only [Fo.allPlain, a5, b5]
    unfold Ex.plain
    simp only [a4]
theorem Ex.same_all {s t : Tr} (h : Ex.same s t = true) : Ex.pr s = Ex.pr t ∧ Ex.table s = Ex.table t ∧ Ex.is s = Ex.is t := by
  have h' : Fo.same (s.on .nil) (t.on .nil) = true := by rw [Fo.same_on, h]; rfl
  obtain ⟨a1, a2, a3, a4, a5⟩ := Fo.same_all _ _ h'
  refine ⟨List.head_eq_of_cons_eq a1, List.head_eq_of_cons_eq a2, ?_⟩
  unfold Ex.is
  rw [a3, a5]

/-- the signs of a print -/
def Ex.tkop (k : Int) : Tok := if k = 4 then .and else if k = 5 then .or else if k = 6 then .xor else if k = 7 then .imp else .iff
def Ex.tpar (l : List Tok) : List Tok := [.lp] ++ l ++ [.rp]
def Ex.ptk (k v : Int) (l : List (List Tok)) : List Tok :=
  if k = 1 then [.var (Fin.ofNat 8 v.toNat)] else if k = 2 then [if v = 0 then .zero else .one] else if k = 3 then [.not] ++ Ex.tpar (l.getD 0 [])
  else if k = 10 then [.all, .var (Fin.ofNat 8 v.toNat)] ++ Ex.tpar (l.getD 0 []) else if k = 11 then [.any, .var (Fin.ofNat 8 v.toNat)] ++ Ex.tpar (l.getD 0 [])
  else if k = 9 then [.ite, .lp] ++ Ex.tpar (l.getD 0 []) ++ [.comma] ++ Ex.tpar (l.getD 1 []) ++ [.comma] ++ Ex.tpar (l.getD 2 []) ++ [.rp]
  else [.lp] ++ Ex.tpar (l.getD 0 []) ++ [Ex.tkop k] ++ Ex.tpar (l.getD 1 []) ++ [.rp]
def Fo.pts : Fo → List (List Tok)
  | .nil => []
  | .cons k _ v kids rest => Ex.ptk k v kids.pts :: rest.pts
def Ex.pt (t : Tr) : List Tok := Ex.ptk t.k t.v t.kids.pts

/-- the signs that stand between -/
def Tok.op : Tok → Bool
  | .and | .or | .xor | .imp | .iff => true
  | _ => false
/-- what comes next is none of these -/
def Stop (S : Tok → Bool) (R : List (Tok × Nat)) : Prop := ∀ x r, R = x :: r → S x.1 = false
theorem Stop.mono {S S' : Tok → Bool} {R : List (Tok × Nat)} (h : Stop S R) (hs : ∀ t, S' t = true → S t = true) : Stop S' R := fun x r e => by
  have := h x r e
  cases h2 : S' x.1 with
  | false => rfl
  | true => rw [hs _ h2] at this; cases this
/-- a reader reads signs as a formula, if nothing follows that it would go on with; or it is too deep -/
def Rb (p : St → Tr × St) (S : Tok → Bool) (ts : List Tok) (T : Tr) : Prop :=
  ∀ (st : St) (A R : List (Tok × Nat)), st.e = 0 → st.ts = A ++ R → A.map Prod.fst = ts → Stop S R → (p st).2.e = 231 ∨ ((p st).2.e = 0 ∧ (p st).2.ts = R ∧ Ex.same T (p st).1 = true)
theorem Rb.stop {p : St → Tr × St} {S S' : Tok → Bool} {ts : List Tok} {T : Tr} (h : Rb p S ts T) (hs : ∀ t, S t = true → S' t = true) : Rb p S' ts T := fun st A R h1 h2 h3 h4 => h st A R h1 h2 h3 (h4.mono hs)
theorem may_stop {S : Tok → Bool} {t : Tok} {st : St} {R : List (Tok × Nat)} (hS : S t = true) (h : Stop S R) (hR : st.ts = R) (ht : t ≠ .eof) : st.may t = false := by
  unfold St.may
  have : st.now ≠ t := by
    unfold St.now
    rw [hR]
    cases R with
    | nil => exact fun e => ht e.symm
    | cons x r => intro e; have := h x r rfl; rw [show x.1 = t from e, hS] at this; cases this
  rw [decide_eq_false this]
  simp
theorem may_at {t : Tok} {st : St} {x : Tok × Nat} {R : List (Tok × Nat)} (he : st.e = 0) (hR : st.ts = x :: R) (hx : x.1 = t) : st.may t = true := by
  unfold St.may St.now
  rw [hR, he]
  simp [hx]
theorem may_other {t : Tok} {st : St} {x : Tok × Nat} {R : List (Tok × Nat)} (hR : st.ts = x :: R) (hx : x.1 ≠ t) : st.may t = false := by
  unfold St.may St.now
  rw [hR]
  simp [hx]
theorem goes_ts {st : St} {x : Tok × Nat} {R : List (Tok × Nat)} (hR : st.ts = x :: R) : st.goes.ts = R ∧ st.goes.e = st.e := by
  unfold St.goes
  rw [hR]
  exact ⟨rfl, rfl⟩
/-- no more to go on with -/
theorem Rb.chain1 {p : St → Tr × St} {S : Tok → Bool} {ts : List Tok} {T : Tr} (t : Tok) (k : Int) (ht : t ≠ .eof) (h : Rb p S ts T) : Rb (Ex.chain t k p) (fun x => S x || decide (x = t)) ts T := by
  intro st A R h1 h2 h3 h4
  unfold Ex.chain
  rcases h st A R h1 h2 h3 (h4.mono fun x hx => by rw [hx]; rfl) with h5 | ⟨h5, h6, h7⟩
  · rw [Ex.chainF_no (may_no (by rw [h5]; decide) t)]
    exact .inl h5
  · rw [Ex.chainF_no (may_stop (S := fun x => S x || decide (x = t)) (by simp) h4 h6 ht)]
    exact .inr ⟨h5, h6, h7⟩
theorem same_two {k : Int} {a b : Nat} {v : Int} {X Y X' Y' : Tr} (hv : v = 0) (h1 : Ex.same X X' = true) (h2 : Ex.same Y Y' = true) : Ex.same ⟨k, a, v, X.on (Y.on .nil)⟩ (Ex.two k b X' Y') = true := by
  subst hv
  unfold Ex.two
  rw [show Ex.same ⟨k, (a : Int), 0, X.on (Y.on .nil)⟩ ⟨k, (b : Int), 0, X'.on (Y'.on .nil)⟩ = (decide (k = k) && decide ((0 : Int) = 0) && Fo.same (X.on (Y.on .nil)) (X'.on (Y'.on .nil))) from rfl, Fo.same_on, Fo.same_on, h1, h2]
  simp [Fo.same]
/-- two with a sign between -/
theorem Rb.chain2 {p : St → Tr × St} {S : Tok → Bool} {a b : List Tok} {X Y : Tr} {v : Int} {ai : Int} (t : Tok) (k : Int) (ht : t ≠ .eof) (hS : S t = false) (ha : Rb p S a X) (hb : Rb p S b Y) (hv : v = 0) :
    Rb (Ex.chain t k p) (fun x => S x || decide (x = t)) (a ++ [t] ++ b) ⟨k, ai, v, X.on (Y.on .nil)⟩ := by
  intro st A R h1 h2 h3 h4
  obtain ⟨A1, B, rfl, hA1, hB⟩ := List.map_eq_append_iff.1 h3
  obtain ⟨A2, C, rfl, hA2, hC⟩ := List.map_eq_append_iff.1 hA1
  obtain ⟨x, hx, hxt⟩ : ∃ x, C = [x] ∧ x.1 = t := by
    cases C with
    | nil => simp at hC
    | cons x r => cases r with
      | nil => exact ⟨x, rfl, by simpa using hC⟩
      | cons y r => simp at hC
  subst hx
  unfold Ex.chain
  rcases ha st A2 (x :: (B ++ R)) h1 (by rw [h2]; simp) hA2 (fun y r e => by cases e; rw [hxt]; exact hS) with h5 | ⟨h5, h6, h7⟩
  · rw [Ex.chainF_no (may_no (by rw [h5]; decide) t)]
    exact .inl h5
  · have hm : (p st).2.may t = true := may_at h5 h6 hxt
    obtain ⟨g1, g2⟩ := goes_ts h6
    rw [h6, List.length_cons, Ex.chainF, if_pos hm]
    rcases hb (p st).2.goes B R (by rw [g2]; exact h5) g1 hB (h4.mono fun x hx => by rw [hx]; rfl) with i5 | ⟨i5, i6, i7⟩
    · rw [Ex.chainF_no (may_no (by rw [i5]; decide) t)]
      exact .inl i5
    · rw [Ex.chainF_no (may_stop (S := fun x => S x || decide (x = t)) (by simp) h4 i6 ht)]
      refine .inr ⟨i5, i6, ?_⟩
      subst hv
      unfold Ex.two
      rw [show Ex.same ⟨k, ai, 0, X.on (Y.on .nil)⟩ ⟨k, ((p st).2.at_ : Int), 0, (p st).1.on ((p (p st).2.goes).1.on .nil)⟩ = (decide (k = k) && decide ((0 : Int) = 0) && Fo.same (X.on (Y.on .nil)) ((p st).1.on ((p (p st).2.goes).1.on .nil))) from rfl, Fo.same_on, Fo.same_on, h7, i7]
      simp [Fo.same]
theorem Rb.imp1 {p : St → Tr × St} {w : Option (St → Tr × St)} {S : Tok → Bool} {ts : List Tok} {T : Tr} (h : Rb p S ts T) : Rb (Ex.imp w p) (fun x => S x || decide (x = .imp)) ts T := by
  intro st A R h1 h2 h3 h4
  unfold Ex.imp
  rcases h st A R h1 h2 h3 (h4.mono fun x hx => by rw [hx]; rfl) with h5 | ⟨h5, h6, h7⟩
  · rw [may_no (by rw [h5]; decide), if_neg (by simp)]
    exact .inl h5
  · rw [may_stop (S := fun x => S x || decide (x = .imp)) (by simp) h4 h6 (by decide), if_neg (by simp)]
    exact .inr ⟨h5, h6, h7⟩
/-- one deeper -/
def RbO (w : Option (St → Tr × St)) (S : Tok → Bool) (ts : List Tok) (T : Tr) : Prop := match w with | none => True | some p => Rb p S ts T
theorem RbO.within {w : Option (St → Tr × St)} {S : Tok → Bool} {ts : List Tok} {T : Tr} (h : RbO w S ts T) : Rb (Ex.within w) S ts T := by
  intro st A R h1 h2 h3 h4
  cases w with
  | none =>
    left
    unfold Ex.within St.bad
    simp only [h1, if_true]
  | some p =>
    unfold Ex.within
    simp only [h1, if_true]
    exact h st A R h1 h2 h3 h4
theorem Rb.imp2 {p : St → Tr × St} {w : Option (St → Tr × St)} {S S' : Tok → Bool} {a b : List Tok} {X Y : Tr} {v ai : Int} (hS : S .imp = false) (ha : Rb p S a X) (hb : RbO w S' b Y) (hs : ∀ t, S t = true → S' t = true) (hv : v = 0) :
    Rb (Ex.imp w p) S' (a ++ [.imp] ++ b) ⟨7, ai, v, X.on (Y.on .nil)⟩ := by
  intro st A R h1 h2 h3 h4
  obtain ⟨A1, B, rfl, hA1, hB⟩ := List.map_eq_append_iff.1 h3
  obtain ⟨A2, C, rfl, hA2, hC⟩ := List.map_eq_append_iff.1 hA1
  obtain ⟨x, hx, hxt⟩ : ∃ x, C = [x] ∧ x.1 = Tok.imp := by
    cases C with
    | nil => simp at hC
    | cons x r => cases r with
      | nil => exact ⟨x, rfl, by simpa using hC⟩
      | cons y r => simp at hC
  subst hx
  unfold Ex.imp
  rcases ha st A2 (x :: (B ++ R)) h1 (by rw [h2]; simp) hA2 (fun y r e => by cases e; rw [hxt]; exact hS) with h5 | ⟨h5, h6, h7⟩
  · rw [may_no (by rw [h5]; decide), if_neg (by simp)]
    exact .inl h5
  · rw [may_at h5 h6 hxt, if_pos rfl]
    obtain ⟨g1, g2⟩ := goes_ts h6
    rcases hb.within (p st).2.goes B R (by rw [g2]; exact h5) g1 hB h4 with i5 | ⟨i5, i6, i7⟩
    · exact .inl i5
    · refine .inr ⟨i5, i6, ?_⟩
      subst hv
      unfold Ex.two
      rw [show Ex.same ⟨7, ai, 0, X.on (Y.on .nil)⟩ ⟨7, ((p st).2.at_ : Int), 0, (p st).1.on ((Ex.within w (p st).2.goes).1.on .nil)⟩ = (decide ((7 : Int) = 7) && decide ((0 : Int) = 0) && Fo.same (X.on (Y.on .nil)) ((p st).1.on ((Ex.within w (p st).2.goes).1.on .nil))) from rfl, Fo.same_on, Fo.same_on, h7, i7]
      simp [Fo.same]
/-- what stands at the depths below -/
def Ex.wu : Nat → Option (St → Tr × St) | 0 => none | n + 1 => some (Ex.lev n).un
def Ex.wi : Nat → Option (St → Tr × St) | 0 => none | n + 1 => some (Ex.lev n).imp
def Ex.wf : Nat → Option (St → Tr × St) | 0 => none | n + 1 => some (Ex.lev n).iff
theorem Ex.lev_un (n : Nat) : (Ex.lev n).un = Ex.un (Ex.wu n) (Ex.wf n) := by cases n <;> rfl
theorem Ex.lev_imp (n : Nat) : (Ex.lev n).imp = Ex.imp (Ex.wi n) (Ex.chain .or 5 (Ex.chain .xor 6 (Ex.chain .and 4 (Ex.lev n).un))) := by cases n <;> rfl
theorem Ex.lev_iff (n : Nat) : (Ex.lev n).iff = Ex.chain .iff 8 (Ex.lev n).imp := by cases n <;> rfl
def noS : Tok → Bool := fun _ => false
def opS : Tok → Bool := Tok.op
/-- un reads it, at each depth; iff reads it, at each depth -/
def UB (ts : List Tok) (T : Tr) : Prop := ∀ n, Rb (Ex.lev n).un noS ts T
def IB (ts : List Tok) (T : Tr) : Prop := ∀ n, Rb (Ex.lev n).iff opS ts T
theorem UB.or {ts : List Tok} {T : Tr} (h : UB ts T) (n : Nat) : Rb (Ex.chain .or 5 (Ex.chain .xor 6 (Ex.chain .and 4 (Ex.lev n).un))) (fun x => decide (x = .and) || decide (x = .xor) || decide (x = .or)) ts T :=
  ((((h n).chain1 .and 4 (by decide)).chain1 .xor 6 (by decide)).chain1 .or 5 (by decide)).stop (fun t ht => by simpa [noS] using ht)
theorem UB.imp {ts : List Tok} {T : Tr} (h : UB ts T) (n : Nat) : Rb (Ex.lev n).imp (fun x => decide (x = .and) || decide (x = .xor) || decide (x = .or) || decide (x = .imp)) ts T := by
  rw [Ex.lev_imp]; exact (h.or n).imp1
theorem UB.iff {ts : List Tok} {T : Tr} (h : UB ts T) : IB ts T := fun n => by
  rw [Ex.lev_iff]
  exact ((h.imp n).chain1 .iff 8 (by decide)).stop (fun t ht => by cases t <;> simp at ht <;> rfl)
/-- two formulas with a sign between -/
theorem IB.two {a b : List Tok} {X Y : Tr} {k ai v : Int} (hk : 4 ≤ k ∧ k ≤ 8) (ha : UB a X) (hb : UB b Y) (hv : v = 0) : IB (a ++ [Ex.tkop k] ++ b) ⟨k, ai, v, X.on (Y.on .nil)⟩ := fun n => by
  rw [Ex.lev_iff]
  have hc : k = 4 ∨ k = 5 ∨ k = 6 ∨ k = 7 ∨ k = 8 := by omega
  rcases hc with rfl | rfl | rfl | rfl | rfl
  · rw [Ex.lev_imp]
    exact ((((((Rb.chain2 .and 4 (by decide) rfl (ha n) (hb n) hv).chain1 .xor 6 (by decide)).chain1 .or 5 (by decide)).imp1).chain1 .iff 8 (by decide))).stop (fun t ht => by cases t <;> simp [noS] at ht <;> rfl)
  · rw [Ex.lev_imp]
    exact (((Rb.chain2 .or 5 (by decide) (by simp [noS]) (((ha n).chain1 .and 4 (by decide)).chain1 .xor 6 (by decide)) (((hb n).chain1 .and 4 (by decide)).chain1 .xor 6 (by decide)) hv).imp1).chain1 .iff 8 (by decide)).stop (fun t ht => by cases t <;> simp [noS] at ht <;> rfl)
  · rw [Ex.lev_imp]
    exact ((((Rb.chain2 .xor 6 (by decide) (by simp [noS]) ((ha n).chain1 .and 4 (by decide)) ((hb n).chain1 .and 4 (by decide)) hv).chain1 .or 5 (by decide)).imp1).chain1 .iff 8 (by decide)).stop (fun t ht => by cases t <;> simp [noS] at ht <;> rfl)
  · have hi : Rb (Ex.lev n).imp (fun x => decide (x = .and) || decide (x = .xor) || decide (x = .or) || decide (x = .imp)) (a ++ [Tok.imp] ++ b) ⟨7, ai, v, X.on (Y.on .nil)⟩ := by
      rw [Ex.lev_imp]
      refine Rb.imp2 (by simp) (ha.or n) ?_ (fun t ht => by simp at ht ⊢; simp [ht]) hv
      cases n with
      | zero => exact True.intro
      | succ n => exact hb.imp n
    exact (hi.chain1 .iff 8 (by decide)).stop (fun t ht => by cases t <;> simp at ht <;> rfl)
  · exact (Rb.chain2 .iff 8 (by decide) (by simp) (ha.imp n) (hb.imp n) hv).stop (fun t ht => by cases t <;> simp at ht <;> rfl)

theorem wf_rb {ts : List Tok} {T : Tr} (h : IB ts T) (n : Nat) : RbO (Ex.wf n) opS ts T := by
  cases n with
  | zero => exact True.intro
  | succ n => exact h n
theorem wu_rb {ts : List Tok} {T : Tr} (h : UB ts T) (n : Nat) : RbO (Ex.wu n) noS ts T := by
  cases n with
  | zero => exact True.intro
  | succ n => exact h n
theorem must_at {t : Tok} {st : St} {x : Tok × Nat} {R : List (Tok × Nat)} (he : st.e = 0) (hR : st.ts = x :: R) (hx : x.1 = t) : (st.must t).e = 0 ∧ (st.must t).ts = R := by
  unfold St.must
  rw [may_at he hR hx, if_pos rfl]
  obtain ⟨g1, g2⟩ := goes_ts hR
  exact ⟨by rw [g2]; exact he, g1⟩
/-- in brackets -/
theorem UB.par {ts : List Tok} {T : Tr} (h : IB ts T) : UB (Ex.tpar ts) T := fun n => by
  intro st A R h1 h2 h3 h4
  unfold Ex.tpar at h3
  obtain ⟨A1, B, rfl, hA1, hB⟩ := List.map_eq_append_iff.1 h3
  obtain ⟨C, A2, rfl, hC, hA2⟩ := List.map_eq_append_iff.1 hA1
  obtain ⟨x, rfl, hx⟩ : ∃ x, C = [x] ∧ x.1 = Tok.lp := by
    cases C with
    | nil => simp at hC
    | cons x r => cases r with
      | nil => exact ⟨x, rfl, by simpa using hC⟩
      | cons y r => simp at hC
  obtain ⟨y, rfl, hy⟩ : ∃ y, B = [y] ∧ y.1 = Tok.rp := by
    cases B with
    | nil => simp at hB
    | cons x r => cases r with
      | nil => exact ⟨x, rfl, by simpa using hB⟩
      | cons y r => simp at hB
  have h2' : st.ts = x :: (A2 ++ (y :: R)) := by rw [h2]; simp
  have hnow : st.now = .lp := by unfold St.now; rw [h2']; exact hx
  rw [Ex.lev_un]
  unfold Ex.un
  rw [if_neg (by simpa using h1), may_other h2' (by rw [hx]; decide), if_neg (by simp), may_other h2' (by rw [hx]; decide), if_neg (by simp), may_other h2' (by rw [hx]; decide), if_neg (by simp)]
  unfold Ex.prim
  rw [hnow]
  simp only []
  rw [may_at h1 h2' hx, if_pos rfl]
  obtain ⟨g1, g2⟩ := goes_ts h2'
  rcases (wf_rb h n).within st.goes A2 (y :: R) (by rw [g2]; exact h1) g1 hA2 (fun z r e => by cases e; rw [hy]; rfl) with i5 | ⟨i5, i6, i7⟩
  · left
    simp only []
    rw [must_keep (by rw [i5]; decide), i5]
  · right
    obtain ⟨m1, m2⟩ := must_at i5 i6 hy
    exact ⟨m1, m2, i7⟩
theorem UB.one_ {ts : List Tok} {T : Tr} {ai : Int} (h : UB ts T) {v : Int} (hv : v = 0) : UB ([.not] ++ ts) ⟨3, ai, v, T.on .nil⟩ := fun n => by
  intro st A R h1 h2 h3 h4
  obtain ⟨C, A2, rfl, hC, hA2⟩ := List.map_eq_append_iff.1 h3
  obtain ⟨x, rfl, hx⟩ : ∃ x, C = [x] ∧ x.1 = Tok.not := by
    cases C with
    | nil => simp at hC
    | cons x r => cases r with
      | nil => exact ⟨x, rfl, by simpa using hC⟩
      | cons y r => simp at hC
  have h2' : st.ts = x :: (A2 ++ R) := by rw [h2]; simp
  rw [Ex.lev_un]
  unfold Ex.un
  rw [if_neg (by simpa using h1), may_at h1 h2' hx, if_pos rfl]
  obtain ⟨g1, g2⟩ := goes_ts h2'
  rcases (wu_rb h n).within st.goes A2 R (by rw [g2]; exact h1) g1 hA2 h4 with i5 | ⟨i5, i6, i7⟩
  · exact .inl i5
  · refine .inr ⟨i5, i6, ?_⟩
    subst hv
    unfold Ex.one
    rw [show Ex.same ⟨3, ai, 0, T.on .nil⟩ ⟨3, (st.at_ : Int), 0, (Ex.within (Ex.wu n) st.goes).1.on .nil⟩ = (decide ((3 : Int) = 3) && decide ((0 : Int) = 0) && Fo.same (T.on .nil) ((Ex.within (Ex.wu n) st.goes).1.on .nil)) from rfl, Fo.same_on, i7]
    simp [Fo.same]
theorem UB.quant {ts : List Tok} {T : Tr} {ai k : Int} {q : Tok} (hq : (q = .all ∧ k = 10) ∨ (q = .any ∧ k = 11)) (m : Fin 8) (h : UB ts T) : UB ([q, .var m] ++ ts) ⟨k, ai, (m.val : Int), T.on .nil⟩ := fun n => by
  intro st A R h1 h2 h3 h4
  obtain ⟨C, A2, rfl, hC, hA2⟩ := List.map_eq_append_iff.1 h3
  obtain ⟨x, y, rfl, hx, hy⟩ : ∃ x y, C = [x, y] ∧ x.1 = q ∧ y.1 = Tok.var m := by
    cases C with
    | nil => simp at hC
    | cons x r => cases r with
      | nil => simp at hC
      | cons y r => cases r with
        | nil => exact ⟨x, y, rfl, by simpa using hC⟩
        | cons z r => simp at hC
  have h2' : st.ts = x :: (y :: (A2 ++ R)) := by rw [h2]; simp
  obtain ⟨g1, g2⟩ := goes_ts h2'
  have hnow : st.goes.now = .var m := by unfold St.now; rw [g1]; exact hy
  obtain ⟨j1, j2⟩ := goes_ts g1
  have hb : ∀ a : Nat, (Ex.bound (Ex.wu n) k a st.goes).2.e = 231 ∨ ((Ex.bound (Ex.wu n) k a st.goes).2.e = 0 ∧ (Ex.bound (Ex.wu n) k a st.goes).2.ts = R ∧ Ex.same ⟨k, ai, (m.val : Int), T.on .nil⟩ (Ex.bound (Ex.wu n) k a st.goes).1 = true) := by
    intro a
    unfold Ex.bound
    rw [hnow]
    simp only []
    rcases (wu_rb h n).within st.goes.goes A2 R (by rw [j2, g2]; exact h1) j1 hA2 h4 with i5 | ⟨i5, i6, i7⟩
    · exact .inl i5
    · refine .inr ⟨i5, i6, ?_⟩
      unfold Ex.one
      rw [show Ex.same ⟨k, ai, (m.val : Int), T.on .nil⟩ ⟨k, (a : Int), (m.val : Int), (Ex.within (Ex.wu n) st.goes.goes).1.on .nil⟩ = (decide (k = k) && decide ((m.val : Int) = (m.val : Int)) && Fo.same (T.on .nil) ((Ex.within (Ex.wu n) st.goes.goes).1.on .nil)) from rfl, Fo.same_on, i7]
      simp [Fo.same]
  rw [Ex.lev_un]
  unfold Ex.un
  rcases hq with ⟨rfl, rfl⟩ | ⟨rfl, rfl⟩
  · rw [if_neg (by simpa using h1), may_other h2' (by rw [hx]; decide), if_neg (by simp), may_at h1 h2' hx, if_pos rfl]
    exact hb _
  · rw [if_neg (by simpa using h1), may_other h2' (by rw [hx]; decide), if_neg (by simp), may_other h2' (by rw [hx]; decide), if_neg (by simp), may_at h1 h2' hx, if_pos rfl]
    exact hb _
theorem UB.leaf {k v ai : Int} {t : Tok} (h : (∃ m : Fin 8, t = .var m ∧ k = 1 ∧ v = (m.val : Int)) ∨ (t = .zero ∧ k = 2 ∧ v = 0) ∨ (t = .one ∧ k = 2 ∧ v = 1)) : UB [t] ⟨k, ai, v, .nil⟩ := fun n => by
  intro st A R h1 h2 h3 h4
  obtain ⟨x, rfl, hx⟩ : ∃ x, A = [x] ∧ x.1 = t := by
    cases A with
    | nil => simp at h3
    | cons x r => cases r with
      | nil => exact ⟨x, rfl, by simpa using h3⟩
      | cons y r => simp at h3
  have h2' : st.ts = x :: R := by rw [h2]; simp
  have hnow : st.now = t := by unfold St.now; rw [h2']; exact hx
  obtain ⟨g1, g2⟩ := goes_ts h2'
  rw [Ex.lev_un]
  unfold Ex.un
  have hn : ∀ u : Tok, (u = .not ∨ u = .all ∨ u = .any) → st.may u = false := fun u hu => may_other h2' (by rw [hx]; rcases h with ⟨m, rfl, _⟩ | ⟨rfl, _⟩ | ⟨rfl, _⟩ <;> rcases hu with rfl | rfl | rfl <;> simp)
  rw [if_neg (by simpa using h1), hn _ (.inl rfl), if_neg (by simp), hn _ (.inr (.inl rfl)), if_neg (by simp), hn _ (.inr (.inr rfl)), if_neg (by simp)]
  unfold Ex.prim
  rw [hnow]
  rcases h with ⟨m, rfl, rfl, rfl⟩ | ⟨rfl, rfl, rfl⟩ | ⟨rfl, rfl, rfl⟩
  · exact .inr ⟨by simp only []; rw [g2]; exact h1, g1, by simp [Ex.same, Fo.same]⟩
  · exact .inr ⟨by simp only []; rw [g2]; exact h1, g1, by simp [Ex.same, Fo.same]⟩
  · exact .inr ⟨by simp only []; rw [g2]; exact h1, g1, by simp [Ex.same, Fo.same]⟩
end Go.Proofs.Ytfgokhafiffbaaa

/-
  Formulas, plain: the signs of what is printed; a print is read back, or is too deep.
-/
namespace Go.Proofs.Ytfgokhafiffbaaa
set_option linter.unusedVariables false
open Go.RowKit

theorem one_of {t : Tok} {C : List (Tok × Nat)} (h : C.map Prod.fst = [t]) : ∃ x, C = [x] ∧ x.1 = t := by
  cases C with
  | nil => simp at h
  | cons x r => cases r with
    | nil => exact ⟨x, rfl, by simpa using h⟩
    | cons y r => simp at h
theorem must231 {st : St} (h : st.e = 231) (t : Tok) : (st.must t).e = 231 := by rw [must_keep (by rw [h]; decide), h]
theorem UB.ite {a b c : List Tok} {X Y Z : Tr} {ai v : Int} (ha : IB a X) (hb : IB b Y) (hc : IB c Z) (hv : v = 0) :
    UB ([.ite, .lp] ++ a ++ [.comma] ++ b ++ [.comma] ++ c ++ [.rp]) ⟨9, ai, v, X.on (Y.on (Z.on .nil))⟩ := fun n => by
  intro st A R h1 h2 h3 h4
  obtain ⟨A1, D4, rfl, h3, e4⟩ := List.map_eq_append_iff.1 h3
  obtain ⟨A1, C, rfl, h3, eC⟩ := List.map_eq_append_iff.1 h3
  obtain ⟨A1, D3, rfl, h3, e3⟩ := List.map_eq_append_iff.1 h3
  obtain ⟨A1, B, rfl, h3, eB⟩ := List.map_eq_append_iff.1 h3
  obtain ⟨A1, D2, rfl, h3, e2⟩ := List.map_eq_append_iff.1 h3
  obtain ⟨D1, A1, rfl, e1, eA⟩ := List.map_eq_append_iff.1 h3
  obtain ⟨x4, rfl, k4⟩ := one_of e4
  obtain ⟨x3, rfl, k3⟩ := one_of e3
  obtain ⟨x2, rfl, k2⟩ := one_of e2
  obtain ⟨x, y, rfl, hx, hy⟩ : ∃ x y, D1 = [x, y] ∧ x.1 = .ite ∧ y.1 = .lp := by
    cases D1 with
    | nil => simp at e1
    | cons x r => cases r with
      | nil => simp at e1
      | cons y r => cases r with
        | nil => exact ⟨x, y, rfl, by simpa using e1⟩
        | cons z r => simp at e1
  have h2' : st.ts = x :: (y :: (A1 ++ (x2 :: (B ++ (x3 :: (C ++ (x4 :: R))))))) := by rw [h2]; simp
  have hnow : st.now = .ite := by unfold St.now; rw [h2']; exact hx
  obtain ⟨g1, g2⟩ := goes_ts h2'
  have hm : st.may .ite = true := may_at h1 h2' hx
  rw [Ex.lev_un]
  unfold Ex.un
  rw [if_neg (by simpa using h1), may_other h2' (by rw [hx]; decide), if_neg (by simp), may_other h2' (by rw [hx]; decide), if_neg (by simp), may_other h2' (by rw [hx]; decide), if_neg (by simp)]
  unfold Ex.prim
  rw [hnow]
  simp only []
  rw [may_other h2' (by rw [hx]; decide), if_neg (by simp), hm, if_pos rfl]
  unfold Ex.ite
  simp only []
  have hw := fun {ts : List Tok} {T : Tr} (h : IB ts T) => (wf_rb h n).within
  have hk := (GdR.all n).iff
  have hkeep : ∀ (st : St), st.e = 231 → (Ex.within (Ex.wf n) st).2.e = 231 := fun st h => by
    have : Gd (Ex.within (Ex.wf n)) := GdO.within (by cases n with
      | zero => exact True.intro
      | succ n => exact (GdR.all n).iff)
    rw [this.keep st (by rw [h]; decide), h]
  have hst : ∀ (z : Tok × Nat) (Q : List (Tok × Nat)), (z.1 = .comma ∨ z.1 = .rp) → Stop opS (z :: Q) := fun z Q hz w r e => by
    cases e; rcases hz with hz | hz <;> rw [hz] <;> rfl
  obtain ⟨m1, m2⟩ := must_at (by rw [g2]; exact h1) g1 hy
  rcases hw ha _ A1 _ m1 m2 eA (hst x2 _ (.inl k2)) with i5 | ⟨i5, i6, i7⟩
  · left; exact must231 (hkeep _ (must231 (hkeep _ (must231 i5 _)) _)) _
  · obtain ⟨n1, n2⟩ := must_at i5 i6 k2
    rcases hw hb _ B _ n1 n2 eB (hst x3 _ (.inl k3)) with j5 | ⟨j5, j6, j7⟩
    · left; exact must231 (hkeep _ (must231 j5 _)) _
    · obtain ⟨o1, o2⟩ := must_at j5 j6 k3
      rcases hw hc _ C _ o1 o2 eC (hst x4 _ (.inr k4)) with l5 | ⟨l5, l6, l7⟩
      · left; exact must231 l5 _
      · obtain ⟨q1, q2⟩ := must_at l5 l6 k4
        refine .inr ⟨q1, q2, ?_⟩
        subst hv
        generalize Ex.within (Ex.wf n) (st.goes.must .lp) = r1 at *
        generalize Ex.within (Ex.wf n) (r1.2.must .comma) = r2 at *
        generalize Ex.within (Ex.wf n) (r2.2.must .comma) = r3 at *
        rw [show Ex.same ⟨9, ai, 0, X.on (Y.on (Z.on .nil))⟩ ⟨9, (st.at_ : Int), 0, r1.1.on (r2.1.on (r3.1.on .nil))⟩ = (decide ((9 : Int) = 9) && decide ((0 : Int) = 0) && Fo.same (X.on (Y.on (Z.on .nil))) (r1.1.on (r2.1.on (r3.1.on .nil)))) from rfl, Fo.same_on, Fo.same_on, Fo.same_on, i7, j7, l7]
        simp [Fo.same]
/-- the signs of each formula of a list are read back -/
def Fo.ub : Fo → Prop
  | .nil => True
  | .cons k a v kids rest => UB (Ex.pt ⟨k, a, v, kids⟩) ⟨k, a, v, kids⟩ ∧ rest.ub
theorem Fo.ub_on {x : Tr} {r : Fo} (h : (x.on r).ub) : UB (Ex.pt x) x ∧ r.ub := h
theorem UB.fo : ∀ F : Fo, F.allPlain = true → F.ub
  | .nil, _ => True.intro
  | .cons k a v kids rest, hp => by
    have hp' : ((⟨k, a, v, kids⟩ : Tr).on rest).allPlain = true := hp
    rw [Fo.allPlain_on, Bool.and_eq_true, Bool.and_eq_true] at hp'
    obtain ⟨⟨hpl, hka⟩, hre⟩ := hp'
    obtain ⟨h1, h2, h3, h4, h5⟩ := plain_shape hpl
    simp only [] at h1 h2 h3 h4 h5 hka
    refine ⟨?_, UB.fo rest hre⟩
    have hub := UB.fo kids hka
    have hv0 : ¬ (k = 1 ∨ k = 2 ∨ k = 10 ∨ k = 11) → v = 0 := fun h => by
      have ht : Ex.top k = 0 := by unfold Ex.top; rw [if_neg (by omega), if_neg (by omega)]
      omega
    have hv7 : (k = 1 ∨ k = 10 ∨ k = 11) → ∃ m : Fin 8, v = (m.val : Int) := fun h => by
      have ht : Ex.top k = 7 := by unfold Ex.top; rw [if_pos (by omega)]
      exact ⟨⟨v.toNat, by omega⟩, by simp; omega⟩
    have hfin : ∀ m : Fin 8, Fin.ofNat 8 ((m.val : Int)).toNat = m := fun m => by apply Fin.ext; simp
    unfold Ex.pt Ex.ptk
    simp only []
    have hc : k = 1 ∨ k = 2 ∨ k = 3 ∨ (4 ≤ k ∧ k ≤ 8) ∨ k = 9 ∨ k = 10 ∨ k = 11 := by omega
    rcases hc with rfl | rfl | rfl | hk | rfl | rfl | rfl
    · obtain ⟨m, rfl⟩ := hv7 (.inl rfl)
      have e := Fo.len0 (F := kids) (by rw [h3, Ex.kids0 (by omega)])
      subst e
      rw [if_pos rfl, hfin]
      exact UB.leaf (.inl ⟨m, rfl, rfl, rfl⟩)
    · have e := Fo.len0 (F := kids) (by rw [h3, Ex.kids0 (by omega)])
      subst e
      have ht : Ex.top 2 = 1 := by unfold Ex.top; rw [if_neg (by omega), if_pos rfl]
      rw [if_neg (by omega), if_pos rfl]
      by_cases hv : v = 0
      · rw [if_pos hv]; exact UB.leaf (.inr (.inl ⟨rfl, rfl, hv⟩))
      · rw [if_neg hv]; exact UB.leaf (.inr (.inr ⟨rfl, rfl, by omega⟩))
    · obtain ⟨x, e⟩ := Fo.len1 (F := kids) (by rw [h3, Ex.kids1 (by omega)])
      subst e
      have hx := (Fo.ub_on hub).1
      rw [if_neg (by omega), if_neg (by omega), if_pos rfl]
      exact UB.one_ (UB.par hx.iff) (hv0 (by omega))
    · obtain ⟨x, y, e⟩ := Fo.len2 (F := kids) (by rw [h3, Ex.kids2 hk])
      subst e
      have hx := (Fo.ub_on hub).1
      have hy := (Fo.ub_on (Fo.ub_on hub).2).1
      rw [if_neg (by omega), if_neg (by omega), if_neg (by omega), if_neg (by omega), if_neg (by omega), if_neg (by omega)]
      have := UB.par (IB.two (ai := a) hk (UB.par hx.iff) (UB.par hy.iff) (hv0 (by omega)))
      unfold Ex.tpar at this ⊢
      rw [show (x.on (y.on Fo.nil)).pts.getD 0 [] = Ex.pt x from rfl, show (x.on (y.on Fo.nil)).pts.getD 1 [] = Ex.pt y from rfl]
      simpa only [List.append_assoc] using this
    · obtain ⟨x, y, z, e⟩ := Fo.len3 (F := kids) (by rw [h3, Ex.kids3 rfl])
      subst e
      have hx := (Fo.ub_on hub).1
      have hy := (Fo.ub_on (Fo.ub_on hub).2).1
      have hz := (Fo.ub_on (Fo.ub_on (Fo.ub_on hub).2).2).1
      rw [if_neg (by omega), if_neg (by omega), if_neg (by omega), if_neg (by omega), if_neg (by omega), if_pos rfl]
      exact UB.ite (UB.par hx.iff).iff (UB.par hy.iff).iff (UB.par hz.iff).iff (hv0 (by omega))
    · obtain ⟨x, e⟩ := Fo.len1 (F := kids) (by rw [h3, Ex.kids1 (by omega)])
      obtain ⟨m, rfl⟩ := hv7 (.inr (.inl rfl))
      subst e
      have hx := (Fo.ub_on hub).1
      rw [if_neg (by omega), if_neg (by omega), if_neg (by omega), if_pos rfl, hfin]
      exact UB.quant (.inl ⟨rfl, rfl⟩) m (UB.par hx.iff)
    · obtain ⟨x, e⟩ := Fo.len1 (F := kids) (by rw [h3, Ex.kids1 (by omega)])
      obtain ⟨m, rfl⟩ := hv7 (.inr (.inr rfl))
      subst e
      have hx := (Fo.ub_on hub).1
      rw [if_neg (by omega), if_neg (by omega), if_neg (by omega), if_neg (by omega), if_pos rfl, hfin]
      exact UB.quant (.inr ⟨rfl, rfl⟩) m (UB.par hx.iff)
theorem UB.tr {t : Tr} (h : (t.on .nil).allPlain = true) : UB (Ex.pt t) t := (Fo.ub_on (UB.fo (t.on .nil) h)).1

/-- a text goes over into signs and a rest -/
def LexTo (l : List Nat) (ts : List Tok) (r : List Nat) : Prop := ∀ a, ∃ A a', Lx.lex l a = A ++ Lx.lex r a' ∧ A.map Prod.fst = ts
theorem LexTo.trans {l r q : List Nat} {ts us : List Tok} (h : LexTo l ts r) (k : LexTo r us q) : LexTo l (ts ++ us) q := fun a => by
  obtain ⟨A, b, h1, h2⟩ := h a
  obtain ⟨B, c, k1, k2⟩ := k b
  exact ⟨A ++ B, c, by rw [h1, k1, List.append_assoc], by rw [List.map_append, h2, k2]⟩
theorem lex_tok (t : Tok) (r : List Nat) (h1 : t ≠ .eof) (h2 : t ≠ .bad) (hs : Lx.scan (t.txt ++ r) = t) (hk : Lx.skip (t.txt ++ r) = 0) : LexTo (t.txt ++ r) [t] r := fun a => by
  refine ⟨[(t, a)], a + t.txt.length, ?_, rfl⟩
  rw [Lx.lex_eq, hk, List.drop_zero, hs, if_neg (fun h => by rcases h with h | h; exact h1 h; exact h2 h), List.drop_left]
  rfl
theorem lex_tok' (t : Tok) (l : List Nat) (r : List Nat) (ht : t.txt = l) (h1 : t ≠ .eof) (h2 : t ≠ .bad) (hs : Lx.scan (l ++ r) = t) (hk : Lx.skip (l ++ r) = 0) : LexTo (l ++ r) [t] r := by
  subst ht; exact lex_tok t r h1 h2 hs hk
theorem skip_no {c : Nat} (r : List Nat) (h : c ≠ 32 ∧ c ≠ 9 ∧ c ≠ 10) : Lx.skip (c :: r) = 0 := by
  rw [Lx.skip_cons]
  unfold Lx.blank
  simp [h.1, h.2.1, h.2.2]
theorem LexTo.blank (r : List Nat) : LexTo (32 :: r) [] r := fun a => by
  refine ⟨[], a + 1, ?_, rfl⟩
  have hb : Lx.blank 32 = true := by unfold Lx.blank; rfl
  have e : Lx.skip (32 :: r) = 1 + Lx.skip r := by rw [Lx.skip_cons, hb, if_pos rfl]
  rw [List.nil_append, Lx.lex_eq (32 :: r) a, Lx.lex_eq r (a + 1), e, Nat.add_comm 1, List.drop_succ_cons]
  have e2 : a + (Lx.skip r + 1) = a + 1 + Lx.skip r := by omega
  rw [e2]
theorem LexTo.lp (r : List Nat) : LexTo (40 :: r) [.lp] r := lex_tok' .lp [40] r (by unfold Tok.txt; rfl) (by decide) (by decide) (by unfold Lx.scan Lx.pre; simp) (skip_no r (by decide))
theorem LexTo.rp (r : List Nat) : LexTo (41 :: r) [.rp] r := lex_tok' .rp [41] r (by unfold Tok.txt; rfl) (by decide) (by decide) (by unfold Lx.scan Lx.pre; simp) (skip_no r (by decide))
theorem LexTo.comma (r : List Nat) : LexTo (44 :: r) [.comma] r := lex_tok' .comma [44] r (by unfold Tok.txt; rfl) (by decide) (by decide) (by unfold Lx.scan Lx.pre; simp) (skip_no r (by decide))
theorem LexTo.not (r : List Nat) : LexTo (33 :: r) [.not] r := lex_tok' .not [33] r (by unfold Tok.txt; rfl) (by decide) (by decide) (by unfold Lx.scan Lx.pre; simp) (skip_no r (by decide))
theorem LexTo.and (r : List Nat) : LexTo (38 :: r) [.and] r := lex_tok' .and [38] r (by unfold Tok.txt; rfl) (by decide) (by decide) (by unfold Lx.scan Lx.pre; simp) (skip_no r (by decide))
theorem LexTo.or (r : List Nat) : LexTo (124 :: r) [.or] r := lex_tok' .or [124] r (by unfold Tok.txt; rfl) (by decide) (by decide) (by unfold Lx.scan Lx.pre; simp) (skip_no r (by decide))
theorem LexTo.xor (r : List Nat) : LexTo (94 :: r) [.xor] r := lex_tok' .xor [94] r (by unfold Tok.txt; rfl) (by decide) (by decide) (by unfold Lx.scan Lx.pre; simp) (skip_no r (by decide))
theorem LexTo.imp (r : List Nat) : LexTo (45 :: 62 :: r) [.imp] r := lex_tok' .imp [45, 62] r (by unfold Tok.txt; rfl) (by decide) (by decide) (by unfold Lx.scan Lx.pre; simp) (skip_no (62 :: r) (by decide))
theorem LexTo.iff (r : List Nat) : LexTo (60 :: 45 :: 62 :: r) [.iff] r := lex_tok' .iff [60, 45, 62] r (by unfold Tok.txt; rfl) (by decide) (by decide) (by unfold Lx.scan Lx.pre; simp) (skip_no (45 :: 62 :: r) (by decide))
theorem LexTo.zero (r : List Nat) : LexTo (48 :: r) [.zero] r := lex_tok' .zero [48] r (by unfold Tok.txt; rfl) (by decide) (by decide) (by unfold Lx.scan Lx.pre; simp) (skip_no r (by decide))
theorem LexTo.one (r : List Nat) : LexTo (49 :: r) [.one] r := lex_tok' .one [49] r (by unfold Tok.txt; rfl) (by decide) (by decide) (by unfold Lx.scan Lx.pre; simp) (skip_no r (by decide))
/-- no letter, no digit comes next -/
def Brk (r : List Nat) : Prop := Lx.word r = 0
theorem Brk.cons {c : Nat} (r : List Nat) (h : c < 48) : Brk (c :: r) := by
  unfold Brk
  rw [Lx.word_cons, Ex.letter0 (by omega)]
  have : Ex.number c = false := by unfold Ex.number; simp; omega
  rw [this]
  rfl
theorem Brk.nil : Brk [] := Lx.word_nil
theorem word_al {c : Nat} (r : List Nat) (h : 97 ≤ c ∧ c ≤ 122) : Lx.word (c :: r) = 1 + Lx.word r := by rw [Lx.word_cons, Ex.letter1 (.inl h)]; rfl
theorem word_nu {c : Nat} (r : List Nat) (h : 48 ≤ c ∧ c ≤ 57) : Lx.word (c :: r) = 1 + Lx.word r := by
  have : Ex.number c = true := by unfold Ex.number; simp; omega
  rw [Lx.word_cons, this, Bool.or_true, if_pos rfl]
theorem LexTo.var (m : Fin 8) {r : List Nat} (h : Brk r) : LexTo (118 :: (48 + m.val) :: r) [.var m] r := by
  have ht : (Tok.var m).txt = [118, 48 + m.val] := by unfold Tok.txt; rfl
  have := lex_tok (.var m) r (by simp) (by simp) (by
    rw [ht]
    have hw : Lx.word ((48 + m.val) :: r) = 1 := by rw [word_nu _ (by have := m.isLt; omega), h]
    unfold Lx.scan Lx.pre
    simp only [List.cons_append, List.nil_append]
    rw [hw, Ex.letter1 (by omega)]
    simp
    unfold Lx.kw
    rw [Lx.vr_mk (by omega) (by have := m.isLt; omega)]
    simp) (by rw [ht]; exact skip_no _ (by decide))
  rw [ht] at this
  exact this
theorem LexTo.all (r : List Nat) : LexTo (97 :: 108 :: 108 :: 32 :: r) [.all] (32 :: r) := by
  have ht : (Tok.all).txt = [97, 108, 108] := by unfold Tok.txt; rfl
  have := lex_tok .all (32 :: r) (by simp) (by simp) (by
    rw [ht]
    have hw : Lx.word (108 :: 108 :: 32 :: r) = 2 := by rw [word_al _ (by omega), word_al _ (by omega), Brk.cons r (by omega)]
    unfold Lx.scan Lx.pre
    simp only [List.cons_append, List.nil_append]
    rw [hw, Ex.letter1 (by omega)]
    simp
    unfold Lx.kw
    simp) (by rw [ht]; exact skip_no _ (by decide))
  rw [ht] at this
  exact this
theorem LexTo.any (r : List Nat) : LexTo (97 :: 110 :: 121 :: 32 :: r) [.any] (32 :: r) := by
  have ht : (Tok.any).txt = [97, 110, 121] := by unfold Tok.txt; rfl
  have := lex_tok .any (32 :: r) (by simp) (by simp) (by
    rw [ht]
    have hw : Lx.word (110 :: 121 :: 32 :: r) = 2 := by rw [word_al _ (by omega), word_al _ (by omega), Brk.cons r (by omega)]
    unfold Lx.scan Lx.pre
    simp only [List.cons_append, List.nil_append]
    rw [hw, Ex.letter1 (by omega)]
    simp
    unfold Lx.kw
    simp) (by rw [ht]; exact skip_no _ (by decide))
  rw [ht] at this
  exact this
theorem LexTo.ite (r : List Nat) : LexTo (105 :: 116 :: 101 :: 40 :: r) [.ite, .lp] r := by
  have ht : (Tok.ite).txt = [105, 116, 101] := by unfold Tok.txt; rfl
  have := lex_tok .ite (40 :: r) (by simp) (by simp) (by
    rw [ht]
    have hw : Lx.word (116 :: 101 :: 40 :: r) = 2 := by rw [word_al _ (by omega), word_al _ (by omega), Brk.cons r (by omega)]
    unfold Lx.scan Lx.pre
    simp only [List.cons_append, List.nil_append]
    rw [hw, Ex.letter1 (by omega)]
    simp
    unfold Lx.kw
    simp) (by rw [ht]; exact skip_no _ (by decide))
  rw [ht] at this
  exact this.trans (LexTo.lp r)
end Go.Proofs.Ytfgokhafiffbaaa

/-
  Formulas, plain: the parser looks at signs alone, their places aside.
-/
namespace Go.Proofs.Ytfgokhafiffbaaa
set_option linter.unusedVariables false
open Go.RowKit

/-- what a reader does to its state -/
inductive Rch : St → St → Prop where
  | refl (s : St) : Rch s s
  | goes {s t : St} (h1 : s.now ≠ .eof) (h2 : s.now ≠ .bad) (h : Rch s.goes t) : Rch s t
  | bad {s t : St} (e : Nat) (h : Rch (s.bad e) t) : Rch s t
theorem Rch.trans {a b c : St} (h : Rch a b) (k : Rch b c) : Rch a c := by
  induction h with
  | refl => exact k
  | goes h1 h2 _ ih => exact .goes h1 h2 (ih k)
  | bad e _ ih => exact .bad e (ih k)
theorem Rch.may {s t : St} {k : Tok} (h : s.may k = true) (h1 : k ≠ .eof) (h2 : k ≠ .bad) (r : Rch s.goes t) : Rch s t := .goes (by rw [(may_yes h).2]; exact h1) (by rw [(may_yes h).2]; exact h2) r
theorem Rch.must (s : St) (k : Tok) (h1 : k ≠ .eof) (h2 : k ≠ .bad) : Rch s (s.must k) := by
  unfold St.must
  cases h : s.may k with
  | true => exact .may h h1 h2 (.refl _)
  | false => exact .bad 230 (.refl _)
def Rc (p : St → Tr × St) : Prop := ∀ st, Rch st (p st).2
def RcO (r : Option (St → Tr × St)) : Prop := match r with | none => True | some p => Rc p
theorem RcO.within {r : Option (St → Tr × St)} (h : RcO r) : Rc (Ex.within r) := fun st => by
  cases r with
  | none => exact .bad 231 (.refl _)
  | some p =>
    unfold Ex.within
    simp only []
    split
    · exact h st
    · exact .refl _
theorem Rc.chainF {t : Tok} {k : Int} {p : St → Tr × St} (h : Rc p) (h1 : t ≠ .eof) (h2 : t ≠ .bad) : ∀ (n : Nat) (x : Tr) (st : St), Rch st (Ex.chainF n t k p x st).2 := by
  intro n
  induction n with
  | zero => exact fun x st => .refl _
  | succ n ih =>
    intro x st
    rw [Ex.chainF]
    cases hm : st.may t with
    | true => rw [if_pos rfl]; exact .may hm h1 h2 ((h _).trans (ih _ _))
    | false => rw [if_neg (by simp)]; exact .refl _
theorem Rc.chain {t : Tok} {k : Int} {p : St → Tr × St} (h : Rc p) (h1 : t ≠ .eof) (h2 : t ≠ .bad) : Rc (Ex.chain t k p) := fun st => (h st).trans (h.chainF h1 h2 _ _ _)
theorem Rc.imp {r : Option (St → Tr × St)} {p : St → Tr × St} (hr : RcO r) (h : Rc p) : Rc (Ex.imp r p) := fun st => by
  unfold Ex.imp
  cases hm : (p st).2.may .imp with
  | true => rw [if_pos rfl]; exact (h st).trans (.may hm (by decide) (by decide) (hr.within _))
  | false => rw [if_neg (by simp)]; exact h st
theorem Rc.bound {r : Option (St → Tr × St)} (hr : RcO r) (k : Int) (a : Nat) : Rc (Ex.bound r k a) := fun st => by
  unfold Ex.bound
  split
  · rename_i n hn
    exact .goes (by rw [hn]; simp) (by rw [hn]; simp) (hr.within _)
  · exact .bad 230 (.refl _)
theorem Rc.ite {r : Option (St → Tr × St)} (hr : RcO r) (a : Nat) : Rc (Ex.ite r a) := fun st => by
  unfold Ex.ite
  simp only []
  exact (Rch.must _ _ (by decide) (by decide)).trans ((hr.within _).trans ((Rch.must _ _ (by decide) (by decide)).trans ((hr.within _).trans ((Rch.must _ _ (by decide) (by decide)).trans ((hr.within _).trans (Rch.must _ _ (by decide) (by decide)))))))
theorem Rc.prim {r : Option (St → Tr × St)} (hr : RcO r) : Rc (Ex.prim r) := fun st => by
  unfold Ex.prim
  split
  · rename_i n hn; exact .goes (by rw [hn]; simp) (by rw [hn]; simp) (.refl _)
  · rename_i hn; exact .goes (by rw [hn]; simp) (by rw [hn]; simp) (.refl _)
  · rename_i hn; exact .goes (by rw [hn]; simp) (by rw [hn]; simp) (.refl _)
  · cases hm : st.may .lp with
    | true => rw [if_pos rfl]; exact .may hm (by decide) (by decide) ((hr.within _).trans (Rch.must _ _ (by decide) (by decide)))
    | false =>
      rw [if_neg (by simp)]
      cases hi : st.may .ite with
      | true => rw [if_pos rfl]; exact .may hi (by decide) (by decide) (Rc.ite hr _ _)
      | false => rw [if_neg (by simp)]; exact .bad 230 (.refl _)
theorem Rc.un {ru rf : Option (St → Tr × St)} (hu : RcO ru) (hf : RcO rf) : Rc (Ex.un ru rf) := fun st => by
  unfold Ex.un
  by_cases h0 : st.e = 0
  · rw [if_neg (by simpa using h0)]
    cases m0 : st.may .not with
    | true => rw [if_pos rfl]; exact .may m0 (by decide) (by decide) (hu.within _)
    | false =>
      rw [if_neg (by simp)]
      cases m1 : st.may .all with
      | true => rw [if_pos rfl]; exact .may m1 (by decide) (by decide) (Rc.bound hu _ _ _)
      | false =>
        rw [if_neg (by simp)]
        cases m2 : st.may .any with
        | true => rw [if_pos rfl]; exact .may m2 (by decide) (by decide) (Rc.bound hu _ _ _)
        | false => rw [if_neg (by simp)]; exact Rc.prim hf _
  · rw [if_pos h0]; exact .refl _
structure RcR (r : Rd) : Prop where
  iff : Rc r.iff
  imp : Rc r.imp
  un : Rc r.un
theorem RcR.mk' (ru ri rf : Option (St → Tr × St)) (hu : RcO ru) (hi : RcO ri) (hf : RcO rf) : RcR (Ex.mk ru ri rf) := by
  have h1 := Rc.un hu hf
  have h2 := Rc.imp hi (((h1.chain (t := .and) (k := 4) (by decide) (by decide)).chain (t := .xor) (k := 6) (by decide) (by decide)).chain (t := .or) (k := 5) (by decide) (by decide))
  exact ⟨h2.chain (by decide) (by decide), h2, h1⟩
theorem RcR.all : ∀ n, RcR (Ex.lev n)
  | 0 => RcR.mk' none none none True.intro True.intro True.intro
  | n + 1 => RcR.mk' _ _ _ (RcR.all n).un (RcR.all n).imp (RcR.all n).iff
/-- the last sign is the end, or none; no other is -/
def Fin_ (z : Tok) (st : St) : Prop := ∃ A, st.ts.map Prod.fst = A ++ [z] ∧ ∀ y ∈ A, y ≠ .eof ∧ y ≠ .bad
theorem Fin_.rch {z : Tok} {s t : St} (h : Rch s t) (hz : z = .eof ∨ z = .bad) : Fin_ z s → Fin_ z t := by
  induction h with
  | refl => exact id
  | goes h1 h2 _ ih =>
    rename_i s t _
    rintro ⟨A, hA, hn⟩
    refine ih ?_
    cases A with
    | nil =>
      exfalso
      cases hts : s.ts with
      | nil => rw [hts] at hA; simp at hA
      | cons x r =>
        rw [hts] at hA
        simp at hA
        have : s.now = z := by unfold St.now; rw [hts]; exact hA.1
        rcases hz with rfl | rfl
        · exact h1 this
        · exact h2 this
    | cons y A =>
      refine ⟨A, ?_, fun y hy => hn y (List.mem_cons_of_mem _ hy)⟩
      unfold St.goes
      cases hts : s.ts with
      | nil => rw [hts] at hA; simp at hA
      | cons x r =>
        rw [hts] at hA
        simp at hA
        simpa using hA.2
  | bad e _ ih =>
    intro h
    refine ih ?_
    unfold St.bad
    split
    · exact h
    · exact h
theorem Lx.lexF_fin (n : Nat) : ∀ (l : List Nat) (a : Nat), ∃ z A, (z = Tok.eof ∨ z = .bad) ∧ (Lx.lexF n l a).map Prod.fst = A ++ [z] ∧ ∀ y ∈ A, y ≠ .eof ∧ y ≠ .bad := by
  induction n with
  | zero => intro l a; exact ⟨.eof, [], .inl rfl, by rw [Lx.lexF]; rfl, by simp⟩
  | succ n ih =>
    intro l a
    rw [Lx.lexF]
    split
    · rename_i h; exact ⟨_, [], h, rfl, by simp⟩
    · rename_i h
      obtain ⟨z, A, h1, h2, h3⟩ := ih ((l.drop (Lx.skip l)).drop (Lx.scan (l.drop (Lx.skip l))).txt.length) (a + Lx.skip l + (Lx.scan (l.drop (Lx.skip l))).txt.length)
      refine ⟨z, _ :: A, h1, by rw [List.map_cons, h2]; rfl, ?_⟩
      intro y hy
      rcases List.mem_cons.1 hy with rfl | hy
      · exact ⟨fun e => h (.inl e), fun e => h (.inr e)⟩
      · exact h3 y hy
/-- a text that is a formula has signs, and its end -/
theorem Ex.parse_signs {l : List Nat} (h : (Ex.parse l).2.2 = 0) (hl : l.length ≤ 4000) : ∃ A, (Lx.lex l 0).map Prod.fst = A ++ [.eof] ∧ ∀ y ∈ A, y ≠ .eof ∧ y ≠ .bad := by
  obtain ⟨z, A, h1, h2, h3⟩ := Lx.lexF_fin (l.length + 1) l 0
  have h2' : (Lx.lex l 0).map Prod.fst = A ++ [z] := by unfold Lx.lex; exact h2
  have hF : Fin_ z ⟨Lx.lex l 0, 0, 0⟩ := ⟨A, h2', h3⟩
  have hF2 := Fin_.rch ((RcR.all 30).iff ⟨Lx.lex l 0, 0, 0⟩) h1 hF
  obtain ⟨E1, E2, E3⟩ := Ex.parse_eq l hl
  generalize (Ex.lev 30).iff ⟨Lx.lex l 0, 0, 0⟩ = R at *
  by_cases h0 : R.2.e = 0
  · by_cases hn : R.2.now = .eof
    · obtain ⟨B, k2, k3⟩ := hF2
      cases B with
      | nil =>
        have : z = .eof := by
          unfold St.now at hn
          cases hts : R.2.ts with
          | nil => rw [hts] at k2; simp at k2
          | cons x r =>
            rw [hts] at k2 hn
            simp at k2 hn
            rw [← k2.1, hn]
        subst this
        exact ⟨A, h2', h3⟩
      | cons y B =>
        exfalso
        have := k3 y List.mem_cons_self
        unfold St.now at hn
        cases hts : R.2.ts with
        | nil => rw [hts] at k2; simp at k2
        | cons x r =>
          rw [hts] at k2 hn
          simp at k2 hn
          exact this.1 (by rw [← k2.1, hn])
    · rw [E2 h0 hn] at h
      exact absurd h (bad_ne 230 (by omega) R.2)
  · rw [E3 h0] at h
    exact absurd h h0

/-- two states alike but for places -/
structure SR (s t : St) : Prop where
  ts : s.ts.map Prod.fst = t.ts.map Prod.fst
  e : s.e = t.e
theorem SR.now {s t : St} (h : SR s t) : s.now = t.now := by
  have := h.ts
  unfold St.now
  cases hs : s.ts with
  | nil =>
    cases ht : t.ts with
    | nil => rfl
    | cons y q => rw [hs, ht] at this; simp at this
  | cons x r =>
    cases ht : t.ts with
    | nil => rw [hs, ht] at this; simp at this
    | cons y q => rw [hs, ht] at this; simp at this; exact this.1
theorem SR.may {s t : St} (h : SR s t) (k : Tok) : s.may k = t.may k := by unfold St.may; rw [h.now, h.e]
theorem SR.goes {s t : St} (h : SR s t) : SR s.goes t.goes := ⟨by unfold St.goes; simp only [List.map_tail, h.ts], h.e⟩
theorem SR.bad {s t : St} (h : SR s t) (e : Nat) : SR (s.bad e) (t.bad e) := by
  unfold St.bad
  rw [h.e]
  split
  · exact ⟨h.ts, rfl⟩
  · exact h
theorem SR.must {s t : St} (h : SR s t) (k : Tok) : SR (s.must k) (t.must k) := by
  unfold St.must
  rw [h.may]
  split
  · exact h.goes
  · exact h.bad _
theorem SR.len {s t : St} (h : SR s t) : s.ts.length = t.ts.length := by have := congrArg List.length h.ts; simpa using this
structure RR (a b : Tr × St) : Prop where
  t : Ex.same a.1 b.1 = true
  s : SR a.2 b.2
def Eq_ (p : St → Tr × St) : Prop := ∀ s t, SR s t → RR (p s) (p t)
def EqO (r : Option (St → Tr × St)) : Prop := match r with | none => True | some p => Eq_ p
theorem zero_same : Ex.same Tr.zero Tr.zero = true := rfl
theorem EqO.within {r : Option (St → Tr × St)} (h : EqO r) : Eq_ (Ex.within r) := fun s t hs => by
  cases r with
  | none => exact ⟨zero_same, hs.bad _⟩
  | some p =>
    unfold Ex.within
    simp only []
    rw [hs.e]
    split
    · exact h s t hs
    · exact ⟨zero_same, hs⟩
theorem two_same {k : Int} {a b : Nat} {X Y X' Y' : Tr} (h1 : Ex.same X X' = true) (h2 : Ex.same Y Y' = true) : Ex.same (Ex.two k a X Y) (Ex.two k b X' Y') = true := by
  unfold Ex.two
  rw [show Ex.same ⟨k, (a : Int), 0, X.on (Y.on .nil)⟩ ⟨k, (b : Int), 0, X'.on (Y'.on .nil)⟩ = (decide (k = k) && decide ((0 : Int) = 0) && Fo.same (X.on (Y.on .nil)) (X'.on (Y'.on .nil))) from rfl, Fo.same_on, Fo.same_on, h1, h2]
  simp [Fo.same]
theorem one_same {k v : Int} {a b : Nat} {X X' : Tr} (h1 : Ex.same X X' = true) : Ex.same (Ex.one k a v X) (Ex.one k b v X') = true := by
  unfold Ex.one
  rw [show Ex.same ⟨k, (a : Int), v, X.on .nil⟩ ⟨k, (b : Int), v, X'.on .nil⟩ = (decide (k = k) && decide (v = v) && Fo.same (X.on .nil) (X'.on .nil)) from rfl, Fo.same_on, h1]
  simp [Fo.same]
theorem Eq_.chainF {t : Tok} {k : Int} {p : St → Tr × St} (h : Eq_ p) : ∀ (n : Nat) (x y : Tr) (s u : St), Ex.same x y = true → SR s u → RR (Ex.chainF n t k p x s) (Ex.chainF n t k p y u) := by
  intro n
  induction n with
  | zero => exact fun x y s u h1 h2 => ⟨h1, h2⟩
  | succ n ih =>
    intro x y s u h1 h2
    rw [Ex.chainF, Ex.chainF, h2.may]
    split
    · have hp := h _ _ h2.goes
      exact ih _ _ _ _ (two_same h1 hp.t) hp.s
    · exact ⟨h1, h2⟩
theorem Eq_.chain {t : Tok} {k : Int} {p : St → Tr × St} (h : Eq_ p) : Eq_ (Ex.chain t k p) := fun s u hs => by
  unfold Ex.chain
  have hp := h _ _ hs
  rw [hp.s.len]
  exact h.chainF _ _ _ _ _ hp.t hp.s
theorem Eq_.imp {r : Option (St → Tr × St)} {p : St → Tr × St} (hr : EqO r) (h : Eq_ p) : Eq_ (Ex.imp r p) := fun s u hs => by
  unfold Ex.imp
  have hp := h _ _ hs
  rw [hp.s.may]
  split
  · have hw := hr.within _ _ hp.s.goes
    exact ⟨two_same hp.t hw.t, hw.s⟩
  · exact hp
theorem Eq_.bound {r : Option (St → Tr × St)} (hr : EqO r) (k : Int) (a b : Nat) (s u : St) (hs : SR s u) : RR (Ex.bound r k a s) (Ex.bound r k b u) := by
  unfold Ex.bound
  rw [hs.now]
  split
  · have hw := hr.within _ _ hs.goes
    exact ⟨one_same hw.t, hw.s⟩
  · exact ⟨zero_same, hs.bad _⟩
theorem Eq_.ite {r : Option (St → Tr × St)} (hr : EqO r) (a b : Nat) (s u : St) (hs : SR s u) : RR (Ex.ite r a s) (Ex.ite r b u) := by
  unfold Ex.ite
  simp only []
  have h1 := hr.within _ _ (hs.must .lp)
  have h2 := hr.within _ _ (h1.s.must .comma)
  have h3 := hr.within _ _ (h2.s.must .comma)
  refine ⟨?_, h3.s.must .rp⟩
  generalize Ex.within r (s.must .lp) = r1 at *
  generalize Ex.within r (r1.2.must .comma) = r2 at *
  generalize Ex.within r (r2.2.must .comma) = r3 at *
  generalize Ex.within r (u.must .lp) = q1 at *
  generalize Ex.within r (q1.2.must .comma) = q2 at *
  generalize Ex.within r (q2.2.must .comma) = q3 at *
  rw [show Ex.same ⟨9, (a : Int), 0, r1.1.on (r2.1.on (r3.1.on .nil))⟩ ⟨9, (b : Int), 0, q1.1.on (q2.1.on (q3.1.on .nil))⟩ = (decide ((9 : Int) = 9) && decide ((0 : Int) = 0) && Fo.same (r1.1.on (r2.1.on (r3.1.on .nil))) (q1.1.on (q2.1.on (q3.1.on .nil)))) from rfl, Fo.same_on, Fo.same_on, Fo.same_on, h1.t, h2.t, h3.t]
  simp [Fo.same]
theorem leaf_same (k v : Int) (a b : Int) : Ex.same ⟨k, a, v, .nil⟩ ⟨k, b, v, .nil⟩ = true := by simp [Ex.same, Fo.same]
theorem Eq_.prim {r : Option (St → Tr × St)} (hr : EqO r) : Eq_ (Ex.prim r) := fun s u hs => by
  unfold Ex.prim
  rw [hs.now]
  split
  · exact ⟨leaf_same _ _ _ _, hs.goes⟩
  · exact ⟨leaf_same _ _ _ _, hs.goes⟩
  · exact ⟨leaf_same _ _ _ _, hs.goes⟩
  · rw [hs.may]
    split
    · have hw := hr.within _ _ hs.goes
      exact ⟨hw.t, hw.s.must _⟩
    · rw [hs.may]
      split
      · exact Eq_.ite hr _ _ _ _ hs.goes
      · exact ⟨zero_same, hs.bad _⟩
theorem Eq_.un {ru rf : Option (St → Tr × St)} (hu : EqO ru) (hf : EqO rf) : Eq_ (Ex.un ru rf) := fun s u hs => by
  unfold Ex.un
  rw [hs.e]
  split
  · exact ⟨zero_same, hs⟩
  · rw [hs.may]
    split
    · have hw := hu.within _ _ hs.goes
      exact ⟨one_same hw.t, hw.s⟩
    · rw [hs.may]
      split
      · exact Eq_.bound hu _ _ _ _ _ hs.goes
      · rw [hs.may]
        split
        · exact Eq_.bound hu _ _ _ _ _ hs.goes
        · exact Eq_.prim hf _ _ hs
structure EqR (r : Rd) : Prop where
  iff : Eq_ r.iff
  imp : Eq_ r.imp
  un : Eq_ r.un
theorem EqR.mk' (ru ri rf : Option (St → Tr × St)) (hu : EqO ru) (hi : EqO ri) (hf : EqO rf) : EqR (Ex.mk ru ri rf) := by
  have h1 := Eq_.un hu hf
  have h2 := Eq_.imp hi (((h1.chain (t := .and) (k := 4)).chain (t := .xor) (k := 6)).chain (t := .or) (k := 5))
  exact ⟨h2.chain, h2, h1⟩
theorem EqR.all : ∀ n, EqR (Ex.lev n)
  | 0 => EqR.mk' none none none True.intro True.intro True.intro
  | n + 1 => EqR.mk' _ _ _ (EqR.all n).un (EqR.all n).imp (EqR.all n).iff
/-- texts of the same signs are the same formula -/
theorem Ex.parse_alike {l m : List Nat} (h : (Ex.parse l).2.2 = 0) (hl : l.length ≤ 4000) (hm : m.length ≤ 4000) (hs : (Lx.lex l 0).map Prod.fst = (Lx.lex m 0).map Prod.fst) : (Ex.parse m).2.2 = 0 ∧ Ex.same (Ex.parse l).1 (Ex.parse m).1 = true := by
  obtain ⟨E1, E2, E3⟩ := Ex.parse_eq l hl
  obtain ⟨F1, F2, F3⟩ := Ex.parse_eq m hm
  have hr := (EqR.all 30).iff ⟨Lx.lex l 0, 0, 0⟩ ⟨Lx.lex m 0, 0, 0⟩ ⟨hs, rfl⟩
  generalize (Ex.lev 30).iff ⟨Lx.lex l 0, 0, 0⟩ = R at *
  generalize (Ex.lev 30).iff ⟨Lx.lex m 0, 0, 0⟩ = Q at *
  by_cases h0 : R.2.e = 0
  · by_cases hn : R.2.now = .eof
    · rw [E1 h0 hn, F1 (by rw [← hr.s.e]; exact h0) (by rw [← hr.s.now]; exact hn)]
      exact ⟨rfl, hr.t⟩
    · rw [E2 h0 hn] at h
      exact absurd h (bad_ne 230 (by omega) R.2)
  · rw [E3 h0] at h
    exact absurd h h0
end Go.Proofs.Ytfgokhafiffbaaa

/-
  Formulas, plain: the parser under other names of variables.
-/
namespace Go.Proofs.Ytfgokhafiffbaaa
set_option linter.unusedVariables false
open Go.RowKit

def Tok.ren (σ : Fin 8 → Fin 8) : Tok → Tok
  | .var n => .var (σ n)
  | t => t
def Ex.rv (σ : Fin 8 → Fin 8) (k v : Int) : Int := if k = 1 ∨ k = 10 ∨ k = 11 then ((σ (Fin.ofNat 8 v.toNat)).val : Int) else v
def Fo.ren (σ : Fin 8 → Fin 8) : Fo → Fo
  | .nil => .nil
  | .cons k a v kids rest => .cons k a (Ex.rv σ k v) (kids.ren σ) (rest.ren σ)
def Tr.ren (σ : Fin 8 → Fin 8) (t : Tr) : Tr := ⟨t.k, t.a, Ex.rv σ t.k t.v, t.kids.ren σ⟩
theorem Fo.ren_on (σ : Fin 8 → Fin 8) (t : Tr) (r : Fo) : (t.on r).ren σ = (t.ren σ).on (r.ren σ) := rfl
theorem Tok.ren_is {σ : Fin 8 → Fin 8} {x k : Tok} (hk : ∀ n, k ≠ .var n) : (x.ren σ = k) ↔ x = k := by
  cases x <;> simp [Tok.ren]
  rename_i n
  constructor
  · intro h; exact absurd h.symm (hk _)
  · intro h; exact absurd h.symm (hk _)
/-- two states alike but for places and names -/
structure NS (σ : Fin 8 → Fin 8) (s t : St) : Prop where
  ts : t.ts.map Prod.fst = (s.ts.map Prod.fst).map (Tok.ren σ)
  e : s.e = t.e
variable {σ : Fin 8 → Fin 8}
theorem NS.now {s t : St} (h : NS σ s t) : t.now = s.now.ren σ := by
  have := h.ts
  unfold St.now
  cases hs : s.ts with
  | nil =>
    cases ht : t.ts with
    | nil => rfl
    | cons y q => rw [hs, ht] at this; simp at this
  | cons x r =>
    cases ht : t.ts with
    | nil => rw [hs, ht] at this; simp at this
    | cons y q => rw [hs, ht] at this; simp at this; exact this.1
theorem NS.may {s t : St} (h : NS σ s t) (k : Tok) (hk : ∀ n, k ≠ .var n) : s.may k = t.may k := by
  unfold St.may
  rw [h.now, h.e]
  congr 1
  exact decide_eq_decide.2 (Tok.ren_is hk).symm
theorem NS.goes {s t : St} (h : NS σ s t) : NS σ s.goes t.goes := ⟨by unfold St.goes; simp only [List.map_tail, h.ts], h.e⟩
theorem NS.bad {s t : St} (h : NS σ s t) (e : Nat) : NS σ (s.bad e) (t.bad e) := by
  unfold St.bad
  rw [h.e]
  split
  · exact ⟨h.ts, rfl⟩
  · exact h
theorem NS.must {s t : St} (h : NS σ s t) (k : Tok) (hk : ∀ n, k ≠ .var n) : NS σ (s.must k) (t.must k) := by
  unfold St.must
  rw [h.may k hk]
  split
  · exact h.goes
  · exact h.bad _
theorem NS.len {s t : St} (h : NS σ s t) : s.ts.length = t.ts.length := by have := congrArg List.length h.ts; simpa using this.symm
structure NR (σ : Fin 8 → Fin 8) (a b : Tr × St) : Prop where
  t : Ex.same (a.1.ren σ) b.1 = true
  s : NS σ a.2 b.2
def En (σ : Fin 8 → Fin 8) (p : St → Tr × St) : Prop := ∀ s t, NS σ s t → NR σ (p s) (p t)
def EnO (σ : Fin 8 → Fin 8) (r : Option (St → Tr × St)) : Prop := match r with | none => True | some p => En σ p
theorem EnO.within {r : Option (St → Tr × St)} (h : EnO σ r) : En σ (Ex.within r) := fun s t hs => by
  cases r with
  | none => exact ⟨rfl, hs.bad _⟩
  | some p =>
    unfold Ex.within
    simp only []
    rw [hs.e]
    split
    · exact h s t hs
    · exact ⟨rfl, hs⟩
theorem two_ren {k : Int} (hk : ¬ (k = 1 ∨ k = 10 ∨ k = 11)) {a b : Nat} {X Y X' Y' : Tr} (h1 : Ex.same (X.ren σ) X' = true) (h2 : Ex.same (Y.ren σ) Y' = true) : Ex.same ((Ex.two k a X Y).ren σ) (Ex.two k b X' Y') = true := by
  have e : (Ex.two k a X Y).ren σ = Ex.two k a (X.ren σ) (Y.ren σ) := by
    unfold Ex.two Tr.ren Ex.rv
    simp only [if_neg hk]
    rfl
  rw [e]
  exact two_same h1 h2
theorem one_ren {k v v' : Int} (hv : Ex.rv σ k v = v') {a b : Nat} {X X' : Tr} (h1 : Ex.same (X.ren σ) X' = true) : Ex.same ((Ex.one k a v X).ren σ) (Ex.one k b v' X') = true := by
  have e : (Ex.one k a v X).ren σ = Ex.one k a v' (X.ren σ) := by
    unfold Ex.one Tr.ren
    simp only [hv]
    rfl
  rw [e]
  exact one_same h1
theorem En.chainF {t : Tok} {k : Int} (hk : ¬ (k = 1 ∨ k = 10 ∨ k = 11)) (ht : ∀ n, t ≠ .var n) {p : St → Tr × St} (h : En σ p) : ∀ (n : Nat) (x y : Tr) (s u : St), Ex.same (x.ren σ) y = true → NS σ s u → NR σ (Ex.chainF n t k p x s) (Ex.chainF n t k p y u) := by
  intro n
  induction n with
  | zero => exact fun x y s u h1 h2 => ⟨h1, h2⟩
  | succ n ih =>
    intro x y s u h1 h2
    rw [Ex.chainF, Ex.chainF, h2.may t ht]
    split
    · have hp := h _ _ h2.goes
      exact ih _ _ _ _ (two_ren hk h1 hp.t) hp.s
    · exact ⟨h1, h2⟩
theorem En.chain {t : Tok} {k : Int} (hk : ¬ (k = 1 ∨ k = 10 ∨ k = 11)) (ht : ∀ n, t ≠ .var n) {p : St → Tr × St} (h : En σ p) : En σ (Ex.chain t k p) := fun s u hs => by
  unfold Ex.chain
  have hp := h _ _ hs
  rw [hp.s.len]
  exact h.chainF hk ht _ _ _ _ _ hp.t hp.s
theorem En.imp {r : Option (St → Tr × St)} {p : St → Tr × St} (hr : EnO σ r) (h : En σ p) : En σ (Ex.imp r p) := fun s u hs => by
  unfold Ex.imp
  have hp := h _ _ hs
  rw [hp.s.may .imp (by simp)]
  split
  · have hw := hr.within _ _ hp.s.goes
    exact ⟨two_ren (by decide) hp.t hw.t, hw.s⟩
  · exact hp
theorem En.bound {r : Option (St → Tr × St)} (hr : EnO σ r) (k : Int) (hk : k = 10 ∨ k = 11) (a b : Nat) (s u : St) (hs : NS σ s u) : NR σ (Ex.bound r k a s) (Ex.bound r k b u) := by
  unfold Ex.bound
  rw [hs.now]
  cases hn : s.now with
  | var n =>
    simp only [Tok.ren]
    have hw := hr.within _ _ hs.goes
    refine ⟨one_ren ?_ hw.t, hw.s⟩
    unfold Ex.rv
    rw [if_pos (by omega)]
    simp
  | _ => exact ⟨rfl, hs.bad _⟩
theorem En.ite {r : Option (St → Tr × St)} (hr : EnO σ r) (a b : Nat) (s u : St) (hs : NS σ s u) : NR σ (Ex.ite r a s) (Ex.ite r b u) := by
  unfold Ex.ite
  simp only []
  have h1 := hr.within _ _ (hs.must .lp (by simp))
  have h2 := hr.within _ _ (h1.s.must .comma (by simp))
  have h3 := hr.within _ _ (h2.s.must .comma (by simp))
  refine ⟨?_, h3.s.must .rp (by simp)⟩
  generalize Ex.within r (s.must .lp) = r1 at *
  generalize Ex.within r (r1.2.must .comma) = r2 at *
  generalize Ex.within r (r2.2.must .comma) = r3 at *
  generalize Ex.within r (u.must .lp) = q1 at *
  generalize Ex.within r (q1.2.must .comma) = q2 at *
  generalize Ex.within r (q2.2.must .comma) = q3 at *
  have e : (⟨9, (a : Int), 0, r1.1.on (r2.1.on (r3.1.on .nil))⟩ : Tr).ren σ = ⟨9, (a : Int), 0, (r1.1.ren σ).on ((r2.1.ren σ).on ((r3.1.ren σ).on .nil))⟩ := rfl
  rw [e, show Ex.same ⟨9, (a : Int), 0, (r1.1.ren σ).on ((r2.1.ren σ).on ((r3.1.ren σ).on .nil))⟩ ⟨9, (b : Int), 0, q1.1.on (q2.1.on (q3.1.on .nil))⟩ = (decide ((9 : Int) = 9) && decide ((0 : Int) = 0) && Fo.same ((r1.1.ren σ).on ((r2.1.ren σ).on ((r3.1.ren σ).on .nil))) (q1.1.on (q2.1.on (q3.1.on .nil)))) from rfl, Fo.same_on, Fo.same_on, Fo.same_on, h1.t, h2.t, h3.t]
  simp [Fo.same]
theorem leaf_ren (k v v' a b : Int) (h : Ex.rv σ k v = v') : Ex.same ((⟨k, a, v, .nil⟩ : Tr).ren σ) ⟨k, b, v', .nil⟩ = true := by
  unfold Tr.ren
  simp [Ex.same, Fo.same, Fo.ren, h]
theorem En.prim {r : Option (St → Tr × St)} (hr : EnO σ r) : En σ (Ex.prim r) := fun s u hs => by
  have hm := hs.may .lp (by simp)
  have hi := hs.may .ite (by simp)
  have hrest : NR σ (if s.may .lp then ((Ex.within r s.goes).1, (Ex.within r s.goes).2.must .rp) else if s.may .ite then Ex.ite r s.at_ s.goes else (Tr.zero, s.bad 230))
      (if u.may .lp then ((Ex.within r u.goes).1, (Ex.within r u.goes).2.must .rp) else if u.may .ite then Ex.ite r u.at_ u.goes else (Tr.zero, u.bad 230)) := by
    rw [hm, hi]
    split
    · have hw := hr.within _ _ hs.goes
      exact ⟨hw.t, hw.s.must _ (by simp)⟩
    · split
      · exact En.ite hr _ _ _ _ hs.goes
      · exact ⟨rfl, hs.bad _⟩
  unfold Ex.prim
  rw [hs.now]
  cases hn : s.now with
  | var n =>
    simp only [Tok.ren]
    refine ⟨leaf_ren _ _ _ _ _ ?_, hs.goes⟩
    unfold Ex.rv
    simp
  | zero => exact ⟨leaf_ren _ _ _ _ _ (by unfold Ex.rv; simp), hs.goes⟩
  | one => exact ⟨leaf_ren _ _ _ _ _ (by unfold Ex.rv; simp), hs.goes⟩
  | _ => exact hrest
theorem En.un {ru rf : Option (St → Tr × St)} (hu : EnO σ ru) (hf : EnO σ rf) : En σ (Ex.un ru rf) := fun s u hs => by
  unfold Ex.un
  rw [hs.e, hs.may .not (by simp), hs.may .all (by simp), hs.may .any (by simp)]
  split
  · exact ⟨rfl, hs⟩
  · split
    · have hw := hu.within _ _ hs.goes
      exact ⟨one_ren (by unfold Ex.rv; simp) hw.t, hw.s⟩
    · split
      · exact En.bound hu _ (by omega) _ _ _ _ hs.goes
      · split
        · exact En.bound hu _ (by omega) _ _ _ _ hs.goes
        · exact En.prim hf _ _ hs
structure EnR (σ : Fin 8 → Fin 8) (r : Rd) : Prop where
  iff : En σ r.iff
  imp : En σ r.imp
  un : En σ r.un
theorem EnR.mk' (ru ri rf : Option (St → Tr × St)) (hu : EnO σ ru) (hi : EnO σ ri) (hf : EnO σ rf) : EnR σ (Ex.mk ru ri rf) := by
  have h1 := En.un hu hf
  have h2 := En.imp hi (((h1.chain (t := .and) (k := 4) (by decide) (by simp)).chain (t := .xor) (k := 6) (by decide) (by simp)).chain (t := .or) (k := 5) (by decide) (by simp))
  exact ⟨h2.chain (by decide) (by simp), h2, h1⟩
theorem EnR.all : ∀ n, EnR σ (Ex.lev n)
  | 0 => EnR.mk' none none none True.intro True.intro True.intro
  | n + 1 => EnR.mk' _ _ _ (EnR.all n).un (EnR.all n).imp (EnR.all n).iff
end Go.Proofs.Ytfgokhafiffbaaa

/-
  Formulas of the document: Count.
-/
namespace Go.Proofs.Ytfgokhafiffbaaa
set_option linter.unusedVariables false
open Go.RowKit

/-- a list's formulas counted on, from n, up to one above m -/
def Fo.cl : Fo → Nat → Nat → Nat
  | .nil, _, n => n
  | .cons _ _ _ kids rest, m, n => if n ≤ m then rest.cl m (n + kids.cl (m - n) 1) else n
theorem Fo.cl_on (x : Tr) (r : Fo) (m n : Nat) : (x.on r).cl m n = if n ≤ m then r.cl m (n + x.kids.cl (m - n) 1) else n := rfl
theorem Fo.cl_over : ∀ (F : Fo) {m n : Nat}, m < n → F.cl m n = n
  | .nil, _, _, _ => rfl
  | .cons k a v kids rest, m, n, h => by rw [Fo.cl, if_neg (by omega)]
theorem Fo.cl_le : ∀ (F : Fo) {m n : Nat}, n ≤ m + 1 → F.cl m n ≤ m + 1
  | .nil, _, _, h => h
  | .cons k a v kids rest, m, n, h => by
    rw [Fo.cl]
    split
    · have := Fo.cl_le kids (m := m - n) (n := 1) (by omega)
      exact Fo.cl_le rest (by omega)
    · omega
theorem Fo.cl_ge : ∀ (F : Fo) {m n : Nat}, n ≤ F.cl m n
  | .nil, _, n => Nat.le_refl n
  | .cons k a v kids rest, m, n => by
    rw [Fo.cl]
    split
    · have := Fo.cl_ge rest (m := m) (n := n + kids.cl (m - n) 1)
      omega
    · exact Nat.le_refl n
theorem Fo.cl_all : ∀ (F : Fo) {m n : Nat}, n + F.nodes ≤ m → F.cl m n = n + F.nodes
  | .nil, _, _, _ => rfl
  | .cons k a v kids rest, m, n, h => by
    simp only [Fo.nodes] at h ⊢
    rw [Fo.cl, if_pos (by omega), Fo.cl_all kids (m := m - n) (n := 1) (by omega), Fo.cl_all rest (by omega)]
    omega
theorem Fo.cl_more : ∀ (F : Fo) {m n : Nat}, m < n + F.nodes → m < F.cl m n
  | .nil, m, n, h => by simp only [Fo.nodes] at h; exact h
  | .cons k a v kids rest, m, n, h => by
    simp only [Fo.nodes] at h
    rw [Fo.cl]
    by_cases hn : n ≤ m
    · rw [if_pos hn]
      by_cases hk : 1 + kids.nodes ≤ m - n
      · rw [Fo.cl_all kids hk]
        exact Fo.cl_more rest (by omega)
      · have := Fo.cl_more kids (m := m - n) (n := 1) (by omega)
        have h2 := Fo.cl_ge rest (m := m) (n := n + kids.cl (m - n) 1)
        omega
    · rw [if_neg hn]; omega
/-- where a loop over kids stands -/
structure KL (w wr : World) (b o i : Nat) (F F2 : Fo) : Prop where
  be : Below w.heap.size w wr
  f : RdF w (fun g => g < w.heap.size) F2 b (o + i * 4)
  lf : F.len = i + F2.len
  nd : F2.nodes ≤ F.nodes
theorem KL.start {w wr : World} {b o : Nat} {F : Fo} (hb : Below w.heap.size w wr) (h : RdF w (fun g => g < w.heap.size) F b o) : KL w wr b o 0 F F := ⟨hb, by rw [Nat.zero_mul, Nat.add_zero]; exact h, by omega, Nat.le_refl _⟩
theorem KL.step {w wr wu : World} {b o i : Nat} {F F2 : Fo} (h : KL w wr b o i F F2) (hb : Below wr.heap.size wr wu) : KL w wu b o i F F2 := ⟨h.be.trans (hb.mono h.be.size), h.f, h.lf, h.nd⟩
theorem RdF.lows {w : World} {B : Nat → Prop} {F : Fo} {b o : Nat} (h : RdF w B F b o) : RdF w (fun g => g < w.heap.size) F b o := RdF.mono (fun g hg _ => hg) F b o h
/-- the kid that stands next -/
theorem KL.next {w wr : World} {b o i : Nat} {F : Fo} {k a v : Int} {kids rest : Fo} (h : KL w wr b o i F (.cons k a v kids rest)) :
    ∃ sx, Kid w b (o + i * 4) ⟨k, a, v, kids⟩ sx ∧ 1 + kids.nodes + rest.nodes ≤ F.nodes ∧ i < F.len ∧ (∀ wu, Below wr.heap.size wr wu → KL w wu b o (i + 1) F rest) := by
  obtain ⟨sx, K, hr⟩ := kid_of h.f
  have h1 := h.lf
  have h2 := h.nd
  simp only [Fo.len, Fo.nodes] at h1 h2
  refine ⟨sx, K, h2, by omega, fun wu hb => ⟨h.be.trans (hb.mono h.be.size), ?_, by omega, by omega⟩⟩
  rw [show o + (i + 1) * 4 = o + i * 4 + 4 from by omega]
  exact hr
/-- what is known of Count for what has so few nodes -/
def Cz (n : Nat) : Prop := ∀ (t : Tr) (sl : Value) (B : Nat → Prop) (u : World) (m : Nat), m ≤ 4000 → (t.on .nil).nodes ≤ n → SlF u B sl t.kids →
  Calls Try.prog 18 #[Ev t sl, .int .i64 (m : Int)] u fun e w' => e = .returned (.int .i64 ((t.kids.cl m 1 : Nat) : Int)) ∧ Below u.heap.size u w'
set_option maxHeartbeats 8000000 in
theorem Cz.succ (n : Nat) (ih : Cz n) : Cz (n + 1) := by
  intro t sl B w m hm hn hs
  obtain ⟨p, cap, b, o, rfl, hp, hc, hr⟩ := hs
  rw [Fo.nodes_on] at hn
  have hb1 := boxE w t.k t.a t.v (.slice p t.kids.len cap)
  have HB1 := Bx.mk hb1
  have HK0 := Bx.mk (KL.start ((Below.refl w.heap.size w).alloc (Nat.le_refl _) (.cells #[.int .i64 t.k, .int .i64 t.a, .int .i64 t.v, .slice p t.kids.len cap] 36)) hr.lows)
  have HP : Bx (t.kids.len ≠ 0 → p = some ⟨b, o, none⟩) := ⟨fun h => by
    rcases hp with ⟨e, _⟩ | e
    · exact absurd (by rw [e]; rfl) h
    · exact e⟩
  have HN := Bx.mk hn
  have HM := Bx.mk hm
  have IH := Bx.mk ih
  clear hb1 hp hc hr hn ih hm
  unfold Ev
  go_enter Try.func18, Try.ntmps18
  go_wp2_with fail
  go_loopw [5, 6] (fun c j wr => ∃ (i : Nat) (F2 : Fo) (d : Nat), j = .int .i64 (i : Int) ∧ c = .int .i64 (d : Int) ∧ Bx (i < d ∧ d ≤ m + 1 ∧ t.kids.cl m 1 = F2.cl m d) ∧ KL w wr b o i t.kids F2 ∧ Blk wr w.heap.size 36 #[.int .i64 t.k, .int .i64 t.a, .int .i64 t.v, .slice p t.kids.len cap]) (fun _ j _ => t.kids.len - (intOf j).toNat)
  case atStart => exact ⟨0, t.kids, 1, rfl, rfl, ⟨⟨by omega, by omega, rfl⟩⟩, HK0.out, HB1.out⟩
  case round =>
    clear HK0 HB1
    obtain ⟨i, F2, d, rfl, rfl, HD, hK, hB⟩ := hrel
    have HK := Bx.mk hK
    have HB := Bx.mk hB
    obtain ⟨c0, c1, c2, c3, _, _, _, _⟩ := cells4 hB
    clear hK hB
    cases F2 with
    | nil =>
      have q : ¬ (i : Int) < (t.kids.len : Int) := by have := HK.out.lf; simp only [Fo.len] at this; omega
      have HV := Bx.mk (show t.kids.cl m 1 = d from HD.out.2.2)
      go_wp2_with fail
      go_ret
      exact ⟨by rw [HV.out]; rfl, HK.out.be⟩
    | cons k a v kids rest =>
      obtain ⟨sx, Kx, hnn, hil, hnext⟩ := HK.out.next
      obtain ⟨px, cx, rfl⟩ := Kx.sl.is
      have q : (i : Int) < (t.kids.len : Int) := by omega
      by_cases hd : d ≤ m
      · have q2 : (d : Int) ≤ (m : Int) := by omega
        have hdd := HD.out
        have hpp := HP.out (by omega)
        subst hpp
        obtain ⟨x0, x1, x2, x3, xS⟩ := Kx.below HK.out.be
        simp only [] at x0 x1 x2 x3
        have hm4 := HM.out
        have b1 : -9223372036854775808 ≤ (m : Int) - (d : Int) ∧ (m : Int) - (d : Int) ≤ 9223372036854775807 := by omega
        have b2 : (m : Int) - (d : Int) = ((m - d : Nat) : Int) := by omega
        have b3 : -9223372036854775808 ≤ (i : Int) + 1 ∧ (i : Int) + 1 ≤ 9223372036854775807 := by omega
        have HI := Bx.mk (IH.out ⟨k, a, v, kids⟩ _ _ _ (m - d) (by omega) (by have := HN.out; rw [Fo.nodes_on]; simp only [show Fo.nil.nodes = 0 from rfl] at this ⊢; omega) xS)
        have hcl := Fo.cl_le kids (m := m - d) (n := 1) (by omega)
        have HCL := Bx.mk (show d + kids.cl (m - d) 1 ≤ m + 1 ∧ 1 ≤ kids.cl (m - d) 1 from ⟨by omega, Fo.cl_ge kids⟩)
        have HV := Bx.mk (show t.kids.cl m 1 = rest.cl m (d + kids.cl (m - d) 1) from by rw [hdd.2.2, Fo.cl, if_pos hd])
        have HNX := Bx.mk hnext
        have HIL := Bx.mk (And.intro hil hdd)
        have b4 : -9223372036854775808 ≤ (d : Int) + ((kids.cl (m - d) 1 : Nat) : Int) ∧ (d : Int) + ((kids.cl (m - d) 1 : Nat) : Int) ≤ 9223372036854775807 := by have := HCL.out; omega
        have b5 : (d : Int) + ((kids.cl (m - d) 1 : Nat) : Int) = ((d + kids.cl (m - d) 1 : Nat) : Int) := by omega
        have hsub : wrap64 ((m : Int) - (d : Int)) = ((m - d : Nat) : Int) := (w64 _ b1).trans b2
        have HADD := Bx.mk ((w64 _ b4).trans b5)
        have hw : wrap64 ((i : Int) + 1) = (i : Int) + 1 := w64 _ b3
        clear b1 b2 b3 b4 b5
        clear Kx hnn hil hnext xS hcl hd hdd hm4
        unfold Ev at HI
        simp only [] at HI
        generalize kids.cl (m - d) 1 = cc at *
        go_wp2_with fail
        refine HI.out.mono ?_
        rintro e u ⟨rfl, hb⟩
        have HU := Bx.mk (HNX.out u hb)
        have HBU := Bx.mk (HB.out.below hb HB.out.lt)
        clear hb c0 c1 c2 c3
        go_wp2_with fail
        refine ⟨⟨i + 1, rest, d + cc, by go_num, congrArg (Value.int .i64) HADD.out, ⟨⟨by have h1 := HIL.out; have h2 := HCL.out; clear hsub hw; omega, HCL.out.1, HV.out⟩⟩, HU.out, HBU.out⟩, ?_⟩
        rw [intOf_i, intOf_i, hw]
        have := HIL.out.1
        clear hw hsub
        omega
      · have q2 : ¬ (d : Int) ≤ (m : Int) := by omega
        have HV := Bx.mk (show t.kids.cl m 1 = d from by rw [HD.out.2.2, Fo.cl_over _ (by omega)])
        clear Kx hnn hil hnext hd
        go_wp2_with fail
        go_ret
        exact ⟨by rw [HV.out]; rfl, HK.out.be⟩
theorem Cz.all : ∀ n, Cz n
  | 0 => fun t sl B u m _ h => by rw [Fo.nodes_on] at h; omega
  | n + 1 => Cz.succ n (Cz.all n)
theorem count_any (t : Tr) (sl : Value) (B : Nat → Prop) (u : World) (m : Nat) (hm : m ≤ 4000) (hs : SlF u B sl t.kids) :
    Calls Try.prog 18 #[Ev t sl, .int .i64 (m : Int)] u fun e w' => e = .returned (.int .i64 ((t.kids.cl m 1 : Nat) : Int)) ∧ Below u.heap.size u w' := Cz.all _ t sl B u m hm (Nat.le_refl _) hs
end Go.Proofs.Ytfgokhafiffbaaa

/-
  Formulas, plain: a print's signs; a print is read back, or is too deep.
-/
namespace Go.Proofs.Ytfgokhafiffbaaa
set_option linter.unusedVariables false
open Go.RowKit

def nl (l : List UInt8) : List Nat := l.map UInt8.toNat
theorem nl_append (a b : List UInt8) : nl (a ++ b) = nl a ++ nl b := by unfold nl; simp
theorem nl_cons (a : UInt8) (b : List UInt8) : nl (a :: b) = a.toNat :: nl b := rfl
theorem nl_nil : nl [] = [] := rfl
theorem dig_nat {m : Nat} (h : m < 8) : (Ex.dig (m : Int)).toNat = 48 + m := by
  unfold Ex.dig
  rw [Int.toNat_natCast]
  simp [Nat.toUInt8, UInt8.toNat_ofNat']
  omega
/-- a piece that goes over into signs whatever follows that is no letter and no digit -/
def LexP (p : List UInt8) (ts : List Tok) : Prop := ∀ r, Brk r → LexTo (nl p ++ r) ts r
def LexA (p : List UInt8) (ts : List Tok) : Prop := ∀ r, LexTo (nl p ++ r) ts r
theorem LexA.app {p q : List UInt8} {ts us : List Tok} (h : LexA p ts) (k : LexA q us) : LexA (p ++ q) (ts ++ us) := fun r => by
  rw [nl_append, List.append_assoc]
  exact (h _).trans (k r)
theorem LexA.p {p : List UInt8} {ts : List Tok} (h : LexA p ts) : LexP p ts := fun r _ => h r
theorem LexA.lp : LexA [40] [.lp] := fun r => LexTo.lp r
theorem LexA.rp : LexA [41] [.rp] := fun r => LexTo.rp r
theorem LexA.comma : LexA [44, 32] [.comma] := fun r => (LexTo.comma (32 :: r)).trans (LexTo.blank r)
theorem LexA.not : LexA [33] [.not] := fun r => LexTo.not r
theorem LexA.ite : LexA [105, 116, 101, 40] [.ite, .lp] := fun r => LexTo.ite r
theorem LexA.bl : LexA [32] [] := fun r => LexTo.blank r
theorem LexP.par {p : List UInt8} {ts : List Tok} (h : LexP p ts) : LexA (Ex.par p) (Ex.tpar ts) := fun r => by
  unfold Ex.par Ex.tpar
  rw [nl_append, nl_append, List.append_assoc, List.append_assoc, List.append_assoc]
  exact (LexTo.lp _).trans ((h _ (Brk.cons r (by decide))).trans (LexTo.rp r))
theorem LexA.sgn {k : Int} (hk : 4 ≤ k ∧ k ≤ 8) : LexA (Ex.sgn k) [Ex.tkop k] := fun r => by
  have hc : k = 4 ∨ k = 5 ∨ k = 6 ∨ k = 7 ∨ k = 8 := by omega
  rcases hc with rfl | rfl | rfl | rfl | rfl
  · exact LexTo.and r
  · exact LexTo.or r
  · exact LexTo.xor r
  · exact LexTo.imp r
  · exact LexTo.iff r
def Fo.lx : Fo → Prop
  | .nil => True
  | .cons k a v kids rest => LexP (Ex.pr ⟨k, a, v, kids⟩) (Ex.pt ⟨k, a, v, kids⟩) ∧ rest.lx
theorem Fo.lx_on {x : Tr} {r : Fo} (h : (x.on r).lx) : LexP (Ex.pr x) (Ex.pt x) ∧ r.lx := h
theorem Fo.lx_all : ∀ F : Fo, F.allPlain = true → F.lx
  | .nil, _ => True.intro
  | .cons k a v kids rest, hp => by
    have hp' : ((⟨k, a, v, kids⟩ : Tr).on rest).allPlain = true := hp
    rw [Fo.allPlain_on, Bool.and_eq_true, Bool.and_eq_true] at hp'
    obtain ⟨⟨hpl, hka⟩, hre⟩ := hp'
    obtain ⟨h1, h2, h3, h4, h5⟩ := plain_shape hpl
    simp only [] at h1 h2 h3 h4 h5 hka
    refine ⟨?_, Fo.lx_all rest hre⟩
    have hub := Fo.lx_all kids hka
    have hv7 : (k = 1 ∨ k = 10 ∨ k = 11) → ∃ m : Fin 8, v = (m.val : Int) := fun h => by
      have ht : Ex.top k = 7 := by unfold Ex.top; rw [if_pos (by omega)]
      exact ⟨⟨v.toNat, by omega⟩, by simp; omega⟩
    have hfin : ∀ m : Fin 8, Fin.ofNat 8 ((m.val : Int)).toNat = m := fun m => by apply Fin.ext; simp
    unfold Ex.pr Ex.pt Ex.prk Ex.ptk
    simp only []
    have hc : k = 1 ∨ k = 2 ∨ k = 3 ∨ (4 ≤ k ∧ k ≤ 8) ∨ k = 9 ∨ k = 10 ∨ k = 11 := by omega
    rcases hc with rfl | rfl | rfl | hk | rfl | rfl | rfl
    · obtain ⟨m, rfl⟩ := hv7 (.inl rfl)
      simp only [Int.reduceEq, reduceIte]
      rw [hfin]
      intro r hr
      have := LexTo.var m hr
      rw [← dig_nat m.isLt] at this
      exact this
    · have ht : Ex.top 2 = 1 := by unfold Ex.top; rw [if_neg (by omega), if_pos rfl]
      simp only [Int.reduceEq, reduceIte]
      intro r hr
      by_cases hv : v = 0
      · subst hv
        exact LexTo.zero r
      · obtain rfl : v = 1 := by omega
        exact LexTo.one r
    · obtain ⟨x, e⟩ := Fo.len1 (F := kids) (by rw [h3, Ex.kids1 (by omega)])
      subst e
      have hx := (Fo.lx_on hub).1
      simp only [Int.reduceEq, reduceIte]
      exact (LexA.not.app hx.par).p
    · obtain ⟨x, y, e⟩ := Fo.len2 (F := kids) (by rw [h3, Ex.kids2 hk])
      subst e
      have hx := (Fo.lx_on hub).1
      have hy := (Fo.lx_on (Fo.lx_on hub).2).1
      simp only [show ¬ k = 1 by omega, show ¬ k = 2 by omega, show ¬ k = 3 by omega, show ¬ k = 10 by omega, show ¬ k = 11 by omega, show ¬ k = 9 by omega, if_false]
      have := ((((LexA.lp.app hx.par).app ((LexA.bl.app (LexA.sgn hk)).app LexA.bl)).app hy.par).app LexA.rp).p
      rw [show (x.on (y.on Fo.nil)).prs.getD 0 [] = Ex.pr x from rfl, show (x.on (y.on Fo.nil)).prs.getD 1 [] = Ex.pr y from rfl, show (x.on (y.on Fo.nil)).pts.getD 0 [] = Ex.pt x from rfl, show (x.on (y.on Fo.nil)).pts.getD 1 [] = Ex.pt y from rfl]
      simpa using this
    · obtain ⟨x, y, z, e⟩ := Fo.len3 (F := kids) (by rw [h3, Ex.kids3 rfl])
      subst e
      have hx := (Fo.lx_on hub).1
      have hy := (Fo.lx_on (Fo.lx_on hub).2).1
      have hz := (Fo.lx_on (Fo.lx_on (Fo.lx_on hub).2).2).1
      simp only [Int.reduceEq, reduceIte]
      exact ((((((LexA.ite.app hx.par).app LexA.comma).app hy.par).app LexA.comma).app hz.par).app LexA.rp).p
    · obtain ⟨x, e⟩ := Fo.len1 (F := kids) (by rw [h3, Ex.kids1 (by omega)])
      obtain ⟨m, rfl⟩ := hv7 (.inr (.inl rfl))
      subst e
      have hx := (Fo.lx_on hub).1
      simp only [Int.reduceEq, reduceIte]
      rw [hfin]
      have hq : LexA ([97, 108, 108, 32, 118] ++ [Ex.dig (m.val : Int)] ++ [32]) [.all, .var m] := fun r => by
        have h1 := LexTo.var m (Brk.cons r (show 32 < 48 by decide))
        rw [← dig_nat m.isLt] at h1
        exact (LexTo.all _).trans ((LexTo.blank _).trans (h1.trans (LexTo.blank r)))
      exact (hq.app hx.par).p
    · obtain ⟨x, e⟩ := Fo.len1 (F := kids) (by rw [h3, Ex.kids1 (by omega)])
      obtain ⟨m, rfl⟩ := hv7 (.inr (.inr rfl))
      subst e
      have hx := (Fo.lx_on hub).1
      simp only [Int.reduceEq, reduceIte]
      rw [hfin]
      have hq : LexA ([97, 110, 121, 32, 118] ++ [Ex.dig (m.val : Int)] ++ [32]) [.any, .var m] := fun r => by
        have h1 := LexTo.var m (Brk.cons r (show 32 < 48 by decide))
        rw [← dig_nat m.isLt] at h1
        exact (LexTo.any _).trans ((LexTo.blank _).trans (h1.trans (LexTo.blank r)))
      exact (hq.app hx.par).p
/-- what is printed is read back as the same, or is too deep -/
theorem Ex.back {t : Tr} (h : (t.on .nil).allPlain = true) (hl : (Ex.pr t).length ≤ 4000) :
    (Ex.parse (nl (Ex.pr t))).2.2 = 231 ∨ ((Ex.parse (nl (Ex.pr t))).2.2 = 0 ∧ Ex.same t (Ex.parse (nl (Ex.pr t))).1 = true) := by
  have hlx := (Fo.lx_on (Fo.lx_all (t.on .nil) h)).1 [] Brk.nil
  rw [List.append_nil] at hlx
  obtain ⟨A, a', hA, hm⟩ := hlx 0
  have hnil : Lx.lex [] a' = [(.eof, a')] := by
    have hs : Lx.skip [] = 0 := Lx.skip_nil
    rw [Lx.lex_eq, hs, List.drop_zero, Lx.scan_nil, if_pos (.inl rfl)]
    rfl
  rw [hnil] at hA
  obtain ⟨E1, E2, E3⟩ := Ex.parse_eq (nl (Ex.pr t)) (by unfold nl; simpa using hl)
  have hb := (UB.tr h).iff 30 ⟨Lx.lex (nl (Ex.pr t)) 0, 0, 0⟩ A [(.eof, a')] rfl hA hm (fun x r e => by cases e; rfl)
  generalize (Ex.lev 30).iff ⟨Lx.lex (nl (Ex.pr t)) 0, 0, 0⟩ = R at *
  rcases hb with h5 | ⟨h5, h6, h7⟩
  · left
    rw [E3 (by rw [h5]; decide)]
    exact h5
  · right
    rw [E1 h5 (by unfold St.now; rw [h6])]
    exact ⟨rfl, h7⟩
theorem Ex.parse_at (l : List Nat) (h : (Ex.parse l).2.2 = 0) : (Ex.parse l).2.1 = 0 := by
  by_cases hl : l.length ≤ 4000
  · obtain ⟨E1, E2, E3⟩ := Ex.parse_eq l hl
    generalize (Ex.lev 30).iff ⟨Lx.lex l 0, 0, 0⟩ = R at *
    by_cases h0 : R.2.e = 0
    · by_cases hn : R.2.now = .eof
      · rw [E1 h0 hn]
      · rw [E2 h0 hn] at h
        exact absurd h (bad_ne 230 (by omega) R.2)
    · rw [E3 h0] at h
      exact absurd h h0
  · unfold Ex.parse
    rw [if_pos (by omega)]
theorem Ex.parse_long {l : List Nat} (h : 4000 < l.length) : (Ex.parse l).2.2 = 232 := by unfold Ex.parse; rw [if_pos h]
end Go.Proofs.Ytfgokhafiffbaaa

/-
  The walks of the document's tables, first part: word by word, a value.
-/
namespace Go.Proofs.Ytfgokhafiffbaaa
set_option linter.unusedVariables false
open Go.RowKit

set_option maxRecDepth 100000 in
set_option maxHeartbeats 1000000 in
theorem rand_raw (f g : Tb.T) (w : World) :
    Calls Try.prog 27 #[Tb.tv f, Tb.tv g] w fun e w' => e = .returned (.agg #[.int .u64 (bits .and .u64 (Tb.wd f 0) (Tb.wd g 0)), .int .u64 (bits .and .u64 (Tb.wd f 1) (Tb.wd g 1)), .int .u64 (bits .and .u64 (Tb.wd f 2) (Tb.wd g 2)), .int .u64 (bits .and .u64 (Tb.wd f 3) (Tb.wd g 3))]) ∧ Below w.heap.size w w' := by
  go_enter Try.func27, Try.ntmps27
  go_wp2_with fail
  refine wp_loop_rounds 5 ?_
  rw [rounds_succ]
  go_wp2_with fail
  refine region_tail 9 (by kernel_rfl) (by kernel_rfl) ?_
  simp only [List.take_succ_cons, List.take_zero, List.drop_succ_cons, List.drop_zero]
  repeat still_step
  refine wpStill_nil ?_
  go_wp2_with fail
  rw [rounds_succ]
  go_wp2_with fail
  refine region_tail 9 (by kernel_rfl) (by kernel_rfl) ?_
  simp only [List.take_succ_cons, List.take_zero, List.drop_succ_cons, List.drop_zero]
  repeat still_step
  refine wpStill_nil ?_
  go_wp2_with fail
  rw [rounds_succ]
  go_wp2_with fail
  refine region_tail 9 (by kernel_rfl) (by kernel_rfl) ?_
  simp only [List.take_succ_cons, List.take_zero, List.drop_succ_cons, List.drop_zero]
  repeat still_step
  refine wpStill_nil ?_
  go_wp2_with fail
  rw [rounds_succ]
  go_wp2_with fail
  refine region_tail 9 (by kernel_rfl) (by kernel_rfl) ?_
  simp only [List.take_succ_cons, List.take_zero, List.drop_succ_cons, List.drop_zero]
  repeat still_step
  refine wpStill_nil ?_
  go_wp2_with fail
  rw [rounds_succ]
  go_wp2_with fail
  refine bodyPost_ret (v := .agg #[.int .u64 (bits .and .u64 (Tb.wd f 0) (Tb.wd g 0)), .int .u64 (bits .and .u64 (Tb.wd f 1) (Tb.wd g 1)), .int .u64 (bits .and .u64 (Tb.wd f 2) (Tb.wd g 2)), .int .u64 (bits .and .u64 (Tb.wd f 3) (Tb.wd g 3))]) (by simp [results, Try.results27, go_sem]) rfl ⟨rfl, ?_⟩
  (repeat (first | (with_reducible exact Below.refl _ _) | (with_reducible assumption) | (with_reducible refine Below.drew ?_) | (with_reducible refine Below.setCell ?_ ?_ _; rotate_left; (first | omega | (simp <;> omega))) | (with_reducible refine Below.alloc ?_ ?_ _; rotate_left; (first | omega | (simp <;> omega)))))
theorem rand_any (f g : Tb.T) (w : World) :
    Calls Try.prog 27 #[Tb.tv f, Tb.tv g] w fun e w' => e = .returned (Tb.tv (f &&& g)) ∧ Below w.heap.size w w' := by
  have h := rand_raw f g w
  rw [← Tb.wd_and f g 0, ← Tb.wd_and f g 1, ← Tb.wd_and f g 2, ← Tb.wd_and f g 3] at h
  exact h

set_option maxRecDepth 100000 in
set_option maxHeartbeats 1000000 in
theorem ror_raw (f g : Tb.T) (w : World) :
    Calls Try.prog 25 #[Tb.tv f, Tb.tv g] w fun e w' => e = .returned (.agg #[.int .u64 (bits .or .u64 (Tb.wd f 0) (Tb.wd g 0)), .int .u64 (bits .or .u64 (Tb.wd f 1) (Tb.wd g 1)), .int .u64 (bits .or .u64 (Tb.wd f 2) (Tb.wd g 2)), .int .u64 (bits .or .u64 (Tb.wd f 3) (Tb.wd g 3))]) ∧ Below w.heap.size w w' := by
  go_enter Try.func25, Try.ntmps25
  go_wp2_with fail
  refine wp_loop_rounds 5 ?_
  rw [rounds_succ]
  go_wp2_with fail
  refine region_tail 9 (by kernel_rfl) (by kernel_rfl) ?_
  simp only [List.take_succ_cons, List.take_zero, List.drop_succ_cons, List.drop_zero]
  repeat still_step
  refine wpStill_nil ?_
  go_wp2_with fail
  rw [rounds_succ]
  go_wp2_with fail
  refine region_tail 9 (by kernel_rfl) (by kernel_rfl) ?_
  simp only [List.take_succ_cons, List.take_zero, List.drop_succ_cons, List.drop_zero]
  repeat still_step
  refine wpStill_nil ?_
  go_wp2_with fail
  rw [rounds_succ]
  go_wp2_with fail
  refine region_tail 9 (by kernel_rfl) (by kernel_rfl) ?_
  simp only [List.take_succ_cons, List.take_zero, List.drop_succ_cons, List.drop_zero]
  repeat still_step
  refine wpStill_nil ?_
  go_wp2_with fail
  rw [rounds_succ]
  go_wp2_with fail
  refine region_tail 9 (by kernel_rfl) (by kernel_rfl) ?_
  simp only [List.take_succ_cons, List.take_zero, List.drop_succ_cons, List.drop_zero]
  repeat still_step
  refine wpStill_nil ?_
  go_wp2_with fail
  rw [rounds_succ]
  go_wp2_with fail
  refine bodyPost_ret (v := .agg #[.int .u64 (bits .or .u64 (Tb.wd f 0) (Tb.wd g 0)), .int .u64 (bits .or .u64 (Tb.wd f 1) (Tb.wd g 1)), .int .u64 (bits .or .u64 (Tb.wd f 2) (Tb.wd g 2)), .int .u64 (bits .or .u64 (Tb.wd f 3) (Tb.wd g 3))]) (by simp [results, Try.results25, go_sem]) rfl ⟨rfl, ?_⟩
  (repeat (first | (with_reducible exact Below.refl _ _) | (with_reducible assumption) | (with_reducible refine Below.drew ?_) | (with_reducible refine Below.setCell ?_ ?_ _; rotate_left; (first | omega | (simp <;> omega))) | (with_reducible refine Below.alloc ?_ ?_ _; rotate_left; (first | omega | (simp <;> omega)))))
theorem ror_any (f g : Tb.T) (w : World) :
    Calls Try.prog 25 #[Tb.tv f, Tb.tv g] w fun e w' => e = .returned (Tb.tv (f ||| g)) ∧ Below w.heap.size w w' := by
  have h := ror_raw f g w
  rw [← Tb.wd_or f g 0, ← Tb.wd_or f g 1, ← Tb.wd_or f g 2, ← Tb.wd_or f g 3] at h
  exact h

set_option maxRecDepth 100000 in
set_option maxHeartbeats 1000000 in
theorem rxor_raw (f g : Tb.T) (w : World) :
    Calls Try.prog 29 #[Tb.tv f, Tb.tv g] w fun e w' => e = .returned (.agg #[.int .u64 (bits .xor .u64 (Tb.wd f 0) (Tb.wd g 0)), .int .u64 (bits .xor .u64 (Tb.wd f 1) (Tb.wd g 1)), .int .u64 (bits .xor .u64 (Tb.wd f 2) (Tb.wd g 2)), .int .u64 (bits .xor .u64 (Tb.wd f 3) (Tb.wd g 3))]) ∧ Below w.heap.size w w' := by
  go_enter Try.func29, Try.ntmps29
  go_wp2_with fail
  refine wp_loop_rounds 5 ?_
  rw [rounds_succ]
  go_wp2_with fail
  refine region_tail 9 (by kernel_rfl) (by kernel_rfl) ?_
  simp only [List.take_succ_cons, List.take_zero, List.drop_succ_cons, List.drop_zero]
  repeat still_step
  refine wpStill_nil ?_
  go_wp2_with fail
  rw [rounds_succ]
  go_wp2_with fail
  refine region_tail 9 (by kernel_rfl) (by kernel_rfl) ?_
  simp only [List.take_succ_cons, List.take_zero, List.drop_succ_cons, List.drop_zero]
  repeat still_step
  refine wpStill_nil ?_
  go_wp2_with fail
  rw [rounds_succ]
  go_wp2_with fail
  refine region_tail 9 (by kernel_rfl) (by kernel_rfl) ?_
  simp only [List.take_succ_cons, List.take_zero, List.drop_succ_cons, List.drop_zero]
  repeat still_step
  refine wpStill_nil ?_
  go_wp2_with fail
  rw [rounds_succ]
  go_wp2_with fail
  refine region_tail 9 (by kernel_rfl) (by kernel_rfl) ?_
  simp only [List.take_succ_cons, List.take_zero, List.drop_succ_cons, List.drop_zero]
  repeat still_step
  refine wpStill_nil ?_
  go_wp2_with fail
  rw [rounds_succ]
  go_wp2_with fail
  refine bodyPost_ret (v := .agg #[.int .u64 (bits .xor .u64 (Tb.wd f 0) (Tb.wd g 0)), .int .u64 (bits .xor .u64 (Tb.wd f 1) (Tb.wd g 1)), .int .u64 (bits .xor .u64 (Tb.wd f 2) (Tb.wd g 2)), .int .u64 (bits .xor .u64 (Tb.wd f 3) (Tb.wd g 3))]) (by simp [results, Try.results29, go_sem]) rfl ⟨rfl, ?_⟩
  (repeat (first | (with_reducible exact Below.refl _ _) | (with_reducible assumption) | (with_reducible refine Below.drew ?_) | (with_reducible refine Below.setCell ?_ ?_ _; rotate_left; (first | omega | (simp <;> omega))) | (with_reducible refine Below.alloc ?_ ?_ _; rotate_left; (first | omega | (simp <;> omega)))))
theorem rxor_any (f g : Tb.T) (w : World) :
    Calls Try.prog 29 #[Tb.tv f, Tb.tv g] w fun e w' => e = .returned (Tb.tv (f ^^^ g)) ∧ Below w.heap.size w w' := by
  have h := rxor_raw f g w
  rw [← Tb.wd_xor f g 0, ← Tb.wd_xor f g 1, ← Tb.wd_xor f g 2, ← Tb.wd_xor f g 3] at h
  exact h

set_option maxRecDepth 100000 in
set_option maxHeartbeats 1000000 in
theorem rnot_raw (f : Tb.T) (w : World) :
    Calls Try.prog 26 #[Tb.tv f] w fun e w' => e = .returned (.agg #[.int .u64 (Tb.nt (Tb.wd f 0)), .int .u64 (Tb.nt (Tb.wd f 1)), .int .u64 (Tb.nt (Tb.wd f 2)), .int .u64 (Tb.nt (Tb.wd f 3))]) ∧ Below w.heap.size w w' := by
  have u0 : Op.unary .xor (.int .u64 (Tb.wd f 0)) = pure (.int .u64 (Tb.nt (Tb.wd f 0))) := Tb.nt_op _
  have u1 : Op.unary .xor (.int .u64 (Tb.wd f 1)) = pure (.int .u64 (Tb.nt (Tb.wd f 1))) := Tb.nt_op _
  have u2 : Op.unary .xor (.int .u64 (Tb.wd f 2)) = pure (.int .u64 (Tb.nt (Tb.wd f 2))) := Tb.nt_op _
  have u3 : Op.unary .xor (.int .u64 (Tb.wd f 3)) = pure (.int .u64 (Tb.nt (Tb.wd f 3))) := Tb.nt_op _
  go_enter Try.func26, Try.ntmps26
  go_wp2_with fail
  refine wp_loop_rounds 5 ?_
  rw [rounds_succ]
  go_wp2_with fail
  rw [rounds_succ]
  go_wp2_with fail
  rw [rounds_succ]
  go_wp2_with fail
  rw [rounds_succ]
  go_wp2_with fail
  rw [rounds_succ]
  go_wp2_with fail
  refine bodyPost_ret (v := .agg #[.int .u64 (Tb.nt (Tb.wd f 0)), .int .u64 (Tb.nt (Tb.wd f 1)), .int .u64 (Tb.nt (Tb.wd f 2)), .int .u64 (Tb.nt (Tb.wd f 3))]) (by simp [results, Try.results26, go_sem]) rfl ⟨rfl, ?_⟩
  (repeat (first | (with_reducible exact Below.refl _ _) | (with_reducible assumption) | (with_reducible refine Below.drew ?_) | (with_reducible refine Below.setCell ?_ ?_ _; rotate_left; (first | omega | (simp <;> omega))) | (with_reducible refine Below.alloc ?_ ?_ _; rotate_left; (first | omega | (simp <;> omega)))))
theorem rnot_any (f : Tb.T) (w : World) :
    Calls Try.prog 26 #[Tb.tv f] w fun e w' => e = .returned (Tb.tv (~~~f)) ∧ Below w.heap.size w w' := by
  have h := rnot_raw f w
  rw [Tb.nt_wd f 0 (by omega), Tb.nt_wd f 1 (by omega), Tb.nt_wd f 2 (by omega), Tb.nt_wd f 3 (by omega)] at h
  exact h

end Go.Proofs.Ytfgokhafiffbaaa

/-
  The walks of the document's tables, second part: a bit set, constants, variables.
-/
namespace Go.Proofs.Ytfgokhafiffbaaa
set_option linter.unusedVariables false
open Go.RowKit
def Tb.setb (F : Tb.T) (x : Nat) (b : Bool) : Tb.T := if b then F ||| (1#256 <<< x) else F

set_option maxRecDepth 100000 in
set_option maxHeartbeats 1000000 in
theorem rset_any (F : Tb.T) (p x : Nat) (b : Bool) (w : World) (hx : x < 256) (hB : Blk w p 29 (Tb.tcells F)) :
    Calls Try.prog 28 #[.pointer (some ⟨p, 0, none⟩), .int .u8 (x : Int), .bool b] w fun e w' => e = .returned (.tuple #[]) ∧ Blk w' p 29 (Tb.tcells (Tb.setb F x b)) ∧ Below p w w' := by
  cases b with
  | false =>
    go_enter Try.func28, Try.ntmps28
    go_wp2_with fail
    go_end0
    exact ⟨rfl, hB, Below.refl _ _⟩
  | true =>
    have hq5 : IntKind.u8.wrap ((x : Int) / 64) = (x : Int) / 64 := by rw [IntKind.wrap_u8]; omega
    have hq7 : (x : Int).tmod 64 = (x : Int) % 64 := Int.tmod_eq_emod_of_nonneg (by omega)
    have hq1 : (x : Int) / 64 < 4 := by omega
    have hq2 : 0 ≤ (x : Int) / 64 := by omega
    have hq3 : ((x : Int) / 64).toNat = x / 64 := by omega
    have hq4 : 0 ≤ (x : Int) % 64 := by omega
    have e1 : (w.cell? ⟨p, x / 64, none⟩) = some (.int .u64 (Tb.wd F (x / 64))) := (hB.cell _).trans (Tb.tcells_at _ x hx)
    have e2 : (w.frozen? ⟨p, x / 64, none⟩) = false := hB.frozen _
    have hset := hB.set_ (x / 64) (.int .u64 (bits .or .u64 (Tb.wd F (x / 64)) (IntKind.u64.wrap (2 ^ (x % 64)))))
    rw [Tb.wrap_pow x, Tb.tcells_set _ x hx, ← Tb.wrap_pow x] at hset
    have hbb := (Below.refl p w).setCell (p := ⟨p, x / 64, none⟩) (Nat.le_refl _) (.int .u64 (bits .or .u64 (Tb.wd F (x / 64)) (IntKind.u64.wrap (2 ^ (x % 64)))))
    go_enter Try.func28, Try.ntmps28
    go_wp2_with fail
    refine region_tail 15 (by kernel_rfl) (by kernel_rfl) ?_
    simp only [List.take_succ_cons, List.take_zero, List.drop_succ_cons, List.drop_zero]
    repeat still_step
    refine wpStill_nil ?_
    go_wp2_with fail
    go_end0
    exact ⟨rfl, hset.drew, hbb.drew⟩

theorem Tb.tabTo_setb (p : Nat → Bool) (k : Nat) : Tb.setb (Tb.tabTo p k) k (p k) = Tb.tabTo p (k + 1) := by
  unfold Tb.setb
  cases h : p k
  · rw [Tb.tabTo_no h]; rfl
  · rw [Tb.tabTo_yes h]; rfl
theorem Tb.setb_same (p : Nat → Bool) (k : Nat) (b : Bool) (h : b = p k) : Tb.setb (Tb.tabTo p k) k b = Tb.tabTo p (k + 1) := by rw [h, Tb.tabTo_setb]
/-- what a loop that sets bit by bit keeps -/
structure SetTo (w wr : World) (p : Nat → Bool) (k : Nat) : Prop where
  below : Below w.heap.size w wr
  res : Blk wr w.heap.size 29 (Tb.tcells 0#256)
  tab : Blk wr (w.heap.size + 1) 29 (Tb.tcells (Tb.tabTo p k))
theorem SetTo.start (w : World) (p : Nat → Bool) : SetTo w ((w.alloc (.cells #[.int .u64 0, .int .u64 0, .int .u64 0, .int .u64 0] 29)).alloc (.cells #[.int .u64 0, .int .u64 0, .int .u64 0, .int .u64 0] 29)) p 0 := by
  have h1 := Blk.new w 29 #[.int .u64 0, .int .u64 0, .int .u64 0, .int .u64 0]
  have h2 := Blk.new (w.alloc (.cells #[.int .u64 0, .int .u64 0, .int .u64 0, .int .u64 0] 29)) 29 #[.int .u64 0, .int .u64 0, .int .u64 0, .int .u64 0]
  rw [show (w.alloc (.cells #[.int .u64 0, .int .u64 0, .int .u64 0, .int .u64 0] 29)).heap.size = w.heap.size + 1 from by simp] at h2
  have h3 := h1.alloc (.cells #[.int .u64 0, .int .u64 0, .int .u64 0, .int .u64 0] 29)
  refine ⟨?_, ?_, ?_⟩
  · (repeat (first | (with_reducible exact Below.refl _ _) | (with_reducible assumption) | (with_reducible refine Below.drew ?_) | (with_reducible refine Below.setCell ?_ ?_ _; rotate_left; (first | omega | (simp <;> omega))) | (with_reducible refine Below.alloc ?_ ?_ _; rotate_left; (first | omega | (simp <;> omega)))))
  · rw [Tb.tcells_zero]; exact h3
  · rw [Tb.tabTo_zero, Tb.tcells_zero]; exact h2
theorem SetTo.step {w wr w1 : World} {p : Nat → Bool} {k : Nat} {F : Tb.T} (h : SetTo w wr p k) (hb : Below (w.heap.size + 1) wr w1) (hB : Blk w1 (w.heap.size + 1) 29 (Tb.tcells F)) (hF : F = Tb.tabTo p (k + 1)) : SetTo w w1 p (k + 1) :=
  ⟨h.below.trans (hb.mono (by omega)), h.res.below hb (by omega), hF ▸ hB⟩

set_option maxRecDepth 100000 in
set_option maxHeartbeats 1000000 in
theorem rconst_any (b : Bool) (w : World) :
    Calls Try.prog 38 #[.bool b] w fun e w' => e = .returned (Tb.tv (Tb.cst b)) ∧ Below w.heap.size w w' := by
  have hS := SetTo.start w (fun _ => b)
  go_enter Try.func38, Try.ntmps38
  go_wp2_with fail
  go_loopw [4] (fun i wr => ∃ k : Nat, k ≤ 256 ∧ i = .int .i64 k ∧ SetTo w wr (fun _ => b) k) (fun i _ => 256 - (intOf i).toNat)
  case atStart => exact ⟨0, by omega, rfl, hS⟩
  case round =>
    rename_i wr
    clear hS
    obtain ⟨k, hk, rfl, hS⟩ := hrel
    by_cases hlt : k < 256
    · have hq : IntKind.u8.wrap (k : Int) = (k : Int) := by rw [IntKind.wrap_u8]; omega
      go_wp2_with fail
      refine (rset_any _ _ k b _ hlt hS.tab).mono ?_
      rintro e w1 ⟨rfl, hB, hb⟩
      have hS' := hS.step hb hB (Tb.setb_same (fun _ => b) k b rfl)
      clear hB hb hS
      go_wp2_with fail
      exact ⟨⟨k + 1, by omega, by go_num, hS'⟩, by simp [intOf]; omega⟩
    · obtain rfl : k = 256 := by omega
      obtain ⟨⟨a0, a1, a2, a3⟩, b0, b1, b2, b3⟩ := tfacts hS.res
      obtain ⟨⟨c0, c1, c2, c3⟩, d0, d1, d2, d3⟩ := tfacts hS.tab
      rw [← Tb.tab_def, Tb.tab_cst] at c0 c1 c2 c3
      have hb := hS.below
      clear hS
      go_wp2_with fail
      refine bodyPost_ret (v := Tb.tv (Tb.cst b)) (by simp [results, Try.results38, go_sem, a0, a1, a2, a3]) rfl ⟨rfl, ?_⟩
      (repeat (first | (with_reducible exact Below.refl _ _) | (with_reducible assumption) | (with_reducible refine Below.drew ?_) | (with_reducible refine Below.setCell ?_ ?_ _; rotate_left; (first | omega | (simp <;> omega))) | (with_reducible refine Below.alloc ?_ ?_ _; rotate_left; (first | omega | (simp <;> omega))) | (with_reducible refine Below.trans ?_ (hb.mono ?_); rotate_left; (first | omega | (simp <;> omega)))))

theorem Tb.i64_bit : ∀ x : Nat, x < 256 → ∀ v : Nat, v < 8 → (bits .and .i64 ((x : Int) / 2 ^ v) 1 == 1) = x.testBit v := by decide +kernel

set_option maxRecDepth 100000 in
set_option maxHeartbeats 1000000 in
theorem rvar_any (v : Int) (w : World) :
    Calls Try.prog 10 #[.int .i64 v] w fun e w' => e = .returned (Tb.tv (Tb.var v)) ∧ Below w.heap.size w w' := by
  have hS := SetTo.start w (fun x => Tb.kn v && x.testBit v.toNat)
  cases hk : Tb.kn v with
  | false =>
    have hv : ¬ (v ≥ 0 ∧ v < 8) := by unfold Tb.kn at hk; simp at hk; omega
    have hz : Tb.var v = 0#256 := Tb.ext_get fun x hx => by rw [Tb.var_get v x hx, hk]; simp
    obtain ⟨⟨a0, a1, a2, a3⟩, b0, b1, b2, b3⟩ := tfacts hS.res
    obtain ⟨⟨c0, c1, c2, c3⟩, d0, d1, d2, d3⟩ := tfacts hS.tab
    rw [Tb.tabTo_zero] at c0 c1 c2 c3
    have hb := hS.below
    have HZ := Bx.mk hz
    clear hS hz
    have z0 := Tb.wd_zero 0
    have z1 := Tb.wd_zero 1
    have z2 := Tb.wd_zero 2
    have z3 := Tb.wd_zero 3
    have fin : Tb.tv (Tb.var v) = .agg #[.int .u64 0, .int .u64 0, .int .u64 0, .int .u64 0] := by rw [HZ.out]; unfold Tb.tv; rw [z0, z1, z2, z3]
    rw [fin]
    clear fin HZ
    by_cases h0 : v ≥ 0
    · have h8 : ¬ v < 8 := by omega
      clear hv hk
      go_enter Try.func10, Try.ntmps10
      go_wp2_with fail
      refine wp_loop_rounds 1 ?_
      rw [rounds_succ]
      go_wp2_with fail
      refine bodyPost_ret (v := .agg #[.int .u64 0, .int .u64 0, .int .u64 0, .int .u64 0]) (by simp [results, Try.results10, go_sem]) rfl ⟨rfl, ?_⟩
      (repeat (first | (with_reducible exact Below.refl _ _) | (with_reducible assumption) | (with_reducible refine Below.drew ?_) | (with_reducible refine Below.setCell ?_ ?_ _; rotate_left; (first | omega | (simp <;> omega))) | (with_reducible refine Below.alloc ?_ ?_ _; rotate_left; (first | omega | (simp <;> omega)))))
    · clear hv hk
      go_enter Try.func10, Try.ntmps10
      go_wp2_with fail
      refine wp_loop_rounds 1 ?_
      rw [rounds_succ]
      go_wp2_with fail
      refine bodyPost_ret (v := .agg #[.int .u64 0, .int .u64 0, .int .u64 0, .int .u64 0]) (by simp [results, Try.results10, go_sem]) rfl ⟨rfl, ?_⟩
      (repeat (first | (with_reducible exact Below.refl _ _) | (with_reducible assumption) | (with_reducible refine Below.drew ?_) | (with_reducible refine Below.setCell ?_ ?_ _; rotate_left; (first | omega | (simp <;> omega))) | (with_reducible refine Below.alloc ?_ ?_ _; rotate_left; (first | omega | (simp <;> omega)))))
  | true =>
    obtain ⟨h0, h8⟩ := kn_yes hk
    obtain ⟨n, rfl⟩ : ∃ n : Nat, v = (n : Int) := ⟨v.toNat, by omega⟩
    have hn : n < 8 := by omega
    simp only [hk, Bool.true_and, Int.toNat_natCast] at hS
    have HV := Bx.mk (show Tb.tab (fun x => x.testBit n) = Tb.var (n : Int) from Tb.tab_eq fun x hx => by rw [Tb.var_get _ _ hx, hk]; simp)
    clear hk
    have hq2 : IntKind.u64.wrap (n : Int) = (n : Int) := by rw [IntKind.wrap_u64]; omega
    go_enter Try.func10, Try.ntmps10
    go_wp2_with fail
    go_loopw [4] (fun i wr => ∃ k : Nat, k ≤ 256 ∧ i = .int .i64 k ∧ SetTo w wr (fun x => x.testBit n) k) (fun i _ => 256 - (intOf i).toNat)
    case atStart => exact ⟨0, by omega, rfl, hS⟩
    case round =>
      rename_i wr
      clear hS
      obtain ⟨k, hk, rfl, hS⟩ := hrel
      by_cases hlt : k < 256
      · have hq : IntKind.u8.wrap (k : Int) = (k : Int) := by rw [IntKind.wrap_u8]; omega
        have hbit := Tb.i64_bit k hlt n hn
        go_wp2_with fail
        refine (rset_any _ _ k (k.testBit n) _ hlt hS.tab).mono ?_
        rintro e w1 ⟨rfl, hB, hb⟩
        have hS' := hS.step hb hB (Tb.setb_same (fun x => x.testBit n) k _ rfl)
        clear hB hb hS
        go_wp2_with fail
        exact ⟨⟨k + 1, by omega, by go_num, hS'⟩, by simp [intOf]; omega⟩
      · obtain rfl : k = 256 := by omega
        obtain ⟨⟨a0, a1, a2, a3⟩, b0, b1, b2, b3⟩ := tfacts hS.res
        obtain ⟨⟨c0, c1, c2, c3⟩, d0, d1, d2, d3⟩ := tfacts hS.tab
        rw [← Tb.tab_def, HV.out] at c0 c1 c2 c3
        have hb := hS.below
        clear hS
        go_wp2_with fail
        refine bodyPost_ret (v := Tb.tv (Tb.var (n : Int))) (by simp [results, Try.results10, go_sem, a0, a1, a2, a3]) rfl ⟨rfl, ?_⟩
        (repeat (first | (with_reducible exact Below.refl _ _) | (with_reducible assumption) | (with_reducible refine Below.drew ?_) | (with_reducible refine Below.setCell ?_ ?_ _; rotate_left; (first | omega | (simp <;> omega))) | (with_reducible refine Below.alloc ?_ ?_ _; rotate_left; (first | omega | (simp <;> omega))) | (with_reducible refine Below.trans ?_ (hb.mono ?_); rotate_left; (first | omega | (simp <;> omega)))))
end Go.Proofs.Ytfgokhafiffbaaa

/-
  Formulas: what is known of the two constant texts.
-/
namespace Go.Proofs.Ytfgokhafiffbaaa
set_option linter.unusedVariables false
open Go.RowKit

def kt : Tr := ⟨7, 9, 0, (⟨4, 3, 0, (⟨1, 0, 0, .nil⟩ : Tr).on ((⟨3, 5, 0, (⟨1, 6, 1, .nil⟩ : Tr).on .nil⟩ : Tr).on .nil)⟩ : Tr).on ((⟨1, 12, 2, .nil⟩ : Tr).on .nil)⟩
theorem kt_parse : Ex.parse (bl { data := #[118, 48, 32, 38, 32, 33, 118, 49, 32, 45, 62, 32, 118, 50] }) = (kt, 0, 0) := by decide +kernel
theorem kt_bad : Ex.parse (bl { data := #[118, 48, 32, 38] }) = (Tr.zero, 4, 230) := by decide +kernel
theorem kt_func : Ex.func kt = (~~~(Tb.var 0 &&& ~~~(Tb.var 1))) ||| Tb.var 2 := by
  have h : Ex.is kt = true := by decide +kernel
  unfold Ex.func
  rw [if_pos h]
  simp [Ex.table, kt, Tr.on, Fo.tabs, Ex.tabk]
set_option maxHeartbeats 8000000 in
theorem known_any (w : World) : Calls Try.prog 8 #[] w fun e w' => e = .returned (.bool true) ∧ Below w.heap.size w w' := by
  have hp1 := fun u => parse_any { data := #[118, 48, 32, 38, 32, 33, 118, 49, 32, 45, 62, 32, 118, 50] } u
  have hp2 := fun u => parse_any { data := #[118, 48, 32, 38] } u
  rw [kt_parse] at hp1
  rw [kt_bad] at hp2
  have heq := run_equal_max (F := (~~~(Tb.var 0 &&& ~~~(Tb.var 1))) ||| Tb.var 2) (G := (~~~(Tb.var 0 &&& ~~~(Tb.var 1))) ||| Tb.var 2) (b := true) (by simp)
  have HP1 := Bx.mk hp1
  have HP2 := Bx.mk hp2
  clear hp1 hp2
  go_enter Try.func8, Try.ntmps8
  go_wp2_with fail
  refine (HP1.out _).mono ?_
  rintro e w1 ⟨sl, rfl, hS1, hb1⟩
  obtain ⟨p1, c1, rfl⟩ := hS1.is
  have hB1 := Blk.new w1 36 #[.int .i64 7, .int .i64 9, .int .i64 0, .slice p1 2 c1]
  have HS1 := Bx.mk (hS1.alloc (.cells #[.int .i64 7, .int .i64 9, .int .i64 0, .slice p1 2 c1] 36))
  have HB1 := Bx.mk hB1
  have HG1 := Bx.mk (hb1.alloc hb1.size (.cells #[.int .i64 7, .int .i64 9, .int .i64 0, .slice p1 2 c1] 36))
  clear hS1 hB1 hb1
  unfold Pv Ev
  change _
  simp only [show kt.k = 7 from rfl, show kt.a = 9 from rfl, show kt.v = 0 from rfl, show kt.kids.len = 2 from rfl]
  go_wp2_with fail
  refine (HP2.out _).mono ?_
  rintro e w2 ⟨sl2, rfl, hS2, hb2⟩
  obtain ⟨p2, c2, rfl⟩ := hS2.is
  have hB2 := (HB1.out.below hb2 HB1.out.lt).alloc (.cells #[.int .i64 0, .int .i64 0, .int .i64 0, .slice p2 0 c2] 36)
  have hT2 := (HS1.out.below hb2).alloc (.cells #[.int .i64 0, .int .i64 0, .int .i64 0, .slice p2 0 c2] 36)
  have hG2 := (HG1.out.trans (hb2.mono HG1.out.size)).alloc (Nat.le_trans HG1.out.size hb2.size) (.cells #[.int .i64 0, .int .i64 0, .int .i64 0, .slice p2 0 c2] 36)
  obtain ⟨a0, a1, a2, a3, _, _, _, _⟩ := cells4 hB2
  have HB2 := Bx.mk hB2
  have HT2 := Bx.mk hT2
  have HG2 := Bx.mk hG2
  clear hB2 hT2 hG2 hS2 hb2
  unfold Pv Ev
  simp only [show Tr.zero.k = 0 from rfl, show Tr.zero.a = 0 from rfl, show Tr.zero.v = 0 from rfl, show Tr.zero.kids.len = 0 from rfl]
  go_wp2_with fail
  refine (print_v3 _).mono ?_
  rintro e w3 ⟨rfl, hb3⟩
  have hB3 := HB2.out.below hb3 HB2.out.lt
  have hT3 := HT2.out.below hb3
  have hG3 := HG2.out.trans (hb3.mono HG2.out.size)
  clear a0 a1 a2 a3
  obtain ⟨a0, a1, a2, a3, _, _, _, _⟩ := cells4 hB3
  have hF := func_any kt _ _ _ hT3
  rw [kt_func] at hF
  unfold Ev at hF
  simp only [show kt.k = 7 from rfl, show kt.a = 9 from rfl, show kt.v = 0 from rfl] at hF
  have HF := Bx.mk hF
  have HG3 := Bx.mk hG3
  clear hB3 hT3 hG3 hb3 hF
  go_wp2_with fail
  refine HF.out.mono ?_
  rintro e w4 ⟨rfl, hb4⟩
  have HG4 := Bx.mk (HG3.out.trans (hb4.mono HG3.out.size))
  clear hb4 a0 a1 a2 a3
  go_wp2_with fail
  refine (rvar_any 0 _).mono ?_
  rintro e w5 ⟨rfl, hb5⟩
  have HG5 := Bx.mk (HG4.out.trans (hb5.mono HG4.out.size))
  clear hb5
  go_wp2_with fail
  refine (rvar_any 1 _).mono ?_
  rintro e w6 ⟨rfl, hb6⟩
  have HG6 := Bx.mk (HG5.out.trans (hb6.mono HG5.out.size))
  clear hb6
  go_wp2_with fail
  refine (rnot_any (Tb.var 1) _).mono ?_
  rintro e w7 ⟨rfl, hb7⟩
  have HG7 := Bx.mk (HG6.out.trans (hb7.mono HG6.out.size))
  clear hb7
  go_wp2_with fail
  refine (rand_any (Tb.var 0) (~~~(Tb.var 1)) _).mono ?_
  rintro e w8 ⟨rfl, hb8⟩
  have HG8 := Bx.mk (HG7.out.trans (hb8.mono HG7.out.size))
  clear hb8
  go_wp2_with fail
  refine (rnot_any (Tb.var 0 &&& ~~~(Tb.var 1)) _).mono ?_
  rintro e w9 ⟨rfl, hb9⟩
  have HG9 := Bx.mk (HG8.out.trans (hb9.mono HG8.out.size))
  clear hb9
  go_wp2_with fail
  refine (rvar_any 2 _).mono ?_
  rintro e w10 ⟨rfl, hb10⟩
  have HG10 := Bx.mk (HG9.out.trans (hb10.mono HG9.out.size))
  clear hb10
  go_wp2_with fail
  refine (ror_any (~~~(Tb.var 0 &&& ~~~(Tb.var 1))) (Tb.var 2) _).mono ?_
  rintro e w11 ⟨rfl, hb11⟩
  have HG11 := Bx.mk (HG10.out.trans (hb11.mono HG10.out.size))
  clear hb11
  go_wp2_with fail
  go_ret
  exact ⟨rfl, HG11.out⟩
end Go.Proofs.Ytfgokhafiffbaaa
