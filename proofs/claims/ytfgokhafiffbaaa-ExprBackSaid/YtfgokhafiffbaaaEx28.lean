/-
  Formulas: Same.
-/
import Derived.Test.YtfgokhafiffbaaaEx22
namespace Go.Proofs.Ytfgokhafiffbaaa
set_option linter.unusedVariables false
open Go.RowKit

/-- the same but for their places -/
def Fo.same : Fo → Fo → Bool
  | .nil, .nil => true
  | .cons k _ v kids rest, .cons k' _ v' kids' rest' => (decide (k = k') && decide (v = v') && Fo.same kids kids') && Fo.same rest rest'
  | _, _ => false
def Ex.same (a b : Tr) : Bool := decide (a.k = b.k) && decide (a.v = b.v) && Fo.same a.kids b.kids
theorem Fo.same_on (x y : Tr) (r s : Fo) : Fo.same (x.on r) (y.on s) = (Ex.same x y && Fo.same r s) := by unfold Tr.on Ex.same; simp [Fo.same]
theorem Fo.same_len : ∀ (F G : Fo), F.len ≠ G.len → Fo.same F G = false
  | .nil, .nil, h => absurd rfl h
  | .cons .., .nil, _ => by simp [Fo.same]
  | .nil, .cons .., _ => by simp [Fo.same]
  | .cons k a v kids rest, .cons k' a' v' kids' rest', h => by
    have := Fo.same_len rest rest' (fun e => h (by simp [Fo.len, e]))
    simp [Fo.same, this]
theorem Fo.len_nodes : ∀ F : Fo, F.len ≤ F.nodes
  | .nil => Nat.le_refl _
  | .cons k a v kids rest => by have := Fo.len_nodes rest; simp [Fo.len, Fo.nodes]; omega
theorem intOf_i (k : IntKind) (n : Int) : intOf (.int k n) = n := rfl
/-- what is known of Same for what has so few nodes -/
def Sz (n : Nat) : Prop := ∀ (a b : Tr) (sa sb : Value) (Ba Bb : Nat → Prop) (u : World), (a.on .nil).nodes ≤ n → SlF u Ba sa a.kids → SlF u Bb sb b.kids →
  Calls Try.prog 17 #[Ev a sa, Ev b sb] u fun e w' => e = .returned (.bool (Ex.same a b)) ∧ Below u.heap.size u w'
/-- where EqualFunc's loop stands -/
structure EQ (w wr : World) (b o b' o' i : Nat) (F G F2 G2 : Fo) : Prop where
  be : Below w.heap.size w wr
  f : RdF w (fun _ => True) F2 b (o + i * 4)
  g : RdF w (fun _ => True) G2 b' (o' + i * 4)
  lf : F.len = i + F2.len
  lg : G.len = i + G2.len
  nd : F2.nodes ≤ F.nodes
  val : Fo.same F G = Fo.same F2 G2
theorem RdF.top {w : World} {B : Nat → Prop} {F : Fo} {b o : Nat} (h : RdF w B F b o) : RdF w (fun _ => True) F b o := RdF.mono (fun _ _ _ => True.intro) F b o h

set_option maxHeartbeats 8000000 in
theorem eqf_any (n : Nat) (hn1 : n ≤ 1000000) (ih : Sz n) (F G : Fo) (sF sG : Value) (Bf Bg : Nat → Prop) (w : World) (hF : SlF w Bf sF F) (hG : SlF w Bg sG G) (hn : F.nodes ≤ n) :
    Calls Try.prog 36 #[sF, sG, .func (.func 17) #[] #[]] w fun e w' => e = .returned (.bool (Fo.same F G)) ∧ Below w.heap.size w w' := by
  obtain ⟨p, c, b, o, rfl, hp, hc, hr⟩ := hF
  obtain ⟨p', c', b', o', rfl, hp', hc', hr'⟩ := hG
  by_cases hl : F.len = G.len
  · have q : (F.len : Int) = (G.len : Int) := by omega
    have q2 : ((F.len : Int) == (G.len : Int)) = true := by rw [beq_iff_eq]; exact q
    have hlb := Fo.len_nodes F
    have H0 : Bx (EQ w w b o b' o' 0 F G F G) := ⟨⟨Below.refl _ _, by rw [Nat.zero_mul, Nat.add_zero]; exact hr.top, by rw [Nat.zero_mul, Nat.add_zero]; exact hr'.top, by omega, by omega, Nat.le_refl _, rfl⟩⟩
    have HP : Bx ((F.len ≠ 0 → p = some ⟨b, o, none⟩) ∧ (G.len ≠ 0 → p' = some ⟨b', o', none⟩)) := ⟨by
      constructor
      · intro h
        rcases hp with ⟨rfl, _⟩ | e
        · exact absurd rfl h
        · exact e
      · intro h
        rcases hp' with ⟨rfl, _⟩ | e
        · exact absurd rfl h
        · exact e⟩
    have HL := Bx.mk hl
    have HB := Bx.mk (show F.len ≤ 1000000 from by omega)
    have HN := Bx.mk hn
    have IH := Bx.mk ih
    clear hp hp' hr hr' hlb hn ih hl hc hc'
    have hcf : ∀ args w, (callFunc 17 args).run Try.prog w = .ok (.enter 17 args) w := fun _ _ => rfl
    go_enter Try.func36, Try.ntmps36
    go_wp2_with fail
    go_loopw [17] (fun j wr => ∃ (i : Nat) (F2 G2 : Fo), j = .int .i64 (i : Int) ∧ EQ w wr b o b' o' i F G F2 G2) (fun j _ => F.len - (intOf j).toNat)
    case atStart => exact ⟨0, F, G, rfl, H0.out⟩
    case round =>
      obtain ⟨i, F2, G2, rfl, HQ⟩ := hrel
      have HQ := Bx.mk HQ
      cases F2 with
      | nil =>
        have hv : Bx (Fo.same F G = true) := ⟨by
          have h1 := HQ.out.lf
          have h2 := HQ.out.lg
          have h3 := HL.out
          have hG2 : G2 = .nil := Fo.len0 (by rw [show Fo.nil.len = 0 from rfl] at h1; omega)
          rw [HQ.out.val, hG2]; rfl⟩
        have q3 : ¬ (i : Int) < (F.len : Int) := by have h1 := HQ.out.lf; rw [show Fo.nil.len = 0 from rfl] at h1; omega
        have q4 : ¬ (i : Int) < (G.len : Int) := by have h1 := HQ.out.lf; have h3 := HL.out; rw [show Fo.nil.len = 0 from rfl] at h1; omega
        go_wp2_with fail
        go_ret
        exact ⟨by rw [hv.out]; rfl, HQ.out.be⟩
      | cons k a v kids rest =>
        cases G2 with
        | nil => exact absurd HL.out (by have h1 := HQ.out.lf; have h2 := HQ.out.lg; simp [Fo.len] at h1 h2; omega)
        | cons k' a' v' kids' rest' =>
          have h1 := HQ.out.lf
          have h2 := HQ.out.lg
          rw [show (Fo.cons k a v kids rest).len = rest.len + 1 from rfl] at h1
          rw [show (Fo.cons k' a' v' kids' rest').len = rest'.len + 1 from rfl] at h2
          have q3 : (i : Int) < (F.len : Int) := by omega
          have q4 : (i : Int) < (G.len : Int) := by omega
          obtain rfl := HP.out.1 (by omega)
          obtain rfl := HP.out.2 (by omega)
          have hib : i < 1000000 := by have := HB.out; omega
          obtain ⟨sx, Kx, hr1⟩ := kid_of HQ.out.f
          obtain ⟨sy, Ky, hr2⟩ := kid_of HQ.out.g
          obtain ⟨px, cx, hsx⟩ := Kx.sl.is
          obtain ⟨py, cy, hsy⟩ := Ky.sl.is
          subst hsx hsy
          have hba := HQ.out.be.alloc HQ.out.be.size (.cells #[.int .i64 k, .int .i64 a, .int .i64 v, .slice px kids.len cx] 36)
          have hbb := hba.alloc (by rw [alloc_size]; have := HQ.out.be.size; omega) (.cells #[.int .i64 k', .int .i64 a', .int .i64 v', .slice py kids'.len cy] 36)
          obtain ⟨y0, y1, y2, y3, _⟩ := Ky.below hba
          obtain ⟨x0, x1, x2, x3, _⟩ := Kx.below HQ.out.be
          obtain ⟨_, _, _, _, xS⟩ := Kx.below hbb
          obtain ⟨_, _, _, _, yS2⟩ := Ky.below hbb
          have hnd := HQ.out.nd
          have HI := Bx.mk (IH.out ⟨k, a, v, kids⟩ ⟨k', a', v', kids'⟩ _ _ _ _ _ (by have := HN.out; rw [Fo.nodes_on]; simp only [Fo.nodes] at hnd ⊢; omega) xS yS2)
          have HBA := Bx.mk hbb
          have HR1 := Bx.mk hr1
          have HR2 := Bx.mk hr2
          have H12 := Bx.mk (show F.len = i + (rest.len + 1) ∧ G.len = i + (rest'.len + 1) from ⟨h1, h2⟩)
          have HIB := Bx.mk hib
          simp only [] at x0 x1 x2 x3 y0 y1 y2 y3
          have hw : wrap64 ((i : Int) + 1) = (i : Int) + 1 := w64 _ (by omega)
          clear hba hbb Kx Ky hr1 hr2 xS yS2 hnd h1 h2 hib
          unfold Ev at HI
          go_wp2_with fail
          refine HI.out.mono ?_
          rintro e u ⟨rfl, hb⟩
          have HU := Bx.mk (HBA.out.trans (hb.mono HBA.out.size))
          clear hb
          have hvv : Bx (Fo.same F G = (Ex.same ⟨k, a, v, kids⟩ ⟨k', a', v', kids'⟩ && Fo.same rest rest')) := ⟨by rw [HQ.out.val]; exact Fo.same_on ⟨k, a, v, kids⟩ ⟨k', a', v', kids'⟩ rest rest'⟩
          cases hs : Ex.same ⟨k, a, v, kids⟩ ⟨k', a', v', kids'⟩ with
          | false =>
            have hv : Bx (Fo.same F G = false) := ⟨by rw [hvv.out, hs]; rfl⟩
            clear hs
            go_wp2_with fail
            go_ret
            exact ⟨by rw [hv.out]; rfl, HU.out⟩
          | true =>
            have hv : Bx (Fo.same F G = Fo.same rest rest') := ⟨by rw [hvv.out, hs]; rfl⟩
            clear hs
            go_wp2_with fail
            have h12 := H12.out
            have hib := HIB.out
            have hndq := HQ.out.nd
            refine ⟨⟨i + 1, rest, rest', by go_num, HU.out, ?_, ?_, by omega, by omega, by simp only [Fo.nodes] at hndq; omega, hv.out⟩, ?_⟩
            · have := HR1.out
              rw [show o + (i + 1) * 4 = o + i * 4 + 4 from by omega]
              exact this
            · have := HR2.out
              rw [show o' + (i + 1) * 4 = o' + i * 4 + 4 from by omega]
              exact this
            · rw [intOf_i, intOf_i, hw]
              clear hw hndq
              omega
  · have q : ¬ (F.len : Int) = (G.len : Int) := by omega
    have q2 : ((F.len : Int) == (G.len : Int)) = false := by rw [beq_eq_false_iff_ne]; exact q
    have hv := Bx.mk (Fo.same_len F G hl)
    clear hl hp hp' hr hr' hn ih hc hc'
    go_enter Try.func36, Try.ntmps36
    go_wp2_with fail
    go_ret
    exact ⟨by rw [hv.out]; rfl, Below.refl _ _⟩
set_option maxHeartbeats 8000000 in
theorem Sz.succ (n : Nat) (hn1 : n ≤ 1000000) (ih : Sz n) : Sz (n + 1) := by
  intro a b sa sb Ba Bb w hn ha hb
  obtain ⟨pa, ca, rfl⟩ := ha.is
  obtain ⟨pb, cb, rfl⟩ := hb.is
  rw [Fo.nodes_on] at hn
  have hb1 := boxE w a.k a.a a.v (.slice pa a.kids.len ca)
  have hb2 := boxE (w.alloc (.cells #[.int .i64 a.k, .int .i64 a.a, .int .i64 a.v, .slice pa a.kids.len ca] 36)) b.k b.a b.v (.slice pb b.kids.len cb)
  have hb1' := hb1.alloc (.cells #[.int .i64 b.k, .int .i64 b.a, .int .i64 b.v, .slice pb b.kids.len cb] 36)
  rw [alloc_size] at hb2
  have hE := eqf_any n hn1 ih a.kids b.kids _ _ _ _ _ ((ha.alloc (.cells #[.int .i64 a.k, .int .i64 a.a, .int .i64 a.v, .slice pa a.kids.len ca] 36)).alloc (.cells #[.int .i64 b.k, .int .i64 b.a, .int .i64 b.v, .slice pb b.kids.len cb] 36))
    ((hb.alloc (.cells #[.int .i64 a.k, .int .i64 a.a, .int .i64 a.v, .slice pa a.kids.len ca] 36)).alloc (.cells #[.int .i64 b.k, .int .i64 b.a, .int .i64 b.v, .slice pb b.kids.len cb] 36)) (by rw [show Fo.nil.nodes = 0 from rfl] at hn; omega)
  have hbe := ((Below.refl w.heap.size w).alloc (Nat.le_refl _) (.cells #[.int .i64 a.k, .int .i64 a.a, .int .i64 a.v, .slice pa a.kids.len ca] 36)).alloc (by rw [alloc_size]; omega) (.cells #[.int .i64 b.k, .int .i64 b.a, .int .i64 b.v, .slice pb b.kids.len cb] 36)
  have HE := Bx.mk hE
  have HBE := Bx.mk hbe
  obtain ⟨c0, c1, c2, c3, _, _, _, _⟩ := cells4 hb1'
  obtain ⟨d0, d1, d2, d3, _, _, _, _⟩ := cells4 hb2
  clear hb1 hb2 hb1' hE hbe ha hb hn ih hn1
  unfold Ev
  by_cases hk : a.k = b.k
  · have q1 : (a.k == b.k) = true := by rw [beq_iff_eq]; exact hk
    by_cases hv : a.v = b.v
    · have q2 : (a.v == b.v) = true := by rw [beq_iff_eq]; exact hv
      have hS := Bx.mk (show Ex.same a b = Fo.same a.kids b.kids from by unfold Ex.same; rw [decide_eq_true hk, decide_eq_true hv]; rfl)
      clear hk hv
      go_enter Try.func17, Try.ntmps17
      go_wp2_with fail
      refine HE.out.mono ?_
      rintro e u ⟨rfl, hbu⟩
      have HU := Bx.mk (HBE.out.trans (hbu.mono HBE.out.size))
      clear hbu
      go_wp2_with fail
      go_ret
      exact ⟨by rw [hS.out]; rfl, HU.out⟩
    · have q2 : (a.v == b.v) = false := by rw [beq_eq_false_iff_ne]; exact hv
      have hS := Bx.mk (show Ex.same a b = false from by unfold Ex.same; rw [decide_eq_false hv]; simp)
      clear hk hv
      go_enter Try.func17, Try.ntmps17
      go_wp2_with fail
      go_ret
      exact ⟨by rw [hS.out]; rfl, HBE.out⟩
  · have q1 : (a.k == b.k) = false := by rw [beq_eq_false_iff_ne]; exact hk
    have hS := Bx.mk (show Ex.same a b = false from by unfold Ex.same; rw [decide_eq_false hk]; simp)
    clear hk
    go_enter Try.func17, Try.ntmps17
    go_wp2_with fail
    go_ret
    exact ⟨by rw [hS.out]; rfl, HBE.out⟩
theorem Sz.all : ∀ n, n ≤ 1000000 → Sz n
  | 0, _ => fun a b sa sb Ba Bb u h => by rw [Fo.nodes_on] at h; omega
  | n + 1, h => Sz.succ n (by omega) (Sz.all n (by omega))
theorem same_any (a b : Tr) (sa sb : Value) (Ba Bb : Nat → Prop) (u : World) (hn : (a.on .nil).nodes ≤ 1000000) (ha : SlF u Ba sa a.kids) (hb : SlF u Bb sb b.kids) :
    Calls Try.prog 17 #[Ev a sa, Ev b sb] u fun e w' => e = .returned (.bool (Ex.same a b)) ∧ Below u.heap.size u w' := Sz.all _ (Nat.le_refl _) a b sa sb Ba Bb u hn ha hb
end Go.Proofs.Ytfgokhafiffbaaa
