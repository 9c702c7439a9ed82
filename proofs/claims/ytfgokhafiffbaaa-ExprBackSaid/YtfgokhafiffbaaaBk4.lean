/-
  Formulas, plain: a print's signs; a print is read back, or is too deep.
-/
import Derived.Test.YtfgokhafiffbaaaBk3
namespace Go.Proofs.Ytfgokhafiffbaaa
set_option linter.unusedVariables false
open Go.RowKit

def nl (l : List UInt8) : List Nat := l.map UInt8.toNat
theorem nl_append (a b : List UInt8) : nl (a ++ b) = nl a ++ nl b := by unfold nl; simp
theorem nl_cons (a : UInt8) (b : List UInt8) : nl (a :: b) = a.toNat :: nl b := rfl
theorem nl_nil : nl [] = [] := rfl
theorem dig_nat {m : Nat} (h : m < 8) : (Ex.dig (m : Int)).toNat = 48 + m := by
  unfold Ex.dig
  rw [Int.toNat_natCast]
  simp [Nat.toUInt8, UInt8.toNat_ofNat']
  omega
/-- a piece that goes over into signs whatever follows that is no letter and no digit -/
def LexP (p : List UInt8) (ts : List Tok) : Prop := ∀ r, Brk r → LexTo (nl p ++ r) ts r
def LexA (p : List UInt8) (ts : List Tok) : Prop := ∀ r, LexTo (nl p ++ r) ts r
theorem LexA.app {p q : List UInt8} {ts us : List Tok} (h : LexA p ts) (k : LexA q us) : LexA (p ++ q) (ts ++ us) := fun r => by
  rw [nl_append, List.append_assoc]
  exact (h _).trans (k r)
theorem LexA.p {p : List UInt8} {ts : List Tok} (h : LexA p ts) : LexP p ts := fun r _ => h r
theorem LexA.lp : LexA [40] [.lp] := fun r => LexTo.lp r
theorem LexA.rp : LexA [41] [.rp] := fun r => LexTo.rp r
theorem LexA.comma : LexA [44, 32] [.comma] := fun r => (LexTo.comma (32 :: r)).trans (LexTo.blank r)
theorem LexA.not : LexA [33] [.not] := fun r => LexTo.not r
theorem LexA.ite : LexA [105, 116, 101, 40] [.ite, .lp] := fun r => LexTo.ite r
theorem LexA.bl : LexA [32] [] := fun r => LexTo.blank r
theorem LexP.par {p : List UInt8} {ts : List Tok} (h : LexP p ts) : LexA (Ex.par p) (Ex.tpar ts) := fun r => by
  unfold Ex.par Ex.tpar
  rw [nl_append, nl_append, List.append_assoc, List.append_assoc, List.append_assoc]
  exact (LexTo.lp _).trans ((h _ (Brk.cons r (by decide))).trans (LexTo.rp r))
theorem LexA.sgn {k : Int} (hk : 4 ≤ k ∧ k ≤ 8) : LexA (Ex.sgn k) [Ex.tkop k] := fun r => by
  have hc : k = 4 ∨ k = 5 ∨ k = 6 ∨ k = 7 ∨ k = 8 := by omega
  rcases hc with rfl | rfl | rfl | rfl | rfl
  · exact LexTo.and r
  · exact LexTo.or r
  · exact LexTo.xor r
  · exact LexTo.imp r
  · exact LexTo.iff r
def Fo.lx : Fo → Prop
  | .nil => True
  | .cons k a v kids rest => LexP (Ex.pr ⟨k, a, v, kids⟩) (Ex.pt ⟨k, a, v, kids⟩) ∧ rest.lx
theorem Fo.lx_on {x : Tr} {r : Fo} (h : (x.on r).lx) : LexP (Ex.pr x) (Ex.pt x) ∧ r.lx := h
theorem Fo.lx_all : ∀ F : Fo, F.allPlain = true → F.lx
  | .nil, _ => True.intro
  | .cons k a v kids rest, hp => by
    have hp' : ((⟨k, a, v, kids⟩ : Tr).on rest).allPlain = true := hp
    rw [Fo.allPlain_on, Bool.and_eq_true, Bool.and_eq_true] at hp'
    obtain ⟨⟨hpl, hka⟩, hre⟩ := hp'
    obtain ⟨h1, h2, h3, h4, h5⟩ := plain_shape hpl
    simp only [] at h1 h2 h3 h4 h5 hka
    refine ⟨?_, Fo.lx_all rest hre⟩
    have hub := Fo.lx_all kids hka
    have hv7 : (k = 1 ∨ k = 10 ∨ k = 11) → ∃ m : Fin 8, v = (m.val : Int) := fun h => by
      have ht : Ex.top k = 7 := by unfold Ex.top; rw [if_pos (by omega)]
      exact ⟨⟨v.toNat, by omega⟩, by simp; omega⟩
    have hfin : ∀ m : Fin 8, Fin.ofNat 8 ((m.val : Int)).toNat = m := fun m => by apply Fin.ext; simp
    unfold Ex.pr Ex.pt Ex.prk Ex.ptk
    simp only []
    have hc : k = 1 ∨ k = 2 ∨ k = 3 ∨ (4 ≤ k ∧ k ≤ 8) ∨ k = 9 ∨ k = 10 ∨ k = 11 := by omega
    rcases hc with rfl | rfl | rfl | hk | rfl | rfl | rfl
    · obtain ⟨m, rfl⟩ := hv7 (.inl rfl)
      simp only [Int.reduceEq, reduceIte]
      rw [hfin]
      intro r hr
      have := LexTo.var m hr
      rw [← dig_nat m.isLt] at this
      exact this
    · have ht : Ex.top 2 = 1 := by unfold Ex.top; rw [if_neg (by omega), if_pos rfl]
      simp only [Int.reduceEq, reduceIte]
      intro r hr
      by_cases hv : v = 0
      · subst hv
        exact LexTo.zero r
      · obtain rfl : v = 1 := by omega
        exact LexTo.one r
    · obtain ⟨x, e⟩ := Fo.len1 (F := kids) (by rw [h3, Ex.kids1 (by omega)])
      subst e
      have hx := (Fo.lx_on hub).1
      simp only [Int.reduceEq, reduceIte]
      exact (LexA.not.app hx.par).p
    · obtain ⟨x, y, e⟩ := Fo.len2 (F := kids) (by rw [h3, Ex.kids2 hk])
      subst e
      have hx := (Fo.lx_on hub).1
      have hy := (Fo.lx_on (Fo.lx_on hub).2).1
      simp only [show ¬ k = 1 by omega, show ¬ k = 2 by omega, show ¬ k = 3 by omega, show ¬ k = 10 by omega, show ¬ k = 11 by omega, show ¬ k = 9 by omega, if_false]
      have := ((((LexA.lp.app hx.par).app ((LexA.bl.app (LexA.sgn hk)).app LexA.bl)).app hy.par).app LexA.rp).p
      rw [show (x.on (y.on Fo.nil)).prs.getD 0 [] = Ex.pr x from rfl, show (x.on (y.on Fo.nil)).prs.getD 1 [] = Ex.pr y from rfl, show (x.on (y.on Fo.nil)).pts.getD 0 [] = Ex.pt x from rfl, show (x.on (y.on Fo.nil)).pts.getD 1 [] = Ex.pt y from rfl]
      simpa using this
    · obtain ⟨x, y, z, e⟩ := Fo.len3 (F := kids) (by rw [h3, Ex.kids3 rfl])
      subst e
      have hx := (Fo.lx_on hub).1
      have hy := (Fo.lx_on (Fo.lx_on hub).2).1
      have hz := (Fo.lx_on (Fo.lx_on (Fo.lx_on hub).2).2).1
      simp only [Int.reduceEq, reduceIte]
      exact ((((((LexA.ite.app hx.par).app LexA.comma).app hy.par).app LexA.comma).app hz.par).app LexA.rp).p
    · obtain ⟨x, e⟩ := Fo.len1 (F := kids) (by rw [h3, Ex.kids1 (by omega)])
      obtain ⟨m, rfl⟩ := hv7 (.inr (.inl rfl))
      subst e
      have hx := (Fo.lx_on hub).1
      simp only [Int.reduceEq, reduceIte]
      rw [hfin]
      have hq : LexA ([97, 108, 108, 32, 118] ++ [Ex.dig (m.val : Int)] ++ [32]) [.all, .var m] := fun r => by
        have h1 := LexTo.var m (Brk.cons r (show 32 < 48 by decide))
        rw [← dig_nat m.isLt] at h1
        exact (LexTo.all _).trans ((LexTo.blank _).trans (h1.trans (LexTo.blank r)))
      exact (hq.app hx.par).p
    · obtain ⟨x, e⟩ := Fo.len1 (F := kids) (by rw [h3, Ex.kids1 (by omega)])
      obtain ⟨m, rfl⟩ := hv7 (.inr (.inr rfl))
      subst e
      have hx := (Fo.lx_on hub).1
      simp only [Int.reduceEq, reduceIte]
      rw [hfin]
      have hq : LexA ([97, 110, 121, 32, 118] ++ [Ex.dig (m.val : Int)] ++ [32]) [.any, .var m] := fun r => by
        have h1 := LexTo.var m (Brk.cons r (show 32 < 48 by decide))
        rw [← dig_nat m.isLt] at h1
        exact (LexTo.any _).trans ((LexTo.blank _).trans (h1.trans (LexTo.blank r)))
      exact (hq.app hx.par).p
/-- what is printed is read back as the same, or is too deep -/
theorem Ex.back {t : Tr} (h : (t.on .nil).allPlain = true) (hl : (Ex.pr t).length ≤ 4000) :
    (Ex.parse (nl (Ex.pr t))).2.2 = 231 ∨ ((Ex.parse (nl (Ex.pr t))).2.2 = 0 ∧ Ex.same t (Ex.parse (nl (Ex.pr t))).1 = true) := by
  have hlx := (Fo.lx_on (Fo.lx_all (t.on .nil) h)).1 [] Brk.nil
  rw [List.append_nil] at hlx
  obtain ⟨A, a', hA, hm⟩ := hlx 0
  have hnil : Lx.lex [] a' = [(.eof, a')] := by
    have hs : Lx.skip [] = 0 := Lx.skip_nil
    rw [Lx.lex_eq, hs, List.drop_zero, Lx.scan_nil, if_pos (.inl rfl)]
    rfl
  rw [hnil] at hA
  obtain ⟨E1, E2, E3⟩ := Ex.parse_eq (nl (Ex.pr t)) (by unfold nl; simpa using hl)
  have hb := (UB.tr h).iff 30 ⟨Lx.lex (nl (Ex.pr t)) 0, 0, 0⟩ A [(.eof, a')] rfl hA hm (fun x r e => by cases e; rfl)
  generalize (Ex.lev 30).iff ⟨Lx.lex (nl (Ex.pr t)) 0, 0, 0⟩ = R at *
  rcases hb with h5 | ⟨h5, h6, h7⟩
  · left
    rw [E3 (by rw [h5]; decide)]
    exact h5
  · right
    rw [E1 h5 (by unfold St.now; rw [h6])]
    exact ⟨rfl, h7⟩
theorem Ex.parse_at (l : List Nat) (h : (Ex.parse l).2.2 = 0) : (Ex.parse l).2.1 = 0 := by
  by_cases hl : l.length ≤ 4000
  · obtain ⟨E1, E2, E3⟩ := Ex.parse_eq l hl
    generalize (Ex.lev 30).iff ⟨Lx.lex l 0, 0, 0⟩ = R at *
    by_cases h0 : R.2.e = 0
    · by_cases hn : R.2.now = .eof
      · rw [E1 h0 hn]
      · rw [E2 h0 hn] at h
        exact absurd h (bad_ne 230 (by omega) R.2)
    · rw [E3 h0] at h
      exact absurd h h0
  · unfold Ex.parse
    rw [if_pos (by omega)]
theorem Ex.parse_long {l : List Nat} (h : 4000 < l.length) : (Ex.parse l).2.2 = 232 := by unfold Ex.parse; rw [if_pos h]
end Go.Proofs.Ytfgokhafiffbaaa
