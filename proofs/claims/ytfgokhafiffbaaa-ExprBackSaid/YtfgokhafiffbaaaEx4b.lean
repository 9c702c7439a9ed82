/-
  Formulas: expr.scan whole.
-/
import Derived.Test.YtfgokhafiffbaaaEx4
namespace Go.Proofs.Ytfgokhafiffbaaa
set_option linter.unusedVariables false
open Go.RowKit

theorem Lx.scan_no {s : ByteArray} (h : NoSign s) : Lx.scan (bl s) = match bl s with
    | [] => .eof
    | c :: r => if c = 48 then .zero else if c = 49 then .one else if Ex.letter c then Lx.kw (c :: r.take (Lx.word r)) else .bad := by
  obtain ⟨p0, p1, p2, p3, p4, p5, p6, p7, p8⟩ := h
  unfold Lx.scan
  rw [p0, p1, p2, p3, p4, p5, p6, p7, p8]
  rfl
theorem kw_str (ws : ByteArray) : (if (ws.toList == [97, 108, 108]) || (ws.toList == [97, 110, 121]) || (ws.toList == [105, 116, 101]) || Lx.vr (bl ws) then ws else Tok.str .bad) = Tok.str (Lx.kw (bl ws)) := by
  have hx : ∀ (l : List UInt8) (m : List Nat), l.map UInt8.toNat = m → (ws.toList == l) = decide (bl ws = m) := fun l m h => by
    have := bl_eq ws ⟨l.toArray⟩
    have e : bl (⟨l.toArray⟩ : ByteArray) = m := (bl_mk l).trans h
    rw [ByteArray.toList_mk l, e] at this
    exact this
  rw [hx _ [97, 108, 108] rfl, hx _ [97, 110, 121] rfl, hx _ [105, 116, 101] rfl]
  by_cases hb : Lx.kw (bl ws) = .bad
  · rw [hb]
    unfold Lx.kw at hb
    by_cases h1 : bl ws = [97, 108, 108]
    · rw [if_pos h1] at hb; cases hb
    rw [if_neg h1] at hb
    by_cases h2 : bl ws = [97, 110, 121]
    · rw [if_pos h2] at hb; cases hb
    rw [if_neg h2] at hb
    by_cases h3 : bl ws = [105, 116, 101]
    · rw [if_pos h3] at hb; cases hb
    rw [if_neg h3] at hb
    have hv : Lx.vr (bl ws) = false := by
      cases hv : Lx.vr (bl ws) with
      | false => rfl
      | true => rw [hv] at hb; cases hb
    rw [decide_eq_false h1, decide_eq_false h2, decide_eq_false h3, hv]
    rfl
  · have ht := Lx.kw_txt (bl ws) hb (fun x hx => bl_lt hx)
    have e : ws = Tok.str (Lx.kw (bl ws)) := bl_inj (by rw [Tok.bl_str, ht])
    rw [← e]
    split
    · rfl
    · rename_i hn
      exfalso
      apply hb
      unfold Lx.kw
      simp only [Bool.or_eq_true, decide_eq_true_eq, not_or, Bool.not_eq_true] at hn
      obtain ⟨⟨⟨h1, h2⟩, h3⟩, hv⟩ := hn
      rw [if_neg h1, if_neg h2, if_neg h3]
      rw [hv]
      rfl
theorem scan_any (s : ByteArray) (w : World) (hsz : s.size ≤ 4000) : Calls Try.prog 42 #[.string s] w fun e w' => e = .returned (.string (Tok.str (Lx.scan (bl s)))) ∧ w' = w := by
  cases h0 : Lx.pre [60, 45, 62] (bl s) with
  | true =>
    rw [show Lx.scan (bl s) = .iff from by unfold Lx.scan; rw [h0]; rfl]
    exact scan_is0 s w ⟨h0⟩
  | false =>
  cases h1 : Lx.pre [45, 62] (bl s) with
  | true =>
    rw [show Lx.scan (bl s) = .imp from by unfold Lx.scan; rw [h0, h1]; rfl]
    exact scan_is1 s w ⟨h0⟩ ⟨h1⟩
  | false =>
  cases h2 : Lx.pre [33] (bl s) with
  | true =>
    rw [show Lx.scan (bl s) = .not from by unfold Lx.scan; rw [h0, h1, h2]; rfl]
    exact scan_is2 s w ⟨h0⟩ ⟨h1⟩ ⟨h2⟩
  | false =>
  cases h3 : Lx.pre [38] (bl s) with
  | true =>
    rw [show Lx.scan (bl s) = .and from by unfold Lx.scan; rw [h0, h1, h2, h3]; rfl]
    exact scan_is3 s w ⟨h0⟩ ⟨h1⟩ ⟨h2⟩ ⟨h3⟩
  | false =>
  cases h4 : Lx.pre [124] (bl s) with
  | true =>
    rw [show Lx.scan (bl s) = .or from by unfold Lx.scan; rw [h0, h1, h2, h3, h4]; rfl]
    exact scan_is4 s w ⟨h0⟩ ⟨h1⟩ ⟨h2⟩ ⟨h3⟩ ⟨h4⟩
  | false =>
  cases h5 : Lx.pre [94] (bl s) with
  | true =>
    rw [show Lx.scan (bl s) = .xor from by unfold Lx.scan; rw [h0, h1, h2, h3, h4, h5]; rfl]
    exact scan_is5 s w ⟨h0⟩ ⟨h1⟩ ⟨h2⟩ ⟨h3⟩ ⟨h4⟩ ⟨h5⟩
  | false =>
  cases h6 : Lx.pre [40] (bl s) with
  | true =>
    rw [show Lx.scan (bl s) = .lp from by unfold Lx.scan; rw [h0, h1, h2, h3, h4, h5, h6]; rfl]
    exact scan_is6 s w ⟨h0⟩ ⟨h1⟩ ⟨h2⟩ ⟨h3⟩ ⟨h4⟩ ⟨h5⟩ ⟨h6⟩
  | false =>
  cases h7 : Lx.pre [41] (bl s) with
  | true =>
    rw [show Lx.scan (bl s) = .rp from by unfold Lx.scan; rw [h0, h1, h2, h3, h4, h5, h6, h7]; rfl]
    exact scan_is7 s w ⟨h0⟩ ⟨h1⟩ ⟨h2⟩ ⟨h3⟩ ⟨h4⟩ ⟨h5⟩ ⟨h6⟩ ⟨h7⟩
  | false =>
  cases h8 : Lx.pre [44] (bl s) with
  | true =>
    rw [show Lx.scan (bl s) = .comma from by unfold Lx.scan; rw [h0, h1, h2, h3, h4, h5, h6, h7, h8]; rfl]
    exact scan_is8 s w ⟨h0⟩ ⟨h1⟩ ⟨h2⟩ ⟨h3⟩ ⟨h4⟩ ⟨h5⟩ ⟨h6⟩ ⟨h7⟩ ⟨h8⟩
  | false =>
  have H0 : NoSign s := ⟨h0, h1, h2, h3, h4, h5, h6, h7, h8⟩
  rw [Lx.scan_no H0]
  match hb : bl s with
  | [] => exact scan_nil s w ⟨H0⟩ (by rw [← bl_length, hb]; rfl)
  | c :: r =>
    have hc : (bl s)[0]? = some c := by rw [hb]; rfl
    by_cases g0 : c = 48
    · have := scan_zero s w ⟨H0⟩ c hc (.inl g0)
      simp only [if_pos g0]
      subst g0
      rw [show Tok.str .zero = strOf [48] from by unfold Tok.str Tok.txt; rfl]
      exact this
    by_cases g1 : c = 49
    · have := scan_zero s w ⟨H0⟩ c hc (.inr g1)
      simp only [if_neg g0, if_pos g1]
      subst g1
      rw [show Tok.str .one = strOf [49] from by unfold Tok.str Tok.txt; rfl]
      exact this
    simp only [if_neg g0, if_neg g1]
    cases hl : Ex.letter c with
    | false =>
      exact scan_bad s w ⟨H0⟩ c hc g0 g1 hl
    | true =>
      simp only [if_true]
      have hN : bl (s.extract 0 (1 + Lx.word r)) = c :: r.take (Lx.word r) := by rw [bl_extract, hb]; simp [Nat.add_comm 1]
      have := scan_word s (s.extract 0 (1 + Lx.word r)) w ⟨H0⟩ c (1 + Lx.word r) hc hl ⟨⟨Nat.le_refl _, by rw [hb]; simp, by rw [hb]; rfl⟩⟩ rfl hsz _ _ _ _ ⟨rfl⟩ ⟨rfl⟩ ⟨rfl⟩ rfl
      rw [kw_str, hN] at this
      exact this
end Go.Proofs.Ytfgokhafiffbaaa
