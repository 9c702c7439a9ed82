/-
  Formulas, plain: strings as lists of numbers, tokens, the scanner.
-/
import Derived.Test.YtfgokhafiffbaaaExprB
import Derived.Laws.Strings
import Derived.Laws.Strings2
import Derived.Laws.Strings3
import Derived.KernelRfl
namespace Go.Proofs.Ytfgokhafiffbaaa
set_option linter.unusedVariables false
open Go.RowKit

/-- a string's bytes as numbers -/
def bl (s : ByteArray) : List Nat := s.data.toList.map UInt8.toNat
theorem bl_length (s : ByteArray) : (bl s).length = s.size := by simp [bl]
theorem bl_inj {s t : ByteArray} (h : bl s = bl t) : s = t := by
  apply ByteArray.ext
  apply Array.toList_inj.1
  exact (List.map_inj_right (fun a b h => UInt8.toNat.inj h)).1 h
theorem bl_extract (s : ByteArray) (a b : Nat) : bl (s.extract a b) = ((bl s).drop a).take (b - a) := by
  simp [bl, ByteArray.data_extract, List.map_drop, List.map_take]
theorem bl_lt {s : ByteArray} {x : Nat} (h : x ∈ bl s) : x < 256 := by
  simp [bl] at h
  obtain ⟨u, _, rfl⟩ := h
  exact u.toNat_lt
theorem bl_get {s : ByteArray} {i x : Nat} (h : (bl s)[i]? = some x) : ∃ hi : i < s.size, (s[i]'hi).toNat = x := by
  have hl : i < (bl s).length := (List.getElem?_eq_some_iff.1 h).1
  have hi : i < s.size := by rw [bl_length] at hl; exact hl
  refine ⟨hi, ?_⟩
  simp only [bl, List.getElem?_map, Array.getElem?_toList] at h
  have e : s.data[i]? = some (s.data[i]'hi) := by rw [Array.getElem?_eq_getElem hi]
  rw [e] at h
  exact Option.some.inj h
theorem run_idx {s : ByteArray} {i x : Nat} (h : (bl s)[i]? = some x) (w : World) : (Instr.index 9 (.string s) (.int .i64 (i : Int))).run Try.prog w = .ok (.int .u8 (x : Int)) w := by
  obtain ⟨hi, e⟩ := bl_get h
  rw [run_index_string (P := Try.prog) w 9 s .i64 (i : Int) Try.underlying9, dif_pos ⟨by omega, by omega⟩]
  simp only [Int.toNat_natCast, e]
theorem bl_eq (s t : ByteArray) : (s.toList == t.toList) = decide (bl s = bl t) := by
  rw [ByteArray.toList_eq, ByteArray.toList_eq]
  by_cases h : s.data.toList = t.data.toList
  · have : s = t := ByteArray.ext (Array.toList_inj.1 h)
    subst this
    simp
  · have h2 : ¬ bl s = bl t := fun e => h (by rw [bl_inj e])
    rw [decide_eq_false h2]
    exact beq_eq_false_iff_ne.2 h

/-- a string of numbers -/
def strOf (l : List Nat) : ByteArray := ⟨(l.map Nat.toUInt8).toArray⟩
theorem bl_strOf {l : List Nat} (h : ∀ x ∈ l, x < 256) : bl (strOf l) = l := by
  simp only [bl, strOf, List.map_map]
  conv => rhs; rw [← List.map_id l]
  apply List.map_congr_left
  intro x hx
  have := h x hx
  show (Nat.toUInt8 x).toNat = x
  simp [Nat.toUInt8, UInt8.toNat_ofNat', Nat.mod_eq_of_lt this]
theorem strOf_bl (s : ByteArray) : strOf (bl s) = s := bl_inj (bl_strOf fun x hx => bl_lt hx)

/-- the signs of a formula -/
inductive Tok where
  | iff | imp | not | and | or | xor | lp | rp | comma | zero | one | all | any | ite | var (n : Fin 8) | bad | eof
  deriving DecidableEq
def Tok.txt : Tok → List Nat
  | .iff => [60, 45, 62] | .imp => [45, 62] | .not => [33] | .and => [38] | .or => [124] | .xor => [94] | .lp => [40] | .rp => [41] | .comma => [44]
  | .zero => [48] | .one => [49] | .all => [97, 108, 108] | .any => [97, 110, 121] | .ite => [105, 116, 101] | .var n => [118, 48 + n.val] | .bad => [63] | .eof => []
def Tok.str (t : Tok) : ByteArray := strOf t.txt
theorem Tok.txt_lt (t : Tok) : ∀ x ∈ t.txt, x < 256 := by
  cases t <;> simp [Tok.txt]
  rename_i n; have := n.isLt; omega
theorem Tok.bl_str (t : Tok) : bl t.str = t.txt := bl_strOf t.txt_lt
theorem Tok.txt_inj {t u : Tok} (h : t.txt = u.txt) : t = u := by
  cases t <;> cases u <;> simp [Tok.txt] at h ⊢
  exact Fin.ext h
theorem Tok.str_eq (t u : Tok) : (t.str.toList == u.str.toList) = decide (t = u) := by
  rw [bl_eq, Tok.bl_str, Tok.bl_str]
  by_cases h : t = u
  · subst h; simp
  · rw [decide_eq_false h, decide_eq_false (fun e => h (Tok.txt_inj e))]
theorem Tok.txt_len (t : Tok) : t ≠ .eof → 0 < t.txt.length := by cases t <;> simp [Tok.txt]

/-- how many letters and digits stand at the front -/
def Lx.word : List Nat → Nat
  | [] => 0
  | c :: r => if Ex.letter c || Ex.number c then 1 + Lx.word r else 0
theorem Lx.word_le (l : List Nat) : Lx.word l ≤ l.length := by
  induction l with
  | nil => simp [Lx.word]
  | cons c r ih => simp only [Lx.word, List.length_cons]; split <;> omega
def Lx.vr : List Nat → Bool
  | [a, b] => Ex.vari a b
  | _ => false
/-- the word's sign -/
def Lx.kw (l : List Nat) : Tok :=
  if l = [97, 108, 108] then .all else if l = [97, 110, 121] then .any else if l = [105, 116, 101] then .ite else
  if Lx.vr l then .var (Fin.ofNat 8 (l.getD 1 0 - 48)) else .bad
theorem Lx.vr_spec {l : List Nat} (h : Lx.vr l = true) : ∃ b, l = [118, b] ∧ 48 ≤ b ∧ b ≤ 55 := by
  match l, h with
  | [a, b], h =>
    have h : Ex.vari a b = true := h
    unfold Ex.vari at h
    simp at h
    exact ⟨b, by rw [h.1], h.2.1, h.2.2⟩
  | [], h => cases h
  | [_], h => cases h
  | _ :: _ :: _ :: _, h => cases h
theorem Lx.vr_mk {b : Nat} (h1 : 48 ≤ b) (h2 : b ≤ 55) : Lx.vr [118, b] = true := by
  show Ex.vari 118 b = true
  unfold Ex.vari
  simp [h1, h2]
def Lx.pre (p l : List Nat) : Bool := decide (l.take p.length = p)
/-- the first sign of a text that begins with no blank -/
def Lx.scan (l : List Nat) : Tok :=
  if Lx.pre [60, 45, 62] l then .iff else if Lx.pre [45, 62] l then .imp else if Lx.pre [33] l then .not else if Lx.pre [38] l then .and else if Lx.pre [124] l then .or
  else if Lx.pre [94] l then .xor else if Lx.pre [40] l then .lp else if Lx.pre [41] l then .rp else if Lx.pre [44] l then .comma else
  match l with
  | [] => .eof
  | c :: r => if c = 48 then .zero else if c = 49 then .one else if Ex.letter c then Lx.kw (c :: r.take (Lx.word r)) else .bad
def Lx.blank (c : Nat) : Bool := c == 32 || c == 9 || c == 10
/-- how many blanks stand at the front -/
def Lx.skip : List Nat → Nat
  | [] => 0
  | c :: r => if Lx.blank c then 1 + Lx.skip r else 0
theorem Lx.skip_le (l : List Nat) : Lx.skip l ≤ l.length := by
  induction l with
  | nil => simp [Lx.skip]
  | cons c r ih => simp only [Lx.skip, List.length_cons]; split <;> omega
theorem Lx.pre_take {p l : List Nat} (h : Lx.pre p l = true) : l.take p.length = p := of_decide_eq_true h
theorem Lx.kw_txt (l : List Nat) (h : Lx.kw l ≠ .bad) (hl : ∀ x ∈ l, x < 256) : (Lx.kw l).txt = l := by
  unfold Lx.kw at h ⊢
  by_cases h1 : l = [97, 108, 108]
  · rw [if_pos h1]; exact h1.symm
  rw [if_neg h1] at h ⊢
  by_cases h2 : l = [97, 110, 121]
  · rw [if_pos h2]; exact h2.symm
  rw [if_neg h2] at h ⊢
  by_cases h3 : l = [105, 116, 101]
  · rw [if_pos h3]; exact h3.symm
  rw [if_neg h3] at h ⊢
  cases hv : Lx.vr l with
  | false => rw [hv] at h; exact absurd rfl h
  | true =>
    obtain ⟨b, rfl, h1, h2⟩ := Lx.vr_spec hv
    simp [Fin.ofNat, Tok.txt]
    omega
theorem Lx.scan_txt (l : List Nat) (hl : ∀ x ∈ l, x < 256) (h : Lx.scan l ≠ .bad) : l.take (Lx.scan l).txt.length = (Lx.scan l).txt := by
  revert h
  unfold Lx.scan
  by_cases h0 : Lx.pre [60, 45, 62] l = true
  · rw [if_pos h0]; intro _; exact Lx.pre_take h0
  rw [if_neg h0]
  by_cases h1 : Lx.pre [45, 62] l = true
  · rw [if_pos h1]; intro _; exact Lx.pre_take h1
  rw [if_neg h1]
  by_cases h2 : Lx.pre [33] l = true
  · rw [if_pos h2]; intro _; exact Lx.pre_take h2
  rw [if_neg h2]
  by_cases h3 : Lx.pre [38] l = true
  · rw [if_pos h3]; intro _; exact Lx.pre_take h3
  rw [if_neg h3]
  by_cases h4 : Lx.pre [124] l = true
  · rw [if_pos h4]; intro _; exact Lx.pre_take h4
  rw [if_neg h4]
  by_cases h5 : Lx.pre [94] l = true
  · rw [if_pos h5]; intro _; exact Lx.pre_take h5
  rw [if_neg h5]
  by_cases h6 : Lx.pre [40] l = true
  · rw [if_pos h6]; intro _; exact Lx.pre_take h6
  rw [if_neg h6]
  by_cases h7 : Lx.pre [41] l = true
  · rw [if_pos h7]; intro _; exact Lx.pre_take h7
  rw [if_neg h7]
  by_cases h8 : Lx.pre [44] l = true
  · rw [if_pos h8]; intro _; exact Lx.pre_take h8
  rw [if_neg h8]
  match l, hl with
  | [], _ => intro _; rfl
  | c :: r, hl =>
    simp only []
    by_cases g0 : c = 48
    · rw [if_pos g0]; intro _; subst g0; rfl
    rw [if_neg g0]
    by_cases g1 : c = 49
    · rw [if_pos g1]; intro _; subst g1; rfl
    rw [if_neg g1]
    cases g2 : Ex.letter c with
    | false => simp
    | true =>
      simp only [if_true]
      intro hb
      have := Lx.kw_txt _ hb (fun x hx => by
        rcases List.mem_cons.1 hx with rfl | hx
        · exact hl _ (List.mem_cons_self)
        · exact hl _ (List.mem_cons_of_mem _ (List.mem_of_mem_take hx)))
      rw [this]
      simp [Nat.min_eq_left (Lx.word_le r)]
theorem Lx.scan_nil : Lx.scan [] = .eof := by decide +kernel
theorem Lx.scan_len (l : List Nat) (hl : ∀ x ∈ l, x < 256) : (Lx.scan l).txt.length ≤ l.length := by
  by_cases h : Lx.scan l = .bad
  · rw [h]
    cases l with
    | nil => rw [Lx.scan_nil] at h; cases h
    | cons c r => simp [Tok.txt]
  · have := congrArg List.length (Lx.scan_txt l hl h)
    rw [List.length_take] at this
    omega
attribute [irreducible] Lx.scan Lx.kw Lx.pre Lx.word Lx.skip Lx.blank Lx.vr Tok.str Tok.txt bl strOf
end Go.Proofs.Ytfgokhafiffbaaa
