/-
  Formulas: the list of signs, the parser's state in memory; goes, bad, may, must.
-/
import Derived.Test.YtfgokhafiffbaaaEx4b
namespace Go.Proofs.Ytfgokhafiffbaaa
set_option linter.unusedVariables false
open Go.RowKit

/-- the signs of a text, each with its place; the last one is the end, or none -/
def Lx.lexF : Nat → List Nat → Nat → List (Tok × Nat)
  | 0, _, a => [(.eof, a)]
  | n + 1, l, a =>
    if Lx.scan (l.drop (Lx.skip l)) = .eof ∨ Lx.scan (l.drop (Lx.skip l)) = .bad then [(Lx.scan (l.drop (Lx.skip l)), a + Lx.skip l)]
    else (Lx.scan (l.drop (Lx.skip l)), a + Lx.skip l) :: Lx.lexF n ((l.drop (Lx.skip l)).drop (Lx.scan (l.drop (Lx.skip l))).txt.length) (a + Lx.skip l + (Lx.scan (l.drop (Lx.skip l))).txt.length)
theorem Lx.lexF_fuel (n : Nat) : ∀ (m : Nat) (l : List Nat) (a : Nat), l.length < n → l.length < m → Lx.lexF n l a = Lx.lexF m l a := by
  induction n with
  | zero => intro m l a h; omega
  | succ n ih =>
    intro m l a h1 h2
    cases m with
    | zero => omega
    | succ m =>
      rw [Lx.lexF, Lx.lexF]
      by_cases hb : Lx.scan (l.drop (Lx.skip l)) = .eof ∨ Lx.scan (l.drop (Lx.skip l)) = .bad
      · rw [if_pos hb, if_pos hb]
      · rw [if_neg hb, if_neg hb]
        have hp := Tok.txt_len (Lx.scan (l.drop (Lx.skip l))) (fun e => hb (.inl e))
        have hne : l.drop (Lx.skip l) ≠ [] := fun e => hb (.inl (by rw [e]; exact Lx.scan_nil))
        have hl : 0 < (l.drop (Lx.skip l)).length := List.length_pos_iff.2 hne
        have hl2 : (l.drop (Lx.skip l)).length ≤ l.length := by simp
        congr 1
        refine ih m _ _ ?_ ?_ <;> rw [List.length_drop] <;> omega
def Lx.lex (l : List Nat) (a : Nat) : List (Tok × Nat) := Lx.lexF (l.length + 1) l a
theorem Lx.lex_eq (l : List Nat) (a : Nat) : Lx.lex l a =
    if Lx.scan (l.drop (Lx.skip l)) = .eof ∨ Lx.scan (l.drop (Lx.skip l)) = .bad then [(Lx.scan (l.drop (Lx.skip l)), a + Lx.skip l)]
    else (Lx.scan (l.drop (Lx.skip l)), a + Lx.skip l) :: Lx.lex ((l.drop (Lx.skip l)).drop (Lx.scan (l.drop (Lx.skip l))).txt.length) (a + Lx.skip l + (Lx.scan (l.drop (Lx.skip l))).txt.length) := by
  unfold Lx.lex
  rw [Lx.lexF]
  by_cases hb : Lx.scan (l.drop (Lx.skip l)) = .eof ∨ Lx.scan (l.drop (Lx.skip l)) = .bad
  · rw [if_pos hb, if_pos hb]
  · rw [if_neg hb, if_neg hb]
    have hp := Tok.txt_len (Lx.scan (l.drop (Lx.skip l))) (fun e => hb (.inl e))
    have hne : l.drop (Lx.skip l) ≠ [] := fun e => hb (.inl (by rw [e]; exact Lx.scan_nil))
    have hl : 0 < (l.drop (Lx.skip l)).length := List.length_pos_iff.2 hne
    have hl2 : (l.drop (Lx.skip l)).length ≤ l.length := by simp
    congr 1
    refine Lx.lexF_fuel _ _ _ _ ?_ ?_ <;> rw [List.length_drop] <;> omega

/-- the parser's state: the signs still to come, the first of them being the one that stands; the error and its place -/
structure St where
  ts : List (Tok × Nat)
  e : Nat
  eat : Nat
  deriving DecidableEq
def St.now (s : St) : Tok := match s.ts with | [] => .eof | x :: _ => x.1
def St.at_ (s : St) : Nat := match s.ts with | [] => 0 | x :: _ => x.2
def St.goes (s : St) : St := { s with ts := s.ts.tail }
def St.bad (e : Nat) (s : St) : St := if s.e = 0 then { s with e := e, eat := s.at_ } else s
def St.may (t : Tok) (s : St) : Bool := decide (s.e = 0) && decide (s.now = t)
def St.must (t : Tok) (s : St) : St := if s.may t then s.goes else s.bad 230
attribute [irreducible] Lx.lex Lx.lexF

/-- all but block N, of what was there, is as it was -/
def Gb (N : Nat) (w w' : World) : Prop := w.grownBy w' (some N)
theorem Gb.refl (N : Nat) (w : World) : Gb N w w := World.grownBy.refl w _
theorem Gb.trans {N : Nat} {a b c : World} (h : Gb N a b) (k : Gb N b c) : Gb N a c := ⟨k.os.trans h.os, k.tape.trans h.tape, k.output.trans h.output, Nat.le_trans h.size k.size, fun i hi hn => (k.block i (Nat.lt_of_lt_of_le hi h.size) hn).trans (h.block i hi hn)⟩
theorem Gb.alloc {N : Nat} {a w : World} (h : Gb N a w) (o : Obj) : Gb N a (w.alloc o) := Gb.trans h (World.grownBy_alloc w o _)
theorem Gb.drew {N : Nat} {a w : World} (h : Gb N a w) : Gb N a w.drew := ⟨h.os, h.tape, h.output, h.size, h.block⟩
theorem Gb.set {N : Nat} {a w : World} (h : Gb N a w) {p : Addr} (hp : p.block = N ∨ a.heap.size ≤ p.block) (u : Value) : Gb N a (w.setCell p u) :=
  ⟨h.os, h.tape, h.output, by simpa [World.setCell] using h.size, fun k hk hn => (Below.heap_setCell _ _ _ _ (by rcases hp with rfl | hp; exact fun e => hn (by rw [e]); omega)).trans (h.block k hk hn)⟩
theorem Gb.below {N : Nat} {a b c : World} (h : Gb N a b) (k : Below b.heap.size b c) : Gb N a c := h.trans ⟨k.os, k.tape, k.output, k.size, fun i hi _ => k.block i hi⟩
/-- where block N is new, it is as with no block -/
theorem Gb.to_below {N : Nat} {a b c : World} (h : Below a.heap.size a b) (k : Gb N b c) (hN : a.heap.size ≤ N) : Below a.heap.size a c :=
  h.trans ⟨k.os, k.tape, k.output, k.size, fun i hi => k.block i (Nat.lt_of_lt_of_le hi h.size) (fun e => by cases e; omega)⟩
theorem Gb.blk {N g : Nat} {t : TypeId} {cs : Array Value} {a b : World} (k : Gb N a b) (h : Blk a g t cs) (hne : g ≠ N) : Blk b g t cs := ⟨(k.block g h.lt (fun e => hne (Option.some.inj e))).trans h.eq⟩

/-- the parser's block -/
def PB (s T : ByteArray) (a d e eat : Nat) : Array Value := #[.string s, .string T, .int .i64 (a : Int), .int .i64 (d : Int), .int .i64 (e : Int), .int .i64 (eat : Int)]

/-- where the blanks' loop stands -/
structure SL (l : List Nat) (q K : Nat) : Prop where
  hi : q ≤ l.length
  sum : q + Lx.skip (l.drop q) = K
theorem Lx.skip_cons (c : Nat) (r : List Nat) : Lx.skip (c :: r) = if Lx.blank c then 1 + Lx.skip r else 0 := by rw [Lx.skip]
theorem Lx.skip_nil : Lx.skip [] = 0 := by rw [Lx.skip]
theorem SL.step {l : List Nat} {q K x : Nat} (h : SL l q K) (hx : l[q]? = some x) (hl : Lx.blank x = true) : SL l (q + 1) K := by
  have hk : q < l.length := (List.getElem?_eq_some_iff.1 hx).1
  have hs := h.sum
  rw [List.drop_eq_getElem_cons hk, (List.getElem?_eq_some_iff.1 hx).2, Lx.skip_cons, hl, if_pos rfl] at hs
  exact ⟨by omega, by omega⟩
theorem SL.stop {l : List Nat} {q K x : Nat} (h : SL l q K) (hx : l[q]? = some x) (hl : Lx.blank x = false) : q = K := by
  have hk : q < l.length := (List.getElem?_eq_some_iff.1 hx).1
  have hs := h.sum
  rw [List.drop_eq_getElem_cons hk, (List.getElem?_eq_some_iff.1 hx).2, Lx.skip_cons, hl] at hs
  simpa using hs
theorem SL.stop' {l : List Nat} {q K : Nat} (h : SL l q K) (hk : ¬ q < l.length) : q = K := by
  have hs := h.sum
  rw [List.drop_eq_nil_of_le (by omega), Lx.skip_nil] at hs
  simpa using hs
theorem pb_cells {w : World} {N : Nat} {s T : ByteArray} {a d e eat : Nat} (hB : Blk w N 62 (PB s T a d e eat)) :
    w.cell? ⟨N, 0, none⟩ = some (.string s) ∧ w.cell? ⟨N, 1, none⟩ = some (.string T) ∧ w.cell? ⟨N, 2, none⟩ = some (.int .i64 (a : Int)) ∧ w.cell? ⟨N, 3, none⟩ = some (.int .i64 (d : Int)) ∧ w.cell? ⟨N, 4, none⟩ = some (.int .i64 (e : Int)) ∧ w.cell? ⟨N, 5, none⟩ = some (.int .i64 (eat : Int)) ∧
    w.frozen? ⟨N, 1, none⟩ = false ∧ w.frozen? ⟨N, 2, none⟩ = false ∧ w.frozen? ⟨N, 3, none⟩ = false ∧ w.frozen? ⟨N, 4, none⟩ = false ∧ w.frozen? ⟨N, 5, none⟩ = false :=
  ⟨hB.cell 0, hB.cell 1, hB.cell 2, hB.cell 3, hB.cell 4, hB.cell 5, hB.frozen 1, hB.frozen 2, hB.frozen 3, hB.frozen 4, hB.frozen 5⟩

theorem w64 (n : Int) (h : -9223372036854775808 ≤ n ∧ n ≤ 9223372036854775807) : wrap64 n = n := by unfold wrap64; omega
theorem blank_no {x : Nat} (h0 : ¬ x = 32) (h1 : ¬ x = 9) (h2 : ¬ x = 10) : Lx.blank x = false := by unfold Lx.blank; simp [h0, h1, h2]
set_option maxHeartbeats 4000000 in
theorem goes_any (N : Nat) (s T : ByteArray) (a d e eat K : Nat) (t : Tok) (w : World) (hB : Blk w N 62 (PB s T a d e eat)) (hsz : s.size ≤ 4000) (hT : a + T.size ≤ s.size)
    (hK : a + T.size + Lx.skip ((bl s).drop (a + T.size)) = K) (ht : Lx.scan ((bl s).drop K) = t) :
    Calls Try.prog 30 #[.pointer (some ⟨N, 0, none⟩)] w fun ee w' => ee = .returned (.tuple #[]) ∧ Blk w' N 62 (PB s t.str K d e eat) ∧ Gb N w w' := by
  obtain ⟨c0, c1, c2, c3, c4, c5, f1, f2, f3, f4, f5⟩ := pb_cells hB
  have hS : Bx (SL (bl s) (a + T.size) K) := ⟨⟨by rw [bl_length]; exact hT, hK⟩⟩
  have HB := Bx.mk hB
  have HT := Bx.mk ht
  have hw : wrap64 ((a : Int) + T.size) = ((a + T.size : Nat) : Int) := by rw [w64 _ (by omega)]; omega
  clear hB hK ht c3 c4 c5 f3 f4 f5
  go_enter Try.func30, Try.ntmps30
  go_wp2_with fail
  go_still (by kernel_rfl)
  go_wp2_with fail
  go_loop [2] (fun q => ∃ k : Nat, q = .int .i64 k ∧ Bx (SL (bl s) k K)) (fun q => s.size - (intOf q).toNat)
  case atStart => exact ⟨a + T.size, congrArg (Value.int .i64) (by rw [IntKind.wrap_i64]; omega), hS⟩
  case round =>
    clear hS
    obtain ⟨k, rfl, HK⟩ := hrel
    by_cases hk : k < s.size
    · have hki : (k : Int) < s.size := by omega
      have hkl : k < (bl s).length := by rw [bl_length]; exact hk
      obtain ⟨x, hx⟩ : ∃ x, (bl s)[k]? = some x := ⟨_, List.getElem?_eq_getElem hkl⟩
      by_cases h0 : x = 32
      · subst h0
        have hxi := run_idx hx
        have HS := Bx.mk (HK.out.step hx (by unfold Lx.blank; decide))
        clear hx
        go_wp2_with fail
        exact ⟨⟨k + 1, by go_num, HS⟩, by simp [intOf]; omega⟩
      by_cases h1 : x = 9
      · subst h1
        have hxi := run_idx hx
        have HS := Bx.mk (HK.out.step hx (by unfold Lx.blank; decide))
        clear hx
        go_wp2_with fail
        exact ⟨⟨k + 1, by go_num, HS⟩, by simp [intOf]; omega⟩
      by_cases h2 : x = 10
      · subst h2
        have hxi := run_idx hx
        have HS := Bx.mk (HK.out.step hx (by unfold Lx.blank; decide))
        clear hx
        go_wp2_with fail
        exact ⟨⟨k + 1, by go_num, HS⟩, by simp [intOf]; omega⟩
      have hxi := run_idx hx
      obtain rfl := HK.out.stop hx (blank_no h0 h1 h2)
      have q0 : ((x : Int) == 32) = false := by rw [beq_eq_false_iff_ne]; omega
      have q1 : ((x : Int) == 9) = false := by rw [beq_eq_false_iff_ne]; omega
      have q2 : ((x : Int) == 10) = false := by rw [beq_eq_false_iff_ne]; omega
      have hkle : (k : Int) ≤ s.size := by omega
      clear hx h0 h1 h2
      have HC := Bx.mk (scan_any (s.extract k s.size) w.drew (by rw [ByteArray.size_extract]; omega))
      rw [show bl (s.extract k s.size) = (bl s).drop k from by rw [bl_extract, List.take_of_length_le (by rw [List.length_drop, bl_length]; omega)], HT.out] at HC
      go_wp2_with fail
      refine HC.out.mono ?_
      rintro e w1 ⟨rfl, rfl⟩
      go_wp2_with fail
      go_end0
      refine ⟨rfl, ?_, ?_⟩
      · exact ((HB.out.drew.set_ 1 _).set_ 2 _)
      · exact (((Gb.refl _ _).set (p := ⟨N, 1, none⟩) (.inl rfl) _).set (p := ⟨N, 2, none⟩) (.inl rfl) _).drew
    · have hki : ¬ (k : Int) < s.size := by omega
      obtain rfl := HK.out.stop' (by rw [bl_length]; exact hk)
      have hkle : (k : Int) ≤ s.size := by have := HK.out.hi; rw [bl_length] at this; omega
      have HC := Bx.mk (scan_any (s.extract k s.size) w.drew (by rw [ByteArray.size_extract]; omega))
      rw [show bl (s.extract k s.size) = (bl s).drop k from by rw [bl_extract, List.take_of_length_le (by rw [List.length_drop, bl_length]; omega)], HT.out] at HC
      go_wp2_with fail
      refine HC.out.mono ?_
      rintro e w1 ⟨rfl, rfl⟩
      go_wp2_with fail
      go_end0
      refine ⟨rfl, ?_, ?_⟩
      · exact ((HB.out.drew.set_ 1 _).set_ 2 _)
      · exact (((Gb.refl _ _).set (p := ⟨N, 1, none⟩) (.inl rfl) _).set (p := ⟨N, 2, none⟩) (.inl rfl) _).drew
end Go.Proofs.Ytfgokhafiffbaaa
