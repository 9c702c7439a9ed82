/-
  Texts on which the law ExprBinds rests, part 2 of 22.
-/
import Derived.Test.YtfgokhafiffbaaaExprBindsM1
import Derived.Defers
import Derived.OrdersHeld
import Derived.KernelRfl
import Derived.Tactics
import Derived.Deep.RegionHeld
/-
  Formulas: the list of signs, the parser's state in memory; goes, bad, may, must.
-/
namespace Go.Proofs.Ytfgokhafiffbaaa
set_option linter.unusedVariables false
open Go.RowKit

/-- the signs of a text, each with its place; the last one is the end, or none -/
def Lx.lexF : Nat → List Nat → Nat → List (Tok × Nat)
  | 0, _, a => [(.eof, a)]
  | n + 1, l, a =>
    if Lx.scan (l.drop (Lx.skip l)) = .eof ∨ Lx.scan (l.drop (Lx.skip l)) = .bad then [(Lx.scan (l.drop (Lx.skip l)), a + Lx.skip l)]
    else (Lx.scan (l.drop (Lx.skip l)), a + Lx.skip l) :: Lx.lexF n ((l.drop (Lx.skip l)).drop (Lx.scan (l.drop (Lx.skip l))).txt.length) (a + Lx.skip l + (Lx.scan (l.drop (Lx.skip l))).txt.length)
theorem Lx.lexF_fuel (n : Nat) : ∀ (m : Nat) (l : List Nat) (a : Nat), l.length < n → l.length < m → Lx.lexF n l a = Lx.lexF m l a := by
  induction n with
  | zero => intro m l a h; omega
  | succ n ih =>
    intro m l a h1 h2
    cases m with
    | zero => omega
    | succ m =>
      rw [Lx.lexF, Lx.lexF]
      by_cases hb : Lx.scan (l.drop (Lx.skip l)) = .eof ∨ Lx.scan (l.drop (Lx.skip l)) = .bad
      · rw [if_pos hb, if_pos hb]
      · rw [if_neg hb, if_neg hb]
        have hp := Tok.txt_len (Lx.scan (l.drop (Lx.skip l))) (fun e => hb (.inl e))
        have hne : l.drop (Lx.skip l) ≠ [] := fun e => hb (.inl (by rw [e]; exact Lx.scan_nil))
        have hl : 0 < (l.drop (Lx.skip l)).length := List.length_pos_iff.2 hne
        have hl2 : (l.drop (Lx.skip l)).length ≤ l.length := by simp
        congr 1
        refine ih m _ _ ?_ ?_ <;> rw [List.length_drop] <;> omega
def Lx.lex (l : List Nat) (a : Nat) : List (Tok × Nat) := Lx.lexF (l.length + 1) l a
theorem Lx.lex_eq (l : List Nat) (a : Nat) : Lx.lex l a =
    if Lx.scan (l.drop (Lx.skip l)) = .eof ∨ Lx.scan (l.drop (Lx.skip l)) = .bad then [(Lx.scan (l.drop (Lx.skip l)), a + Lx.skip l)]
    else (Lx.scan (l.drop (Lx.skip l)), a + Lx.skip l) :: Lx.lex ((l.drop (Lx.skip l)).drop (Lx.scan (l.drop (Lx.skip l))).txt.length) (a + Lx.skip l + (Lx.scan (l.drop (Lx.skip l))).txt.length) := by
  unfold Lx.lex
  rw [Lx.lexF]
  by_cases hb : Lx.scan (l.drop (Lx.skip l)) = .eof ∨ Lx.scan (l.drop (Lx.skip l)) = .bad
  · rw [if_pos hb, if_pos hb]
  · rw [if_neg hb, if_neg hb]
    have hp := Tok.txt_len (Lx.scan (l.drop (Lx.skip l))) (fun e => hb (.inl e))
    have hne : l.drop (Lx.skip l) ≠ [] := fun e => hb (.inl (by rw [e]; exact Lx.scan_nil))
    have hl : 0 < (l.drop (Lx.skip l)).length := List.length_pos_iff.2 hne
    have hl2 : (l.drop (Lx.skip l)).length ≤ l.length := by simp
    congr 1
    refine Lx.lexF_fuel _ _ _ _ ?_ ?_ <;> rw [List.length_drop] <;> omega

/-- the parser's state: the signs still to come, the first of them being the one that stands; the error and its place -/
structure St where
  ts : List (Tok × Nat)
  e : Nat
  eat : Nat
  deriving DecidableEq
def St.now (s : St) : Tok := match s.ts with | [] => .eof | x :: _ => x.1
def St.at_ (s : St) : Nat := match s.ts with | [] => 0 | x :: _ => x.2
def St.goes (s : St) : St := { s with ts := s.ts.tail }
def St.bad (e : Nat) (s : St) : St := if s.e = 0 then { s with e := e, eat := s.at_ } else s
def St.may (t : Tok) (s : St) : Bool := decide (s.e = 0) && decide (s.now = t)
def St.must (t : Tok) (s : St) : St := if s.may t then s.goes else s.bad 230
attribute [irreducible] Lx.lex Lx.lexF

/-- all but block N, of what was there, is as it was -/
def Gb (N : Nat) (w w' : World) : Prop := w.grownBy w' (some N)
theorem Gb.refl (N : Nat) (w : World) : Gb N w w := World.grownBy.refl w _
theorem Gb.trans {N : Nat} {a b c : World} (h : Gb N a b) (k : Gb N b c) : Gb N a c := ⟨k.os.trans h.os, k.tape.trans h.tape, k.output.trans h.output, Nat.le_trans h.size k.size, fun i hi hn => (k.block i (Nat.lt_of_lt_of_le hi h.size) hn).trans (h.block i hi hn)⟩
theorem Gb.alloc {N : Nat} {a w : World} (h : Gb N a w) (o : Obj) : Gb N a (w.alloc o) := Gb.trans h (World.grownBy_alloc w o _)
theorem Gb.drew {N : Nat} {a w : World} (h : Gb N a w) : Gb N a w.drew := ⟨h.os, h.tape, h.output, h.size, h.block⟩
theorem Gb.set {N : Nat} {a w : World} (h : Gb N a w) {p : Addr} (hp : p.block = N ∨ a.heap.size ≤ p.block) (u : Value) : Gb N a (w.setCell p u) :=
  ⟨h.os, h.tape, h.output, by simpa [World.setCell] using h.size, fun k hk hn => (Below.heap_setCell _ _ _ _ (by rcases hp with rfl | hp; exact fun e => hn (by rw [e]); omega)).trans (h.block k hk hn)⟩
theorem Gb.below {N : Nat} {a b c : World} (h : Gb N a b) (k : Below b.heap.size b c) : Gb N a c := h.trans ⟨k.os, k.tape, k.output, k.size, fun i hi _ => k.block i hi⟩
/-- where block N is new, it is as with no block -/
theorem Gb.to_below {N : Nat} {a b c : World} (h : Below a.heap.size a b) (k : Gb N b c) (hN : a.heap.size ≤ N) : Below a.heap.size a c :=
  h.trans ⟨k.os, k.tape, k.output, k.size, fun i hi => k.block i (Nat.lt_of_lt_of_le hi h.size) (fun e => by cases e; omega)⟩
theorem Gb.blk {N g : Nat} {t : TypeId} {cs : Array Value} {a b : World} (k : Gb N a b) (h : Blk a g t cs) (hne : g ≠ N) : Blk b g t cs := ⟨(k.block g h.lt (fun e => hne (Option.some.inj e))).trans h.eq⟩

/-- the parser's block -/
def PB (s T : ByteArray) (a d e eat : Nat) : Array Value := #[.string s, .string T, .int .i64 (a : Int), .int .i64 (d : Int), .int .i64 (e : Int), .int .i64 (eat : Int)]

/-- where the blanks' loop stands -/
structure SL (l : List Nat) (q K : Nat) : Prop where
  hi : q ≤ l.length
  sum : q + Lx.skip (l.drop q) = K
theorem Lx.skip_cons (c : Nat) (r : List Nat) : Lx.skip (c :: r) = if Lx.blank c then 1 + Lx.skip r else 0 := by rw [Lx.skip]
theorem Lx.skip_nil : Lx.skip [] = 0 := by rw [Lx.skip]
theorem SL.step {l : List Nat} {q K x : Nat} (h : SL l q K) (hx : l[q]? = some x) (hl : Lx.blank x = true) : SL l (q + 1) K := by
  have hk : q < l.length := (List.getElem?_eq_some_iff.1 hx).1
  have hs := h.sum
  rw [List.drop_eq_getElem_cons hk, (List.getElem?_eq_some_iff.1 hx).2, Lx.skip_cons, hl, if_pos rfl] at hs
  exact ⟨by omega, by omega⟩
theorem SL.stop {l : List Nat} {q K x : Nat} (h : SL l q K) (hx : l[q]? = some x) (hl : Lx.blank x = false) : q = K := by
  have hk : q < l.length := (List.getElem?_eq_some_iff.1 hx).1
  have hs := h.sum
  rw [List.drop_eq_getElem_cons hk, (List.getElem?_eq_some_iff.1 hx).2, Lx.skip_cons, hl] at hs
  simpa using hs
theorem SL.stop' {l : List Nat} {q K : Nat} (h : SL l q K) (hk : ¬ q < l.length) : q = K := by
  have hs := h.sum
  rw [List.drop_eq_nil_of_le (by omega), Lx.skip_nil] at hs
  simpa using hs
theorem pb_cells {w : World} {N : Nat} {s T : ByteArray} {a d e eat : Nat} (hB : Blk w N 62 (PB s T a d e eat)) :
    w.cell? ⟨N, 0, none⟩ = some (.string s) ∧ w.cell? ⟨N, 1, none⟩ = some (.string T) ∧ w.cell? ⟨N, 2, none⟩ = some (.int .i64 (a : Int)) ∧ w.cell? ⟨N, 3, none⟩ = some (.int .i64 (d : Int)) ∧ w.cell? ⟨N, 4, none⟩ = some (.int .i64 (e : Int)) ∧ w.cell? ⟨N, 5, none⟩ = some (.int .i64 (eat : Int)) ∧
    w.frozen? ⟨N, 1, none⟩ = false ∧ w.frozen? ⟨N, 2, none⟩ = false ∧ w.frozen? ⟨N, 3, none⟩ = false ∧ w.frozen? ⟨N, 4, none⟩ = false ∧ w.frozen? ⟨N, 5, none⟩ = false :=
  ⟨hB.cell 0, hB.cell 1, hB.cell 2, hB.cell 3, hB.cell 4, hB.cell 5, hB.frozen 1, hB.frozen 2, hB.frozen 3, hB.frozen 4, hB.frozen 5⟩

theorem w64 (n : Int) (h : -9223372036854775808 ≤ n ∧ n ≤ 9223372036854775807) : wrap64 n = n := by unfold wrap64; omega
theorem blank_no {x : Nat} (h0 : ¬ x = 32) (h1 : ¬ x = 9) (h2 : ¬ x = 10) : Lx.blank x = false := by unfold Lx.blank; simp [h0, h1, h2]
set_option maxHeartbeats 4000000 in
theorem goes_any (N : Nat) (s T : ByteArray) (a d e eat K : Nat) (t : Tok) (w : World) (hB : Blk w N 62 (PB s T a d e eat)) (hsz : s.size ≤ 4000) (hT : a + T.size ≤ s.size)
    (hK : a + T.size + Lx.skip ((bl s).drop (a + T.size)) = K) (ht : Lx.scan ((bl s).drop K) = t) :
    Calls Try.prog 30 #[.pointer (some ⟨N, 0, none⟩)] w fun ee w' => ee = .returned (.tuple #[]) ∧ Blk w' N 62 (PB s t.str K d e eat) ∧ Gb N w w' := by
  obtain ⟨c0, c1, c2, c3, c4, c5, f1, f2, f3, f4, f5⟩ := pb_cells hB
  have hS : Bx (SL (bl s) (a + T.size) K) := ⟨⟨by rw [bl_length]; exact hT, hK⟩⟩
  have HB := Bx.mk hB
  have HT := Bx.mk ht
  have hw : wrap64 ((a : Int) + T.size) = ((a + T.size : Nat) : Int) := by rw [w64 _ (by omega)]; omega
  clear hB hK ht c3 c4 c5 f3 f4 f5
  go_enter Try.func30, Try.ntmps30
  go_wp2_with fail
  go_still (by kernel_rfl)
  go_wp2_with fail
  go_loop [2] (fun q => ∃ k : Nat, q = .int .i64 k ∧ Bx (SL (bl s) k K)) (fun q => s.size - (intOf q).toNat)
  case atStart => exact ⟨a + T.size, congrArg (Value.int .i64) (by rw [IntKind.wrap_i64]; omega), hS⟩
  case round =>
    clear hS
    obtain ⟨k, rfl, HK⟩ := hrel
    by_cases hk : k < s.size
    · have hki : (k : Int) < s.size := by omega
      have hkl : k < (bl s).length := by rw [bl_length]; exact hk
      obtain ⟨x, hx⟩ : ∃ x, (bl s)[k]? = some x := ⟨_, List.getElem?_eq_getElem hkl⟩
      by_cases h0 : x = 32
      · subst h0
        have hxi := run_idx hx
        have HS := Bx.mk (HK.out.step hx (by unfold Lx.blank; decide))
        clear hx
        go_wp2_with fail
        exact ⟨⟨k + 1, by go_num, HS⟩, by simp [intOf]; omega⟩
      by_cases h1 : x = 9
      · subst h1
        have hxi := run_idx hx
        have HS := Bx.mk (HK.out.step hx (by unfold Lx.blank; decide))
        clear hx
        go_wp2_with fail
        exact ⟨⟨k + 1, by go_num, HS⟩, by simp [intOf]; omega⟩
      by_cases h2 : x = 10
      · subst h2
        have hxi := run_idx hx
        have HS := Bx.mk (HK.out.step hx (by unfold Lx.blank; decide))
        clear hx
        go_wp2_with fail
        exact ⟨⟨k + 1, by go_num, HS⟩, by simp [intOf]; omega⟩
      have hxi := run_idx hx
      obtain rfl := HK.out.stop hx (blank_no h0 h1 h2)
      have q0 : ((x : Int) == 32) = false := by rw [beq_eq_false_iff_ne]; omega
      have q1 : ((x : Int) == 9) = false := by rw [beq_eq_false_iff_ne]; omega
      have q2 : ((x : Int) == 10) = false := by rw [beq_eq_false_iff_ne]; omega
      have hkle : (k : Int) ≤ s.size := by omega
      clear hx h0 h1 h2
      have HC := Bx.mk (scan_any (s.extract k s.size) w.drew (by rw [ByteArray.size_extract]; omega))
      rw [show bl (s.extract k s.size) = (bl s).drop k from by rw [bl_extract, List.take_of_length_le (by rw [List.length_drop, bl_length]; omega)], HT.out] at HC
      go_wp2_with fail
      refine HC.out.mono ?_
      rintro e w1 ⟨rfl, rfl⟩
      go_wp2_with fail
      go_end0
      refine ⟨rfl, ?_, ?_⟩
      · exact ((HB.out.drew.set_ 1 _).set_ 2 _)
      · exact (((Gb.refl _ _).set (p := ⟨N, 1, none⟩) (.inl rfl) _).set (p := ⟨N, 2, none⟩) (.inl rfl) _).drew
    · have hki : ¬ (k : Int) < s.size := by omega
      obtain rfl := HK.out.stop' (by rw [bl_length]; exact hk)
      have hkle : (k : Int) ≤ s.size := by have := HK.out.hi; rw [bl_length] at this; omega
      have HC := Bx.mk (scan_any (s.extract k s.size) w.drew (by rw [ByteArray.size_extract]; omega))
      rw [show bl (s.extract k s.size) = (bl s).drop k from by rw [bl_extract, List.take_of_length_le (by rw [List.length_drop, bl_length]; omega)], HT.out] at HC
      go_wp2_with fail
      refine HC.out.mono ?_
      rintro e w1 ⟨rfl, rfl⟩
      go_wp2_with fail
      go_end0
      refine ⟨rfl, ?_, ?_⟩
      · exact ((HB.out.drew.set_ 1 _).set_ 2 _)
      · exact (((Gb.refl _ _).set (p := ⟨N, 1, none⟩) (.inl rfl) _).set (p := ⟨N, 2, none⟩) (.inl rfl) _).drew
end Go.Proofs.Ytfgokhafiffbaaa

/-
  Formulas: the parser's state; goes, bad, may, must over it.
-/
namespace Go.Proofs.Ytfgokhafiffbaaa
set_option linter.unusedVariables false
open Go.RowKit

/-- the parser at block N reads as the plain state -/
structure PS (w : World) (N d : Nat) (s : ByteArray) (st : St) : Prop where
  blk : Blk w N 62 (PB s st.now.str st.at_ d st.e st.eat)
  len : st.at_ + st.now.txt.length ≤ s.size
  size : s.size ≤ 4000
  toks : ∃ r, st.ts = (st.now, st.at_) :: r ∧ (st.now ≠ .eof → st.now ≠ .bad → r = Lx.lex ((bl s).drop (st.at_ + st.now.txt.length)) (st.at_ + st.now.txt.length)) ∧ (st.now = .eof ∨ st.now = .bad → r = [])
theorem PS.alloc {w : World} {N d : Nat} {s : ByteArray} {st : St} (h : PS w N d s st) (o : Obj) : PS (w.alloc o) N d s st := ⟨h.blk.alloc o, h.len, h.size, h.toks⟩
theorem PS.drew {w : World} {N d : Nat} {s : ByteArray} {st : St} (h : PS w N d s st) : PS w.drew N d s st := ⟨h.blk.drew, h.len, h.size, h.toks⟩
theorem PS.far {w : World} {N d : Nat} {s : ByteArray} {st : St} (h : PS w N d s st) {p : Addr} (hp : N ≠ p.block) (u : Value) : PS (w.setCell p u) N d s st := ⟨h.blk.far hp u, h.len, h.size, h.toks⟩
theorem PS.lt {w : World} {N d : Nat} {s : ByteArray} {st : St} (h : PS w N d s st) : N < w.heap.size := h.blk.lt
theorem PS.deep {w : World} {N d : Nat} {s : ByteArray} {st : St} (h : PS w N d s st) (d' : Nat) : PS (w.setCell ⟨N, 3, none⟩ (.int .i64 (d' : Int))) N d' s st := ⟨h.blk.set_ 3 _, h.len, h.size, h.toks⟩
/-- the state that a lexed text begins with -/
theorem St.lexed {l : List Nat} {a K : Nat} {t : Tok} {e eat : Nat} (hK : a + Lx.skip l = K) (ht : Lx.scan (l.drop (Lx.skip l)) = t) :
    (⟨Lx.lex l a, e, eat⟩ : St).now = t ∧ (⟨Lx.lex l a, e, eat⟩ : St).at_ = K ∧
      ∃ r, Lx.lex l a = (t, K) :: r ∧ (t ≠ .eof → t ≠ .bad → r = Lx.lex (l.drop (Lx.skip l + t.txt.length)) (K + t.txt.length)) ∧ (t = .eof ∨ t = .bad → r = []) := by
  subst hK ht
  have hE := Lx.lex_eq l a
  by_cases hb : Lx.scan (l.drop (Lx.skip l)) = .eof ∨ Lx.scan (l.drop (Lx.skip l)) = .bad
  · rw [if_pos hb] at hE
    refine ⟨by unfold St.now; rw [hE], by unfold St.at_; rw [hE], [], hE, fun h1 h2 => ?_, fun _ => rfl⟩
    rcases hb with hb | hb
    · exact absurd hb h1
    · exact absurd hb h2
  · rw [if_neg hb] at hE
    refine ⟨by unfold St.now; rw [hE], by unfold St.at_; rw [hE], _, hE, fun h1 h2 => ?_, fun h => absurd h hb⟩
    rw [List.drop_drop]
theorem PS.fresh {w : World} {N d : Nat} {s : ByteArray} {a K e eat : Nat} {t : Tok} (hK : a + Lx.skip ((bl s).drop a) = K) (ht : Lx.scan ((bl s).drop K) = t) (hB : Blk w N 62 (PB s t.str K d e eat))
    (ha : a ≤ s.size) (hs : s.size ≤ 4000) : PS w N d s ⟨Lx.lex ((bl s).drop a) a, e, eat⟩ := by
  have ht' : Lx.scan (((bl s).drop a).drop (Lx.skip ((bl s).drop a))) = t := by rw [List.drop_drop, hK]; exact ht
  obtain ⟨h1, h2, r, h3, h4, h5⟩ := St.lexed (e := e) (eat := eat) hK ht'
  have hsk := Lx.skip_le ((bl s).drop a)
  rw [List.length_drop, bl_length] at hsk
  have hl := Lx.scan_len ((bl s).drop K) (fun x hx => bl_lt (List.mem_of_mem_drop hx))
  rw [ht, List.length_drop, bl_length] at hl
  refine ⟨by rw [h1, h2]; exact hB, by rw [h1, h2]; omega, hs, r, by rw [h1, h2]; exact h3, fun g1 g2 => ?_, fun g => h5 (by rw [h1] at g; exact g)⟩
  rw [h1] at g1 g2
  rw [h1, h2, h4 g1 g2, List.drop_drop]
  congr 2
  omega

theorem goes_st (N d : Nat) (s : ByteArray) (st : St) (w : World) (h : PS w N d s st) (h1 : st.now ≠ .eof) (h2 : st.now ≠ .bad) :
    Calls Try.prog 30 #[.pointer (some ⟨N, 0, none⟩)] w fun ee w' => ee = .returned (.tuple #[]) ∧ PS w' N d s st.goes ∧ Gb N w w' := by
  have hl : st.now.str.size = st.now.txt.length := by rw [← bl_length, Tok.bl_str]
  refine (goes_any N s st.now.str st.at_ d st.e st.eat _ _ w h.blk h.size (by rw [hl]; exact h.len) rfl rfl).mono ?_
  rintro e w' ⟨rfl, hB, hG⟩
  refine ⟨rfl, ?_, hG⟩
  obtain ⟨r, hr, hx, _⟩ := h.toks
  have := PS.fresh (a := st.at_ + st.now.txt.length) rfl rfl (by rw [← hl]; exact hB) h.len h.size
  rw [← hx h1 h2] at this
  have e : st.goes = ⟨r, st.e, st.eat⟩ := by unfold St.goes; rw [hr]; rfl
  rw [e]
  exact this

set_option maxHeartbeats 4000000 in
theorem bad_st (N d x : Nat) (s : ByteArray) (st : St) (w : World) (h : PS w N d s st) :
    Calls Try.prog 32 #[.pointer (some ⟨N, 0, none⟩), .int .i64 (x : Int)] w fun ee w' => ee = .returned (.tuple #[]) ∧ PS w' N d s (st.bad x) ∧ Gb N w w' := by
  obtain ⟨c0, c1, c2, c3, c4, c5, f1, f2, f3, f4, f5⟩ := pb_cells h.blk
  have H := Bx.mk h
  clear h
  by_cases he : st.e = 0
  · have q : (st.e : Int) = 0 := by omega
    have HE := Bx.mk he
    clear he
    go_enter Try.func32, Try.ntmps32
    go_wp2_with fail
    go_end0
    refine ⟨rfl, ?_, ((Gb.refl _ _).set (p := ⟨N, 4, none⟩) (.inl rfl) _).set (p := ⟨N, 5, none⟩) (.inl rfl) _⟩
    have e : st.bad x = { st with e := x, eat := st.at_ } := by unfold St.bad; rw [if_pos HE.out]
    rw [e]
    have := (H.out.blk.set_ 4 (.int .i64 (x : Int))).set_ 5 (.int .i64 (st.at_ : Int))
    exact ⟨this, H.out.len, H.out.size, H.out.toks⟩
  · have q : ¬ (st.e : Int) = 0 := by omega
    have e : st.bad x = st := by unfold St.bad; rw [if_neg he]
    rw [e]
    clear he e
    go_enter Try.func32, Try.ntmps32
    go_wp2_with fail
    first | go_end0 | refine bodyPost_ret (results_none rfl _ _ _) rfl ?_
    exact ⟨rfl, H.out, Gb.refl _ _⟩

set_option maxHeartbeats 4000000 in
theorem may_st (N d : Nat) (t : Tok) (k s : ByteArray) (st : St) (w : World) (h : PS w N d s st) (hk : k = t.str) (h1 : t ≠ .eof) (h2 : t ≠ .bad) :
    Calls Try.prog 61 #[.pointer (some ⟨N, 0, none⟩), .string k] w fun ee w' => ee = .returned (.bool (st.may t)) ∧ PS w' N d s (if st.may t then st.goes else st) ∧ Gb N w w' := by
  subst hk
  obtain ⟨c0, c1, c2, c3, c4, c5, f1, f2, f3, f4, f5⟩ := pb_cells h.blk
  have hT := Tok.str_eq st.now t
  by_cases he : st.e = 0
  · have q : (st.e : Int) = 0 := by omega
    by_cases hn : st.now = t
    · have hm : st.may t = true := by unfold St.may; rw [he, hn]; simp
      have HG := Bx.mk (goes_st N d s st w h (by rw [hn]; exact h1) (by rw [hn]; exact h2))
      rw [hm, if_pos rfl]
      rw [decide_eq_true hn] at hT
      clear h he hn h1 h2 hm c0 c2 c3 c5 f1 f2 f3 f4 f5
      go_enter Try.func61, Try.ntmps61
      go_wp2_with fail
      refine HG.out.mono ?_
      rintro e w1 ⟨rfl, hP, hB⟩
      have HP := Bx.mk hP
      have HB := Bx.mk hB
      clear hP hB
      go_wp2_with fail
      go_ret
      exact ⟨rfl, HP.out, HB.out⟩
    · have hm : st.may t = false := by unfold St.may; rw [decide_eq_false hn]; simp
      have H := Bx.mk h
      rw [hm, if_neg (by simp)]
      rw [decide_eq_false hn] at hT
      clear h he hn h1 h2 hm c0 c2 c3 c5 f1 f2 f3 f4 f5
      go_enter Try.func61, Try.ntmps61
      go_wp2_with fail
      go_ret
      exact ⟨rfl, H.out, Gb.refl _ _⟩
  · have q : ¬ (st.e : Int) = 0 := by omega
    have q2 : ((st.e : Int) == 0) = false := by rw [beq_eq_false_iff_ne]; omega
    have hm : st.may t = false := by unfold St.may; rw [decide_eq_false he]; simp
    have H := Bx.mk h
    rw [hm, if_neg (by simp)]
    clear h he h1 h2 hm c0 c2 c3 c5 f1 f2 f3 f4 f5 hT
    go_enter Try.func61, Try.ntmps61
    go_wp2_with fail
    go_ret
    exact ⟨rfl, H.out, Gb.refl _ _⟩

set_option maxHeartbeats 4000000 in
theorem must_st (N d : Nat) (t : Tok) (k s : ByteArray) (st : St) (w : World) (h : PS w N d s st) (hk : k = t.str) (h1 : t ≠ .eof) (h2 : t ≠ .bad) :
    Calls Try.prog 90 #[.pointer (some ⟨N, 0, none⟩), .string k] w fun ee w' => ee = .returned (.tuple #[]) ∧ PS w' N d s (st.must t) ∧ Gb N w w' := by
  have HM := Bx.mk (may_st N d t k s st w h hk h1 h2)
  clear h hk h1 h2
  cases hm : st.may t with
  | true =>
    rw [hm, if_pos rfl] at HM
    have e : st.must t = st.goes := by unfold St.must; rw [hm]; rfl
    rw [e]
    clear e hm
    go_enter Try.func90, Try.ntmps90
    go_wp2_with fail
    refine HM.out.mono ?_
    rintro e w1 ⟨rfl, hP, hB⟩
    have HP := Bx.mk hP
    have HB := Bx.mk hB
    clear hP hB
    go_wp2_with fail
    first | go_end0 | refine bodyPost_ret (results_none rfl _ _ _) rfl ?_
    exact ⟨rfl, HP.out, HB.out⟩
  | false =>
    rw [hm, if_neg (by simp)] at HM
    have e : st.must t = st.bad 230 := by unfold St.must; rw [hm]; rfl
    rw [e]
    clear e hm
    go_enter Try.func90, Try.ntmps90
    go_wp2_with fail
    refine HM.out.mono ?_
    rintro e w1 ⟨rfl, hP, hB⟩
    have HB := Bx.mk hB
    have HD := Bx.mk (bad_st N d 230 s st w1 hP)
    clear hP hB
    go_wp2_with fail
    refine HD.out.mono ?_
    rintro e w2 ⟨rfl, hP, hB⟩
    have HP := Bx.mk hP
    have HB2 := Bx.mk hB
    clear hP hB
    go_wp2_with fail
    first | go_end0 | refine bodyPost_ret (results_none rfl _ _ _) rfl ?_
    exact ⟨rfl, HP.out, HB.out.trans HB2.out⟩
end Go.Proofs.Ytfgokhafiffbaaa

/-
  Formulas: trees, how they lie in memory; the parser's plain form, first part.
-/
namespace Go.Proofs.Ytfgokhafiffbaaa
set_option linter.unusedVariables false
open Go.RowKit

/-- a list of formulas -/
inductive Fo where
  | nil
  | cons (k a v : Int) (kids rest : Fo)
  deriving DecidableEq
structure Tr where
  k : Int
  a : Int
  v : Int
  kids : Fo
  deriving DecidableEq
def Fo.len : Fo → Nat
  | .nil => 0
  | .cons _ _ _ _ r => r.len + 1
def Tr.on (t : Tr) (r : Fo) : Fo := .cons t.k t.a t.v t.kids r
def Tr.zero : Tr := ⟨0, 0, 0, .nil⟩
def Ev (t : Tr) (sl : Value) : Value := .agg #[.int .i64 t.k, .int .i64 t.a, .int .i64 t.v, sl]
def Ge (n : Nat) (g : Nat) : Prop := n ≤ g
/-- what lies at (b, o) reads as the list; all of its blocks are such as B says -/
def RdF (w : World) (B : Nat → Prop) : Fo → Nat → Nat → Prop
  | .nil, _, _ => True
  | .cons k a v kids rest, b, o => B b ∧ w.cell? ⟨b, o, none⟩ = some (.int .i64 k) ∧ w.cell? ⟨b, o + 1, none⟩ = some (.int .i64 a) ∧ w.cell? ⟨b, o + 2, none⟩ = some (.int .i64 v) ∧
      (∃ p cap b' o', w.cell? ⟨b, o + 3, none⟩ = some (.slice p kids.len cap) ∧ ((kids = .nil ∧ cap = 0) ∨ p = some ⟨b', o', none⟩) ∧ kids.len ≤ cap ∧ RdF w B kids b' o') ∧ RdF w B rest b (o + 4)
/-- the slice reads as the list -/
def SlF (w : World) (B : Nat → Prop) (v : Value) (F : Fo) : Prop :=
  ∃ p cap b o, v = .slice p F.len cap ∧ ((F = .nil ∧ cap = 0) ∨ p = some ⟨b, o, none⟩) ∧ F.len ≤ cap ∧ RdF w B F b o
theorem RdF.kept {w w' : World} {B : Nat → Prop} (h : ∀ g, B g → g < w.heap.size → w'.heap[g]? = w.heap[g]?) : ∀ (F : Fo) (b o : Nat), RdF w B F b o → RdF w' B F b o
  | .nil, _, _, _ => True.intro
  | .cons k a v kids rest, b, o, hr => by
    obtain ⟨hb, h0, h1, h2, ⟨p, cap, b', o', h3, hp, hc, hk⟩, hrest⟩ := hr
    have hlt : b < w.heap.size := World.block_lt_of_cell? w _ h0
    have e : ∀ i, w'.cell? ⟨b, i, none⟩ = w.cell? ⟨b, i, none⟩ := fun i => World.cell?_of_block (a := ⟨b, i, none⟩) (h b hb hlt)
    exact ⟨hb, (e _).trans h0, (e _).trans h1, (e _).trans h2, ⟨p, cap, b', o', (e _).trans h3, hp, hc, RdF.kept h kids b' o' hk⟩, RdF.kept h rest b (o + 4) hrest⟩
theorem RdF.mono {w : World} {B B' : Nat → Prop} (h : ∀ g, g < w.heap.size → B g → B' g) : ∀ (F : Fo) (b o : Nat), RdF w B F b o → RdF w B' F b o
  | .nil, _, _, _ => True.intro
  | .cons k a v kids rest, b, o, hr => by
    obtain ⟨hb, h0, h1, h2, ⟨p, cap, b', o', h3, hp, hc, hk⟩, hrest⟩ := hr
    exact ⟨h b (World.block_lt_of_cell? w _ h0) hb, h0, h1, h2, ⟨p, cap, b', o', h3, hp, hc, RdF.mono h kids b' o' hk⟩, RdF.mono h rest b (o + 4) hrest⟩
theorem SlF.kept {w w' : World} {B : Nat → Prop} {v : Value} {F : Fo} (hs : SlF w B v F) (h : ∀ g, B g → g < w.heap.size → w'.heap[g]? = w.heap[g]?) : SlF w' B v F := by
  obtain ⟨p, cap, b, o, h1, h2, h3, h4⟩ := hs
  exact ⟨p, cap, b, o, h1, h2, h3, RdF.kept h F b o h4⟩
theorem SlF.mono' {w : World} {B B' : Nat → Prop} {v : Value} {F : Fo} (hs : SlF w B v F) (h : ∀ g, g < w.heap.size → B g → B' g) : SlF w B' v F := by
  obtain ⟨p, cap, b, o, h1, h2, h3, h4⟩ := hs
  exact ⟨p, cap, b, o, h1, h2, h3, RdF.mono h F b o h4⟩
theorem SlF.mono {w : World} {B B' : Nat → Prop} {v : Value} {F : Fo} (hs : SlF w B v F) (h : ∀ g, B g → B' g) : SlF w B' v F := hs.mono' fun g _ => h g
theorem SlF.below {w w' : World} {B : Nat → Prop} {v : Value} {F : Fo} (hs : SlF w B v F) (h : Below w.heap.size w w') : SlF w' B v F := hs.kept fun g _ hl => h.block g hl
theorem SlF.alloc {w : World} {B : Nat → Prop} {v : Value} {F : Fo} (hs : SlF w B v F) (o : Obj) : SlF (w.alloc o) B v F := hs.kept fun g _ hl => Below.heap_alloc w o g hl
theorem SlF.drew {w : World} {B : Nat → Prop} {v : Value} {F : Fo} (hs : SlF w B v F) : SlF w.drew B v F := hs.kept fun g _ hl => rfl
theorem SlF.nil (w : World) (B : Nat → Prop) : SlF w B (.slice none 0 0) .nil := ⟨none, 0, 0, 0, rfl, .inl ⟨rfl, rfl⟩, Nat.le_refl _, True.intro⟩
theorem Fo.len_nil : Fo.nil.len = 0 := rfl
theorem Fo.len_on (t : Tr) (r : Fo) : (t.on r).len = r.len + 1 := rfl
/-- a list that lies in a block -/
theorem RdF.on {w : World} {B : Nat → Prop} {b o : Nat} {t : Tr} {sl : Value} {r : Fo} (hb : B b) (h0 : w.cell? ⟨b, o, none⟩ = some (.int .i64 t.k)) (h1 : w.cell? ⟨b, o + 1, none⟩ = some (.int .i64 t.a)) (h2 : w.cell? ⟨b, o + 2, none⟩ = some (.int .i64 t.v))
    (h3 : w.cell? ⟨b, o + 3, none⟩ = some sl) (hs : SlF w B sl t.kids) (hr : RdF w B r b (o + 4)) : RdF w B (t.on r) b o := by
  obtain ⟨p, cap, b', o', rfl, hp, hc, hk⟩ := hs
  exact ⟨hb, h0, h1, h2, ⟨p, cap, b', o', h3, hp, hc, hk⟩, hr⟩
theorem SlF.mk {w : World} {B : Nat → Prop} {b o cap : Nat} {F : Fo} (hc : F.len ≤ cap) (h : RdF w B F b o) : SlF w B (.slice (some ⟨b, o, none⟩) F.len cap) F := ⟨_, cap, b, o, rfl, .inr rfl, hc, h⟩
theorem SlF.is {w : World} {B : Nat → Prop} {v : Value} {F : Fo} (h : SlF w B v F) : ∃ p cap, v = .slice p F.len cap := by
  obtain ⟨p, cap, b, o, h1, _⟩ := h
  exact ⟨p, cap, h1⟩

/-- one deeper: at the last depth it's refused -/
def Ex.within (read : Option (St → Tr × St)) (st : St) : Tr × St :=
  match read with
  | none => (Tr.zero, st.bad 231)
  | some f => if st.e = 0 then f st else (Tr.zero, st)
def Ex.two (k : Int) (a : Nat) (x y : Tr) : Tr := ⟨k, a, 0, x.on (y.on .nil)⟩
def Ex.one (k : Int) (a : Nat) (v : Int) (x : Tr) : Tr := ⟨k, a, v, x.on .nil⟩
def Ex.chainF : Nat → Tok → Int → (St → Tr × St) → Tr → St → Tr × St
  | 0, _, _, _, x, st => (x, st)
  | n + 1, t, k, read, x, st => if st.may t then Ex.chainF n t k read (Ex.two k st.at_ x (read st.goes).1) (read st.goes).2 else (x, st)
def Ex.chain (t : Tok) (k : Int) (read : St → Tr × St) (st : St) : Tr × St := Ex.chainF (read st).2.ts.length t k read (read st).1 (read st).2
def Ex.imp (w : Option (St → Tr × St)) (read : St → Tr × St) (st : St) : Tr × St :=
  if (read st).2.may .imp then (Ex.two 7 (read st).2.at_ (read st).1 (Ex.within w (read st).2.goes).1, (Ex.within w (read st).2.goes).2) else read st
def Ex.bound (w : Option (St → Tr × St)) (k : Int) (a : Nat) (st : St) : Tr × St :=
  match st.now with
  | .var n => (Ex.one k a n.val (Ex.within w st.goes).1, (Ex.within w st.goes).2)
  | _ => (Tr.zero, st.bad 230)
def Ex.ite (w : Option (St → Tr × St)) (a : Nat) (st : St) : Tr × St :=
  let r1 := Ex.within w (st.must .lp)
  let r2 := Ex.within w (r1.2.must .comma)
  let r3 := Ex.within w (r2.2.must .comma)
  (⟨9, a, 0, r1.1.on (r2.1.on (r3.1.on .nil))⟩, r3.2.must .rp)
def Ex.prim (w : Option (St → Tr × St)) (st : St) : Tr × St :=
  match st.now with
  | .var n => (⟨1, st.at_, n.val, .nil⟩, st.goes)
  | .zero => (⟨2, st.at_, 0, .nil⟩, st.goes)
  | .one => (⟨2, st.at_, 1, .nil⟩, st.goes)
  | _ => if st.may .lp then ((Ex.within w st.goes).1, (Ex.within w st.goes).2.must .rp)
    else if st.may .ite then Ex.ite w st.at_ st.goes else (Tr.zero, st.bad 230)
def Ex.un (wu wi : Option (St → Tr × St)) (st : St) : Tr × St :=
  if st.e ≠ 0 then (Tr.zero, st)
  else if st.may .not then (Ex.one 3 st.at_ 0 (Ex.within wu st.goes).1, (Ex.within wu st.goes).2)
  else if st.may .all then Ex.bound wu 10 st.at_ st.goes
  else if st.may .any then Ex.bound wu 11 st.at_ st.goes
  else Ex.prim wi st
structure Rd where
  iff : St → Tr × St
  imp : St → Tr × St
  un : St → Tr × St
/-- the readers where so many levels are left -/
def Ex.mk (wu wi wf : Option (St → Tr × St)) : Rd :=
  let un := Ex.un wu wf
  let imp := Ex.imp wi (Ex.chain .or 5 (Ex.chain .xor 6 (Ex.chain .and 4 un)))
  ⟨Ex.chain .iff 8 imp, imp, un⟩
def Ex.lev : Nat → Rd
  | 0 => Ex.mk none none none
  | n + 1 => Ex.mk (some (Ex.lev n).un) (some (Ex.lev n).imp) (some (Ex.lev n).iff)
/-- the plain parser: tree, place, error -/
def Ex.parse (l : List Nat) : Tr × Nat × Nat :=
  if l.length > 4000 then (Tr.zero, 0, 232) else
  let r := (Ex.lev 30).iff ⟨Lx.lex l 0, 0, 0⟩
  let st := if r.2.e = 0 ∧ r.2.now ≠ .eof then r.2.bad 230 else r.2
  if st.e = 0 then (r.1, 0, 0) else (Tr.zero, st.eat, st.e)
end Go.Proofs.Ytfgokhafiffbaaa

/-
  Formulas: within, one deeper.
-/
namespace Go.Proofs.Ytfgokhafiffbaaa
set_option linter.unusedVariables false
open Go.RowKit

/-- what a reader gives: a tree, and the state behind it -/
def Gives (N d : Nat) (s : ByteArray) (w : World) (r : Tr × St) (e : Ending) (w' : World) : Prop :=
  ∃ sl, e = .returned (Ev r.1 sl) ∧ SlF w' (Ge w.heap.size) sl r.1.kids ∧ PS w' N d s r.2 ∧ Gb N w w'
def Pz (f : FuncId) (d : Nat) (p : St → Tr × St) : Prop :=
  ∀ (N : Nat) (s : ByteArray) (st : St) (w : World), PS w N d s st → Calls Try.prog f #[.pointer (some ⟨N, 0, none⟩)] w (Gives N d s w (p st))

set_option maxHeartbeats 4000000 in
theorem within1_d (bp N d : Nat) (w : World) (hd : d < 100) (hb : w.cell? ⟨bp, 0, none⟩ = some (.pointer (some ⟨N, 0, none⟩))) (hc : w.cell? ⟨N, 3, none⟩ = some (.int .i64 ((d + 1 : Nat) : Int))) (hf : w.frozen? ⟨N, 3, none⟩ = false) :
    CallsD Try.prog 78 #[.pointer (some ⟨bp, 0, none⟩)] .returning w fun e u' w' => u' = .returning ∧ (e = .returned (.tuple #[]) ∧ w' = w.setCell ⟨N, 3, none⟩ (.int .i64 (d : Int))) := by
  have hk : wrap64 (((d + 1 : Nat) : Int) - 1) = (d : Int) := by rw [w64 _ (by omega)]; omega
  go_enter_d Try.func78, Try.ntmps78
  go_wp2_with fail
  go_end0
  exact ⟨rfl, rfl⟩
theorem PS.deep' {w : World} {N d : Nat} {s : ByteArray} {st : St} (h : PS w N d s st) (d' : Nat) {x : Int} (hx : x = (d' : Int)) : PS (w.setCell ⟨N, 3, none⟩ (.int .i64 x)) N d' s st := by subst hx; exact h.deep d'
theorem cells4 {w : World} {g : Nat} {t : TypeId} {a b c d : Value} (h : Blk w g t #[a, b, c, d]) : w.cell? ⟨g, 0, none⟩ = some a ∧ w.cell? ⟨g, 1, none⟩ = some b ∧ w.cell? ⟨g, 2, none⟩ = some c ∧ w.cell? ⟨g, 3, none⟩ = some d ∧
    w.frozen? ⟨g, 0, none⟩ = false ∧ w.frozen? ⟨g, 1, none⟩ = false ∧ w.frozen? ⟨g, 2, none⟩ = false ∧ w.frozen? ⟨g, 3, none⟩ = false :=
  ⟨h.cell 0, h.cell 1, h.cell 2, h.cell 3, h.frozen 0, h.frozen 1, h.frozen 2, h.frozen 3⟩
/-- four cells of a block of one's own written -/
theorem PS.st4 {w : World} {N d R : Nat} {s : ByteArray} {st : St} (h : PS w N d s st) (hne : N ≠ R) (a b c e : Value) : PS ((((w.setCell ⟨R, 0, none⟩ a).setCell ⟨R, 1, none⟩ b).setCell ⟨R, 2, none⟩ c).setCell ⟨R, 3, none⟩ e) N d s st :=
  (((h.far (p := ⟨R, 0, none⟩) hne a).far (p := ⟨R, 1, none⟩) hne b).far (p := ⟨R, 2, none⟩) hne c).far (p := ⟨R, 3, none⟩) hne e
theorem Gb.st4 {w w' : World} {N R : Nat} (h : Gb N w w') (hR : w.heap.size ≤ R) (a b c e : Value) : Gb N w ((((w'.setCell ⟨R, 0, none⟩ a).setCell ⟨R, 1, none⟩ b).setCell ⟨R, 2, none⟩ c).setCell ⟨R, 3, none⟩ e) :=
  (((h.set (p := ⟨R, 0, none⟩) (.inr hR) a).set (p := ⟨R, 1, none⟩) (.inr hR) b).set (p := ⟨R, 2, none⟩) (.inr hR) c).set (p := ⟨R, 3, none⟩) (.inr hR) e
theorem SlF.far {w : World} {B : Nat → Prop} {v : Value} {F : Fo} (hs : SlF w B v F) {p : Addr} (hR : ¬ B p.block) (a : Value) : SlF (w.setCell p a) B v F :=
  hs.kept fun g hg hl => Below.heap_setCell _ _ _ _ (fun e => hR (e ▸ hg))
theorem SlF.st4 {w : World} {B : Nat → Prop} {R : Nat} {v : Value} {F : Fo} (hs : SlF w B v F) (hR : ¬ B R) (a b c e : Value) : SlF ((((w.setCell ⟨R, 0, none⟩ a).setCell ⟨R, 1, none⟩ b).setCell ⟨R, 2, none⟩ c).setCell ⟨R, 3, none⟩ e) B v F :=
  (((hs.far (p := ⟨R, 0, none⟩) hR a).far (p := ⟨R, 1, none⟩) hR b).far (p := ⟨R, 2, none⟩) hR c).far (p := ⟨R, 3, none⟩) hR e
theorem Blk.st4 {w : World} {R g : Nat} {t : TypeId} {cs : Array Value} (h : Blk w g t cs) (hne : g ≠ R) (a b c e : Value) : Blk ((((w.setCell ⟨R, 0, none⟩ a).setCell ⟨R, 1, none⟩ b).setCell ⟨R, 2, none⟩ c).setCell ⟨R, 3, none⟩ e) g t cs :=
  (((h.far (p := ⟨R, 0, none⟩) hne a).far (p := ⟨R, 1, none⟩) hne b).far (p := ⟨R, 2, none⟩) hne c).far (p := ⟨R, 3, none⟩) hne e
theorem Blk.own4 {w : World} {R : Nat} {t : TypeId} {x y z u : Value} (h : Blk w R t #[x, y, z, u]) (a b c e : Value) : Blk ((((w.setCell ⟨R, 0, none⟩ a).setCell ⟨R, 1, none⟩ b).setCell ⟨R, 2, none⟩ c).setCell ⟨R, 3, none⟩ e) R t #[a, b, c, e] :=
  (((h.set_ 0 a).set_ 1 b).set_ 2 c).set_ 3 e
theorem size_st4 (w : World) (R : Nat) (a b c e : Value) : ((((w.setCell ⟨R, 0, none⟩ a).setCell ⟨R, 1, none⟩ b).setCell ⟨R, 2, none⟩ c).setCell ⟨R, 3, none⟩ e).heap.size = w.heap.size := by simp [World.setCell]
theorem size_set (w : World) (p : Addr) (a : Value) : (w.setCell p a).heap.size = w.heap.size := by simp [World.setCell]
theorem SlF.gbs {w w' : World} {N : Nat} {B : Nat → Prop} {v : Value} {F : Fo} (hs : SlF w B v F) (hB : ¬ B N) (h : Gb N w w') : SlF w' B v F :=
  hs.kept fun g hg hl => h.block g hl (fun e => hB ((Option.some.inj e) ▸ hg))
/-- the cells that hold the zero formula -/
def z4 : Array Value := #[.int .i64 0, .int .i64 0, .int .i64 0, .slice none 0 0]
theorem bad_ne (x : Nat) (hx : x ≠ 0) (st : St) : (st.bad x).e ≠ 0 := by
  unfold St.bad
  split
  · exact hx
  · assumption

set_option maxHeartbeats 4000000 in
theorem within_no (N d : Nat) (s : ByteArray) (st : St) (w : World) (f : Value) (h : PS w N d s st) (hd : d < 30) (he : ¬ st.e = 0) :
    Calls Try.prog 63 #[.pointer (some ⟨N, 0, none⟩), f] w (Gives N d s w (Tr.zero, st)) := by
  have hmf : ∀ (fn : Fn) (first cap : Array Value) (w : World), (Instr.makeFunc fn first cap).run Try.prog w = .ok (.func fn first cap) w := fun _ _ _ _ => rfl
  obtain ⟨c0, c1, c2, c3, c4, c5, f1, f2, f3, f4, f5⟩ := pb_cells h.blk
  have q : ¬ (st.e : Int) = 0 := by omega
  have q2 : ¬ ((d : Int) + 1) > 30 := by omega
  have hk : wrap64 ((d : Int) + 1) = (d : Int) + 1 := by rw [w64 _ (by omega)]
  have hlt := h.lt
  have HP := Bx.mk (((h.deep' (d + 1) (x := (d : Int) + 1) (by omega)).alloc (Obj.cells #[.pointer (some ⟨N, 0, none⟩)] 58)).alloc (Obj.cells #[.int .i64 0, .int .i64 0, .int .i64 0, .slice none 0 0] 36))
  have HG := Bx.mk ((((Gb.refl N w).set (p := ⟨N, 3, none⟩) (.inl rfl) (.int .i64 ((d : Int) + 1))).alloc (Obj.cells #[.pointer (some ⟨N, 0, none⟩)] 58)).alloc (Obj.cells #[.int .i64 0, .int .i64 0, .int .i64 0, .slice none 0 0] 36))
  clear h he c0 c1 c2 c5 f1 f2 f4 f5
  go_enter_defers Try.func63, Try.ntmps63
  go_wp2_with fail
  refine leaves_cons (f := 78) (args := #[.pointer (some ⟨w.heap.size, 0, none⟩)]) (by simp) (by simp [go_sem]) ?_
  refine (within1_d w.heap.size N d _ (by omega) ?_ (HP.out.blk.cell 3) (HP.out.blk.frozen 3)).mono ?_
  · go_simp
  rintro e u' w'' ⟨rfl, rfl, rfl⟩
  refine ⟨Ev Tr.zero (.slice none 0 0), ?_, .slice none 0 0, rfl, SlF.nil _ _, HP.out.deep d, HG.out.set (p := ⟨N, 3, none⟩) (.inl rfl) _⟩
  simp [results, Try.results63, go_sem]
  rfl

set_option maxHeartbeats 4000000 in
theorem within_deep (N d : Nat) (s : ByteArray) (st : St) (w : World) (f : Value) (h : PS w N d s st) (hd : d = 30) :
    Calls Try.prog 63 #[.pointer (some ⟨N, 0, none⟩), f] w (Gives N d s w (Tr.zero, st.bad 231)) := by
  have hmf : ∀ (fn : Fn) (first cap : Array Value) (w : World), (Instr.makeFunc fn first cap).run Try.prog w = .ok (.func fn first cap) w := fun _ _ _ _ => rfl
  obtain ⟨c0, c1, c2, c3, c4, c5, f1, f2, f3, f4, f5⟩ := pb_cells h.blk
  have q2 : ((d : Int) + 1) > 30 := by omega
  have hk : wrap64 ((d : Int) + 1) = (d : Int) + 1 := by rw [w64 _ (by omega)]
  have hlt := h.lt
  have HP := Bx.mk (((h.deep' (d + 1) (x := (d : Int) + 1) (by omega)).alloc (Obj.cells #[.pointer (some ⟨N, 0, none⟩)] 58)).alloc (Obj.cells #[.int .i64 0, .int .i64 0, .int .i64 0, .slice none 0 0] 36))
  have HG := Bx.mk ((((Gb.refl N w).set (p := ⟨N, 3, none⟩) (.inl rfl) (.int .i64 ((d : Int) + 1))).alloc (Obj.cells #[.pointer (some ⟨N, 0, none⟩)] 58)).alloc (Obj.cells #[.int .i64 0, .int .i64 0, .int .i64 0, .slice none 0 0] 36))
  have HD := Bx.mk hd
  have hne := bad_ne 231 (by omega) st
  have q' : ¬ ((st.bad 231).e : Int) = 0 := by omega
  clear h c0 c1 c2 c4 c5 f1 f2 f4 f5 hd hne
  go_enter_defers Try.func63, Try.ntmps63
  go_wp2_with fail
  refine (bad_st N (d + 1) 231 s st _ HP.out).mono ?_
  rintro e w1 ⟨rfl, hP1, hG1⟩
  have hb := hG1.blk ((Blk.new (w.setCell ⟨N, 3, none⟩ (.int .i64 ((d : Int) + 1))) 58 #[.pointer (some ⟨N, 0, none⟩)]).alloc _) (by simp [World.setCell]; omega)
  have hr := hG1.blk (Blk.new ((w.setCell ⟨N, 3, none⟩ (.int .i64 ((d : Int) + 1))).alloc (Obj.cells #[.pointer (some ⟨N, 0, none⟩)] 58)) 36 #[.int .i64 0, .int .i64 0, .int .i64 0, .slice none 0 0]) (by simp [World.setCell]; omega)
  have hz1 : (w.setCell ⟨N, 3, none⟩ (.int .i64 ((d : Int) + 1))).heap.size = w.heap.size := by simp [World.setCell]
  rw [hz1] at hb
  rw [alloc_size, hz1] at hr
  have b0 := hb.cell 0
  simp only [List.getElem?_toArray, List.getElem?_cons_zero] at b0
  obtain ⟨r0, r1, r2, r3, g0, g1, g2, g3⟩ := cells4 hr
  obtain ⟨c0, c1, c2, c3, c4, c5, f1, f2, f3, f4, f5⟩ := pb_cells hP1.blk
  have HP1 := Bx.mk hP1
  have HG1 := Bx.mk hG1
  have HR := Bx.mk hr
  clear hP1 hG1 hb hr c0 c1 c2 c5 f1 f2 f4 f5
  go_wp2_with fail
  refine leaves_cons (f := 78) (args := #[.pointer (some ⟨w.heap.size, 0, none⟩)]) (by simp) (by simp [go_sem]) ?_
  have hP2 := HP1.out.st4 (R := w.heap.size + 1) (by omega) (.int .i64 0) (.int .i64 0) (.int .i64 0) (.slice none 0 0)
  refine (within1_d w.heap.size N d _ (by have := HD.out; omega) ?_ (hP2.blk.cell 3) (hP2.blk.frozen 3)).mono ?_
  · go_simp
  rintro e u' w'' ⟨rfl, rfl, rfl⟩
  have hR2 := (HR.out.own4 (.int .i64 0) (.int .i64 0) (.int .i64 0) (.slice none 0 0)).far (p := ⟨N, 3, none⟩) (by show w.heap.size + 1 ≠ N; omega) (.int .i64 (d : Int))
  obtain ⟨r0, r1, r2, r3, _, _, _, _⟩ := cells4 hR2
  refine ⟨Ev Tr.zero (.slice none 0 0), ?_, .slice none 0 0, rfl, SlF.nil _ _, hP2.deep d, ((HG.out.trans HG1.out).st4 (by omega) _ _ _ _).set (p := ⟨N, 3, none⟩) (.inl rfl) _⟩
  simp [results, Try.results63, go_sem, r0, r1, r2, r3]
  rfl

set_option maxHeartbeats 4000000 in
theorem within_yes (N d : Nat) (s : ByteArray) (st : St) (w : World) (f : FuncId) (p : St → Tr × St) (hcf : ∀ args w, (callFunc f args).run Try.prog w = .ok (.enter f args) w) (hp : Pz f (d + 1) p) (h : PS w N d s st) (hd : d < 30) (he : st.e = 0) :
    Calls Try.prog 63 #[.pointer (some ⟨N, 0, none⟩), .func (.func f) #[] #[]] w (Gives N d s w (p st)) := by
  have hmf : ∀ (fn : Fn) (first cap : Array Value) (w : World), (Instr.makeFunc fn first cap).run Try.prog w = .ok (.func fn first cap) w := fun _ _ _ _ => rfl
  obtain ⟨c0, c1, c2, c3, c4, c5, f1, f2, f3, f4, f5⟩ := pb_cells h.blk
  have q : (st.e : Int) = 0 := by omega
  have q2 : ¬ ((d : Int) + 1) > 30 := by omega
  have hk : wrap64 ((d : Int) + 1) = (d : Int) + 1 := by rw [w64 _ (by omega)]
  have hlt := h.lt
  have HP := Bx.mk (((h.deep' (d + 1) (x := (d : Int) + 1) (by omega)).alloc (Obj.cells #[.pointer (some ⟨N, 0, none⟩)] 58)).alloc (Obj.cells #[.int .i64 0, .int .i64 0, .int .i64 0, .slice none 0 0] 36))
  have HG := Bx.mk ((((Gb.refl N w).set (p := ⟨N, 3, none⟩) (.inl rfl) (.int .i64 ((d : Int) + 1))).alloc (Obj.cells #[.pointer (some ⟨N, 0, none⟩)] 58)).alloc (Obj.cells #[.int .i64 0, .int .i64 0, .int .i64 0, .slice none 0 0] 36))
  clear h c0 c1 c2 c5 f1 f2 f4 f5
  go_enter_defers Try.func63, Try.ntmps63
  go_wp2_with fail
  refine (hp N s st _ HP.out).mono ?_
  rintro e w1 ⟨sl, rfl, hS1, hP1, hG1⟩
  have hb := hG1.blk ((Blk.new (w.setCell ⟨N, 3, none⟩ (.int .i64 ((d : Int) + 1))) 58 #[.pointer (some ⟨N, 0, none⟩)]).alloc _) (by simp [World.setCell]; omega)
  have hr := hG1.blk (Blk.new ((w.setCell ⟨N, 3, none⟩ (.int .i64 ((d : Int) + 1))).alloc (Obj.cells #[.pointer (some ⟨N, 0, none⟩)] 58)) 36 #[.int .i64 0, .int .i64 0, .int .i64 0, .slice none 0 0]) (by simp [World.setCell]; omega)
  have hz1 : (w.setCell ⟨N, 3, none⟩ (.int .i64 ((d : Int) + 1))).heap.size = w.heap.size := by simp [World.setCell]
  rw [hz1] at hb
  rw [alloc_size, hz1] at hr
  have b0 := hb.cell 0
  simp only [List.getElem?_toArray, List.getElem?_cons_zero] at b0
  obtain ⟨r0, r1, r2, r3, g0, g1, g2, g3⟩ := cells4 hr
  obtain ⟨c0, c1, c2, c3, c4, c5, f1, f2, f3, f4, f5⟩ := pb_cells hP1.blk
  obtain ⟨pp, cap, rfl⟩ := hS1.is
  simp only [alloc_size, size_set] at hS1
  have HP1 := Bx.mk hP1
  have HG1 := Bx.mk hG1
  have HR := Bx.mk hr
  have HS1 := Bx.mk hS1
  clear hP1 hG1 hb hr hS1 c0 c1 c2 c5 f1 f2 f4 f5
  unfold Ev
  go_wp2_with fail
  refine leaves_cons (f := 78) (args := #[.pointer (some ⟨w.heap.size, 0, none⟩)]) (by simp) (by simp [go_sem]) ?_
  have hP2 := HP1.out.st4 (R := w.heap.size + 1) (by omega) (.int .i64 (p st).1.k) (.int .i64 (p st).1.a) (.int .i64 (p st).1.v) (.slice pp (p st).1.kids.len cap)
  refine (within1_d w.heap.size N d _ (by omega) ?_ (hP2.blk.cell 3) (hP2.blk.frozen 3)).mono ?_
  · go_simp
  rintro e u' w'' ⟨rfl, rfl, rfl⟩
  have hR2 := (HR.out.own4 (.int .i64 (p st).1.k) (.int .i64 (p st).1.a) (.int .i64 (p st).1.v) (.slice pp (p st).1.kids.len cap)).far (p := ⟨N, 3, none⟩) (by show w.heap.size + 1 ≠ N; omega) (.int .i64 (d : Int))
  obtain ⟨r0, r1, r2, r3, _, _, _, _⟩ := cells4 hR2
  have hS2 := ((HS1.out.st4 (R := w.heap.size + 1) (by unfold Ge; omega) (.int .i64 (p st).1.k) (.int .i64 (p st).1.a) (.int .i64 (p st).1.v) (.slice pp (p st).1.kids.len cap)).far (p := ⟨N, 3, none⟩) (by unfold Ge; show ¬ _ ≤ N; omega) (.int .i64 (d : Int))).mono (B' := Ge w.heap.size) (by unfold Ge; intro g hg; omega)
  refine ⟨Ev (p st).1 (.slice pp (p st).1.kids.len cap), ?_, .slice pp (p st).1.kids.len cap, rfl, hS2, hP2.deep d, ((HG.out.trans HG1.out).st4 (by omega) _ _ _ _).set (p := ⟨N, 3, none⟩) (.inl rfl) _⟩
  simp [results, Try.results63, go_sem, r0, r1, r2, r3]
  rfl

/-- what stands for the reader one deeper -/
def Rz (f : FuncId) (d : Nat) (r : Option (St → Tr × St)) : Prop :=
  match r with
  | none => d = 30
  | some p => d < 30 ∧ Pz f (d + 1) p
theorem within_any (N d : Nat) (s : ByteArray) (st : St) (w : World) (f : FuncId) (r : Option (St → Tr × St)) (hcf : ∀ args w, (callFunc f args).run Try.prog w = .ok (.enter f args) w) (hr : Rz f d r) (h : PS w N d s st) :
    Calls Try.prog 63 #[.pointer (some ⟨N, 0, none⟩), .func (.func f) #[] #[]] w (Gives N d s w (Ex.within r st)) := by
  cases r with
  | none => exact within_deep N d s st w _ h hr
  | some p =>
    by_cases he : st.e = 0
    · have e : Ex.within (some p) st = p st := by unfold Ex.within; exact if_pos he
      rw [e]
      exact within_yes N d s st w f p hcf hr.2 h hr.1 he
    · have e : Ex.within (some p) st = (Tr.zero, st) := by unfold Ex.within; exact if_neg he
      rw [e]
      exact within_no N d s st w _ h hr.1 he
end Go.Proofs.Ytfgokhafiffbaaa

/-
  A region whose order is open, walked in ONE order: what yields the same in every world that keeps a condition is taken as soon as it may come up,
  the other operations wait for one another. Behind the last operation, for which all others are waited, the condition is not asked (it may write what the others read).
-/
namespace Go.Proofs.Ytfgokhafiffbaaa
set_option linter.unusedVariables false
open Go
section
variable {P : Program} {ops : Array Oper} {Q : Exit → Act → World → Prop} {md : Region.Mode} {S : World → Prop} {x : Nat}

/-- whatever is picked; S holds behind each operation but x -/
def AnyE (P : Program) (md : Region.Mode) (ops : Array Oper) (Q : Exit → Act → World → Prop) (S : World → Prop) (x : Nat) : Nat → Array Bool → Act → World → Prop
  | 0, listed, a, w => Region.ready md ops listed = [] ∧ Q .normal a w
  | n + 1, listed, a, w => (Region.ready md ops listed = [] → Q .normal a w) ∧
      ∀ i ∈ Region.ready md ops listed, wpOp P ops Q i (fun a' w' => (i ≠ x → S w') ∧ AnyE P md ops Q S x n (listed.setIfInBounds i true) a' w') a w

theorem AnyE.any : ∀ (n : Nat) (listed : Array Bool) (a : Act) (w : World), AnyE P md ops Q S x n listed a w → wpAny P md ops Q n listed a w
  | 0, _, _, _, h => h
  | n + 1, _, _, _, h => ⟨h.1, fun i hi => wpOp_mono (fun a' w' h' => AnyE.any n _ a' w' h'.2) (h.2 i hi)⟩

theorem not_listed {listed : Array Bool} {i : Nat} (h : listed.getD i true = false) : listed.getD i false = false := by
  rcases Nat.lt_or_ge i listed.size with h' | h'
  · simp [h'] at h ⊢; exact h
  · simp [Array.getElem?_eq_none h'] at h

/-- x waits for every other operation -/
def lastB (md : Region.Mode) (ops : Array Oper) (x : Nat) : Bool :=
  match ops[x]? with
  | some o => (List.range ops.size).all fun i => i == x || o.after.any fun e => Region.binds md e && e.on == i
  | none => true

theorem lastB_spec (h : lastB md ops x = true) {ox : Oper} (hx : ops[x]? = some ox) {i : Nat} (hi : i < ops.size) (hne : i ≠ x) : ∃ e ∈ ox.after, Region.binds md e = true ∧ e.on = i := by
  unfold lastB at h
  rw [hx] at h
  have := List.all_eq_true.1 h i (List.mem_range.2 hi)
  simp only [Bool.or_eq_true, beq_iff_eq] at this
  rcases this with this | this
  · exact absurd this hne
  · obtain ⟨e, he, hb⟩ := Array.any_eq_true'.1 this
    simp only [Bool.and_eq_true, beq_iff_eq] at hb
    exact ⟨e, he, hb.1, hb.2⟩

/-- what yields in every world of S may be taken first -/
theorem AnyE.first {i : Nat} {oi : Oper} {v : Value} (hi : ops[i]? = some oi) (hs : Region.noSelect ops = true) (hlast : lastB md ops x = true) (hQ : ∀ c a w, Q (.panic c) (a.put oi.dst v) w → Q (.panic c) a w) :
    ∀ (n : Nat) (listed : Array Bool) (a : Act) (w : World),
      (∀ j oj, ops[j]? = some oj → j ≠ i → listed.getD j true = false → (∀ e ∈ oj.after, Region.binds md e = true → e.on ≠ i) → oi.apart ops oj = true) →
      i ∈ Region.ready md ops listed → YieldsIf P ops S oi v a → S w →
      AnyE P md ops Q S x n (listed.setIfInBounds i true) (a.put oi.dst v) w → AnyE P md ops Q S x (n + 1) listed a w := by
  have hsel := Region.noSelect_spec hs
  intro n
  induction n with
  | zero =>
    intro listed a w _ hr hy hS H
    refine ⟨fun h => (by rw [h] at hr; cases hr), fun j hj => ?_⟩
    by_cases hji : j = i
    · subst hji; exact hy.wpOp hi hS ⟨fun _ => hS, H⟩
    · have h1 := ready_mono hj hji
      rw [H.1] at h1
      cases h1
  | succ n ih =>
    intro listed a w hfree hr hy hS H
    refine ⟨fun h => (by rw [h] at hr; cases hr), fun j hj => ?_⟩
    by_cases hji : j = i
    · subst hji; exact hy.wpOp hi hS ⟨fun _ => hS, H⟩
    · obtain ⟨hjun, oj, hoj, hall⟩ := mem_ready.1 hj
      have hnot : ∀ e ∈ oj.after, Region.binds md e = true → e.on ≠ i := fun e he hb heq => by
        have h1 := hall e he hb
        rw [heq, not_listed (mem_ready.1 hr).1] at h1
        cases h1
      have hjx : j ≠ x := fun hx => by
        subst hx
        obtain ⟨e, he, hb, hon⟩ := lastB_spec hlast hoj (Array.getElem?_eq_some_iff.1 hi).1 (Ne.symm hji)
        exact hnot e he hb hon
      have hri : i ∈ Region.ready md ops (listed.setIfInBounds j true) := ready_mono hr (Ne.symm hji)
      have h2 := wpOp_putIf hoj (hfree j oj hoj hji hjun hnot) (fun cs b => hsel i oi cs b hi) (fun cs b => hsel j oj cs b hoj) hQ hy (H.2 j (ready_mono hj hji))
      refine wpOp_mono (fun a' w' h3 => ?_) h2
      obtain ⟨hy', hS', hrest⟩ := h3
      rw [Array.setIfInBounds_comm _ _ (Ne.symm hji)] at hrest
      refine ⟨hS', ih _ a' w' (fun k ok hk hki hun hno => ?_) hri hy' (hS' hjx) hrest⟩
      refine hfree k ok hk hki ?_ hno
      by_cases hjk : j = k
      · subst hjk; exact hjun
      · rw [getD_set_ne true hjk] at hun; exact hun

/-- an order to walk in: (operation's number, does it yield?) -/
def okL (md : Region.Mode) (ops : Array Oper) : List (Nat × Bool) → Array Bool → Bool
  | [], listed => (Region.ready md ops listed).isEmpty
  | (i, true) :: r, listed => (Region.ready md ops listed).contains i && Region.free md ops listed i && okL md ops r (listed.setIfInBounds i true)
  | (i, false) :: r, listed => (Region.ready md ops listed == [i]) && okL md ops r (listed.setIfInBounds i true)

/-- the walk in that order -/
def wpG (P : Program) (ops : Array Oper) (Q : Exit → Act → World → Prop) (S : World → Prop) (x : Nat) : List (Nat × Bool) → Act → World → Prop
  | [], a, w => Q .normal a w
  | (i, true) :: r, a, w => ∃ o v, ops[i]? = some o ∧ YieldsIf P ops S o v a ∧ wpG P ops Q S x r (a.put o.dst v) w
  | (i, false) :: r, a, w => wpOp P ops Q i (fun a' w' => (r ≠ [] ∨ i ≠ x → S w') ∧ wpG P ops Q S x r a' w') a w

theorem AnyE.of_order (hs : Region.noSelect ops = true) (hlast : lastB md ops x = true) (hQ : ∀ c a d v w, Q (.panic c) (Act.put a d v) w → Q (.panic c) a w) :
    ∀ (L : List (Nat × Bool)) (listed : Array Bool) (a : Act) (w : World), okL md ops L listed = true →
      (L ≠ [] → S w) → wpG P ops Q S x L a w → AnyE P md ops Q S x L.length listed a w := by
  intro L
  induction L with
  | nil =>
    intro listed a w hok _ h
    exact ⟨by simpa [okL] using hok, h⟩
  | cons p L ih =>
    intro listed a w hok hS h
    obtain ⟨i, b⟩ := p
    cases b with
    | true =>
      simp only [okL, Bool.and_eq_true, List.contains_iff_mem] at hok
      obtain ⟨⟨hr, hf⟩, hok'⟩ := hok
      obtain ⟨o, v, ho, hy, hrest⟩ := h
      exact AnyE.first ho hs hlast (fun c a w => hQ c a _ _ w) L.length listed a w (Region.free_spec ho hf) hr hy (hS (by simp)) (ih _ _ w hok' (fun _ => hS (by simp)) hrest)
    | false =>
      simp only [okL, Bool.and_eq_true, beq_iff_eq] at hok
      obtain ⟨hr, hok'⟩ := hok
      refine ⟨fun h0 => (by rw [hr] at h0; cases h0), fun j hj => ?_⟩
      rw [hr] at hj
      obtain rfl : j = i := by simpa using hj
      exact wpOp_mono (fun a' w' h' => ⟨fun hx => h'.1 (.inr hx), ih _ a' w' hok' (fun hL => h'.1 (.inl hL)) h'.2⟩) h

def orderOk (ops : Array Oper) (L : List (Nat × Bool)) (x : Nat) : Bool :=
  Region.noSelect ops && lastB .any ops x && okL .any ops L (Array.replicate ops.size false) && (L.length == ops.size)

/-- THE REGION, walked in the order L. -/
theorem region_order {id : Nat} {a : Act} {w : World} (L : List (Nat × Bool)) (x : Nat) (S : World → Prop) (hm : P.follows .mixedOrders = true)
    (hok : orderOk ops L x = true) (hQ : ∀ c a d v w, Q (.panic c) (Act.put a d v) w → Q (.panic c) a w)
    (hS : S w.drew) (h : wpG P ops Q S x L a w.drew) : (Code.region id ops true).wp P Q a w := by
  simp only [orderOk, Bool.and_eq_true, beq_iff_eq] at hok
  obtain ⟨⟨⟨h1, h2⟩, h3⟩, h4⟩ := hok
  refine wp_region_any hm ?_
  have key := AnyE.any _ _ _ _ (AnyE.of_order (S := S) (x := x) h1 h2 hQ L _ _ _ h3 (fun _ => hS) h)
  rw [h4] at key
  exact key

variable {a : Act} {w : World} {r : List (Nat × Bool)} {i : Nat} {o : Oper} {v : Value}
theorem wpG_nil (h : Q .normal a w) : wpG P ops Q S x [] a w := h
theorem wpG_take (ho : ops[i]? = some o) (hw : Region.wanted o (yielded ops a.tmps) = true) (hv : ∀ w, S w → (execOp a.eval o).run P w = .ok (.value v) w)
    (h : wpG P ops Q S x r (a.put o.dst v) w) : wpG P ops Q S x ((i, true) :: r) a w := ⟨o, v, ho, .inl ⟨hw, hv⟩, h⟩
theorem wpG_skip (ho : ops[i]? = some o) (hw : Region.wanted o (yielded ops a.tmps) = false)
    (h : wpG P ops Q S x r (a.put o.dst undef) w) : wpG P ops Q S x ((i, true) :: r) a w := ⟨o, undef, ho, .inr ⟨hw, rfl⟩, h⟩
/-- an operation that may change the world: S behind it -/
theorem wpG_op (ho : ops[i]? = some o) (hw : Region.wanted o (yielded ops a.tmps) = true)
    (h : ∀ K : Act → World → Prop, (∀ a w, S w → (S w → wpG P ops Q S x r a w) → K a w) → o.wp P a w K Q) : wpG P ops Q S x ((i, false) :: r) a w := by
  show wpOp P ops Q i _ a w
  unfold wpOp
  simp only [ho, hw, if_true]
  exact .inl (h _ fun a w h1 h2 => ⟨fun _ => h1, h2 h1⟩)
/-- the last one, for which all others are waited: S is not asked -/
theorem wpG_last (ho : ops[i]? = some o) (hw : Region.wanted o (yielded ops a.tmps) = true)
    (h : ∀ K : Act → World → Prop, (∀ a w, Q .normal a w → K a w) → o.wp P a w K Q) : wpG P ops Q S i [(i, false)] a w := by
  show wpOp P ops Q i _ a w
  unfold wpOp
  simp only [ho, hw, if_true]
  exact .inl (h _ fun a w h1 => ⟨fun h => (by rcases h with h | h <;> exact absurd rfl h), h1⟩)
/-- an operation whose guard says no -/
theorem wpG_noop (ho : ops[i]? = some o) (hw : Region.wanted o (yielded ops a.tmps) = false) (h1 : S w)
    (h : wpG P ops Q S x r (a.put o.dst undef) w) : wpG P ops Q S x ((i, false) :: r) a w := by
  show wpOp P ops Q i _ a w
  unfold wpOp
  simp only [ho, hw, Bool.false_eq_true, if_false]
  exact ⟨fun _ => h1, h⟩
end
end Go.Proofs.Ytfgokhafiffbaaa

/-
  Regions whose order is open, walked in every order: the quiet operations first, then each order of the rest.
-/
namespace Go.Proofs.Ytfgokhafiffbaaa
set_option linter.unusedVariables false
open Go.RowKit
section
variable {P : Program} {ops : Array Oper} {Q : Exit → Act → World → Prop} {S : World → Prop} {x n i : Nat} {listed : Array Bool} {a : Act} {w : World} {o : Oper}
theorem any_take (v : Value) (ho : ops[i]? = some o) (hw : Region.wanted o (yielded ops a.tmps) = true) (hs : Region.noSelect ops = true) (hlast : lastB .any ops x = true) (hfree : Region.free .any ops listed i = true)
    (hr : (Region.ready .any ops listed).contains i = true) (hQ : ∀ c a d v w, Q (.panic c) (Act.put a d v) w → Q (.panic c) a w) (hv : ∀ w, S w → (execOp a.eval o).run P w = .ok (.value v) w) (hS : S w)
    (h : AnyE P .any ops Q S x n (listed.setIfInBounds i true) (a.put o.dst v) w) : AnyE P .any ops Q S x (n + 1) listed a w :=
  AnyE.first ho hs hlast (fun c a w => hQ c a _ _ w) n listed a w (Region.free_spec ho hfree) (List.contains_iff_mem.1 hr) (.inl ⟨hw, hv⟩) hS h
theorem any_branch (L : List Nat) (hr : (Region.ready .any ops listed == L) = true) (hne : L.isEmpty = false) (h : ∀ i ∈ L, wpOp P ops Q i (fun a' w' => (i ≠ x → S w') ∧ AnyE P .any ops Q S x n (listed.setIfInBounds i true) a' w') a w) :
    AnyE P .any ops Q S x (n + 1) listed a w := by
  have e : Region.ready .any ops listed = L := by simpa using hr
  subst e
  exact ⟨fun h0 => by rw [h0] at hne; simp at hne, h⟩
theorem any_op (ho : ops[i]? = some o) (hw : Region.wanted o (yielded ops a.tmps) = true)
    (h : ∀ K : Act → World → Prop, (∀ a' w', (i ≠ x → S w') → AnyE P .any ops Q S x n (listed.setIfInBounds i true) a' w' → K a' w') → o.wp P a w K Q) : wpOp P ops Q i (fun a' w' => (i ≠ x → S w') ∧ AnyE P .any ops Q S x n (listed.setIfInBounds i true) a' w') a w := by
  unfold wpOp
  simp only [ho, hw, if_true]
  exact .inl (h _ fun a w h1 h2 => ⟨h1, h2⟩)
theorem any_end (hr : (Region.ready .any ops listed).isEmpty = true) (h : Q .normal a w) : AnyE P .any ops Q S x 0 listed a w := ⟨by simpa using hr, h⟩
theorem region_any {id : Nat} (x : Nat) (S : World → Prop) (hm : P.follows .mixedOrders = true) (h : AnyE P .any ops Q S x ops.size (Array.replicate ops.size false) a w.drew) : (Code.region id ops true).wp P Q a w :=
  wp_region_any hm (AnyE.any _ _ _ _ h)
end
end Go.Proofs.Ytfgokhafiffbaaa

/-
  Formulas: chain.
-/
namespace Go.Proofs.Ytfgokhafiffbaaa
set_option linter.unusedVariables false
open Go.RowKit

/-- how many signs are left in the parser at block N -/
noncomputable def tleft (N : Nat) (s : ByteArray) (w : World) : Nat := Classical.epsilon fun n => ∃ d st, PS w N d s st ∧ st.ts.length = n
theorem tleft_eq {w : World} {N d : Nat} {s : ByteArray} {st : St} (h : PS w N d s st) : tleft N s w = st.ts.length := by
  have hex : ∃ n, ∃ d st, PS w N d s st ∧ st.ts.length = n := ⟨_, d, st, h, rfl⟩
  obtain ⟨d', st', h', hn⟩ := Classical.epsilon_spec hex
  show Classical.epsilon _ = _
  rw [← hn]
  obtain ⟨c0, c1, c2, _⟩ := pb_cells h.blk
  obtain ⟨e0, e1, e2, _⟩ := pb_cells h'.blk
  rw [c1] at e1
  rw [c2] at e2
  have hnow : st.now = st'.now := Tok.txt_inj (by
    have := congrArg bl (Value.string.inj (Option.some.inj e1))
    rwa [Tok.bl_str, Tok.bl_str] at this)
  have hat : st.at_ = st'.at_ := by
    have := (Value.int.inj (Option.some.inj e2)).2
    omega
  obtain ⟨r, hr, hx⟩ := h.toks
  obtain ⟨r', hr', hx'⟩ := h'.toks
  rw [hr, hr', List.length_cons, List.length_cons]
  by_cases g1 : st.now = .eof
  · rw [(hx'.2 (.inl (hnow ▸ g1))), (hx.2 (.inl g1))]
  by_cases g2 : st.now = .bad
  · rw [(hx'.2 (.inr (hnow ▸ g2))), (hx.2 (.inr g2))]
  rw [hx'.1 (hnow ▸ g1) (hnow ▸ g2), hx.1 g1 g2, hnow, hat]
/-- a sign that stands is taken off -/
theorem St.goes_len {st : St} {t : Tok} (h : st.may t = true) (h1 : t ≠ .eof) : st.goes.ts.length + 1 = st.ts.length := by
  unfold St.may St.now at h
  unfold St.goes
  cases hts : st.ts with
  | nil => rw [hts] at h; simp at h; exact absurd h.2.symm h1
  | cons x r => simp
theorem Blk.alloc_at (w : World) (t : TypeId) (cs : Array Value) (o : Obj) : Blk ((w.alloc (.cells cs t)).alloc o) w.heap.size t cs := (Blk.new w t cs).alloc o

theorem exec_loadE {a : Act} {u : World} {o : Oper} {x : Operand} {p : Nat} {t : TypeId} {v0 v1 v2 v3 : Value} (hop : o.op = .load 36 x) (hx : a.eval x = .pointer (some ⟨p, 0, none⟩)) (hB : Blk u p t #[v0, v1, v2, v3]) :
    (execOp a.eval o).run Try.prog u = .ok (.value (.agg #[v0, v1, v2, v3])) u := by
  obtain ⟨a0, a1, a2, a3, b0, b1, b2, b3⟩ := cells4 hB
  unfold execOp
  simp only [hop, hx]
  go_simp
theorem Ex.chainF_no {n : Nat} {t : Tok} {k : Int} {p : St → Tr × St} {x : Tr} {st : St} (h : st.may t = false) : Ex.chainF n t k p x st = (x, st) := by
  cases n with
  | zero => rfl
  | succ n => rw [Ex.chainF, if_neg (by rw [h]; simp)]
theorem Ex.chainF_fuel {t : Tok} {k : Int} {p : St → Tr × St} (ht : t ≠ .eof) (hmono : ∀ st, (p st).2.ts.length ≤ st.ts.length) : ∀ (n m : Nat) (x : Tr) (st : St), st.ts.length ≤ n → st.ts.length ≤ m → Ex.chainF n t k p x st = Ex.chainF m t k p x st := by
  intro n
  induction n with
  | zero =>
    intro m x st h1 h2
    cases hm : st.may t with
    | false => rw [Ex.chainF_no hm, Ex.chainF_no hm]
    | true => have := St.goes_len hm ht; omega
  | succ n ih =>
    intro m x st h1 h2
    cases hm : st.may t with
    | false => rw [Ex.chainF_no hm, Ex.chainF_no hm]
    | true =>
      have hg := St.goes_len hm ht
      have hp := hmono st.goes
      cases m with
      | zero => omega
      | succ m =>
        rw [Ex.chainF, Ex.chainF, if_pos hm, if_pos hm]
        exact ih m _ _ (by omega) (by omega)
theorem Ex.chainF_yes {t : Tok} {k : Int} {p : St → Tr × St} (ht : t ≠ .eof) (hmono : ∀ st, (p st).2.ts.length ≤ st.ts.length) {x : Tr} {st : St} (h : st.may t = true) :
    Ex.chainF st.ts.length t k p x st = Ex.chainF (p st.goes).2.ts.length t k p (Ex.two k st.at_ x (p st.goes).1) (p st.goes).2 := by
  have hg := St.goes_len h ht
  have hp := hmono st.goes
  rw [← hg, Ex.chainF, if_pos h]
  exact Ex.chainF_fuel ht hmono _ _ _ _ (by omega) (Nat.le_refl _)
/-- two formulas in one new block -/
theorem SlF.pair {u : World} {B : Nat → Prop} {x y : Tr} {sx sy : Value} (t : TypeId) (hx : SlF u B sx x.kids) (hy : SlF u B sy y.kids) (hB : B u.heap.size) :
    SlF (u.alloc (.cells #[.int .i64 x.k, .int .i64 x.a, .int .i64 x.v, sx, .int .i64 y.k, .int .i64 y.a, .int .i64 y.v, sy] t)) B (.slice (some ⟨u.heap.size, 0, none⟩) 2 2) (x.on (y.on .nil)) := by
  have hb := Blk.new u t #[.int .i64 x.k, .int .i64 x.a, .int .i64 x.v, sx, .int .i64 y.k, .int .i64 y.a, .int .i64 y.v, sy]
  have := SlF.mk (w := u.alloc (.cells #[.int .i64 x.k, .int .i64 x.a, .int .i64 x.v, sx, .int .i64 y.k, .int .i64 y.a, .int .i64 y.v, sy] t)) (B := B) (b := u.heap.size) (o := 0) (cap := 2) (F := x.on (y.on .nil)) (Nat.le_refl _)
    (RdF.on hB (hb.cell 0) (hb.cell 1) (hb.cell 2) (hb.cell 3) (hx.alloc _) (RdF.on hB (hb.cell 4) (hb.cell 5) (hb.cell 6) (hb.cell 7) (hy.alloc _) True.intro))
  exact this
theorem SlF.single {u : World} {B : Nat → Prop} {x : Tr} {sx : Value} (t : TypeId) (hx : SlF u B sx x.kids) (hB : B u.heap.size) :
    SlF (u.alloc (.cells #[.int .i64 x.k, .int .i64 x.a, .int .i64 x.v, sx] t)) B (.slice (some ⟨u.heap.size, 0, none⟩) 1 1) (x.on .nil) := by
  have hb := Blk.new u t #[.int .i64 x.k, .int .i64 x.a, .int .i64 x.v, sx]
  have := SlF.mk (w := u.alloc (.cells #[.int .i64 x.k, .int .i64 x.a, .int .i64 x.v, sx] t)) (B := B) (b := u.heap.size) (o := 0) (cap := 1) (F := x.on .nil) (Nat.le_refl _)
    (RdF.on hB (hb.cell 0) (hb.cell 1) (hb.cell 2) (hb.cell 3) (hx.alloc _) True.intro)
  exact this

/-- where the chain's loop stands -/
structure CH (w wr : World) (N d : Nat) (s : ByteArray) (b9 : Nat) (t : Tok) (k : Int) (p : St → Tr × St) (R : Tr × St) (x : Tr) (st : St) (pp : Option Addr) (cap : Nat) : Prop where
  ps : PS wr N d s st
  gb : Gb N w wr
  res : Blk wr w.heap.size 36 #[.int .i64 0, .int .i64 0, .int .i64 0, .slice none 0 0]
  own : Blk wr b9 36 #[.int .i64 x.k, .int .i64 x.a, .int .i64 x.v, .slice pp x.kids.len cap]
  sl : SlF wr (fun g => w.heap.size < g ∧ g ≠ b9) (.slice pp x.kids.len cap) x.kids
  lt : w.heap.size < b9
  rest : Ex.chainF st.ts.length t k p x st = R

set_option maxHeartbeats 8000000 in
theorem chain_any (N d : Nat) (s : ByteArray) (st : St) (w : World) (f : FuncId) (t : Tok) (kk : Int) (txt : ByteArray) (p : St → Tr × St) (hcf : ∀ args w, (callFunc f args).run Try.prog w = .ok (.enter f args) w)
    (hp : Pz f d p) (hmono : ∀ st, (p st).2.ts.length ≤ st.ts.length) (htx : txt = t.str) (ht1 : t ≠ .eof) (ht2 : t ≠ .bad) (h : PS w N d s st) :
    Calls Try.prog 43 #[.pointer (some ⟨N, 0, none⟩), .string txt, .int .i64 kk, .func (.func f) #[] #[]] w (Gives N d s w (Ex.chain t kk p st)) := by
  have hlt := h.lt
  subst htx
  have HP0 := Bx.mk (h.alloc (Obj.cells #[.int .i64 0, .int .i64 0, .int .i64 0, .slice none 0 0] 36))
  clear h
  generalize hR : Ex.chain t kk p st = R
  have HR := Bx.mk hR
  clear hR
  go_enter Try.func43, Try.ntmps43
  go_wp2_with fail
  refine (hp N s st _ HP0.out).mono ?_
  rintro e w1 ⟨sl, rfl, hS1, hP1, hG1⟩
  obtain ⟨pp, cap, rfl⟩ := hS1.is
  have hr := hG1.blk (Blk.new w 36 #[.int .i64 0, .int .i64 0, .int .i64 0, .slice none 0 0]) (by omega)
  have hz := hG1.size
  rw [alloc_size] at hz
  rw [alloc_size] at hS1
  have HP1 := Bx.mk hP1
  have HG1 := Bx.mk (((Gb.refl N w).alloc _).trans hG1)
  have HR1 := Bx.mk hr
  have HS1 := Bx.mk hS1
  clear hP1 hG1 hr hS1
  unfold Ev
  go_wp2_with fail
  have hb9 : w.heap.size < w1.heap.size := by omega
  generalize hq9 : w1.heap.size = b9
  have HQ9 := Bx.mk hq9
  rw [hq9] at hb9
  clear hq9
  go_loopw [10] (fun _ wr => ∃ x st pp cap, CH w wr N d s b9 t kk p R x st pp cap) (fun _ wr => tleft N s wr)
  case atStart =>
    refine ⟨(p st).1, (p st).2, pp, cap, ⟨HP1.out.alloc _, HG1.out.alloc _, HR1.out.alloc _, ?_, ?_, hb9, HR.out⟩⟩
    · have := HQ9.out
      subst this
      exact Blk.new _ _ _
    · exact (HS1.out.mono' fun g hg h1 => by
        unfold Ge at h1
        have := HQ9.out
        exact ⟨by omega, by omega⟩).alloc _
  case round =>
    obtain ⟨x, sx, px, cx, HC⟩ := hrel
    have HC := Bx.mk HC
    have hlt9 := HC.out.ps.lt
    obtain ⟨c0, c1, c2, c3, c4, c5, f1, f2, f3, f4, f5⟩ := pb_cells HC.out.ps.blk
    have hM := may_st N d t t.str s sx wr HC.out.ps rfl ht1 ht2
    clear c0 c1 c3 c4 c5 f1 f2 f3 f4 f5
    have HMo := Bx.mk hmono
    clear hmono
    cases hmay : sx.may t with
    | false =>
      rw [hmay, if_neg (by simp)] at hM
      have HM := Bx.mk hM
      clear hM
      go_wp2_with fail
      refine HM.out.mono ?_
      rintro e w2 ⟨rfl, hP2, hG2⟩
      have hr := hG2.blk HC.out.res (by omega)
      have ho := hG2.blk HC.out.own (by omega)
      obtain ⟨r0, r1, r2, r3, g0, g1, g2, g3⟩ := cells4 hr
      obtain ⟨o0, o1, o2, o3, _, _, _, _⟩ := cells4 ho
      have HP2 := Bx.mk hP2
      have HG2 := Bx.mk hG2
      have HR2 := Bx.mk hr
      clear hP2 hG2 hr ho
      go_wp2_with fail
      have hE := Blk.own4 (HR2.out) (.int .i64 x.k) (.int .i64 x.a) (.int .i64 x.v) (.slice px x.kids.len cx)
      obtain ⟨r0, r1, r2, r3, _, _, _, _⟩ := cells4 hE
      have hRx : (x, sx) = R := by rw [← HC.out.rest, Ex.chainF_no hmay]
      refine bodyPost_ret (v := Ev x (.slice px x.kids.len cx)) (by simp [results, Try.results43, go_sem, r0, r1, r2, r3]; rfl) rfl ?_
      rw [← hRx]
      exact ⟨.slice px x.kids.len cx, rfl, ((HC.out.sl.gbs (fun h => by omega) HG2.out).st4 (R := w.heap.size) (fun h => by omega) _ _ _ _).mono (fun g hg => by unfold Ge; omega), HP2.out.st4 (by omega) _ _ _ _, (HC.out.gb.trans HG2.out).st4 (Nat.le_refl _) _ _ _ _⟩
    | true =>
      rw [hmay, if_pos rfl] at hM
      have HM := Bx.mk hM
      have HY := Bx.mk hmay
      clear hM hmay
      go_wp2_with fail
      refine HM.out.mono ?_
      rintro e w2 ⟨rfl, hP2, hG2⟩
      have ho := hG2.blk HC.out.own (by omega)
      obtain ⟨o0, o1, o2, o3, _, _, _, _⟩ := cells4 ho
      have HP2 := Bx.mk hP2
      have HG2 := Bx.mk hG2
      clear hP2 hG2
      go_wp2_with fail
      refine region_any 8 (fun u => Blk u b9 36 #[.int .i64 x.k, .int .i64 x.a, .int .i64 x.v, .slice px x.kids.len cx]) (by kernel_rfl) ?_
      have hS0 := ho.drew
      have hP3 := HP2.out.drew
      have hG3 := HG2.out.drew
      generalize w2.drew = u0 at hS0 hP3 hG3 ⊢
      clear o0 o1 o2 o3 ho
      refine any_take (i := 0) (.int .i64 kk) rfl rfl (by kernel_rfl) (by kernel_rfl) (by kernel_rfl) (by kernel_rfl) (fun _ _ d _ _ h => by cases d <;> exact h) (fun u hS => rfl) hS0 ?_
      (try simp only [Act.put]); (try simp only [List.getElem_toArray]); (try simp only [List.getElem_cons_succ]); (try simp only [List.getElem_cons_zero]); (try simp only [List.setIfInBounds_toArray]); (try simp only [List.set_cons_succ]); (try simp only [List.set_cons_zero])
      refine any_take (i := 1) (.int .i64 (sx.at_ : Int)) rfl rfl (by kernel_rfl) (by kernel_rfl) (by kernel_rfl) (by kernel_rfl) (fun _ _ d _ _ h => by cases d <;> exact h) (fun u hS => rfl) hS0 ?_
      (try simp only [Act.put]); (try simp only [List.getElem_toArray]); (try simp only [List.getElem_cons_succ]); (try simp only [List.getElem_cons_zero]); (try simp only [List.setIfInBounds_toArray]); (try simp only [List.set_cons_succ]); (try simp only [List.set_cons_zero])
      refine any_take (i := 2) (.agg #[.int .i64 x.k, .int .i64 x.a, .int .i64 x.v, .slice px x.kids.len cx]) rfl rfl (by kernel_rfl) (by kernel_rfl) (by kernel_rfl) (by kernel_rfl) (fun _ _ d _ _ h => by cases d <;> exact h) (fun u hS => exec_loadE rfl rfl hS) hS0 ?_
      (try simp only [Act.put]); (try simp only [List.getElem_toArray]); (try simp only [List.getElem_cons_succ]); (try simp only [List.getElem_cons_zero]); (try simp only [List.setIfInBounds_toArray]); (try simp only [List.set_cons_succ]); (try simp only [List.set_cons_zero])
      refine any_take (i := 3) (.func (.func f) #[] #[]) rfl rfl (by kernel_rfl) (by kernel_rfl) (by kernel_rfl) (by kernel_rfl) (fun _ _ d _ _ h => by cases d <;> exact h) (fun u hS => rfl) hS0 ?_
      (try simp only [Act.put]); (try simp only [List.getElem_toArray]); (try simp only [List.getElem_cons_succ]); (try simp only [List.getElem_cons_zero]); (try simp only [List.setIfInBounds_toArray]); (try simp only [List.set_cons_succ]); (try simp only [List.set_cons_zero])
      refine any_take (i := 4) (.pointer (some ⟨N, 0, none⟩)) rfl rfl (by kernel_rfl) (by kernel_rfl) (by kernel_rfl) (by kernel_rfl) (fun _ _ d _ _ h => by cases d <;> exact h) (fun u hS => rfl) hS0 ?_
      (try simp only [Act.put]); (try simp only [List.getElem_toArray]); (try simp only [List.getElem_cons_succ]); (try simp only [List.getElem_cons_zero]); (try simp only [List.setIfInBounds_toArray]); (try simp only [List.set_cons_succ]); (try simp only [List.set_cons_zero])
      refine any_branch [5] (by kernel_rfl) rfl fun ix hix => ?_
      simp only [List.mem_cons, List.not_mem_nil, or_false] at hix
      subst hix
      refine any_op rfl rfl fun K hK => ?_
      go_simp
      refine (hp N s sx.goes _ hP3).mono ?_
      rintro e u1 ⟨sy, rfl, hSy, hPy, hGy⟩
      obtain ⟨py, cy, rfl⟩ := hSy.is
      have hS1 := hGy.blk hS0 (by omega)
      refine hK _ _ (fun _ => hS1) ?_
      (try simp only [Act.put]); (try simp only [List.getElem_toArray]); (try simp only [List.getElem_cons_succ]); (try simp only [List.getElem_cons_zero]); (try simp only [List.setIfInBounds_toArray]); (try simp only [List.set_cons_succ]); (try simp only [List.set_cons_zero])
      clear hK
      refine any_branch [6] (by kernel_rfl) rfl fun ix hix => ?_
      simp only [List.mem_cons, List.not_mem_nil, or_false] at hix
      subst hix
      refine any_op rfl rfl fun K hK => ?_
      unfold Ev
      go_simp
      have hTx : SlF u1 (fun g => w.heap.size < g ∧ g ≠ b9) (.slice px x.kids.len cx) x.kids := (HC.out.sl.gbs (fun h => by omega) (hG3.trans hGy))
      have hTy : SlF u1 (fun g => w.heap.size < g ∧ g ≠ b9) (.slice py (p sx.goes).1.kids.len cy) (p sx.goes).1.kids := hSy.mono (fun g hg => by unfold Ge at hg; have := hS0.lt; have := HC.out.lt; omega)
      have hz1 : b9 < u1.heap.size := hS1.lt
      have hTn := SlF.pair 36 hTx hTy (by omega)
      have hPn := hPy.alloc (Obj.cells #[.int .i64 x.k, .int .i64 x.a, .int .i64 x.v, .slice px x.kids.len cx, .int .i64 (p sx.goes).1.k, .int .i64 (p sx.goes).1.a, .int .i64 (p sx.goes).1.v, .slice py (p sx.goes).1.kids.len cy] 36)
      have hGn := (HC.out.gb.trans (hG3.trans hGy)).alloc (Obj.cells #[.int .i64 x.k, .int .i64 x.a, .int .i64 x.v, .slice px x.kids.len cx, .int .i64 (p sx.goes).1.k, .int .i64 (p sx.goes).1.a, .int .i64 (p sx.goes).1.v, .slice py (p sx.goes).1.kids.len cy] 36)
      have hSn := hS1.alloc (Obj.cells #[.int .i64 x.k, .int .i64 x.a, .int .i64 x.v, .slice px x.kids.len cx, .int .i64 (p sx.goes).1.k, .int .i64 (p sx.goes).1.a, .int .i64 (p sx.goes).1.v, .slice py (p sx.goes).1.kids.len cy] 36)
      have hRn := ((hG3.trans hGy).blk HC.out.res (by omega)).alloc (Obj.cells #[.int .i64 x.k, .int .i64 x.a, .int .i64 x.v, .slice px x.kids.len cx, .int .i64 (p sx.goes).1.k, .int .i64 (p sx.goes).1.a, .int .i64 (p sx.goes).1.v, .slice py (p sx.goes).1.kids.len cy] 36)
      generalize hpn : u1.heap.size = bn at hTn hz1 ⊢
      generalize u1.alloc (Obj.cells #[.int .i64 x.k, .int .i64 x.a, .int .i64 x.v, .slice px x.kids.len cx, .int .i64 (p sx.goes).1.k, .int .i64 (p sx.goes).1.a, .int .i64 (p sx.goes).1.v, .slice py (p sx.goes).1.kids.len cy] 36) = u2 at hTn hPn hGn hSn hRn ⊢
      refine hK _ _ (fun _ => hSn) ?_
      (try simp only [Act.put]); (try simp only [List.getElem_toArray]); (try simp only [List.getElem_cons_succ]); (try simp only [List.getElem_cons_zero]); (try simp only [List.setIfInBounds_toArray]); (try simp only [List.set_cons_succ]); (try simp only [List.set_cons_zero])
      clear hK hTx hTy hS0 hS1 hP3 hG3 hSy hPy hGy
      refine any_branch [7] (by kernel_rfl) rfl fun ix hix => ?_
      simp only [List.mem_cons, List.not_mem_nil, or_false] at hix
      subst hix
      refine any_op rfl rfl fun K hK => ?_
      go_simp
      refine hK _ _ (fun _ => hSn) ?_
      (try simp only [Act.put]); (try simp only [List.getElem_toArray]); (try simp only [List.getElem_cons_succ]); (try simp only [List.getElem_cons_zero]); (try simp only [List.setIfInBounds_toArray]); (try simp only [List.set_cons_succ]); (try simp only [List.set_cons_zero])
      clear hK
      obtain ⟨o0, o1, o2, o3, g0, g1, g2, g3⟩ := cells4 hSn
      refine any_branch [8] (by kernel_rfl) rfl fun ix hix => ?_
      simp only [List.mem_cons, List.not_mem_nil, or_false] at hix
      subst hix
      refine any_op rfl rfl fun K hK => ?_
      go_simp
      refine hK _ _ (fun h => absurd rfl h) ?_
      (try simp only [Act.put]); (try simp only [List.getElem_toArray]); (try simp only [List.getElem_cons_succ]); (try simp only [List.getElem_cons_zero]); (try simp only [List.setIfInBounds_toArray]); (try simp only [List.set_cons_succ]); (try simp only [List.set_cons_zero])
      clear hK
      refine any_end (by kernel_rfl) ?_
      clear o0 o1 o2 o3 g0 g1 g2 g3
      have HPn := Bx.mk hPn
      have HGn := Bx.mk hGn
      have HSn := Bx.mk hSn
      have HRn := Bx.mk hRn
      have HTn := Bx.mk hTn
      clear hPn hGn hSn hRn hTn
      go_wp2_with fail
      have hPf := HPn.out.st4 (R := b9) (by have := HC.out.lt; omega) (.int .i64 kk) (.int .i64 (sx.at_ : Int)) (.int .i64 0) (.slice (some ⟨bn, 0, none⟩) 2 2)
      refine ⟨⟨Ex.two kk sx.at_ x (p sx.goes).1, (p sx.goes).2, some ⟨bn, 0, none⟩, 2, hPf, HGn.out.st4 (by have := HC.out.lt; omega) _ _ _ _, HRn.out.st4 (by have := HC.out.lt; omega) _ _ _ _, HSn.out.own4 _ _ _ _, HTn.out.st4 (fun h => h.2 rfl) _ _ _ _, HC.out.lt, ?_⟩, ?_⟩
      · rw [← HC.out.rest, Ex.chainF_yes ht1 HMo.out HY.out]
      · rw [tleft_eq hPf, tleft_eq HC.out.ps]
        have e1 := St.goes_len HY.out ht1
        have e2 := HMo.out sx.goes
        omega
end Go.Proofs.Ytfgokhafiffbaaa

/-
  Formulas: and, xor, or, iff, imp.
-/
namespace Go.Proofs.Ytfgokhafiffbaaa
set_option linter.unusedVariables false
open Go.RowKit

/-- the signs left never grow more -/
def Mono (p : St → Tr × St) : Prop := ∀ st, (p st).2.ts.length ≤ st.ts.length
theorem Mono.chainF {t : Tok} {k : Int} {p : St → Tr × St} (h : Mono p) : ∀ (n : Nat) (x : Tr) (st : St), (Ex.chainF n t k p x st).2.ts.length ≤ st.ts.length := by
  intro n
  induction n with
  | zero => intro x st; exact Nat.le_refl _
  | succ n ih =>
    intro x st
    rw [Ex.chainF]
    split
    · have h1 := ih (Ex.two k st.at_ x (p st.goes).1) (p st.goes).2
      have h2 := h st.goes
      have h3 : st.goes.ts.length ≤ st.ts.length := by unfold St.goes; simp
      omega
    · exact Nat.le_refl _
theorem Mono.chain {t : Tok} {k : Int} {p : St → Tr × St} (h : Mono p) : Mono (Ex.chain t k p) := fun st => by
  unfold Ex.chain
  have h1 := Mono.chainF (t := t) (k := k) h (p st).2.ts.length (p st).1 (p st).2
  have h2 := h st
  omega
theorem goes_le (st : St) : st.goes.ts.length ≤ st.ts.length := by unfold St.goes; simp
theorem bad_le (x : Nat) (st : St) : (st.bad x).ts.length ≤ st.ts.length := by unfold St.bad; split <;> exact Nat.le_refl _
theorem must_le (t : Tok) (st : St) : (st.must t).ts.length ≤ st.ts.length := by unfold St.must; split; exact goes_le st; exact bad_le _ st
/-- one deeper likewise -/
def MonoO (r : Option (St → Tr × St)) : Prop := match r with | none => True | some p => Mono p
theorem MonoO.within {r : Option (St → Tr × St)} (h : MonoO r) : Mono (Ex.within r) := fun st => by
  cases r with
  | none => exact bad_le _ st
  | some p =>
    show (if st.e = 0 then p st else (Tr.zero, st)).2.ts.length ≤ _
    split
    · exact h st
    · exact Nat.le_refl _
theorem Mono.imp {r : Option (St → Tr × St)} {p : St → Tr × St} (hr : MonoO r) (h : Mono p) : Mono (Ex.imp r p) := fun st => by
  unfold Ex.imp
  split
  · have h1 := hr.within (p st).2.goes
    have h2 := goes_le (p st).2
    have h3 := h st
    exact Nat.le_trans h1 (Nat.le_trans h2 h3)
  · exact h st

set_option maxHeartbeats 4000000 in
theorem pand_any (d : Nat) (p : St → Tr × St) (hp : Pz 87 d p) (hmono : Mono p) : Pz 83 d (Ex.chain .and 4 p) := by
  intro N s st w h
  have hlt := h.lt
  have HC := Bx.mk (chain_any N d s st (w.alloc (Obj.cells #[.int .i64 0, .int .i64 0, .int .i64 0, .slice none 0 0] 36)) 87 .and 4 { data := #[38] } p (fun _ _ => rfl) hp hmono (by unfold Tok.str Tok.txt strOf; decide +kernel) (by decide) (by decide) (h.alloc _))
  generalize Ex.chain .and 4 p st = R at HC ⊢
  clear h hp hmono
  go_enter Try.func83, Try.ntmps83
  go_wp2_with fail
  refine HC.out.mono ?_
  rintro e w1 ⟨sl, rfl, hS1, hP1, hG1⟩
  obtain ⟨pp, cap, rfl⟩ := hS1.is
  have hr := hG1.blk (Blk.new w 36 #[.int .i64 0, .int .i64 0, .int .i64 0, .slice none 0 0]) (by omega)
  rw [alloc_size] at hS1
  obtain ⟨r0, r1, r2, r3, g0, g1, g2, g3⟩ := cells4 hr
  have HP1 := Bx.mk hP1
  have HG1 := Bx.mk (((Gb.refl N w).alloc _).trans hG1)
  have HR1 := Bx.mk hr
  have HS1 := Bx.mk hS1
  clear hP1 hG1 hr hS1 HC
  unfold Ev
  go_wp2_with fail
  have hE := Blk.own4 HR1.out (.int .i64 R.1.k) (.int .i64 R.1.a) (.int .i64 R.1.v) (.slice pp R.1.kids.len cap)
  clear r0 r1 r2 r3 g0 g1 g2 g3
  obtain ⟨r0, r1, r2, r3, _, _, _, _⟩ := cells4 hE
  refine bodyPost_ret (v := Ev R.1 (.slice pp R.1.kids.len cap)) (by simp [results, Try.results83, go_sem, r0, r1, r2, r3]; rfl) rfl ?_
  exact ⟨_, rfl, (HS1.out.st4 (R := w.heap.size) (fun h => by unfold Ge at h; omega) _ _ _ _).mono (fun g hg => by unfold Ge at hg ⊢; omega), HP1.out.st4 (by omega) _ _ _ _, HG1.out.st4 (Nat.le_refl _) _ _ _ _⟩

set_option maxHeartbeats 4000000 in
theorem pxor_any (d : Nat) (p : St → Tr × St) (hp : Pz 83 d p) (hmono : Mono p) : Pz 77 d (Ex.chain .xor 6 p) := by
  intro N s st w h
  have hlt := h.lt
  have HC := Bx.mk (chain_any N d s st (w.alloc (Obj.cells #[.int .i64 0, .int .i64 0, .int .i64 0, .slice none 0 0] 36)) 83 .xor 6 { data := #[94] } p (fun _ _ => rfl) hp hmono (by unfold Tok.str Tok.txt strOf; decide +kernel) (by decide) (by decide) (h.alloc _))
  generalize Ex.chain .xor 6 p st = R at HC ⊢
  clear h hp hmono
  go_enter Try.func77, Try.ntmps77
  go_wp2_with fail
  refine HC.out.mono ?_
  rintro e w1 ⟨sl, rfl, hS1, hP1, hG1⟩
  obtain ⟨pp, cap, rfl⟩ := hS1.is
  have hr := hG1.blk (Blk.new w 36 #[.int .i64 0, .int .i64 0, .int .i64 0, .slice none 0 0]) (by omega)
  rw [alloc_size] at hS1
  obtain ⟨r0, r1, r2, r3, g0, g1, g2, g3⟩ := cells4 hr
  have HP1 := Bx.mk hP1
  have HG1 := Bx.mk (((Gb.refl N w).alloc _).trans hG1)
  have HR1 := Bx.mk hr
  have HS1 := Bx.mk hS1
  clear hP1 hG1 hr hS1 HC
  unfold Ev
  go_wp2_with fail
  have hE := Blk.own4 HR1.out (.int .i64 R.1.k) (.int .i64 R.1.a) (.int .i64 R.1.v) (.slice pp R.1.kids.len cap)
  clear r0 r1 r2 r3 g0 g1 g2 g3
  obtain ⟨r0, r1, r2, r3, _, _, _, _⟩ := cells4 hE
  refine bodyPost_ret (v := Ev R.1 (.slice pp R.1.kids.len cap)) (by simp [results, Try.results77, go_sem, r0, r1, r2, r3]; rfl) rfl ?_
  exact ⟨_, rfl, (HS1.out.st4 (R := w.heap.size) (fun h => by unfold Ge at h; omega) _ _ _ _).mono (fun g hg => by unfold Ge at hg ⊢; omega), HP1.out.st4 (by omega) _ _ _ _, HG1.out.st4 (Nat.le_refl _) _ _ _ _⟩

set_option maxHeartbeats 4000000 in
theorem por_any (d : Nat) (p : St → Tr × St) (hp : Pz 77 d p) (hmono : Mono p) : Pz 62 d (Ex.chain .or 5 p) := by
  intro N s st w h
  have hlt := h.lt
  have HC := Bx.mk (chain_any N d s st (w.alloc (Obj.cells #[.int .i64 0, .int .i64 0, .int .i64 0, .slice none 0 0] 36)) 77 .or 5 { data := #[124] } p (fun _ _ => rfl) hp hmono (by unfold Tok.str Tok.txt strOf; decide +kernel) (by decide) (by decide) (h.alloc _))
  generalize Ex.chain .or 5 p st = R at HC ⊢
  clear h hp hmono
  go_enter Try.func62, Try.ntmps62
  go_wp2_with fail
  refine HC.out.mono ?_
  rintro e w1 ⟨sl, rfl, hS1, hP1, hG1⟩
  obtain ⟨pp, cap, rfl⟩ := hS1.is
  have hr := hG1.blk (Blk.new w 36 #[.int .i64 0, .int .i64 0, .int .i64 0, .slice none 0 0]) (by omega)
  rw [alloc_size] at hS1
  obtain ⟨r0, r1, r2, r3, g0, g1, g2, g3⟩ := cells4 hr
  have HP1 := Bx.mk hP1
  have HG1 := Bx.mk (((Gb.refl N w).alloc _).trans hG1)
  have HR1 := Bx.mk hr
  have HS1 := Bx.mk hS1
  clear hP1 hG1 hr hS1 HC
  unfold Ev
  go_wp2_with fail
  have hE := Blk.own4 HR1.out (.int .i64 R.1.k) (.int .i64 R.1.a) (.int .i64 R.1.v) (.slice pp R.1.kids.len cap)
  clear r0 r1 r2 r3 g0 g1 g2 g3
  obtain ⟨r0, r1, r2, r3, _, _, _, _⟩ := cells4 hE
  refine bodyPost_ret (v := Ev R.1 (.slice pp R.1.kids.len cap)) (by simp [results, Try.results62, go_sem, r0, r1, r2, r3]; rfl) rfl ?_
  exact ⟨_, rfl, (HS1.out.st4 (R := w.heap.size) (fun h => by unfold Ge at h; omega) _ _ _ _).mono (fun g hg => by unfold Ge at hg ⊢; omega), HP1.out.st4 (by omega) _ _ _ _, HG1.out.st4 (Nat.le_refl _) _ _ _ _⟩

set_option maxHeartbeats 4000000 in
theorem piff_any (d : Nat) (p : St → Tr × St) (hp : Pz 44 d p) (hmono : Mono p) : Pz 31 d (Ex.chain .iff 8 p) := by
  intro N s st w h
  have hlt := h.lt
  have HC := Bx.mk (chain_any N d s st (w.alloc (Obj.cells #[.int .i64 0, .int .i64 0, .int .i64 0, .slice none 0 0] 36)) 44 .iff 8 { data := #[60, 45, 62] } p (fun _ _ => rfl) hp hmono (by unfold Tok.str Tok.txt strOf; decide +kernel) (by decide) (by decide) (h.alloc _))
  generalize Ex.chain .iff 8 p st = R at HC ⊢
  clear h hp hmono
  go_enter Try.func31, Try.ntmps31
  go_wp2_with fail
  refine HC.out.mono ?_
  rintro e w1 ⟨sl, rfl, hS1, hP1, hG1⟩
  obtain ⟨pp, cap, rfl⟩ := hS1.is
  have hr := hG1.blk (Blk.new w 36 #[.int .i64 0, .int .i64 0, .int .i64 0, .slice none 0 0]) (by omega)
  rw [alloc_size] at hS1
  obtain ⟨r0, r1, r2, r3, g0, g1, g2, g3⟩ := cells4 hr
  have HP1 := Bx.mk hP1
  have HG1 := Bx.mk (((Gb.refl N w).alloc _).trans hG1)
  have HR1 := Bx.mk hr
  have HS1 := Bx.mk hS1
  clear hP1 hG1 hr hS1 HC
  unfold Ev
  go_wp2_with fail
  have hE := Blk.own4 HR1.out (.int .i64 R.1.k) (.int .i64 R.1.a) (.int .i64 R.1.v) (.slice pp R.1.kids.len cap)
  clear r0 r1 r2 r3 g0 g1 g2 g3
  obtain ⟨r0, r1, r2, r3, _, _, _, _⟩ := cells4 hE
  refine bodyPost_ret (v := Ev R.1 (.slice pp R.1.kids.len cap)) (by simp [results, Try.results31, go_sem, r0, r1, r2, r3]; rfl) rfl ?_
  exact ⟨_, rfl, (HS1.out.st4 (R := w.heap.size) (fun h => by unfold Ge at h; omega) _ _ _ _).mono (fun g hg => by unfold Ge at hg ⊢; omega), HP1.out.st4 (by omega) _ _ _ _, HG1.out.st4 (Nat.le_refl _) _ _ _ _⟩

end Go.Proofs.Ytfgokhafiffbaaa

/-
  Formulas: imp.
-/
namespace Go.Proofs.Ytfgokhafiffbaaa
set_option linter.unusedVariables false
open Go.RowKit

set_option maxHeartbeats 8000000 in
theorem pimp_any (d : Nat) (p : St → Tr × St) (r : Option (St → Tr × St)) (hp : Pz 62 d p) (hr : Rz 44 d r) : Pz 44 d (Ex.imp r p) := by
  intro N s st w h
  have hlt := h.lt
  have HO := Bx.mk (hp N s st (w.alloc (Obj.cells #[.int .i64 0, .int .i64 0, .int .i64 0, .slice none 0 0] 36)) (h.alloc _))
  go_enter Try.func44, Try.ntmps44
  go_wp2_with fail
  refine HO.out.mono ?_
  rintro e w1 ⟨sx, rfl, hS1, hP1, hG1⟩
  obtain ⟨px, cx, hsx⟩ := hS1.is
  have hr1 := hG1.blk (Blk.new w 36 #[.int .i64 0, .int .i64 0, .int .i64 0, .slice none 0 0]) (by omega)
  have hz := hG1.size
  rw [alloc_size] at hz hS1
  have hG2 := ((Gb.refl N w).alloc _).trans hG1
  generalize hb1 : w1.heap.size = b3
  have hS2 := (hS1.mono' (B' := fun g => w.heap.size < g ∧ g < b3) fun g hg h1 => by unfold Ge at h1; exact ⟨by omega, by omega⟩)
  have hP2 := hP1.alloc (Obj.cells #[.int .i64 (p st).1.k, .int .i64 (p st).1.a, .int .i64 (p st).1.v, sx] 36)
  have hG3 := hG2.alloc (Obj.cells #[.int .i64 (p st).1.k, .int .i64 (p st).1.a, .int .i64 (p st).1.v, sx] 36)
  have hR3 := hr1.alloc (Obj.cells #[.int .i64 (p st).1.k, .int .i64 (p st).1.a, .int .i64 (p st).1.v, sx] 36)
  have hX3 := Blk.new w1 36 #[.int .i64 (p st).1.k, .int .i64 (p st).1.a, .int .i64 (p st).1.v, sx]
  have hS3 := hS2.alloc (Obj.cells #[.int .i64 (p st).1.k, .int .i64 (p st).1.a, .int .i64 (p st).1.v, sx] 36)
  rw [hb1] at hX3 hz
  subst hsx
  obtain ⟨c0, c1, c2, c3, c4, c5, f1, f2, f3, f4, f5⟩ := pb_cells hP2.blk
  have hM := may_st N d .imp ({ data := #[45, 62] }) s _ _ hP2 (by unfold Tok.str Tok.txt strOf; decide +kernel) (by decide) (by decide)
  clear c0 c1 c3 c4 c5 f1 f2 f3 f4 f5 hP1 hG1 hS1 hr1 hS2 hG2
  have HP2 := Bx.mk hP2
  have HG3 := Bx.mk hG3
  have HR3 := Bx.mk hR3
  have HX3 := Bx.mk hX3
  have HS3 := Bx.mk hS3
  have HB3 := Bx.mk hb1
  have HRr := Bx.mk hr
  clear hP2 hG3 hR3 hX3 hS3 HO h hr
  unfold Ev
  cases hmay : (p st).2.may .imp with
  | false =>
    have hE : Ex.imp r p st = p st := by unfold Ex.imp; rw [if_neg (by rw [hmay]; simp)]
    rw [hmay, if_neg (by simp)] at hM
    have HM := Bx.mk hM
    have HE := Bx.mk hE
    clear hM hmay hE
    go_wp2_with fail
    try simp only [hb1]
    refine HM.out.mono ?_
    rintro e w2 ⟨rfl, hP4, hG4⟩
    have hX4 := hG4.blk HX3.out (by omega)
    have hR4 := hG4.blk HR3.out (by omega)
    obtain ⟨o0, o1, o2, o3, _, _, _, _⟩ := cells4 hX4
    obtain ⟨r0, r1, r2, r3, g0, g1, g2, g3⟩ := cells4 hR4
    have HP4 := Bx.mk hP4
    have HG4 := Bx.mk hG4
    have HR4 := Bx.mk hR4
    clear hP4 hG4 hX4 hR4
    go_wp2_with fail
    have hE := Blk.own4 HR4.out (.int .i64 (p st).1.k) (.int .i64 (p st).1.a) (.int .i64 (p st).1.v) (.slice px (p st).1.kids.len cx)
    clear r0 r1 r2 r3 g0 g1 g2 g3
    obtain ⟨r0, r1, r2, r3, _, _, _, _⟩ := cells4 hE
    refine bodyPost_ret (v := Ev (p st).1 (.slice px (p st).1.kids.len cx)) (by simp [results, Try.results44, go_sem, r0, r1, r2, r3]; rfl) rfl ?_
    rw [HE.out]
    exact ⟨.slice px (p st).1.kids.len cx, rfl, ((HS3.out.gbs (fun h => by omega) HG4.out).st4 (R := w.heap.size) (fun h => by omega) _ _ _ _).mono (B' := Ge w.heap.size) (fun g hg => by unfold Ge; omega), HP4.out.st4 (R := w.heap.size) (by omega) _ _ _ _, (HG3.out.trans HG4.out).st4 (Nat.le_refl _) _ _ _ _⟩
  | true =>
    have hE : Ex.imp r p st = (Ex.two 7 (p st).2.at_ (p st).1 (Ex.within r (p st).2.goes).1, (Ex.within r (p st).2.goes).2) := by unfold Ex.imp; rw [if_pos hmay]
    rw [hmay, if_pos rfl] at hM
    have HM := Bx.mk hM
    have HE := Bx.mk hE
    clear hM hmay hE
    go_wp2_with fail
    try simp only [hb1]
    refine HM.out.mono ?_
    rintro e w2 ⟨rfl, hP4, hG4⟩
    have hX4 := hG4.blk HX3.out (by omega)
    have hR4 := hG4.blk HR3.out (by omega)
    have hT4 := HS3.out.gbs (fun h => by omega) hG4
    have hW := fun u (hu : PS u N d s (p st).2.goes) => within_any N d s (p st).2.goes u 44 r (fun _ _ => rfl) HRr.out hu
    generalize Ex.within r (p st).2.goes = Y at hW HE
    go_wp2_with fail
    refine region_any 6 (fun u => Blk u b3 36 #[.int .i64 (p st).1.k, .int .i64 (p st).1.a, .int .i64 (p st).1.v, .slice px (p st).1.kids.len cx]) (by kernel_rfl) ?_
    have hS0 := hX4.drew
    have hP5 := hP4.drew
    have hG5 := hG4.drew
    have hR5 := hR4.drew
    have hT5 := hT4.drew
    generalize w2.drew = u0 at hS0 hP5 hG5 hR5 hT5 ⊢
    clear hX4 hP4 hG4 hR4 hT4
    refine any_take (i := 0) (.int .i64 ((p st).2.at_ : Int)) rfl rfl (by kernel_rfl) (by kernel_rfl) (by kernel_rfl) (by kernel_rfl) (fun _ _ d _ _ h => by cases d <;> exact h) (fun u hS => rfl) hS0 ?_
    (try simp only [Act.put]); (try simp only [List.getElem_toArray]); (try simp only [List.getElem_cons_succ]); (try simp only [List.getElem_cons_zero]); (try simp only [List.setIfInBounds_toArray]); (try simp only [List.set_cons_succ]); (try simp only [List.set_cons_zero])
    refine any_take (i := 1) (.agg #[.int .i64 (p st).1.k, .int .i64 (p st).1.a, .int .i64 (p st).1.v, .slice px (p st).1.kids.len cx]) rfl rfl (by kernel_rfl) (by kernel_rfl) (by kernel_rfl) (by kernel_rfl) (fun _ _ d _ _ h => by cases d <;> exact h) (fun u hS => exec_loadE rfl rfl hS) hS0 ?_
    (try simp only [Act.put]); (try simp only [List.getElem_toArray]); (try simp only [List.getElem_cons_succ]); (try simp only [List.getElem_cons_zero]); (try simp only [List.setIfInBounds_toArray]); (try simp only [List.set_cons_succ]); (try simp only [List.set_cons_zero])
    refine any_take (i := 2) (.pointer (some ⟨N, 0, none⟩)) rfl rfl (by kernel_rfl) (by kernel_rfl) (by kernel_rfl) (by kernel_rfl) (fun _ _ d _ _ h => by cases d <;> exact h) (fun u hS => rfl) hS0 ?_
    (try simp only [Act.put]); (try simp only [List.getElem_toArray]); (try simp only [List.getElem_cons_succ]); (try simp only [List.getElem_cons_zero]); (try simp only [List.setIfInBounds_toArray]); (try simp only [List.set_cons_succ]); (try simp only [List.set_cons_zero])
    refine any_branch [3] (by kernel_rfl) rfl fun ix hix => ?_
    simp only [List.mem_cons, List.not_mem_nil, or_false] at hix
    subst hix
    refine any_op rfl rfl fun K hK => ?_
    go_simp
    refine (hW _ hP5).mono ?_
    rintro e u1 ⟨sy, rfl, hSy, hPy, hGy⟩
    obtain ⟨py, cy, rfl⟩ := hSy.is
    have hS1 := hGy.blk hS0 (by omega)
    have hR1 := hGy.blk hR5 (by omega)
    refine hK _ _ (fun _ => hS1) ?_
    (try simp only [Act.put]); (try simp only [List.getElem_toArray]); (try simp only [List.getElem_cons_succ]); (try simp only [List.getElem_cons_zero]); (try simp only [List.setIfInBounds_toArray]); (try simp only [List.set_cons_succ]); (try simp only [List.set_cons_zero])
    clear hK
    refine any_branch [4] (by kernel_rfl) rfl fun ix hix => ?_
    simp only [List.mem_cons, List.not_mem_nil, or_false] at hix
    subst hix
    refine any_op rfl rfl fun K hK => ?_
    unfold Ev
    go_simp
    have hl5 := hS0.lt
    have hTx := (hT5.gbs (fun h => by omega) hGy).mono (B' := Ge (w.heap.size + 1)) (fun g hg => by unfold Ge; omega)
    have hTy := hSy.mono (B' := Ge (w.heap.size + 1)) (fun g hg => by unfold Ge at hg ⊢; omega)
    have hz1 : b3 < u1.heap.size := hS1.lt
    have hTn := SlF.pair 36 hTx hTy (by unfold Ge; omega)
    have hPn := hPy.alloc (Obj.cells #[.int .i64 (p st).1.k, .int .i64 (p st).1.a, .int .i64 (p st).1.v, .slice px (p st).1.kids.len cx, .int .i64 Y.1.k, .int .i64 Y.1.a, .int .i64 Y.1.v, .slice py Y.1.kids.len cy] 36)
    have hGn := (HG3.out.trans (hG5.trans hGy)).alloc (Obj.cells #[.int .i64 (p st).1.k, .int .i64 (p st).1.a, .int .i64 (p st).1.v, .slice px (p st).1.kids.len cx, .int .i64 Y.1.k, .int .i64 Y.1.a, .int .i64 Y.1.v, .slice py Y.1.kids.len cy] 36)
    have hSn := hS1.alloc (Obj.cells #[.int .i64 (p st).1.k, .int .i64 (p st).1.a, .int .i64 (p st).1.v, .slice px (p st).1.kids.len cx, .int .i64 Y.1.k, .int .i64 Y.1.a, .int .i64 Y.1.v, .slice py Y.1.kids.len cy] 36)
    have hRn := hR1.alloc (Obj.cells #[.int .i64 (p st).1.k, .int .i64 (p st).1.a, .int .i64 (p st).1.v, .slice px (p st).1.kids.len cx, .int .i64 Y.1.k, .int .i64 Y.1.a, .int .i64 Y.1.v, .slice py Y.1.kids.len cy] 36)
    generalize hpn : u1.heap.size = bn at hTn hz1 ⊢
    generalize u1.alloc (Obj.cells #[.int .i64 (p st).1.k, .int .i64 (p st).1.a, .int .i64 (p st).1.v, .slice px (p st).1.kids.len cx, .int .i64 Y.1.k, .int .i64 Y.1.a, .int .i64 Y.1.v, .slice py Y.1.kids.len cy] 36) = u2 at hTn hPn hGn hSn hRn ⊢
    clear hTx hTy hS0 hS1 hP5 hG5 hSy hPy hGy hR5 hR1 hT5
    refine hK _ _ (fun _ => hSn) ?_
    (try simp only [Act.put]); (try simp only [List.getElem_toArray]); (try simp only [List.getElem_cons_succ]); (try simp only [List.getElem_cons_zero]); (try simp only [List.setIfInBounds_toArray]); (try simp only [List.set_cons_succ]); (try simp only [List.set_cons_zero])
    clear hK
    refine any_branch [5] (by kernel_rfl) rfl fun ix hix => ?_
    simp only [List.mem_cons, List.not_mem_nil, or_false] at hix
    subst hix
    refine any_op rfl rfl fun K hK => ?_
    go_simp
    refine hK _ _ (fun _ => hSn) ?_
    (try simp only [Act.put]); (try simp only [List.getElem_toArray]); (try simp only [List.getElem_cons_succ]); (try simp only [List.getElem_cons_zero]); (try simp only [List.setIfInBounds_toArray]); (try simp only [List.set_cons_succ]); (try simp only [List.set_cons_zero])
    clear hK
    obtain ⟨r0, r1, r2, r3, g0, g1, g2, g3⟩ := cells4 hRn
    refine any_branch [6] (by kernel_rfl) rfl fun ix hix => ?_
    simp only [List.mem_cons, List.not_mem_nil, or_false] at hix
    subst hix
    refine any_op rfl rfl fun K hK => ?_
    go_simp
    refine hK _ _ (fun h => absurd rfl h) ?_
    (try simp only [Act.put]); (try simp only [List.getElem_toArray]); (try simp only [List.getElem_cons_succ]); (try simp only [List.getElem_cons_zero]); (try simp only [List.setIfInBounds_toArray]); (try simp only [List.set_cons_succ]); (try simp only [List.set_cons_zero])
    clear hK
    refine any_end (by kernel_rfl) ?_
    clear r0 r1 r2 r3 g0 g1 g2 g3
    have HPn := Bx.mk hPn
    have HGn := Bx.mk hGn
    have HRn := Bx.mk hRn
    have HTn := Bx.mk hTn
    clear hPn hGn hSn hRn hTn
    go_wp2_with fail
    have hE := Blk.own4 HRn.out (.int .i64 7) (.int .i64 ((p st).2.at_ : Int)) (.int .i64 0) (.slice (some ⟨bn, 0, none⟩) 2 2)
    obtain ⟨r0, r1, r2, r3, _, _, _, _⟩ := cells4 hE
    refine bodyPost_ret (v := Ev (Ex.two 7 (p st).2.at_ (p st).1 Y.1) (.slice (some ⟨bn, 0, none⟩) 2 2)) (by simp [results, Try.results44, go_sem, r0, r1, r2, r3]; rfl) rfl ?_
    rw [HE.out]
    exact ⟨.slice (some ⟨bn, 0, none⟩) 2 2, rfl, (HTn.out.st4 (R := w.heap.size) (fun h => by unfold Ge at h; omega) _ _ _ _).mono (B' := Ge w.heap.size) (fun g hg => by unfold Ge at hg ⊢; omega), HPn.out.st4 (R := w.heap.size) (by omega) _ _ _ _, HGn.out.st4 (Nat.le_refl _) _ _ _ _⟩
end Go.Proofs.Ytfgokhafiffbaaa

/-
  Formulas: prim's small parts; bound.
-/
namespace Go.Proofs.Ytfgokhafiffbaaa
set_option linter.unusedVariables false
open Go.RowKit
theorem Lx.vr_var (n : Fin 8) : Lx.vr (Tok.var n).txt = true := by
  have := n.isLt
  have e : (Tok.var n).txt = [118, 48 + n.val] := by unfold Tok.txt; rfl
  rw [e]
  exact Lx.vr_mk (by omega) (by omega)
theorem Lx.vr_not (t : Tok) (h : ∀ n, t ≠ .var n) : Lx.vr t.txt = false := by
  cases hv : Lx.vr t.txt with
  | false => rfl
  | true =>
    exfalso
    obtain ⟨b, hb, h1, h2⟩ := Lx.vr_spec hv
    have e : t.txt = (Tok.var ⟨b - 48, by omega⟩).txt := by
      rw [hb, show (Tok.var ⟨b - 48, by omega⟩).txt = [118, 48 + (b - 48)] from by unfold Tok.txt; rfl]
      congr 2
      omega
    exact h _ (Tok.txt_inj e)
theorem Tok.var_at (n : Fin 8) : (bl (Tok.var n).str)[1]? = some (48 + n.val) := by
  rw [Tok.bl_str]
  unfold Tok.txt
  rfl
section
variable {a : Act} {u : World} {o : Oper} {x y : Operand}
theorem exec_index1 {s : ByteArray} {c : Nat} (hop : o.op = .index 9 x y) (hx : a.eval x = .string s) (hy : a.eval y = .int .i64 1) (h : (bl s)[1]? = some c) :
    (execOp a.eval o).run Try.prog u = .ok (.value (.int .u8 (c : Int))) u := by
  have := run_idx1 h
  unfold execOp
  simp only [hop, hx, hy]
  go_simp
theorem exec_sub48 {n : Nat} (hop : o.op = .binOp .sub 5 x y 5) (hx : a.eval x = .int .u8 ((48 + n : Nat) : Int)) (hy : a.eval y = .int .u8 48) (h : n < 8) :
    (execOp a.eval o).run Try.prog u = .ok (.value (.int .u8 (n : Int))) u := by
  unfold execOp
  simp only [hop, hx, hy]
  go_simp
  rw [IntKind.wrap_u8]
  omega
theorem exec_conv8 {n : Nat} (hop : o.op = .convert 5 3 x) (hx : a.eval x = .int .u8 (n : Int)) (h : n < 8) :
    (execOp a.eval o).run Try.prog u = .ok (.value (.int .i64 (n : Int))) u := by
  have hw : IntKind.i64.wrap (n : Int) = (n : Int) := by rw [IntKind.wrap_i64]; omega
  unfold execOp
  simp only [hop, hx]
  go_simp
end

set_option maxHeartbeats 8000000 in
theorem bound_any (N d : Nat) (s : ByteArray) (st : St) (w : World) (k : Int) (at_ : Nat) (r : Option (St → Tr × St)) (hr : Rz 87 d r) (h : PS w N d s st) :
    Calls Try.prog 88 #[.pointer (some ⟨N, 0, none⟩), .int .i64 k, .int .i64 (at_ : Int)] w (Gives N d s w (Ex.bound r k at_ st)) := by
  have hlt := h.lt
  have HP0 := Bx.mk (h.alloc (Obj.cells #[.int .i64 0, .int .i64 0, .int .i64 0, .slice none 0 0] 36))
  have HR0 := Bx.mk (Blk.new w 36 #[.int .i64 0, .int .i64 0, .int .i64 0, .slice none 0 0])
  have HG0 := Bx.mk ((Gb.refl N w).alloc (Obj.cells #[.int .i64 0, .int .i64 0, .int .i64 0, .slice none 0 0] 36))
  have HRr := Bx.mk hr
  obtain ⟨c0, c1, c2, c3, c4, c5, f1, f2, f3, f4, f5⟩ := pb_cells h.blk
  have hV := variable_any st.now.str
  rw [Tok.bl_str] at hV
  clear c0 c2 c3 c4 c5 f1 f2 f3 f4 f5 h hr
  by_cases hn : ∃ n, st.now = .var n
  · obtain ⟨n, hn⟩ := hn
    rw [hn, Lx.vr_var] at hV
    have hT := Tok.var_at n
    have hGo := goes_st N d s st _ HP0.out (by rw [hn]; simp) (by rw [hn]; simp)
    have hW := fun u (hu : PS u N d s st.goes) => within_any N d s st.goes u 87 r (fun _ _ => rfl) HRr.out hu
    have hE : Ex.bound r k at_ st = (Ex.one k at_ n.val (Ex.within r st.goes).1, (Ex.within r st.goes).2) := by unfold Ex.bound; rw [hn]
    have HE := Bx.mk hE
    have HW := Bx.mk hW
    have HGo := Bx.mk hGo
    have HV := Bx.mk hV
    have HT := Bx.mk hT
    rw [hn] at c1
    have hn8 := n.isLt
    generalize n.val = m at HE HT hn8
    clear hE hW hGo hV hT hn
    go_enter Try.func88, Try.ntmps88
    go_wp2_with fail
    refine (HV.out _).mono ?_
    rintro e w1 ⟨rfl, rfl⟩
    go_wp2_with fail
    refine HGo.out.mono ?_
    rintro e w2 ⟨rfl, hP4, hG4⟩
    have hR4 := hG4.blk HR0.out (by omega)
    have hz4 := hG4.size
    rw [alloc_size] at hz4
    clear c1
    generalize Ex.within r st.goes = Y at HW HE
    go_wp2_with fail
    refine region_any 10 (fun u => True) (by kernel_rfl) ?_
    have hS0 : True := True.intro
    have hP5 := hP4.drew
    have hG5 := hG4.drew
    have hR5 := hR4.drew
    have hz5 : w.heap.size + 1 ≤ w2.drew.heap.size := hz4
    generalize w2.drew = u0 at hP5 hG5 hR5 hz5 ⊢
    clear hP4 hG4 hR4 hz4
    refine any_take (i := 0) (.int .i64 k) rfl rfl (by kernel_rfl) (by kernel_rfl) (by kernel_rfl) (by kernel_rfl) (fun _ _ d _ _ h => by cases d <;> exact h) (fun u hS => rfl) hS0 ?_
    (try simp only [Act.put]); (try simp only [List.getElem_toArray]); (try simp only [List.getElem_cons_succ]); (try simp only [List.getElem_cons_zero]); (try simp only [List.setIfInBounds_toArray]); (try simp only [List.set_cons_succ]); (try simp only [List.set_cons_zero])
    refine any_take (i := 1) (.int .i64 (at_ : Int)) rfl rfl (by kernel_rfl) (by kernel_rfl) (by kernel_rfl) (by kernel_rfl) (fun _ _ d _ _ h => by cases d <;> exact h) (fun u hS => rfl) hS0 ?_
    (try simp only [Act.put]); (try simp only [List.getElem_toArray]); (try simp only [List.getElem_cons_succ]); (try simp only [List.getElem_cons_zero]); (try simp only [List.setIfInBounds_toArray]); (try simp only [List.set_cons_succ]); (try simp only [List.set_cons_zero])
    refine any_take (i := 2) (.string (Tok.var n).str) rfl rfl (by kernel_rfl) (by kernel_rfl) (by kernel_rfl) (by kernel_rfl) (fun _ _ d _ _ h => by cases d <;> exact h) (fun u hS => rfl) hS0 ?_
    (try simp only [Act.put]); (try simp only [List.getElem_toArray]); (try simp only [List.getElem_cons_succ]); (try simp only [List.getElem_cons_zero]); (try simp only [List.setIfInBounds_toArray]); (try simp only [List.set_cons_succ]); (try simp only [List.set_cons_zero])
    refine any_take (i := 3) (.int .u8 ((48 + m : Nat) : Int)) rfl rfl (by kernel_rfl) (by kernel_rfl) (by kernel_rfl) (by kernel_rfl) (fun _ _ d _ _ h => by cases d <;> exact h) (fun u hS => exec_index1 rfl rfl rfl HT.out) hS0 ?_
    (try simp only [Act.put]); (try simp only [List.getElem_toArray]); (try simp only [List.getElem_cons_succ]); (try simp only [List.getElem_cons_zero]); (try simp only [List.setIfInBounds_toArray]); (try simp only [List.set_cons_succ]); (try simp only [List.set_cons_zero])
    refine any_take (i := 4) (.int .u8 (m : Int)) rfl rfl (by kernel_rfl) (by kernel_rfl) (by kernel_rfl) (by kernel_rfl) (fun _ _ d _ _ h => by cases d <;> exact h) (fun u hS => exec_sub48 rfl rfl rfl hn8) hS0 ?_
    (try simp only [Act.put]); (try simp only [List.getElem_toArray]); (try simp only [List.getElem_cons_succ]); (try simp only [List.getElem_cons_zero]); (try simp only [List.setIfInBounds_toArray]); (try simp only [List.set_cons_succ]); (try simp only [List.set_cons_zero])
    refine any_take (i := 5) (.int .i64 (m : Int)) rfl rfl (by kernel_rfl) (by kernel_rfl) (by kernel_rfl) (by kernel_rfl) (fun _ _ d _ _ h => by cases d <;> exact h) (fun u hS => exec_conv8 rfl rfl hn8) hS0 ?_
    (try simp only [Act.put]); (try simp only [List.getElem_toArray]); (try simp only [List.getElem_cons_succ]); (try simp only [List.getElem_cons_zero]); (try simp only [List.setIfInBounds_toArray]); (try simp only [List.set_cons_succ]); (try simp only [List.set_cons_zero])
    refine any_take (i := 6) (.pointer (some ⟨N, 0, none⟩)) rfl rfl (by kernel_rfl) (by kernel_rfl) (by kernel_rfl) (by kernel_rfl) (fun _ _ d _ _ h => by cases d <;> exact h) (fun u hS => rfl) hS0 ?_
    (try simp only [Act.put]); (try simp only [List.getElem_toArray]); (try simp only [List.getElem_cons_succ]); (try simp only [List.getElem_cons_zero]); (try simp only [List.setIfInBounds_toArray]); (try simp only [List.set_cons_succ]); (try simp only [List.set_cons_zero])
    refine any_branch [7] (by kernel_rfl) rfl fun ix hix => ?_
    simp only [List.mem_cons, List.not_mem_nil, or_false] at hix
    subst hix
    refine any_op rfl rfl fun K hK => ?_
    go_simp
    refine (HW.out _ hP5).mono ?_
    rintro e u1 ⟨sy, rfl, hSy, hPy, hGy⟩
    obtain ⟨py, cy, rfl⟩ := hSy.is
    have hR1 := hGy.blk hR5 (by omega)
    refine hK _ _ (fun _ => True.intro) ?_
    (try simp only [Act.put]); (try simp only [List.getElem_toArray]); (try simp only [List.getElem_cons_succ]); (try simp only [List.getElem_cons_zero]); (try simp only [List.setIfInBounds_toArray]); (try simp only [List.set_cons_succ]); (try simp only [List.set_cons_zero])
    clear hK
    refine any_branch [8] (by kernel_rfl) rfl fun ix hix => ?_
    simp only [List.mem_cons, List.not_mem_nil, or_false] at hix
    subst hix
    refine any_op rfl rfl fun K hK => ?_
    unfold Ev
    go_simp
    have hz1 := hGy.size
    have hTy := hSy.mono (B' := Ge (w.heap.size + 1)) (fun g hg => by unfold Ge at hg ⊢; omega)
    have hTn := SlF.single 36 hTy (by unfold Ge; omega)
    have hPn := hPy.alloc (Obj.cells #[.int .i64 Y.1.k, .int .i64 Y.1.a, .int .i64 Y.1.v, .slice py Y.1.kids.len cy] 36)
    have hGn := (HG0.out.trans (hG5.trans hGy)).alloc (Obj.cells #[.int .i64 Y.1.k, .int .i64 Y.1.a, .int .i64 Y.1.v, .slice py Y.1.kids.len cy] 36)
    have hRn := hR1.alloc (Obj.cells #[.int .i64 Y.1.k, .int .i64 Y.1.a, .int .i64 Y.1.v, .slice py Y.1.kids.len cy] 36)
    generalize hpn : u1.heap.size = bn at hTn hz1 ⊢
    generalize u1.alloc (Obj.cells #[.int .i64 Y.1.k, .int .i64 Y.1.a, .int .i64 Y.1.v, .slice py Y.1.kids.len cy] 36) = u2 at hTn hPn hGn hRn ⊢
    clear hTy hP5 hG5 hSy hPy hGy hR5 hR1
    refine hK _ _ (fun _ => True.intro) ?_
    (try simp only [Act.put]); (try simp only [List.getElem_toArray]); (try simp only [List.getElem_cons_succ]); (try simp only [List.getElem_cons_zero]); (try simp only [List.setIfInBounds_toArray]); (try simp only [List.set_cons_succ]); (try simp only [List.set_cons_zero])
    clear hK
    refine any_branch [9] (by kernel_rfl) rfl fun ix hix => ?_
    simp only [List.mem_cons, List.not_mem_nil, or_false] at hix
    subst hix
    refine any_op rfl rfl fun K hK => ?_
    go_simp
    refine hK _ _ (fun _ => True.intro) ?_
    (try simp only [Act.put]); (try simp only [List.getElem_toArray]); (try simp only [List.getElem_cons_succ]); (try simp only [List.getElem_cons_zero]); (try simp only [List.setIfInBounds_toArray]); (try simp only [List.set_cons_succ]); (try simp only [List.set_cons_zero])
    clear hK
    obtain ⟨r0, r1, r2, r3, g0, g1, g2, g3⟩ := cells4 hRn
    refine any_branch [10] (by kernel_rfl) rfl fun ix hix => ?_
    simp only [List.mem_cons, List.not_mem_nil, or_false] at hix
    subst hix
    refine any_op rfl rfl fun K hK => ?_
    go_simp
    refine hK _ _ (fun h => absurd rfl h) ?_
    (try simp only [Act.put]); (try simp only [List.getElem_toArray]); (try simp only [List.getElem_cons_succ]); (try simp only [List.getElem_cons_zero]); (try simp only [List.setIfInBounds_toArray]); (try simp only [List.set_cons_succ]); (try simp only [List.set_cons_zero])
    clear hK
    refine any_end (by kernel_rfl) ?_
    clear r0 r1 r2 r3 g0 g1 g2 g3
    have HPn := Bx.mk hPn
    have HGn := Bx.mk hGn
    have HRn := Bx.mk hRn
    have HTn := Bx.mk hTn
    clear hPn hGn hRn hTn
    go_wp2_with fail
    have hE := Blk.own4 HRn.out (.int .i64 k) (.int .i64 (at_ : Int)) (.int .i64 (m : Int)) (.slice (some ⟨bn, 0, none⟩) 1 1)
    obtain ⟨r0, r1, r2, r3, _, _, _, _⟩ := cells4 hE
    refine bodyPost_ret (v := Ev (Ex.one k at_ m Y.1) (.slice (some ⟨bn, 0, none⟩) 1 1)) (by simp [results, Try.results88, go_sem, r0, r1, r2, r3]; rfl) rfl ?_
    rw [HE.out]
    exact ⟨.slice (some ⟨bn, 0, none⟩) 1 1, rfl, (HTn.out.st4 (R := w.heap.size) (fun h => by unfold Ge at h; omega) _ _ _ _).mono (B' := Ge w.heap.size) (fun g hg => by unfold Ge at hg ⊢; omega), HPn.out.st4 (R := w.heap.size) (by omega) _ _ _ _, HGn.out.st4 (Nat.le_refl _) _ _ _ _⟩
  · have hn' : ∀ n, st.now ≠ .var n := fun n e => hn ⟨n, e⟩
    rw [Lx.vr_not _ hn'] at hV
    have HD := Bx.mk (bad_st N d 230 s st _ HP0.out)
    have hE : Ex.bound r k at_ st = (Tr.zero, st.bad 230) := by
      unfold Ex.bound
      split
      · rename_i n e; exact absurd e (hn' n)
      · rfl
    have HE := Bx.mk hE
    have HV := Bx.mk hV
    clear hE hV hn hn'
    go_enter Try.func88, Try.ntmps88
    go_wp2_with fail
    refine (HV.out _).mono ?_
    rintro e w1 ⟨rfl, rfl⟩
    go_wp2_with fail
    refine HD.out.mono ?_
    rintro e w2 ⟨rfl, hP4, hG4⟩
    have hR4 := hG4.blk HR0.out (by omega)
    obtain ⟨r0, r1, r2, r3, g0, g1, g2, g3⟩ := cells4 hR4
    have HP4 := Bx.mk hP4
    have HG4 := Bx.mk hG4
    have HR4 := Bx.mk hR4
    clear hP4 hG4 hR4
    go_wp2_with fail
    have hE := Blk.own4 HR4.out (.int .i64 0) (.int .i64 0) (.int .i64 0) (.slice none 0 0)
    clear r0 r1 r2 r3 g0 g1 g2 g3
    obtain ⟨r0, r1, r2, r3, _, _, _, _⟩ := cells4 hE
    refine bodyPost_ret (v := Ev Tr.zero (.slice none 0 0)) (by simp [results, Try.results88, go_sem, r0, r1, r2, r3]; rfl) rfl ?_
    rw [HE.out]
    exact ⟨.slice none 0 0, rfl, SlF.nil _ _, HP4.out.st4 (R := w.heap.size) (by omega) _ _ _ _, (HG0.out.trans HG4.out).st4 (Nat.le_refl _) _ _ _ _⟩
end Go.Proofs.Ytfgokhafiffbaaa
