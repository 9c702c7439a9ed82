/-
  Formulas: the parser's state; goes, bad, may, must over it.
-/
import Derived.Test.YtfgokhafiffbaaaEx5
namespace Go.Proofs.Ytfgokhafiffbaaa
set_option linter.unusedVariables false
open Go.RowKit

/-- the parser at block N reads as the plain state -/
structure PS (w : World) (N d : Nat) (s : ByteArray) (st : St) : Prop where
  blk : Blk w N 62 (PB s st.now.str st.at_ d st.e st.eat)
  len : st.at_ + st.now.txt.length ≤ s.size
  size : s.size ≤ 4000
  toks : ∃ r, st.ts = (st.now, st.at_) :: r ∧ (st.now ≠ .eof → st.now ≠ .bad → r = Lx.lex ((bl s).drop (st.at_ + st.now.txt.length)) (st.at_ + st.now.txt.length)) ∧ (st.now = .eof ∨ st.now = .bad → r = [])
theorem PS.alloc {w : World} {N d : Nat} {s : ByteArray} {st : St} (h : PS w N d s st) (o : Obj) : PS (w.alloc o) N d s st := ⟨h.blk.alloc o, h.len, h.size, h.toks⟩
theorem PS.drew {w : World} {N d : Nat} {s : ByteArray} {st : St} (h : PS w N d s st) : PS w.drew N d s st := ⟨h.blk.drew, h.len, h.size, h.toks⟩
theorem PS.far {w : World} {N d : Nat} {s : ByteArray} {st : St} (h : PS w N d s st) {p : Addr} (hp : N ≠ p.block) (u : Value) : PS (w.setCell p u) N d s st := ⟨h.blk.far hp u, h.len, h.size, h.toks⟩
theorem PS.lt {w : World} {N d : Nat} {s : ByteArray} {st : St} (h : PS w N d s st) : N < w.heap.size := h.blk.lt
theorem PS.deep {w : World} {N d : Nat} {s : ByteArray} {st : St} (h : PS w N d s st) (d' : Nat) : PS (w.setCell ⟨N, 3, none⟩ (.int .i64 (d' : Int))) N d' s st := ⟨h.blk.set_ 3 _, h.len, h.size, h.toks⟩
/-- the state that a lexed text begins with -/
theorem St.lexed {l : List Nat} {a K : Nat} {t : Tok} {e eat : Nat} (hK : a + Lx.skip l = K) (ht : Lx.scan (l.drop (Lx.skip l)) = t) :
    (⟨Lx.lex l a, e, eat⟩ : St).now = t ∧ (⟨Lx.lex l a, e, eat⟩ : St).at_ = K ∧
      ∃ r, Lx.lex l a = (t, K) :: r ∧ (t ≠ .eof → t ≠ .bad → r = Lx.lex (l.drop (Lx.skip l + t.txt.length)) (K + t.txt.length)) ∧ (t = .eof ∨ t = .bad → r = []) := by
  subst hK ht
  have hE := Lx.lex_eq l a
  by_cases hb : Lx.scan (l.drop (Lx.skip l)) = .eof ∨ Lx.scan (l.drop (Lx.skip l)) = .bad
  · rw [if_pos hb] at hE
    refine ⟨by unfold St.now; rw [hE], by unfold St.at_; rw [hE], [], hE, fun h1 h2 => ?_, fun _ => rfl⟩
    rcases hb with hb | hb
    · exact absurd hb h1
    · exact absurd hb h2
  · rw [if_neg hb] at hE
    refine ⟨by unfold St.now; rw [hE], by unfold St.at_; rw [hE], _, hE, fun h1 h2 => ?_, fun h => absurd h hb⟩
    rw [List.drop_drop]
theorem PS.fresh {w : World} {N d : Nat} {s : ByteArray} {a K e eat : Nat} {t : Tok} (hK : a + Lx.skip ((bl s).drop a) = K) (ht : Lx.scan ((bl s).drop K) = t) (hB : Blk w N 62 (PB s t.str K d e eat))
    (ha : a ≤ s.size) (hs : s.size ≤ 4000) : PS w N d s ⟨Lx.lex ((bl s).drop a) a, e, eat⟩ := by
  have ht' : Lx.scan (((bl s).drop a).drop (Lx.skip ((bl s).drop a))) = t := by rw [List.drop_drop, hK]; exact ht
  obtain ⟨h1, h2, r, h3, h4, h5⟩ := St.lexed (e := e) (eat := eat) hK ht'
  have hsk := Lx.skip_le ((bl s).drop a)
  rw [List.length_drop, bl_length] at hsk
  have hl := Lx.scan_len ((bl s).drop K) (fun x hx => bl_lt (List.mem_of_mem_drop hx))
  rw [ht, List.length_drop, bl_length] at hl
  refine ⟨by rw [h1, h2]; exact hB, by rw [h1, h2]; omega, hs, r, by rw [h1, h2]; exact h3, fun g1 g2 => ?_, fun g => h5 (by rw [h1] at g; exact g)⟩
  rw [h1] at g1 g2
  rw [h1, h2, h4 g1 g2, List.drop_drop]
  congr 2
  omega

theorem goes_st (N d : Nat) (s : ByteArray) (st : St) (w : World) (h : PS w N d s st) (h1 : st.now ≠ .eof) (h2 : st.now ≠ .bad) :
    Calls Try.prog 30 #[.pointer (some ⟨N, 0, none⟩)] w fun ee w' => ee = .returned (.tuple #[]) ∧ PS w' N d s st.goes ∧ Gb N w w' := by
  have hl : st.now.str.size = st.now.txt.length := by rw [← bl_length, Tok.bl_str]
  refine (goes_any N s st.now.str st.at_ d st.e st.eat _ _ w h.blk h.size (by rw [hl]; exact h.len) rfl rfl).mono ?_
  rintro e w' ⟨rfl, hB, hG⟩
  refine ⟨rfl, ?_, hG⟩
  obtain ⟨r, hr, hx, _⟩ := h.toks
  have := PS.fresh (a := st.at_ + st.now.txt.length) rfl rfl (by rw [← hl]; exact hB) h.len h.size
  rw [← hx h1 h2] at this
  have e : st.goes = ⟨r, st.e, st.eat⟩ := by unfold St.goes; rw [hr]; rfl
  rw [e]
  exact this

set_option maxHeartbeats 4000000 in
theorem bad_st (N d x : Nat) (s : ByteArray) (st : St) (w : World) (h : PS w N d s st) :
    Calls Try.prog 32 #[.pointer (some ⟨N, 0, none⟩), .int .i64 (x : Int)] w fun ee w' => ee = .returned (.tuple #[]) ∧ PS w' N d s (st.bad x) ∧ Gb N w w' := by
  obtain ⟨c0, c1, c2, c3, c4, c5, f1, f2, f3, f4, f5⟩ := pb_cells h.blk
  have H := Bx.mk h
  clear h
  by_cases he : st.e = 0
  · have q : (st.e : Int) = 0 := by omega
    have HE := Bx.mk he
    clear he
    go_enter Try.func32, Try.ntmps32
    go_wp2_with fail
    go_end0
    refine ⟨rfl, ?_, ((Gb.refl _ _).set (p := ⟨N, 4, none⟩) (.inl rfl) _).set (p := ⟨N, 5, none⟩) (.inl rfl) _⟩
    have e : st.bad x = { st with e := x, eat := st.at_ } := by unfold St.bad; rw [if_pos HE.out]
    rw [e]
    have := (H.out.blk.set_ 4 (.int .i64 (x : Int))).set_ 5 (.int .i64 (st.at_ : Int))
    exact ⟨this, H.out.len, H.out.size, H.out.toks⟩
  · have q : ¬ (st.e : Int) = 0 := by omega
    have e : st.bad x = st := by unfold St.bad; rw [if_neg he]
    rw [e]
    clear he e
    go_enter Try.func32, Try.ntmps32
    go_wp2_with fail
    first | go_end0 | refine bodyPost_ret (results_none rfl _ _ _) rfl ?_
    exact ⟨rfl, H.out, Gb.refl _ _⟩

set_option maxHeartbeats 4000000 in
theorem may_st (N d : Nat) (t : Tok) (k s : ByteArray) (st : St) (w : World) (h : PS w N d s st) (hk : k = t.str) (h1 : t ≠ .eof) (h2 : t ≠ .bad) :
    Calls Try.prog 61 #[.pointer (some ⟨N, 0, none⟩), .string k] w fun ee w' => ee = .returned (.bool (st.may t)) ∧ PS w' N d s (if st.may t then st.goes else st) ∧ Gb N w w' := by
  subst hk
  obtain ⟨c0, c1, c2, c3, c4, c5, f1, f2, f3, f4, f5⟩ := pb_cells h.blk
  have hT := Tok.str_eq st.now t
  by_cases he : st.e = 0
  · have q : (st.e : Int) = 0 := by omega
    by_cases hn : st.now = t
    · have hm : st.may t = true := by unfold St.may; rw [he, hn]; simp
      have HG := Bx.mk (goes_st N d s st w h (by rw [hn]; exact h1) (by rw [hn]; exact h2))
      rw [hm, if_pos rfl]
      rw [decide_eq_true hn] at hT
      clear h he hn h1 h2 hm c0 c2 c3 c5 f1 f2 f3 f4 f5
      go_enter Try.func61, Try.ntmps61
      go_wp2_with fail
      refine HG.out.mono ?_
      rintro e w1 ⟨rfl, hP, hB⟩
      have HP := Bx.mk hP
      have HB := Bx.mk hB
      clear hP hB
      go_wp2_with fail
      go_ret
      exact ⟨rfl, HP.out, HB.out⟩
    · have hm : st.may t = false := by unfold St.may; rw [decide_eq_false hn]; simp
      have H := Bx.mk h
      rw [hm, if_neg (by simp)]
      rw [decide_eq_false hn] at hT
      clear h he hn h1 h2 hm c0 c2 c3 c5 f1 f2 f3 f4 f5
      go_enter Try.func61, Try.ntmps61
      go_wp2_with fail
      go_ret
      exact ⟨rfl, H.out, Gb.refl _ _⟩
  · have q : ¬ (st.e : Int) = 0 := by omega
    have q2 : ((st.e : Int) == 0) = false := by rw [beq_eq_false_iff_ne]; omega
    have hm : st.may t = false := by unfold St.may; rw [decide_eq_false he]; simp
    have H := Bx.mk h
    rw [hm, if_neg (by simp)]
    clear h he h1 h2 hm c0 c2 c3 c5 f1 f2 f3 f4 f5 hT
    go_enter Try.func61, Try.ntmps61
    go_wp2_with fail
    go_ret
    exact ⟨rfl, H.out, Gb.refl _ _⟩

set_option maxHeartbeats 4000000 in
theorem must_st (N d : Nat) (t : Tok) (k s : ByteArray) (st : St) (w : World) (h : PS w N d s st) (hk : k = t.str) (h1 : t ≠ .eof) (h2 : t ≠ .bad) :
    Calls Try.prog 90 #[.pointer (some ⟨N, 0, none⟩), .string k] w fun ee w' => ee = .returned (.tuple #[]) ∧ PS w' N d s (st.must t) ∧ Gb N w w' := by
  have HM := Bx.mk (may_st N d t k s st w h hk h1 h2)
  clear h hk h1 h2
  cases hm : st.may t with
  | true =>
    rw [hm, if_pos rfl] at HM
    have e : st.must t = st.goes := by unfold St.must; rw [hm]; rfl
    rw [e]
    clear e hm
    go_enter Try.func90, Try.ntmps90
    go_wp2_with fail
    refine HM.out.mono ?_
    rintro e w1 ⟨rfl, hP, hB⟩
    have HP := Bx.mk hP
    have HB := Bx.mk hB
    clear hP hB
    go_wp2_with fail
    first | go_end0 | refine bodyPost_ret (results_none rfl _ _ _) rfl ?_
    exact ⟨rfl, HP.out, HB.out⟩
  | false =>
    rw [hm, if_neg (by simp)] at HM
    have e : st.must t = st.bad 230 := by unfold St.must; rw [hm]; rfl
    rw [e]
    clear e hm
    go_enter Try.func90, Try.ntmps90
    go_wp2_with fail
    refine HM.out.mono ?_
    rintro e w1 ⟨rfl, hP, hB⟩
    have HB := Bx.mk hB
    have HD := Bx.mk (bad_st N d 230 s st w1 hP)
    clear hP hB
    go_wp2_with fail
    refine HD.out.mono ?_
    rintro e w2 ⟨rfl, hP, hB⟩
    have HP := Bx.mk hP
    have HB2 := Bx.mk hB
    clear hP hB
    go_wp2_with fail
    first | go_end0 | refine bodyPost_ret (results_none rfl _ _ _) rfl ?_
    exact ⟨rfl, HP.out, HB.out.trans HB2.out⟩
end Go.Proofs.Ytfgokhafiffbaaa
