/-
  Formulas: expr.scan at a word; expr.scan whole.
-/
import Derived.Test.YtfgokhafiffbaaaEx3
namespace Go.Proofs.Ytfgokhafiffbaaa
set_option linter.unusedVariables false
open Go.RowKit

theorem variable_any (s : ByteArray) (w : World) : Calls Try.prog 60 #[.string s] w fun e w' => e = .returned (.bool (Lx.vr (bl s))) ∧ w' = w := by
  by_cases h : s.size = 2
  · have hl : (bl s).length = 2 := by rw [bl_length]; exact h
    match hb : bl s, hl with
    | [a, b], _ =>
      have h0 : (bl s)[0]? = some a := by rw [hb]; rfl
      have h1 : (bl s)[1]? = some b := by rw [hb]; rfl
      rw [show Lx.vr [a, b] = Ex.vari a b from by unfold Lx.vr; rfl]
      exact variable_two s h a b (bl_lt (List.mem_of_getElem? h0)) (bl_lt (List.mem_of_getElem? h1)) w (run_idx0 h0 w) (run_idx1 h1 w)
  · have hl : (bl s).length ≠ 2 := by rw [bl_length]; exact h
    have hv : Lx.vr (bl s) = false := by
      cases hb : Lx.vr (bl s) with
      | false => rfl
      | true => obtain ⟨b, e, _⟩ := Lx.vr_spec hb; rw [e] at hl; exact absurd rfl hl
    rw [hv]
    exact variable_len s h w
theorem Lx.word_cons (c : Nat) (r : List Nat) : Lx.word (c :: r) = if Ex.letter c || Ex.number c then 1 + Lx.word r else 0 := by rw [Lx.word]
theorem Lx.word_nil : Lx.word [] = 0 := by rw [Lx.word]
/-- where the word's loop stands -/
structure WL (l : List Nat) (k N : Nat) : Prop where
  lo : 1 ≤ k
  hi : k ≤ l.length
  sum : k + Lx.word (l.drop k) = N
theorem WL.step {l : List Nat} {k N x : Nat} (h : WL l k N) (hx : l[k]? = some x) (hl : (Ex.letter x || Ex.number x) = true) : WL l (k + 1) N := by
  have hk : k < l.length := (List.getElem?_eq_some_iff.1 hx).1
  have hs := h.sum
  rw [List.drop_eq_getElem_cons hk, (List.getElem?_eq_some_iff.1 hx).2, Lx.word_cons, hl, if_pos rfl] at hs
  exact ⟨by omega, by omega, by omega⟩
theorem WL.stop {l : List Nat} {k N x : Nat} (h : WL l k N) (hx : l[k]? = some x) (hl : (Ex.letter x || Ex.number x) = false) : k = N := by
  have hk : k < l.length := (List.getElem?_eq_some_iff.1 hx).1
  have hs := h.sum
  rw [List.drop_eq_getElem_cons hk, (List.getElem?_eq_some_iff.1 hx).2, Lx.word_cons, hl] at hs
  simpa using hs
theorem WL.stop' {l : List Nat} {k N : Nat} (h : WL l k N) (hk : ¬ k < l.length) : k = N := by
  have hs := h.sum
  rw [List.drop_eq_nil_of_le (by omega), Lx.word_nil] at hs
  simpa using hs

set_option maxHeartbeats 8000000 in
theorem scan_word (s ws : ByteArray) (w : World) (H0 : Bx (NoSign s)) (c N : Nat) (hc : (bl s)[0]? = some c) (hl : Ex.letter c = true) (hW : Bx (WL (bl s) 1 N)) (hN : s.extract 0 N = ws)
    (hsz : s.size ≤ 4000) (b1 b2 b3 b4 : Bool) (E1 : Bx ((ws.toList == [97, 108, 108]) = b1)) (E2 : Bx ((ws.toList == [97, 110, 121]) = b2)) (E3 : Bx ((ws.toList == [105, 116, 101]) = b3))
    (hV : Lx.vr (bl ws) = b4) :
    Calls Try.prog 42 #[.string s] w fun e w' => e = .returned (.string (if b1 || b2 || b3 || b4 then ws else Tok.str .bad)) ∧ w' = w := by
  have z := not_nil hc
  have i := run_idx0 hc
  have hlt : c < 256 := bl_lt (List.mem_of_getElem? hc)
  have hL := letter_any c hlt
  rw [hl] at hL
  have HL := Bx.mk hL
  have hne : ¬ c = 48 ∧ ¬ c = 49 := by
    constructor
    · rintro rfl; revert hl; decide +kernel
    · rintro rfl; revert hl; decide +kernel
  have q0 : ((c : Int) == 48) = false := by rw [beq_eq_false_iff_ne]; omega
  have q1 : ((c : Int) == 49) = false := by rw [beq_eq_false_iff_ne]; omega
  have HV : Bx (∀ w, Calls Try.prog 60 #[.string ws] w fun e w' => e = .returned (.bool b4) ∧ w' = w) := ⟨fun w => by have := variable_any ws w; rw [hV] at this; exact this⟩
  have HN := Bx.mk hN
  clear hL hl hlt hc hne hV hN
  cases b1 with
  | true =>
    have e1 : ws.toList = [97, 108, 108] := by simpa using E1.out
    clear E1 E2 E3
    have i0 := scan_ix0
    have i1 := scan_ix1
    have i2 := scan_ix2
    have i3 := scan_ix3
    have i4 := scan_ix4
    have i5 := scan_ix5
    have i6 := scan_ix6
    have i7 := scan_ix7
    have i8 := scan_ix8
    have P0 := Bx.mk H0.out.p0
    have P1 := Bx.mk H0.out.p1
    have P2 := Bx.mk H0.out.p2
    have P3 := Bx.mk H0.out.p3
    have P4 := Bx.mk H0.out.p4
    have P5 := Bx.mk H0.out.p5
    have P6 := Bx.mk H0.out.p6
    have P7 := Bx.mk H0.out.p7
    have P8 := Bx.mk H0.out.p8
    clear H0
    go_enter Try.func42, Try.ntmps42
    go_wp2_with fail
    refine wp_loop_rounds 10 ?_
    rw [rounds_succ]
    go_wp2_with fail
    refine (prefix_is s _ scan_bl0 P0.out _).mono ?_
    rintro e w1 ⟨rfl, rfl⟩
    go_wp2_with fail
    rw [rounds_succ]
    go_wp2_with fail
    refine (prefix_is s _ scan_bl1 P1.out _).mono ?_
    rintro e w1 ⟨rfl, rfl⟩
    go_wp2_with fail
    rw [rounds_succ]
    go_wp2_with fail
    refine (prefix_is s _ scan_bl2 P2.out _).mono ?_
    rintro e w1 ⟨rfl, rfl⟩
    go_wp2_with fail
    rw [rounds_succ]
    go_wp2_with fail
    refine (prefix_is s _ scan_bl3 P3.out _).mono ?_
    rintro e w1 ⟨rfl, rfl⟩
    go_wp2_with fail
    rw [rounds_succ]
    go_wp2_with fail
    refine (prefix_is s _ scan_bl4 P4.out _).mono ?_
    rintro e w1 ⟨rfl, rfl⟩
    go_wp2_with fail
    rw [rounds_succ]
    go_wp2_with fail
    refine (prefix_is s _ scan_bl5 P5.out _).mono ?_
    rintro e w1 ⟨rfl, rfl⟩
    go_wp2_with fail
    rw [rounds_succ]
    go_wp2_with fail
    refine (prefix_is s _ scan_bl6 P6.out _).mono ?_
    rintro e w1 ⟨rfl, rfl⟩
    go_wp2_with fail
    rw [rounds_succ]
    go_wp2_with fail
    refine (prefix_is s _ scan_bl7 P7.out _).mono ?_
    rintro e w1 ⟨rfl, rfl⟩
    go_wp2_with fail
    rw [rounds_succ]
    go_wp2_with fail
    refine (prefix_is s _ scan_bl8 P8.out _).mono ?_
    rintro e w1 ⟨rfl, rfl⟩
    go_wp2_with fail
    rw [rounds_succ]
    go_wp2_with fail
    refine (HL.out _).mono ?_
    rintro e w1 ⟨rfl, rfl⟩
    go_wp2_with fail
    go_loop [5] (fun n => ∃ k : Nat, n = .int .i64 k ∧ Bx (WL (bl s) k N)) (fun n => s.size - (intOf n).toNat)
    case atStart => exact ⟨1, rfl, hW⟩
    case round =>
      obtain ⟨k, rfl, HK⟩ := hrel
      by_cases hk : k < s.size
      · have hki : (k : Int) < s.size := by omega
        have hkl : k < (bl s).length := by rw [bl_length]; exact hk
        obtain ⟨x, hx⟩ : ∃ x, (bl s)[k]? = some x := ⟨_, List.getElem?_eq_getElem hkl⟩
        have hxi := run_idx hx
        have hxl : x < 256 := bl_lt (List.mem_of_getElem? hx)
        cases hlx : Ex.letter x with
        | true =>
          have HS := Bx.mk (HK.out.step hx (by rw [hlx]; rfl))
          clear hx
          have hLx := letter_any x hxl
          rw [hlx] at hLx
          go_wp2_with fail
          refine (hLx _).mono ?_
          rintro e w1 ⟨rfl, rfl⟩
          go_wp2_with fail
          exact ⟨⟨k + 1, by go_num, HS⟩, by simp [intOf]; omega⟩
        | false =>
          cases hnx : Ex.number x with
          | true =>
            have HS := Bx.mk (HK.out.step hx (by rw [hlx, hnx]; rfl))
            clear hx
            have hLx := letter_any x hxl
            rw [hlx] at hLx
            have hNx := number_any x hxl
            rw [hnx] at hNx
            go_wp2_with fail
            refine (hLx _).mono ?_
            rintro e w1 ⟨rfl, rfl⟩
            go_wp2_with fail
            refine (hNx _).mono ?_
            rintro e w1 ⟨rfl, rfl⟩
            go_wp2_with fail
            exact ⟨⟨k + 1, by go_num, HS⟩, by simp [intOf]; omega⟩
          | false =>
            obtain rfl := HK.out.stop hx (by rw [hlx, hnx]; rfl)
            have ex := HN.out
            have hkle : (k : Int) ≤ s.size := by omega
            clear hx
            have hLx := letter_any x hxl
            rw [hlx] at hLx
            have hNx := number_any x hxl
            rw [hnx] at hNx
            go_wp2_with fail
            refine (hLx _).mono ?_
            rintro e w1 ⟨rfl, rfl⟩
            go_wp2_with fail
            refine (hNx _).mono ?_
            rintro e w1 ⟨rfl, rfl⟩
            go_wp2_with fail
            go_ret
            exact ⟨by first | rfl | (rw [← str_bad]; rfl), rfl⟩
      · have hki : ¬ (k : Int) < s.size := by omega
        obtain rfl := HK.out.stop' (by rw [bl_length]; exact hk)
        have ex := HN.out
        have hkle : (k : Int) ≤ s.size := by have := HK.out.hi; rw [bl_length] at this; omega
        go_wp2_with fail
        go_ret
        exact ⟨by first | rfl | (rw [← str_bad]; rfl), rfl⟩
  | false =>
    have e1 : ¬ ws.toList = [97, 108, 108] := by simpa using E1.out
    cases b2 with
    | true =>
      have e2 : ws.toList = [97, 110, 121] := by simpa using E2.out
      clear E1 E2 E3
      have i0 := scan_ix0
      have i1 := scan_ix1
      have i2 := scan_ix2
      have i3 := scan_ix3
      have i4 := scan_ix4
      have i5 := scan_ix5
      have i6 := scan_ix6
      have i7 := scan_ix7
      have i8 := scan_ix8
      have P0 := Bx.mk H0.out.p0
      have P1 := Bx.mk H0.out.p1
      have P2 := Bx.mk H0.out.p2
      have P3 := Bx.mk H0.out.p3
      have P4 := Bx.mk H0.out.p4
      have P5 := Bx.mk H0.out.p5
      have P6 := Bx.mk H0.out.p6
      have P7 := Bx.mk H0.out.p7
      have P8 := Bx.mk H0.out.p8
      clear H0
      go_enter Try.func42, Try.ntmps42
      go_wp2_with fail
      refine wp_loop_rounds 10 ?_
      rw [rounds_succ]
      go_wp2_with fail
      refine (prefix_is s _ scan_bl0 P0.out _).mono ?_
      rintro e w1 ⟨rfl, rfl⟩
      go_wp2_with fail
      rw [rounds_succ]
      go_wp2_with fail
      refine (prefix_is s _ scan_bl1 P1.out _).mono ?_
      rintro e w1 ⟨rfl, rfl⟩
      go_wp2_with fail
      rw [rounds_succ]
      go_wp2_with fail
      refine (prefix_is s _ scan_bl2 P2.out _).mono ?_
      rintro e w1 ⟨rfl, rfl⟩
      go_wp2_with fail
      rw [rounds_succ]
      go_wp2_with fail
      refine (prefix_is s _ scan_bl3 P3.out _).mono ?_
      rintro e w1 ⟨rfl, rfl⟩
      go_wp2_with fail
      rw [rounds_succ]
      go_wp2_with fail
      refine (prefix_is s _ scan_bl4 P4.out _).mono ?_
      rintro e w1 ⟨rfl, rfl⟩
      go_wp2_with fail
      rw [rounds_succ]
      go_wp2_with fail
      refine (prefix_is s _ scan_bl5 P5.out _).mono ?_
      rintro e w1 ⟨rfl, rfl⟩
      go_wp2_with fail
      rw [rounds_succ]
      go_wp2_with fail
      refine (prefix_is s _ scan_bl6 P6.out _).mono ?_
      rintro e w1 ⟨rfl, rfl⟩
      go_wp2_with fail
      rw [rounds_succ]
      go_wp2_with fail
      refine (prefix_is s _ scan_bl7 P7.out _).mono ?_
      rintro e w1 ⟨rfl, rfl⟩
      go_wp2_with fail
      rw [rounds_succ]
      go_wp2_with fail
      refine (prefix_is s _ scan_bl8 P8.out _).mono ?_
      rintro e w1 ⟨rfl, rfl⟩
      go_wp2_with fail
      rw [rounds_succ]
      go_wp2_with fail
      refine (HL.out _).mono ?_
      rintro e w1 ⟨rfl, rfl⟩
      go_wp2_with fail
      go_loop [5] (fun n => ∃ k : Nat, n = .int .i64 k ∧ Bx (WL (bl s) k N)) (fun n => s.size - (intOf n).toNat)
      case atStart => exact ⟨1, rfl, hW⟩
      case round =>
        obtain ⟨k, rfl, HK⟩ := hrel
        by_cases hk : k < s.size
        · have hki : (k : Int) < s.size := by omega
          have hkl : k < (bl s).length := by rw [bl_length]; exact hk
          obtain ⟨x, hx⟩ : ∃ x, (bl s)[k]? = some x := ⟨_, List.getElem?_eq_getElem hkl⟩
          have hxi := run_idx hx
          have hxl : x < 256 := bl_lt (List.mem_of_getElem? hx)
          cases hlx : Ex.letter x with
          | true =>
            have HS := Bx.mk (HK.out.step hx (by rw [hlx]; rfl))
            clear hx
            have hLx := letter_any x hxl
            rw [hlx] at hLx
            go_wp2_with fail
            refine (hLx _).mono ?_
            rintro e w1 ⟨rfl, rfl⟩
            go_wp2_with fail
            exact ⟨⟨k + 1, by go_num, HS⟩, by simp [intOf]; omega⟩
          | false =>
            cases hnx : Ex.number x with
            | true =>
              have HS := Bx.mk (HK.out.step hx (by rw [hlx, hnx]; rfl))
              clear hx
              have hLx := letter_any x hxl
              rw [hlx] at hLx
              have hNx := number_any x hxl
              rw [hnx] at hNx
              go_wp2_with fail
              refine (hLx _).mono ?_
              rintro e w1 ⟨rfl, rfl⟩
              go_wp2_with fail
              refine (hNx _).mono ?_
              rintro e w1 ⟨rfl, rfl⟩
              go_wp2_with fail
              exact ⟨⟨k + 1, by go_num, HS⟩, by simp [intOf]; omega⟩
            | false =>
              obtain rfl := HK.out.stop hx (by rw [hlx, hnx]; rfl)
              have ex := HN.out
              have hkle : (k : Int) ≤ s.size := by omega
              clear hx
              have hLx := letter_any x hxl
              rw [hlx] at hLx
              have hNx := number_any x hxl
              rw [hnx] at hNx
              go_wp2_with fail
              refine (hLx _).mono ?_
              rintro e w1 ⟨rfl, rfl⟩
              go_wp2_with fail
              refine (hNx _).mono ?_
              rintro e w1 ⟨rfl, rfl⟩
              go_wp2_with fail
              go_ret
              exact ⟨by first | rfl | (rw [← str_bad]; rfl), rfl⟩
        · have hki : ¬ (k : Int) < s.size := by omega
          obtain rfl := HK.out.stop' (by rw [bl_length]; exact hk)
          have ex := HN.out
          have hkle : (k : Int) ≤ s.size := by have := HK.out.hi; rw [bl_length] at this; omega
          go_wp2_with fail
          go_ret
          exact ⟨by first | rfl | (rw [← str_bad]; rfl), rfl⟩
    | false =>
      have e2 : ¬ ws.toList = [97, 110, 121] := by simpa using E2.out
      cases b3 with
      | true =>
        have e3 : ws.toList = [105, 116, 101] := by simpa using E3.out
        clear E1 E2 E3
        have i0 := scan_ix0
        have i1 := scan_ix1
        have i2 := scan_ix2
        have i3 := scan_ix3
        have i4 := scan_ix4
        have i5 := scan_ix5
        have i6 := scan_ix6
        have i7 := scan_ix7
        have i8 := scan_ix8
        have P0 := Bx.mk H0.out.p0
        have P1 := Bx.mk H0.out.p1
        have P2 := Bx.mk H0.out.p2
        have P3 := Bx.mk H0.out.p3
        have P4 := Bx.mk H0.out.p4
        have P5 := Bx.mk H0.out.p5
        have P6 := Bx.mk H0.out.p6
        have P7 := Bx.mk H0.out.p7
        have P8 := Bx.mk H0.out.p8
        clear H0
        go_enter Try.func42, Try.ntmps42
        go_wp2_with fail
        refine wp_loop_rounds 10 ?_
        rw [rounds_succ]
        go_wp2_with fail
        refine (prefix_is s _ scan_bl0 P0.out _).mono ?_
        rintro e w1 ⟨rfl, rfl⟩
        go_wp2_with fail
        rw [rounds_succ]
        go_wp2_with fail
        refine (prefix_is s _ scan_bl1 P1.out _).mono ?_
        rintro e w1 ⟨rfl, rfl⟩
        go_wp2_with fail
        rw [rounds_succ]
        go_wp2_with fail
        refine (prefix_is s _ scan_bl2 P2.out _).mono ?_
        rintro e w1 ⟨rfl, rfl⟩
        go_wp2_with fail
        rw [rounds_succ]
        go_wp2_with fail
        refine (prefix_is s _ scan_bl3 P3.out _).mono ?_
        rintro e w1 ⟨rfl, rfl⟩
        go_wp2_with fail
        rw [rounds_succ]
        go_wp2_with fail
        refine (prefix_is s _ scan_bl4 P4.out _).mono ?_
        rintro e w1 ⟨rfl, rfl⟩
        go_wp2_with fail
        rw [rounds_succ]
        go_wp2_with fail
        refine (prefix_is s _ scan_bl5 P5.out _).mono ?_
        rintro e w1 ⟨rfl, rfl⟩
        go_wp2_with fail
        rw [rounds_succ]
        go_wp2_with fail
        refine (prefix_is s _ scan_bl6 P6.out _).mono ?_
        rintro e w1 ⟨rfl, rfl⟩
        go_wp2_with fail
        rw [rounds_succ]
        go_wp2_with fail
        refine (prefix_is s _ scan_bl7 P7.out _).mono ?_
        rintro e w1 ⟨rfl, rfl⟩
        go_wp2_with fail
        rw [rounds_succ]
        go_wp2_with fail
        refine (prefix_is s _ scan_bl8 P8.out _).mono ?_
        rintro e w1 ⟨rfl, rfl⟩
        go_wp2_with fail
        rw [rounds_succ]
        go_wp2_with fail
        refine (HL.out _).mono ?_
        rintro e w1 ⟨rfl, rfl⟩
        go_wp2_with fail
        go_loop [5] (fun n => ∃ k : Nat, n = .int .i64 k ∧ Bx (WL (bl s) k N)) (fun n => s.size - (intOf n).toNat)
        case atStart => exact ⟨1, rfl, hW⟩
        case round =>
          obtain ⟨k, rfl, HK⟩ := hrel
          by_cases hk : k < s.size
          · have hki : (k : Int) < s.size := by omega
            have hkl : k < (bl s).length := by rw [bl_length]; exact hk
            obtain ⟨x, hx⟩ : ∃ x, (bl s)[k]? = some x := ⟨_, List.getElem?_eq_getElem hkl⟩
            have hxi := run_idx hx
            have hxl : x < 256 := bl_lt (List.mem_of_getElem? hx)
            cases hlx : Ex.letter x with
            | true =>
              have HS := Bx.mk (HK.out.step hx (by rw [hlx]; rfl))
              clear hx
              have hLx := letter_any x hxl
              rw [hlx] at hLx
              go_wp2_with fail
              refine (hLx _).mono ?_
              rintro e w1 ⟨rfl, rfl⟩
              go_wp2_with fail
              exact ⟨⟨k + 1, by go_num, HS⟩, by simp [intOf]; omega⟩
            | false =>
              cases hnx : Ex.number x with
              | true =>
                have HS := Bx.mk (HK.out.step hx (by rw [hlx, hnx]; rfl))
                clear hx
                have hLx := letter_any x hxl
                rw [hlx] at hLx
                have hNx := number_any x hxl
                rw [hnx] at hNx
                go_wp2_with fail
                refine (hLx _).mono ?_
                rintro e w1 ⟨rfl, rfl⟩
                go_wp2_with fail
                refine (hNx _).mono ?_
                rintro e w1 ⟨rfl, rfl⟩
                go_wp2_with fail
                exact ⟨⟨k + 1, by go_num, HS⟩, by simp [intOf]; omega⟩
              | false =>
                obtain rfl := HK.out.stop hx (by rw [hlx, hnx]; rfl)
                have ex := HN.out
                have hkle : (k : Int) ≤ s.size := by omega
                clear hx
                have hLx := letter_any x hxl
                rw [hlx] at hLx
                have hNx := number_any x hxl
                rw [hnx] at hNx
                go_wp2_with fail
                refine (hLx _).mono ?_
                rintro e w1 ⟨rfl, rfl⟩
                go_wp2_with fail
                refine (hNx _).mono ?_
                rintro e w1 ⟨rfl, rfl⟩
                go_wp2_with fail
                go_ret
                exact ⟨by first | rfl | (rw [← str_bad]; rfl), rfl⟩
          · have hki : ¬ (k : Int) < s.size := by omega
            obtain rfl := HK.out.stop' (by rw [bl_length]; exact hk)
            have ex := HN.out
            have hkle : (k : Int) ≤ s.size := by have := HK.out.hi; rw [bl_length] at this; omega
            go_wp2_with fail
            go_ret
            exact ⟨by first | rfl | (rw [← str_bad]; rfl), rfl⟩
      | false =>
        have g1 := E1.out
        have g2 := E2.out
        have g3 := E3.out
        have e3 : ¬ ws.toList = [105, 116, 101] := by simpa using E3.out
        clear E1 E2 E3
        cases b4 with
        | true =>
          have i0 := scan_ix0
          have i1 := scan_ix1
          have i2 := scan_ix2
          have i3 := scan_ix3
          have i4 := scan_ix4
          have i5 := scan_ix5
          have i6 := scan_ix6
          have i7 := scan_ix7
          have i8 := scan_ix8
          have P0 := Bx.mk H0.out.p0
          have P1 := Bx.mk H0.out.p1
          have P2 := Bx.mk H0.out.p2
          have P3 := Bx.mk H0.out.p3
          have P4 := Bx.mk H0.out.p4
          have P5 := Bx.mk H0.out.p5
          have P6 := Bx.mk H0.out.p6
          have P7 := Bx.mk H0.out.p7
          have P8 := Bx.mk H0.out.p8
          clear H0
          go_enter Try.func42, Try.ntmps42
          go_wp2_with fail
          refine wp_loop_rounds 10 ?_
          rw [rounds_succ]
          go_wp2_with fail
          refine (prefix_is s _ scan_bl0 P0.out _).mono ?_
          rintro e w1 ⟨rfl, rfl⟩
          go_wp2_with fail
          rw [rounds_succ]
          go_wp2_with fail
          refine (prefix_is s _ scan_bl1 P1.out _).mono ?_
          rintro e w1 ⟨rfl, rfl⟩
          go_wp2_with fail
          rw [rounds_succ]
          go_wp2_with fail
          refine (prefix_is s _ scan_bl2 P2.out _).mono ?_
          rintro e w1 ⟨rfl, rfl⟩
          go_wp2_with fail
          rw [rounds_succ]
          go_wp2_with fail
          refine (prefix_is s _ scan_bl3 P3.out _).mono ?_
          rintro e w1 ⟨rfl, rfl⟩
          go_wp2_with fail
          rw [rounds_succ]
          go_wp2_with fail
          refine (prefix_is s _ scan_bl4 P4.out _).mono ?_
          rintro e w1 ⟨rfl, rfl⟩
          go_wp2_with fail
          rw [rounds_succ]
          go_wp2_with fail
          refine (prefix_is s _ scan_bl5 P5.out _).mono ?_
          rintro e w1 ⟨rfl, rfl⟩
          go_wp2_with fail
          rw [rounds_succ]
          go_wp2_with fail
          refine (prefix_is s _ scan_bl6 P6.out _).mono ?_
          rintro e w1 ⟨rfl, rfl⟩
          go_wp2_with fail
          rw [rounds_succ]
          go_wp2_with fail
          refine (prefix_is s _ scan_bl7 P7.out _).mono ?_
          rintro e w1 ⟨rfl, rfl⟩
          go_wp2_with fail
          rw [rounds_succ]
          go_wp2_with fail
          refine (prefix_is s _ scan_bl8 P8.out _).mono ?_
          rintro e w1 ⟨rfl, rfl⟩
          go_wp2_with fail
          rw [rounds_succ]
          go_wp2_with fail
          refine (HL.out _).mono ?_
          rintro e w1 ⟨rfl, rfl⟩
          go_wp2_with fail
          go_loop [5] (fun n => ∃ k : Nat, n = .int .i64 k ∧ Bx (WL (bl s) k N)) (fun n => s.size - (intOf n).toNat)
          case atStart => exact ⟨1, rfl, hW⟩
          case round =>
            obtain ⟨k, rfl, HK⟩ := hrel
            by_cases hk : k < s.size
            · have hki : (k : Int) < s.size := by omega
              have hkl : k < (bl s).length := by rw [bl_length]; exact hk
              obtain ⟨x, hx⟩ : ∃ x, (bl s)[k]? = some x := ⟨_, List.getElem?_eq_getElem hkl⟩
              have hxi := run_idx hx
              have hxl : x < 256 := bl_lt (List.mem_of_getElem? hx)
              cases hlx : Ex.letter x with
              | true =>
                have HS := Bx.mk (HK.out.step hx (by rw [hlx]; rfl))
                clear hx
                have hLx := letter_any x hxl
                rw [hlx] at hLx
                go_wp2_with fail
                refine (hLx _).mono ?_
                rintro e w1 ⟨rfl, rfl⟩
                go_wp2_with fail
                exact ⟨⟨k + 1, by go_num, HS⟩, by simp [intOf]; omega⟩
              | false =>
                cases hnx : Ex.number x with
                | true =>
                  have HS := Bx.mk (HK.out.step hx (by rw [hlx, hnx]; rfl))
                  clear hx
                  have hLx := letter_any x hxl
                  rw [hlx] at hLx
                  have hNx := number_any x hxl
                  rw [hnx] at hNx
                  go_wp2_with fail
                  refine (hLx _).mono ?_
                  rintro e w1 ⟨rfl, rfl⟩
                  go_wp2_with fail
                  refine (hNx _).mono ?_
                  rintro e w1 ⟨rfl, rfl⟩
                  go_wp2_with fail
                  exact ⟨⟨k + 1, by go_num, HS⟩, by simp [intOf]; omega⟩
                | false =>
                  obtain rfl := HK.out.stop hx (by rw [hlx, hnx]; rfl)
                  have ex := HN.out
                  have hkle : (k : Int) ≤ s.size := by omega
                  clear hx
                  have hLx := letter_any x hxl
                  rw [hlx] at hLx
                  have hNx := number_any x hxl
                  rw [hnx] at hNx
                  go_wp2_with fail
                  refine (hLx _).mono ?_
                  rintro e w1 ⟨rfl, rfl⟩
                  go_wp2_with fail
                  refine (hNx _).mono ?_
                  rintro e w1 ⟨rfl, rfl⟩
                  go_wp2_with fail
                  refine (HV.out _).mono ?_
                  rintro e w1 ⟨rfl, rfl⟩
                  go_wp2_with fail
                  go_ret
                  exact ⟨by first | rfl | (rw [← str_bad]; rfl), rfl⟩
            · have hki : ¬ (k : Int) < s.size := by omega
              obtain rfl := HK.out.stop' (by rw [bl_length]; exact hk)
              have ex := HN.out
              have hkle : (k : Int) ≤ s.size := by have := HK.out.hi; rw [bl_length] at this; omega
              go_wp2_with fail
              refine (HV.out _).mono ?_
              rintro e w1 ⟨rfl, rfl⟩
              go_wp2_with fail
              go_ret
              exact ⟨by first | rfl | (rw [← str_bad]; rfl), rfl⟩
        | false =>
          have i0 := scan_ix0
          have i1 := scan_ix1
          have i2 := scan_ix2
          have i3 := scan_ix3
          have i4 := scan_ix4
          have i5 := scan_ix5
          have i6 := scan_ix6
          have i7 := scan_ix7
          have i8 := scan_ix8
          have P0 := Bx.mk H0.out.p0
          have P1 := Bx.mk H0.out.p1
          have P2 := Bx.mk H0.out.p2
          have P3 := Bx.mk H0.out.p3
          have P4 := Bx.mk H0.out.p4
          have P5 := Bx.mk H0.out.p5
          have P6 := Bx.mk H0.out.p6
          have P7 := Bx.mk H0.out.p7
          have P8 := Bx.mk H0.out.p8
          clear H0
          go_enter Try.func42, Try.ntmps42
          go_wp2_with fail
          refine wp_loop_rounds 10 ?_
          rw [rounds_succ]
          go_wp2_with fail
          refine (prefix_is s _ scan_bl0 P0.out _).mono ?_
          rintro e w1 ⟨rfl, rfl⟩
          go_wp2_with fail
          rw [rounds_succ]
          go_wp2_with fail
          refine (prefix_is s _ scan_bl1 P1.out _).mono ?_
          rintro e w1 ⟨rfl, rfl⟩
          go_wp2_with fail
          rw [rounds_succ]
          go_wp2_with fail
          refine (prefix_is s _ scan_bl2 P2.out _).mono ?_
          rintro e w1 ⟨rfl, rfl⟩
          go_wp2_with fail
          rw [rounds_succ]
          go_wp2_with fail
          refine (prefix_is s _ scan_bl3 P3.out _).mono ?_
          rintro e w1 ⟨rfl, rfl⟩
          go_wp2_with fail
          rw [rounds_succ]
          go_wp2_with fail
          refine (prefix_is s _ scan_bl4 P4.out _).mono ?_
          rintro e w1 ⟨rfl, rfl⟩
          go_wp2_with fail
          rw [rounds_succ]
          go_wp2_with fail
          refine (prefix_is s _ scan_bl5 P5.out _).mono ?_
          rintro e w1 ⟨rfl, rfl⟩
          go_wp2_with fail
          rw [rounds_succ]
          go_wp2_with fail
          refine (prefix_is s _ scan_bl6 P6.out _).mono ?_
          rintro e w1 ⟨rfl, rfl⟩
          go_wp2_with fail
          rw [rounds_succ]
          go_wp2_with fail
          refine (prefix_is s _ scan_bl7 P7.out _).mono ?_
          rintro e w1 ⟨rfl, rfl⟩
          go_wp2_with fail
          rw [rounds_succ]
          go_wp2_with fail
          refine (prefix_is s _ scan_bl8 P8.out _).mono ?_
          rintro e w1 ⟨rfl, rfl⟩
          go_wp2_with fail
          rw [rounds_succ]
          go_wp2_with fail
          refine (HL.out _).mono ?_
          rintro e w1 ⟨rfl, rfl⟩
          go_wp2_with fail
          go_loop [5] (fun n => ∃ k : Nat, n = .int .i64 k ∧ Bx (WL (bl s) k N)) (fun n => s.size - (intOf n).toNat)
          case atStart => exact ⟨1, rfl, hW⟩
          case round =>
            obtain ⟨k, rfl, HK⟩ := hrel
            by_cases hk : k < s.size
            · have hki : (k : Int) < s.size := by omega
              have hkl : k < (bl s).length := by rw [bl_length]; exact hk
              obtain ⟨x, hx⟩ : ∃ x, (bl s)[k]? = some x := ⟨_, List.getElem?_eq_getElem hkl⟩
              have hxi := run_idx hx
              have hxl : x < 256 := bl_lt (List.mem_of_getElem? hx)
              cases hlx : Ex.letter x with
              | true =>
                have HS := Bx.mk (HK.out.step hx (by rw [hlx]; rfl))
                clear hx
                have hLx := letter_any x hxl
                rw [hlx] at hLx
                go_wp2_with fail
                refine (hLx _).mono ?_
                rintro e w1 ⟨rfl, rfl⟩
                go_wp2_with fail
                exact ⟨⟨k + 1, by go_num, HS⟩, by simp [intOf]; omega⟩
              | false =>
                cases hnx : Ex.number x with
                | true =>
                  have HS := Bx.mk (HK.out.step hx (by rw [hlx, hnx]; rfl))
                  clear hx
                  have hLx := letter_any x hxl
                  rw [hlx] at hLx
                  have hNx := number_any x hxl
                  rw [hnx] at hNx
                  go_wp2_with fail
                  refine (hLx _).mono ?_
                  rintro e w1 ⟨rfl, rfl⟩
                  go_wp2_with fail
                  refine (hNx _).mono ?_
                  rintro e w1 ⟨rfl, rfl⟩
                  go_wp2_with fail
                  exact ⟨⟨k + 1, by go_num, HS⟩, by simp [intOf]; omega⟩
                | false =>
                  obtain rfl := HK.out.stop hx (by rw [hlx, hnx]; rfl)
                  have ex := HN.out
                  have hkle : (k : Int) ≤ s.size := by omega
                  clear hx
                  have hLx := letter_any x hxl
                  rw [hlx] at hLx
                  have hNx := number_any x hxl
                  rw [hnx] at hNx
                  go_wp2_with fail
                  refine (hLx _).mono ?_
                  rintro e w1 ⟨rfl, rfl⟩
                  go_wp2_with fail
                  refine (hNx _).mono ?_
                  rintro e w1 ⟨rfl, rfl⟩
                  go_wp2_with fail
                  refine (HV.out _).mono ?_
                  rintro e w1 ⟨rfl, rfl⟩
                  go_wp2_with fail
                  go_ret
                  exact ⟨by first | rfl | (rw [← str_bad]; rfl), rfl⟩
            · have hki : ¬ (k : Int) < s.size := by omega
              obtain rfl := HK.out.stop' (by rw [bl_length]; exact hk)
              have ex := HN.out
              have hkle : (k : Int) ≤ s.size := by have := HK.out.hi; rw [bl_length] at this; omega
              go_wp2_with fail
              refine (HV.out _).mono ?_
              rintro e w1 ⟨rfl, rfl⟩
              go_wp2_with fail
              go_ret
              exact ⟨by first | rfl | (rw [← str_bad]; rfl), rfl⟩
end Go.Proofs.Ytfgokhafiffbaaa
