/-
  Texts on which the laws of this seat rest, part 5 of 11.
-/
import Derived.Test.YthbifeoohphnpaaBa4
/-
  A store made.
-/
namespace Go.Proofs.Ythbifeoohphnpaa
set_option linter.unusedVariables false
open Go.RowKit
theorem CaOk.new : CaOk (List.replicate 768 0) := by
  refine ⟨List.length_replicate, fun i v hi hv => ?_, fun i x hi hx => ?_⟩
  · rw [List.getElem?_replicate] at hv
    split at hv
    · cases hv; omega
    · cases hv
  · rw [List.getElem?_replicate] at hx
    split at hx
    · cases hx; omega
    · cases hx
theorem Sto.get_new (n room h : Nat) : (Sto.new n room).get h = none := by
  unfold Sto.get Sto.new
  split
  · rfl
  · simp
theorem Sto.Wf.new (n room : Nat) (h8 : n ≤ 8) (hr : room ≤ 32768) : (Sto.new n room).Wf := by
  refine ⟨fun h nd hg => ?_, fun h h' nd hg => ?_, List.nodup_nil, fun h => ?_, fun h nd hg => ?_, ⟨Nat.zero_le _, hr⟩, h8⟩
  · rw [Sto.get_new] at hg; cases hg
  · rw [Sto.get_new] at hg; cases hg
  · show h ∈ [] ↔ 2 ≤ h ∧ h < 0 + 2 ∧ _
    constructor
    · intro h; cases h
    · intro h; omega
  · rw [Sto.get_new] at hg; cases hg
set_option maxRecDepth 100000 in
set_option maxHeartbeats 400000 in
theorem snew_any (n room : Nat) (w : World) (h1 : 1 ≤ n) (h8 : n ≤ 8) (hr1 : 1 ≤ room) (hr : room ≤ 32768) :
    Calls Try.prog 10 #[.int .i64 (n : Int), .int .i64 (room : Int)] w fun e w' => ∃ B : Bk, e = .returned (.tuple #[.pointer (some ⟨B.s, 0, none⟩), .int .i64 0]) ∧ StW w' w.heap.size B (Sto.new n room) ∧ Fr [] w w' ∧ B.ys = List.replicate 768 0 := by
  have HO := Bx.mk (onew_any n w h1 h8)
  have q1 : (1 : Int) ≤ (n : Int) := by omega
  have q8 : (n : Int) ≤ 8 := by omega
  have q2 : (1 : Int) ≤ (room : Int) := by omega
  have q3 : (room : Int) ≤ 32768 := by omega
  have H := Bx.mk (And.intro h1 (And.intro h8 (And.intro hr1 hr)))
  clear h1 h8 hr1 hr
  go_enter Try.func10, Try.ntmps10
  go_wp2_with fail
  refine HO.out.mono ?_
  rintro e w1 ⟨rfl, hb1, hf1, hsz1⟩
  clear q2 q3
  have hs2 := Blk.new w1 83 (StoZ room w.heap.size (.pointer none))
  have hf2 := (Fr.refl [] w1).alloc (.cells (StoZ room w.heap.size (.pointer none)) 83)
  have hsz2 := alloc_size w1 (.cells (StoZ room w.heap.size (.pointer none)) 83)
  have HC := Bx.mk (cells_any (w1.alloc (.cells (StoZ room w.heap.size (.pointer none)) 83)))
  go_wp2_with fail
  rw [hsz1] at hs2 hsz2
  generalize w1.alloc (.cells (StoZ room w.heap.size (.pointer none)) 83) = w2 at *
  have E2 := Bx.mk hsz2
  have hO2 := hb1.fr hf2 (by simp)
  have hfr2 := hf1.trans hf2 (fun _ h _ => h)
  clear hb1 hf1 hf2 hsz1 hsz2
  refine HC.out.mono ?_
  rintro e w2 ⟨rfl, rfl⟩
  have HM := Bx.mk (mem_new_any 768 w2 (by omega))
  clear HC
  go_wp2_with fail
  refine HM.out.mono ?_
  rintro e w3 ⟨rfl, hm3, hf3, hsz3⟩
  have E3 := Bx.mk hsz3
  have hC := Bx.mk (cnew_any (w2.heap.size + 1) w2.heap.size w3 hm3)
  have HM3 := Bx.mk hm3
  have hs3 := hs2.fr hf3 (by simp)
  have hO3 := hO2.fr hf3 (by simp)
  have hfr3 := hfr2.trans hf3 (fun _ h _ => h)
  clear hs2 hO2 hfr2 hf3 HM hm3 hsz3
  go_wp2_with fail
  refine hC.out.mono ?_
  rintro e w4 ⟨rfl, hc4, hf4, hsz4⟩
  have E4 := Bx.mk hsz4
  have hs4 := hs3.fr hf4 (by simp)
  have hO4 := hO3.fr hf4 (by simp)
  have HM4 := Bx.mk (HM3.out.fr hf4 (by simp) (by simp))
  have hfr4 := hfr3.trans hf4 (fun _ h _ => h)
  have c6 := hs4.cell 6
  have z6 := hs4.frozen 6
  have hs5 : Blk (w4.setCell ⟨w.heap.size + 1, 6, none⟩ (.pointer (some ⟨w3.heap.size, 0, none⟩))) (w.heap.size + 1) 83 (StoZ room w.heap.size (.pointer (some ⟨w3.heap.size, 0, none⟩))) := hs4.set_same 6 _ rfl
  have hf5 : Fr [w.heap.size + 1] w4 (w4.setCell ⟨w.heap.size + 1, 6, none⟩ (.pointer (some ⟨w3.heap.size, 0, none⟩))) := (Fr.refl [w.heap.size + 1] _).setCell (fun _ => by simp) _
  have E5 : Bx ((w4.setCell ⟨w.heap.size + 1, 6, none⟩ (.pointer (some ⟨w3.heap.size, 0, none⟩))).heap.size = w4.heap.size) := ⟨by simp [World.setCell]⟩
  have HG := Bx.mk (grows_first (w.heap.size + 1) w.heap.size w3.heap.size room 32 _ hs5 (by omega))
  have HE := Bx.mk (And.intro hO4 (And.intro hfr4 (And.intro hc4 hf5)))
  clear hs3 hO3 hfr3 hc4 hf4 hsz4 hs4 hO4 hfr4 hs5 hf5 hC HM3
  go_wp2_with fail
  refine HG.out.mono ?_
  rintro e w6 ⟨rfl, hs6, ht6, hf6⟩
  rw [E5.out, E4.out] at hs6 ht6
  obtain ⟨hO4, hfr4, hc4, hf5⟩ := HE.out
  have hlt : w.heap.size + 1 < w2.heap.size := by have := E2.out; omega
  have hw3 : w3.heap.size = w2.heap.size + 2 := E3.out
  have hst : StAt w6 w.heap.size ({ s := w.heap.size + 1, o := w.heap.size, t := w3.heap.size + 1 + 2, m := w3.heap.size + 1 + 1, c := w3.heap.size + 1, sl := w3.heap.size + 1 + 3, ca := w3.heap.size, cm := w2.heap.size + 1, cc := w2.heap.size, nv := .slice none 0 0, fv := .slice none 0 0, xs := List.replicate 32 0, f := fun _ => none, ys := List.replicate 768 0 } : Bk) (Sto.new n room) [] := by
    refine ⟨hs6, ?_, ht6, ⟨?_, ?_, ⟨by show w3.heap.size ≠ w2.heap.size + 1; omega, by show w3.heap.size ≠ w2.heap.size; omega⟩, CaOk.new⟩, ⟨rfl, .inl ⟨rfl, rfl⟩⟩, ⟨rfl, .inl ⟨rfl, rfl⟩⟩, ?_, ?_, ⟨rfl, rfl, H.out.2.1⟩, Nat.zero_le _⟩
    · have := (hO4.fr hf5 (by simp)).fr hf6 (by simp)
      rw [ordN_new n room H.out.2.1] at this
      exact this
    · exact (hc4.fr hf5 (by simp; omega)).fr hf6 (by simp; omega)
    · exact (HM4.out.fr hf5 (by simp; omega) (by simp; omega)).fr hf6 (by simp; omega) (by simp; omega)
    · show ([w.heap.size + 1, w.heap.size, w3.heap.size + 1 + 2, w3.heap.size + 1 + 1, w3.heap.size + 1, w3.heap.size + 1 + 3, w3.heap.size, w2.heap.size + 1, w2.heap.size] ++ ([] ++ [])).Nodup
      rw [hw3]
      generalize w2.heap.size = a at *
      generalize w.heap.size = b at *
      simp only [List.append_nil, List.nodup_cons, List.mem_cons, List.not_mem_nil, or_false, not_or, List.nodup_nil, and_true, not_false_eq_true]
      omega
    · intro b hb
      have hb2 : b ∈ [w.heap.size + 1, w.heap.size, w3.heap.size + 1 + 2, w3.heap.size + 1 + 1, w3.heap.size + 1, w3.heap.size + 1 + 3, w3.heap.size, w2.heap.size + 1, w2.heap.size] ++ ([] ++ []) := hb
      simp only [List.append_nil, List.mem_cons, List.not_mem_nil, or_false] at hb2
      omega
  have HF : Bx (StW w6 w.heap.size ({ s := w.heap.size + 1, o := w.heap.size, t := w3.heap.size + 1 + 2, m := w3.heap.size + 1 + 1, c := w3.heap.size + 1, sl := w3.heap.size + 1 + 3, ca := w3.heap.size, cm := w2.heap.size + 1, cc := w2.heap.size, nv := .slice none 0 0, fv := .slice none 0 0, xs := List.replicate 32 0, f := fun _ => none, ys := List.replicate 768 0 } : Bk) (Sto.new n room) ∧ Fr [] w w6) := ⟨⟨⟨[], hst, List.Perm.refl _⟩, by show 2 * 0 ≤ (List.replicate 32 0).length ∧ 32 ≤ (List.replicate 32 0).length; rw [List.length_replicate]; omega⟩,
    hfr4.trans ((hf5.trans hf6 (fun _ h _ => h))) (fun b hb hl => by obtain rfl := List.mem_singleton.1 hb; omega)⟩
  clear hst hO4 hfr4 hc4 hf5 hs6 ht6 hf6 HE HM4 E2 E3 E4 E5 hw3 hlt
  go_wp2_with fail
  go_ret2
  exact ⟨_, rfl, HF.out.1, HF.out.2, rfl⟩
end Go.Proofs.Ythbifeoohphnpaa

/-
  How many nodes there may be; results that are kept; a store as it should be.
-/
namespace Go.Proofs.Ythbifeoohphnpaa
set_option linter.unusedVariables false
open Go.RowKit
/-- a node above the two lowest levels -/
def Sto.hiP (S : Sto) (h : Nat) : Bool := match S.get h with | some nd => decide (nd.l + 2 < S.n) | none => false
def Sto.hi (S : Sto) : Nat := S.all.countP S.hiP
theorem Sto.hiP_some {S : Sto} {h : Nat} {nd : Nd} (hg : S.get h = some nd) : S.hiP h = decide (nd.l + 2 < S.n) := by unfold Sto.hiP; rw [hg]
/-- so many more than those there are -/
theorem Sto.Wf.len_hi {S : Sto} (W : S.Wf) : S.len ≤ S.hi + 14 := by
  rw [W.slen, List.length_eq_countP_add_countP S.hiP]
  unfold Sto.hi
  suffices h : (S.all.filter (fun h => !S.hiP h)).length ≤ 14 by
    rw [List.countP_eq_length_filter (p := fun a => decide ¬S.hiP a = true)]
    have e : (fun a => decide ¬S.hiP a = true) = fun h => !S.hiP h := by funext a; cases S.hiP a <;> rfl
    rw [e]
    omega
  have ht : ∃ t, ∀ x, S.get x = some ⟨S.n - 1, 0, 1⟩ → x = t := by
    by_cases h : ∃ t, S.get t = some ⟨S.n - 1, 0, 1⟩
    · obtain ⟨t, ht⟩ := h
      exact ⟨t, fun x hx => W.uq x t _ hx ht⟩
    · exact ⟨0, fun x hx => absurd ⟨x, hx⟩ h⟩
  have hu : ∃ t, ∀ x, S.get x = some ⟨S.n - 1, 1, 0⟩ → x = t := by
    by_cases h : ∃ t, S.get t = some ⟨S.n - 1, 1, 0⟩
    · obtain ⟨t, ht⟩ := h
      exact ⟨t, fun x hx => W.uq x t _ hx ht⟩
    · exact ⟨0, fun x hx => absurd ⟨x, hx⟩ h⟩
  obtain ⟨t, ht⟩ := ht
  obtain ⟨u, hu⟩ := hu
  let m := S.n - 2
  let C : List Nd := [⟨S.n - 1, 0, 1⟩, ⟨S.n - 1, 1, 0⟩, ⟨m, 0, 1⟩, ⟨m, 0, t⟩, ⟨m, 0, u⟩, ⟨m, 1, 0⟩, ⟨m, 1, t⟩, ⟨m, 1, u⟩, ⟨m, t, 0⟩, ⟨m, t, 1⟩, ⟨m, t, u⟩, ⟨m, u, 0⟩, ⟨m, u, 1⟩, ⟨m, u, t⟩]
  -- a child of the lowest levels
  have low : ∀ c, S.is c = true → ((S.n : Int) - 1 < S.lev c) → c = 0 ∨ c = 1 := fun c hc hl => by
    cases hg : S.get c with
    | none => exact S.is_none hc hg
    | some nd => have := (W.kid c nd hg).1; rw [Sto.lev_nd hg] at hl; omega
  have one : ∀ x nd, S.get x = some nd → nd.l = S.n - 1 → nd = ⟨S.n - 1, 0, 1⟩ ∨ nd = ⟨S.n - 1, 1, 0⟩ := fun x nd hg hl => by
    obtain ⟨k1, k2, k3, k4, k5⟩ := W.kid x nd hg
    have hab := W.ab x nd hg
    obtain ⟨l, a, b⟩ := nd
    simp only at *
    subst hl
    have h1 := low a k2 (by omega)
    have h2 := low b k3 (by omega)
    rcases h1 with rfl | rfl <;> rcases h2 with rfl | rfl
    · exact absurd rfl hab
    · exact .inl rfl
    · exact .inr rfl
    · exact absurd rfl hab
  have mid : ∀ c, S.is c = true → ((S.n : Int) - 2 < S.lev c) → c = 0 ∨ c = 1 ∨ c = t ∨ c = u := fun c hc hl => by
    cases hg : S.get c with
    | none => rcases S.is_none hc hg with h | h <;> simp [h]
    | some nd =>
      have := (W.kid c nd hg).1
      rw [Sto.lev_nd hg] at hl
      rcases one c nd hg (by omega) with rfl | rfl
      · exact .inr (.inr (.inl (ht c hg)))
      · exact .inr (.inr (.inr (hu c hg)))
  have hmem : ∀ x, x ∈ S.all.filter (fun h => !S.hiP h) → ∃ nd, S.get x = some nd ∧ nd ∈ C := fun x hx => by
    rw [List.mem_filter, Sto.mem_all] at hx
    obtain ⟨h1, h2⟩ := hx
    cases hg : S.get x with
    | none => exact absurd hg h1
    | some nd =>
      refine ⟨nd, rfl, ?_⟩
      obtain ⟨k1, k2, k3, k4, k5⟩ := W.kid x nd hg
      have hab := W.ab x nd hg
      rw [Sto.hiP_some hg] at h2
      have h2' : S.n ≤ nd.l + 2 := by simpa using h2
      by_cases e : nd.l = S.n - 1
      · rcases one x nd hg e with rfl | rfl
        · simp [C]
        · simp [C]
      · have e2 : nd.l = m := by show nd.l = S.n - 2; omega
        have m1 := mid nd.a k2 (by omega)
        have m2 := mid nd.b k3 (by omega)
        clear h2 h2' k2 k3 k4 k5 hg
        obtain ⟨l, a, b⟩ := nd
        simp only at e2 hab m1 m2
        subst e2
        rcases m1 with rfl | rfl | rfl | rfl <;> rcases m2 with rfl | rfl | rfl | rfl <;> first | exact absurd rfl hab | simp [C]
  have hnd : (S.all.filter (fun h => !S.hiP h)).Nodup := List.Pairwise.filter _ Sto.all_nodup
  have hmap : ((S.all.filter (fun h => !S.hiP h)).map fun x => (S.get x).getD ⟨0, 0, 0⟩).Nodup := by
    unfold List.Nodup
    rw [List.pairwise_map]
    refine List.Pairwise.imp_of_mem (fun {a b} ha hb hne e => ?_) hnd
    obtain ⟨na, ga, _⟩ := hmem a ha
    obtain ⟨nb, gb, _⟩ := hmem b hb
    rw [ga, gb] at e
    simp only [Option.getD_some] at e
    subst e
    exact hne (W.uq a b _ ga gb)
  have := Tb.nodup_le hmap (L := C) fun nd hn => by
    obtain ⟨x, hx, rfl⟩ := List.mem_map.1 hn
    obtain ⟨nd, hg, hc⟩ := hmem x hx
    rw [hg]
    exact hc
  rw [List.length_map] at this
  exact this
theorem Sto.Wf.add_perm {S : Sto} (W : S.Wf) (nd : Nd) : (S.next :: S.all).Perm (S.add nd).all := by
  have hn := W.next_spec
  have h0 : S.next ∉ S.all := fun h => Sto.mem_all.1 h hn.2.2
  refine (List.perm_ext_iff_of_nodup (List.nodup_cons.2 ⟨h0, Sto.all_nodup⟩) Sto.all_nodup).2 fun x => ?_
  rw [List.mem_cons, Sto.mem_all, Sto.mem_all, W.add_get]
  by_cases e : x = S.next
  · simp [e]
  · simp [e]
theorem Sto.Wf.add_hi {S : Sto} (W : S.Wf) (nd : Nd) : (S.add nd).hi = S.hi + (if nd.l + 2 < S.n then 1 else 0) := by
  have hn := W.next_spec
  have e2 : ∀ x ∈ S.all, (S.add nd).hiP x = S.hiP x := fun x hx => by
    unfold Sto.hiP
    rw [W.add_get, if_neg (fun e => Sto.mem_all.1 hx (by rw [e]; exact hn.2.2)), (Sto.Wf.add_same S nd).2.1]
  unfold Sto.hi
  rw [← (W.add_perm nd).countP_eq, List.countP_cons]
  rw [List.countP_congr (fun x hx => by rw [e2 x hx])]
  congr 1
  rw [Sto.hiP_some (by rw [W.add_get, if_pos rfl] : (S.add nd).get S.next = some nd), (Sto.Wf.add_same S nd).2.1]
  simp
/-- so many nodes an operation makes above the two lowest levels, from a level on -/
def Sto.cost (n k : Nat) : Nat := 2 ^ (n - 2 - k) - 1
theorem Sto.cost_succ (n k : Nat) : 2 * Sto.cost n (k + 1) + (if k + 2 < n then 1 else 0) = Sto.cost n k := by
  unfold Sto.cost
  by_cases h : k + 2 < n
  · rw [if_pos h, show n - 2 - k = (n - 2 - (k + 1)) + 1 from by omega, Nat.pow_succ]
    have := Nat.two_pow_pos (n - 2 - (k + 1))
    omega
  · rw [if_neg h, show n - 2 - k = 0 from by omega, show n - 2 - (k + 1) = 0 from by omega]
theorem Sto.cost_mono {n k k' : Nat} (h : k ≤ k') : Sto.cost n k' ≤ Sto.cost n k := by
  unfold Sto.cost
  have := Nat.pow_le_pow_right (n := 2) (by omega) (show n - 2 - k' ≤ n - 2 - k by omega)
  omega
theorem Sto.cost_le {n k : Nat} (h : n ≤ 8) : Sto.cost n k ≤ 63 := by
  unfold Sto.cost
  have := Nat.pow_le_pow_right (n := 2) (by omega) (show n - 2 - k ≤ 6 by omega)
  omega
/-- what an operation makes of tables -/
def Tb.op (op mask : Nat) (f g h : Tb.T) : Tb.T :=
  if op = 2 then f &&& g else if op = 3 then f ||| g else if op = 4 then f ^^^ g else if op = 5 then (f &&& g) ||| (~~~f &&& h)
  else if op = 6 then Tb.halves (fun F G => F ||| G) f mask else if op = 7 then Tb.halves (fun F G => F &&& G) f mask else 0#256
/-- what is kept is so -/
def Sto.CaInv (S : Sto) (ys : List Nat) : Prop :=
  ∀ op mask a b c r, op < 256 → mask < 256 → a < 65536 → b < 65536 → c < 65536 → Ca.got ys (Ca.word op mask a b c) = some r →
    S.is a = true ∧ S.is b = true ∧ S.is c = true ∧ S.is r = true ∧ S.tab r = Tb.op op mask (S.tab a) (S.tab b) (S.tab c)
theorem Sto.CaInv.none {S : Sto} {ys : List Nat} (h : ∀ key, Ca.got ys key = none) : S.CaInv ys := fun op mask a b c r _ _ _ _ _ hg => by rw [h] at hg; cases hg
theorem Ca.got_none {ys : List Nat} (n : Nat) (h : ∀ i, i < n → ys[i]? = some 0) {key : Nat} (hl : Ca.line key + 2 < n) : Ca.got ys key = none := by
  have e0 := h (Ca.line key) (by omega)
  have e1 := h (Ca.line key + 1) (by omega)
  have e2 := h (Ca.line key + 2) (by omega)
  unfold Ca.got
  generalize Ca.line key = ln at *
  rw [e0, e1, e2]
  simp
theorem rep_get (n i : Nat) (h : i < n) : (List.replicate n 0)[i]? = some 0 := by rw [List.getElem?_replicate, if_pos h]
theorem Ca.got_empty (key : Nat) : Ca.got (List.replicate 768 0) key = none := Ca.got_none 768 (rep_get 768) (by
  have := Ca.line_lt key
  generalize Ca.line key = ln at *
  omega)
theorem Sto.CaInv.ext {S S' : Sto} {ys : List Nat} (h : S.CaInv ys) (W : S.Wf) (E : S.Ext S') : S'.CaInv ys := fun op mask a b c r h1 h2 h3 h4 h5 hg => by
  obtain ⟨i1, i2, i3, i4, i5⟩ := h op mask a b c r h1 h2 h3 h4 h5 hg
  exact ⟨E.is i1, E.is i2, E.is i3, E.is i4, by rw [E.tab W i4, E.tab W i1, E.tab W i2, E.tab W i3]; exact i5⟩
theorem Sto.CaInv.put {S : Sto} {ys : List Nat} (h : S.CaInv ys) (ok : CaOk ys) {op mask a b c r : Nat} (h1 : op < 256) (h2 : mask < 256) (h3 : a < 65536) (h4 : b < 65536) (h5 : c < 65536)
    (i1 : S.is a = true) (i2 : S.is b = true) (i3 : S.is c = true) (i4 : S.is r = true) (i5 : S.tab r = Tb.op op mask (S.tab a) (S.tab b) (S.tab c)) : S.CaInv (Ca.put ys (Ca.word op mask a b c) r) :=
  fun op' mask' a' b' c' r' g1 g2 g3 g4 g5 hg => by
    rcases Ca.got_put ok hg with ⟨e, rfl⟩ | hg
    · obtain ⟨rfl, rfl, rfl, rfl, rfl⟩ := Ca.word_inj g1 g2 g3 g4 g5 h1 h2 h3 h4 h5 e
      exact ⟨i1, i2, i3, i4, i5⟩
    · exact h op' mask' a' b' c' r' g1 g2 g3 g4 g5 hg
theorem Sto.Ord.ext {S S' : Sto} (O : S.Ord) (E : S.Ext S') : S'.Ord := by
  obtain ⟨h1, h2, h3, h4⟩ := O
  rw [← E.n, ← E.vars, ← E.levels] at *
  exact ⟨h1, h2, h3, h4⟩
/-- a store as it should be -/
structure StG (w : World) (base : Nat) (B : Bk) (S : Sto) : Prop where
  st : StW w base B S
  wf : S.Wf
  od : S.Ord
  ca : S.CaInv B.ys
  hb : base ≤ w.heap.size
theorem StG.fr {w u : World} {base : Nat} {B : Bk} {S : Sto} {F : List Nat} (h : StG w base B S) (hf : Fr F w u) (hn : ∀ b ∈ B.own, b ∉ F) : StG u base B S := by
  obtain ⟨L, h1, h2⟩ := h.st.ex
  exact ⟨⟨⟨L, h1.fr hf hn, h2⟩, h.st.sl⟩, h.wf, h.od, h.ca, Nat.le_trans h.hb hf.size⟩
theorem StG.fr0 {w u : World} {base : Nat} {B : Bk} {S : Sto} (h : StG w base B S) (hf : Fr [] w u) : StG u base B S := h.fr hf (by simp)
theorem StG.below {w u : World} {base : Nat} {B : Bk} {S : Sto} (h : StG w base B S) (hb : Below w.heap.size w u) : StG u base B S := h.fr0 (Fr.of_below hb (Nat.le_refl _))
theorem StG.drewN {w : World} {base : Nat} {B : Bk} {S : Sto} (h : StG w base B S) (n : Nat) : StG (w.drewN n) base B S := h.fr0 ((Fr.refl [] w).drewN n)
theorem StG.at_ {w : World} {base : Nat} {B : Bk} {S : Sto} (h : StG w base B S) : ∃ L, StAt w base B S L := by
  obtain ⟨L, h1, _⟩ := h.st.ex
  exact ⟨L, h1⟩
theorem StG.small {w : World} {base : Nat} {B : Bk} {S : Sto} (h : StG w base B S) {x : Nat} (hi : S.is x = true) : x < 32770 := by
  have := Sto.is_lt hi
  have := h.wf.rm
  omega
/-- a block of one's own beside a store -/
structure Loc (B : Bk) (u : World) (b : Nat) (t : TypeId) (cs : Array Value) : Prop where
  out : b ∉ B.own
  blk : Blk u b t cs
theorem Loc.step {B B' : Bk} {u u' : World} {b : Nat} {t : TypeId} {cs : Array Value} (h : Loc B u b t cs) (hs : Stp B u B' u') : Loc B' u' b t cs :=
  ⟨fun hb => (hs.sub b hb).elim h.out fun hl => absurd h.blk.lt (by omega), h.blk.fr hs.fr h.out⟩
theorem Loc.fr {B : Bk} {u u' : World} {b : Nat} {t : TypeId} {cs : Array Value} {F : List Nat} (h : Loc B u b t cs) (hf : Fr F u u') (hb : b ∉ F) : Loc B u' b t cs := ⟨h.out, h.blk.fr hf hb⟩
theorem Loc.fr0 {B : Bk} {u u' : World} {b : Nat} {t : TypeId} {cs : Array Value} (h : Loc B u b t cs) (hf : Fr [] u u') : Loc B u' b t cs := h.fr hf (by simp)
theorem Loc.new {w u : World} {base : Nat} {B : Bk} {S : Sto} (h : StG w base B S) {b : Nat} {t : TypeId} {cs : Array Value} (hb : w.heap.size ≤ b) (hB : Blk u b t cs) : Loc B u b t cs := by
  obtain ⟨L, h1⟩ := h.at_
  exact ⟨fun hm => absurd (h1.lt b hm) (by omega), hB⟩
/-- the variables of the upper levels, as a mask -/
def Sto.mask (S : Sto) : Nat → Nat
  | 0 => 0
  | l + 1 => S.mask l ||| 2 ^ (S.vars.getD l 0)
theorem Sto.mask_bit (S : Sto) (v : Nat) : ∀ l, (S.mask l).testBit v = true ↔ ∃ i, i < l ∧ S.vars.getD i 0 = v
  | 0 => by unfold Sto.mask; simp
  | l + 1 => by
    unfold Sto.mask
    rw [Nat.testBit_or, Bool.or_eq_true, S.mask_bit v l, Nat.testBit_two_pow]
    constructor
    · rintro (⟨i, hi, e⟩ | h)
      · exact ⟨i, by omega, e⟩
      · exact ⟨l, by omega, by simpa using h⟩
    · rintro ⟨i, hi, e⟩
      by_cases h : i = l
      · subst h; right; simpa using e
      · exact .inl ⟨i, by omega, e⟩
theorem Sto.mask_lt {S : Sto} (O : S.Ord) (h8 : S.n ≤ 8) : ∀ l, l ≤ S.n → S.mask l < 256
  | 0, _ => by unfold Sto.mask; omega
  | l + 1, h => by
    unfold Sto.mask
    have h1 := S.mask_lt O h8 l (by omega)
    have h2 := (O.lt l (by omega)).1
    refine Nat.or_lt_two_pow (n := 8) h1 ?_
    exact Nat.pow_lt_pow_right (by omega) (by omega)
theorem Sto.mask_congr {S S' : Sto} (h : S'.vars = S.vars) : ∀ l, S'.mask l = S.mask l
  | 0 => rfl
  | l + 1 => by unfold Sto.mask; rw [S.mask_congr h l, h]
theorem Tb.restrict_free {F : Tb.T} {m x : Nat} (hm : m < 256) (hx : x < 256) (h : ∀ v, v < 8 → m.testBit v = true → Tb.Free F v) : Tb.restrict F m x = F := Tb.ext_get fun y hy => by
  rw [Tb.restrict_get _ _ _ hy]
  refine Tb.free_walk (Tb.rstx_lt _ _ _ hy hx) hy fun v hv => ?_
  rw [Tb.rstx_bit _ _ _ hm v hv]
  cases e : m.testBit v
  · left; simp
  · exact .inr (h v hv e)
theorem Tb.restrict_fix {F : Tb.T} {m x v : Nat} (b : Bool) (hm : m < 256) (hx : x < 256) (hv : v < 8) (h : m.testBit v = true) : Tb.restrict (Tb.fix F (v : Int) b) m x = Tb.restrict F m (Tb.wth x v b) := Tb.ext_get fun y hy => by
  have h1 := Tb.wth_lt x hx v hv b
  have h2 := Tb.rstx_lt y m x hy hx
  rw [Tb.restrict_get _ _ _ hy, Tb.restrict_get _ _ _ hy, Tb.fix_get hv h2]
  congr 1
  refine Tb.eq_of_bits (Tb.wth_lt _ h2 v hv b) (Tb.rstx_lt _ _ _ hy h1) fun i hi => ?_
  rw [Tb.wth_bit _ h2 v hv b i hi, Tb.rstx_bit _ _ _ hm i hi, Tb.rstx_bit _ _ _ hm i hi, Tb.wth_bit x hx v hv b i hi]
  by_cases e : i = v
  · subst e; rw [if_pos rfl, h]; simp
  · rw [if_neg e, if_neg e]
/-- what is new are parts of a table, as the order has them -/
def Sto.New (S S' : Sto) (T : Tb.T) : Prop := ∀ h nd, S'.get h = some nd → S.get h = some nd ∨ ∃ x, x < 256 ∧ S'.tab h = Tb.restrict T (S.mask nd.l) x
theorem Sto.New.refl (S : Sto) (T : Tb.T) : S.New S T := fun h nd hg => .inl hg
theorem Sto.New.trans {S S' S'' : Sto} {T : Tb.T} (h : S.New S' T) (k : S'.New S'' T) (E : S.Ext S') (E' : S'.Ext S'') (W' : S'.Wf) : S.New S'' T := fun x nd hg => by
  rcases k x nd hg with h1 | ⟨y, hy, e⟩
  · rcases h x nd h1 with h2 | ⟨y, hy, e⟩
    · exact .inl h2
    · exact .inr ⟨y, hy, by rw [E'.tab W' (Sto.is_of h1)]; exact e⟩
  · exact .inr ⟨y, hy, by rw [e, S.mask_congr E.vars]⟩
/-- parts of a half are parts of the whole -/
theorem Sto.New.up {S S' : Sto} (O : S.Ord) (W' : S'.Wf) (E : S.Ext S') {T : Tb.T} {l : Nat} (hl : l < S.n) {b : Bool} (h : S.New S' (Tb.fix T ((S.vars.getD l 0 : Nat) : Int) b)) (hfr : ∀ i, i < l → Tb.Free T (S.vars.getD i 0)) : S.New S' T := fun x nd hg => by
  have h8 : S.n ≤ 8 := by rw [← E.n]; exact W'.n8
  have O' := O.ext E
  have hv := (O.lt l hl).1
  rcases h x nd hg with h1 | ⟨y, hy, e⟩
  · exact .inl h1
  · right
    have hk := (W'.kid x nd hg).1
    rw [E.n] at hk
    have hfr2 : ∀ i, i < l + 1 → Tb.Free (Tb.fix T ((S.vars.getD l 0 : Nat) : Int) b) (S.vars.getD i 0) := fun i hi => by
      by_cases e : i = l
      · rw [e]; exact Tb.free_fix_same T (by omega) b
      · exact Tb.free_fix (by omega) (by have := (O.lt i (by omega)).1; omega) (hfr i (by omega)) b
    by_cases hle : nd.l ≤ l
    · exfalso
      rw [Tb.restrict_free (S.mask_lt O h8 _ (by omega)) hy fun v hv8 hb => by
        obtain ⟨i, hi, rfl⟩ := (S.mask_bit v nd.l).1 hb
        exact hfr2 i (by omega)] at e
      have := W'.lev_ge O' (Sto.is_of hg) (k := l + 1) (by rw [E.n]; omega) (fun i hi => by rw [e, E.vars]; exact hfr2 i hi)
      rw [Sto.lev_nd hg] at this
      omega
    · exact ⟨_, Tb.wth_lt y hy (S.vars.getD l 0) (by omega) b, by rw [e, Tb.restrict_fix b (S.mask_lt O h8 _ (by omega)) hy (by omega) ((S.mask_bit _ _).2 ⟨l, by omega, rfl⟩)]⟩
/-- what an operation on a store gives: a table's handle, or there was no room; so many nodes more above the two lowest levels -/
def OpRes (base : Nat) (B : Bk) (w : World) (S : Sto) (T : Tb.T) (c : Nat) (e : Ending) (w' : World) : Prop :=
  ∃ S' B', StG w' base B' S' ∧ Stp B w B' w' ∧ S.Ext S' ∧ S.New S' T ∧ S'.hi ≤ S.hi + c ∧ ((∃ r, e = retHE r 0 ∧ S'.is r = true ∧ S'.tab r = T) ∨ (e = retHE 0 60 ∧ S'.room ≤ S'.len))
theorem StG.new {w : World} {base n room : Nat} {B : Bk} (h : StW w base B (Sto.new n room)) (h1 : 1 ≤ n) (h8 : n ≤ 8) (hr : room ≤ 32768) (hb : base ≤ w.heap.size) (hy : B.ys = List.replicate 768 0) : StG w base B (Sto.new n room) := by
  refine ⟨h, Sto.Wf.new n room h8 hr, ?_, ?_, hb⟩
  · have key : ∀ n, n ≤ 8 → 1 ≤ n → ((∀ l, l < n → (Sto.new n 0).vars.getD l 0 < n ∧ (Sto.new n 0).levels.getD ((Sto.new n 0).vars.getD l 0) 0 = l) ∧ (∀ v, v < n → (Sto.new n 0).levels.getD v 0 < n ∧ (Sto.new n 0).vars.getD ((Sto.new n 0).levels.getD v 0) 0 = v) ∧ (Sto.new n 0).vars.length = 8 ∧ (Sto.new n 0).levels.length = 8) := by decide +kernel
    obtain ⟨k1, k2, k3⟩ := key n h8 h1
    exact ⟨k1, k2, k3, h1⟩
  · rw [hy]; exact Sto.CaInv.none Ca.got_empty
/-- Mk under all that -/
theorem gmk_any (base : Nat) (B : Bk) (S : Sto) (nd : Nd) (w : World) (G : StG w base B S) (hl : nd.l < S.n) (ha : S.is nd.a = true) (hbb : S.is nd.b = true) (la : (nd.l : Int) < S.lev nd.a) (lb : (nd.l : Int) < S.lev nd.b) :
    Calls Try.prog 74 #[.pointer (some ⟨B.s, 0, none⟩), .int .i64 (nd.l : Int), .int .u32 (nd.a : Int), .int .u32 (nd.b : Int)] w fun e w' =>
      OpRes base B w S (Tb.mux ((S.vars.getD nd.l 0 : Nat) : Int) (S.tab nd.a) (S.tab nd.b)) (if nd.l + 2 < S.n then 1 else 0) e w' := by
  have hv := (G.od.lt nd.l hl).1
  have h8 := G.wf.n8
  refine (mk_any base B S nd w G.st G.hb G.wf hl ha hbb la lb).mono ?_
  rintro e w' ⟨S', B', hm, hst, hstp, hys⟩
  have hbw : base ≤ w'.heap.size := Nat.le_trans G.hb hstp.fr.size
  rcases hm with ⟨hab, rfl, rfl⟩ | ⟨hab, h, hg, rfl, rfl⟩ | ⟨hab, hno, hf, rfl, rfl⟩ | ⟨hab, hno, hr, rfl, rfl⟩
  · exact ⟨_, B', ⟨hst, G.wf, G.od, hys ▸ G.ca, hbw⟩, hstp, Sto.Ext.refl _, Sto.New.refl _ _, by omega, .inl ⟨_, rfl, ha, by rw [← hab, Tb.mux_self (by omega)]⟩⟩
  · exact ⟨_, B', ⟨hst, G.wf, G.od, hys ▸ G.ca, hbw⟩, hstp, Sto.Ext.refl _, Sto.New.refl _ _, by omega, .inl ⟨_, rfl, Sto.is_of hg, G.wf.tab_nd hg⟩⟩
  · exact ⟨_, B', ⟨hst, G.wf, G.od, hys ▸ G.ca, hbw⟩, hstp, Sto.Ext.refl _, Sto.New.refl _ _, by omega, .inr ⟨rfl, hf⟩⟩
  · have W' := G.wf.add hl ha hbb la lb hab hno hr
    have E := Sto.Ext.add G.wf nd
    have O' := G.od.ext E
    have hg : (S.add nd).get S.next = some nd := by rw [G.wf.add_get, if_pos rfl]
    have ht : (S.add nd).tab S.next = Tb.mux ((S.vars.getD nd.l 0 : Nat) : Int) (S.tab nd.a) (S.tab nd.b) := by rw [W'.tab_nd hg, E.vars, E.tab G.wf ha, E.tab G.wf hbb]
    refine ⟨_, B', ⟨hst, W', O', hys ▸ G.ca.ext G.wf E, hbw⟩, hstp, E, fun x m hx => ?_, by rw [G.wf.add_hi]; omega, .inl ⟨_, rfl, Sto.is_of hg, ht⟩⟩
    rw [G.wf.add_get] at hx
    split at hx
    · rename_i e
      cases hx
      right
      refine ⟨0, by omega, ?_⟩
      rw [e, ← ht]
      refine (Tb.restrict_free (S.mask_lt G.od h8 _ (by omega)) (by omega) fun v hv8 hb => ?_).symm
      obtain ⟨i, hi, rfl⟩ := (S.mask_bit v nd.l).1 hb
      have := W'.free' O' (Sto.is_of hg) (l := i) (by rw [Sto.lev_nd hg]; omega) (by rw [E.n]; omega)
      rw [E.vars] at this
      exact this
    · exact .inl hx
end Go.Proofs.Ythbifeoohphnpaa
