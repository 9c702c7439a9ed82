/-
  The walks of the document's tables, seventh part: Next and Prev.
-/
import Derived.Test.YtfkefgelceaimaaDoorRefF
namespace Go.Proofs.YtfkefgelceaimaaDoor
set_option linter.unusedVariables false
open Go.RowKit

/-- a store elsewhere -/
theorem Keep.far {w u : World} {l : List (Nat × Tb.T)} (h : Keep w u l) {b o : Nat} (v : Value) (hb : ∀ e ∈ l, e.1 ≠ b) (hw : w.heap.size ≤ b) : Keep w (u.setCell ⟨b, o, none⟩ v) l :=
  ⟨h.below.setCell hw v, fun k p F hk => (h.at_ k p F hk).far (p := ⟨b, o, none⟩) (hb _ (List.mem_of_getElem? hk)) v, h.apart⟩
theorem Keep.stepB {w u u' : World} {l : List (Nat × Tb.T)} {B : Nat} (h : Keep w u l) (hb : Below B u u') (hl : ∀ e ∈ l, e.1 < B) (hB : w.heap.size ≤ B) : Keep w u' l :=
  ⟨h.below.trans (hb.mono hB), fun k p F hk => (h.at_ k p F hk).below hb (hl _ (List.mem_of_getElem? hk)), h.apart⟩

/-- who is led to, by packed bits: what the sixteen cells hold -/
def oddC (s r : Tb.T) (k : Nat) : Array Value := ((List.range 16).map fun j => Value.bool (Tb.anyTo (Tb.cameR s r j) k)).toArray
theorem oddC_at (s r : Tb.T) (k j : Nat) (hj : j < 16) : (oddC s r k)[j]? = some (.bool (Tb.anyTo (Tb.cameR s r j) k)) := by
  unfold oddC; simp [hj]
theorem oddC_no {s r : Tb.T} {k : Nat} (h : (s.getLsbD k && r.getLsbD k) = false) : oddC s r k = oddC s r (k + 1) := by
  unfold oddC
  congr 1
  refine List.map_congr_left fun j _ => ?_
  rw [Tb.any_succ, show Tb.cameR s r j k = false from by unfold Tb.cameR; rw [h]; rfl]; simp
theorem oddC_yes {s r : Tb.T} {k : Nat} (h : (s.getLsbD k && r.getLsbD k) = true) : (oddC s r k).setIfInBounds (Tb.hf (k / 2)) (.bool true) = oddC s r (k + 1) := by
  apply Array.ext_getElem?
  intro j
  by_cases hj : j < 16
  · rw [Array.getElem?_setIfInBounds, oddC_at _ _ _ _ hj, oddC_at _ _ _ _ hj, Tb.any_succ]
    have e : Tb.cameR s r j k = (Tb.hf (k / 2) == j) := by unfold Tb.cameR; rw [h]; rfl
    rw [e]
    by_cases ej : Tb.hf (k / 2) = j
    · subst ej
      have hs : Tb.hf (k / 2) < (oddC s r k).size := by simpa [oddC] using hj
      simp [hs]
    · simp [ej]
  · have s1 : (oddC s r k).size = 16 := by simp [oddC]
    have s2 : (oddC s r (k + 1)).size = 16 := by simp [oddC]
    rw [Array.getElem?_eq_none (by simp [s1]; omega), Array.getElem?_eq_none (by omega)]
theorem oddC_zero (s r : Tb.T) : oddC s r 0 = Array.replicate 16 (.bool false) := by
  unfold oddC
  simp only [Tb.any_zero]
  rfl

/-- the second loop's memory -/
structure NL (w wr : World) (bg : Nat) (s r : Tb.T) (p : Nat → Bool) (k : Nat) : Prop where
  below : Below w.heap.size w wr
  res : Blk wr (w.heap.size + 1 + 1) 24 (Tb.tcells 0#256)
  odd : Blk wr (w.heap.size + 1 + 1 + 1) 66 (oddC s r 256)
  tab : Blk wr bg 24 (Tb.tcells (Tb.tabTo p k))
theorem NL.step {w wr w1 : World} {bg : Nat} {s r F : Tb.T} {p : Nat → Bool} {k : Nat} (h : NL w wr bg s r p k) (hg : w.heap.size + 1 + 1 + 1 < bg) (hb : Below bg wr w1) (hB : Blk w1 bg 24 (Tb.tcells F)) (hF : F = Tb.tabTo p (k + 1)) : NL w w1 bg s r p (k + 1) :=
  ⟨h.below.trans (hb.mono (by omega)), h.res.below hb (by omega), h.odd.below hb hg, hF ▸ hB⟩

set_option maxRecDepth 100000 in
set_option maxHeartbeats 4000000 in
theorem rnext_any (s r : Tb.T) (w : World) :
    Calls Tryd.prog 49 #[Tb.tv s, Tb.tv r] w fun e w' => e = .returned (Tb.tv (Tb.next s r)) ∧ Below w.heap.size w w' := by
  have hK := (((Keep.nil w).new s).new r).new 0#256
  simp only [List.cons_append, List.nil_append, alloc_size, Tb.tcells_zero] at hK
  have hO := Blk.new (((w.alloc (.cells (Tb.tcells s) 24)).alloc (.cells (Tb.tcells r) 24)).alloc (.cells #[.int .u64 0, .int .u64 0, .int .u64 0, .int .u64 0] 24)) 66 (oddC s r 0)
  simp only [alloc_size] at hO
  have hK2 := hK.alloc (.cells (oddC s r 0) 66)
  rw [oddC_zero] at hO hK2
  go_enter Tryd.func49, Tryd.ntmps49
  go_wp2_with fail
  go_loopw [6] (fun i wr => ∃ k : Nat, k ≤ 256 ∧ i = .int .i64 k ∧ Keep w wr [(w.heap.size, s), (w.heap.size + 1, r), (w.heap.size + 1 + 1, 0#256)] ∧ Blk wr (w.heap.size + 1 + 1 + 1) 66 (oddC s r k)) (fun i _ => 256 - (intOf i).toNat)
  case atStart => exact ⟨0, by omega, rfl, hK2, by rw [oddC_zero]; exact hO⟩
  case round =>
    rename_i wr
    clear hK hK2 hO
    obtain ⟨k, hk, rfl, kk, ho⟩ := hrel
    by_cases hlt : k < 256
    · have hq : IntKind.u8.wrap (k : Int) = (k : Int) := by rw [IntKind.wrap_u8]; omega
      have hE1 := fun w => reval_any s k w hlt
      have hE2 := fun w => reval_any r k w hlt
      obtain ⟨⟨a0, a1, a2, a3⟩, c0, c1, c2, c3⟩ := tfacts (kk.at_ 0 _ _ rfl)
      cases h1 : s.getLsbD k with
      | false =>
        rw [h1] at hE1
        have HE1 := Bx.mk hE1
        have HO := Bx.mk (oddC_no (s := s) (r := r) (k := k) (by rw [h1]; rfl))
        clear hE1 hE2 h1
        go_wp2_with fail
        refine (HE1.out _).mono ?_
        rintro e w1 ⟨rfl, b1⟩
        replace kk := kk.step b1
        replace ho := ho.below b1 ho.lt
        clear b1 a0 a1 a2 a3 c0 c1 c2 c3
        go_wp2_with fail
        exact ⟨⟨k + 1, by omega, by go_num, kk, by rw [← HO.out]; exact ho⟩, by simp [intOf]; omega⟩
      | true =>
        rw [h1] at hE1
        have HE1 := Bx.mk hE1
        clear hE1
        go_wp2_with fail
        refine (HE1.out _).mono ?_
        rintro e w1 ⟨rfl, b1⟩
        replace kk := kk.step b1
        replace ho := ho.below b1 ho.lt
        clear b1 a0 a1 a2 a3 c0 c1 c2 c3
        obtain ⟨⟨a0, a1, a2, a3⟩, c0, c1, c2, c3⟩ := tfacts (kk.at_ 1 _ _ rfl)
        cases h2 : r.getLsbD k with
        | false =>
          rw [h2] at hE2
          have HE2 := Bx.mk hE2
          have HO := Bx.mk (oddC_no (s := s) (r := r) (k := k) (by rw [h1, h2]; rfl))
          clear hE2 h1 h2
          go_wp2_with fail
          refine (HE2.out _).mono ?_
          rintro e w1 ⟨rfl, b1⟩
          replace kk := kk.step b1
          replace ho := ho.below b1 ho.lt
          clear b1 a0 a1 a2 a3 c0 c1 c2 c3
          go_wp2_with fail
          exact ⟨⟨k + 1, by omega, by go_num, kk, by rw [← HO.out]; exact ho⟩, by simp [intOf]; omega⟩
        | true =>
          rw [h2] at hE2
          have HE2 := Bx.mk hE2
          have HO := Bx.mk (oddC_yes (s := s) (r := r) (k := k) (by rw [h1, h2]; rfl))
          clear hE2 h1 h2
          have hH := fun w => rhalf_any (k / 2) w (by omega)
          rw [show ((k / 2 : Nat) : Int) = (k : Int) / 2 from by norm_cast] at hH
          have HH := Bx.mk hH
          have hj := Tb.hf_lt (k / 2) (by omega)
          generalize Tb.hf (k / 2) = j at HO HH hj hH
          clear hH
          go_wp2_with fail
          refine (HE2.out _).mono ?_
          rintro e w1 ⟨rfl, b1⟩
          replace kk := kk.step b1
          replace ho := ho.below b1 ho.lt
          clear b1 a0 a1 a2 a3 c0 c1 c2 c3
          go_wp2_with fail
          refine (HH.out _).mono ?_
          rintro e w2 ⟨rfl, rfl⟩
          have e1 : w1.cell? ⟨w.heap.size + 1 + 1 + 1, j, none⟩ = some (.bool (Tb.anyTo (Tb.cameR s r j) k)) := (ho.cell j).trans (oddC_at s r k j hj)
          have e2 : w1.frozen? ⟨w.heap.size + 1 + 1 + 1, j, none⟩ = false := ho.frozen j
          have ho' := ho.set_ j (.bool true)
          rw [HO.out] at ho'
          have kk' := kk.far (b := w.heap.size + 1 + 1 + 1) (o := j) (.bool true) (by simp; omega) (by omega)
          have j1 : (j : Int) < 16 := by omega
          have j0 : 0 ≤ (j : Int) := by omega
          clear kk ho
          go_wp2_with fail
          exact ⟨⟨k + 1, by omega, by go_num, kk', ho'⟩, by simp [intOf]; omega⟩
    · obtain rfl : k = 256 := by omega
      rw [show ((256 : Nat) : Int) = 256 from rfl]
      have hg : w.heap.size + 1 + 1 + 1 < wr.heap.size := ho.lt
      have hN : NL w (wr.alloc (.cells #[.int .u64 0, .int .u64 0, .int .u64 0, .int .u64 0] 24)) wr.heap.size s r (fun x => Tb.anyTo (Tb.cameR s r (Tb.hf x)) 256) 0 :=
        ⟨kk.below.alloc kk.below.size _, (kk.at_ 2 _ _ rfl).alloc _, ho.alloc _, by rw [Tb.tabTo_zero, Tb.tcells_zero]; exact Blk.new _ _ _⟩
      clear kk ho
      generalize hbg : wr.heap.size = bg at hN hg
      have HB := Bx.mk hbg
      clear hbg
      go_wp2_with fail
      rw [HB.out]
      generalize wr.alloc (.cells #[.int .u64 0, .int .u64 0, .int .u64 0, .int .u64 0] 24) = wn at hN ⊢
      go_loopw [8] (fun i wq => ∃ k : Nat, k ≤ 256 ∧ i = .int .i64 k ∧ NL w wq bg s r (fun x => Tb.anyTo (Tb.cameR s r (Tb.hf x)) 256) k) (fun i _ => 256 - (intOf i).toNat)
      case atStart => exact ⟨0, by omega, rfl, hN⟩
      case round =>
        clear hN
        obtain ⟨k, hk, rfl, hN⟩ := hrel
        by_cases hlt : k < 256
        · have hq : IntKind.u8.wrap (k : Int) = (k : Int) := by rw [IntKind.wrap_u8]; omega
          have HH := Bx.mk (fun w => rhalf_any k w hlt)
          have hj := Tb.hf_lt k hlt
          have HS := Bx.mk (Tb.setb_same (fun x => Tb.anyTo (Tb.cameR s r (Tb.hf x)) 256) k _ rfl)
          generalize Tb.hf k = j at HH hj HS
          have e1 := (hN.odd.cell j).trans (oddC_at s r 256 j hj)
          generalize Tb.anyTo (Tb.cameR s r j) 256 = bb at e1 HS
          have j1 : (j : Int) < 16 := by omega
          have j0 : 0 ≤ (j : Int) := by omega
          go_wp2_with fail
          refine (HH.out _).mono ?_
          rintro e w2 ⟨rfl, rfl⟩
          go_wp2_with fail
          refine (rset_any _ _ k bb _ hlt hN.tab).mono ?_
          rintro e w1 ⟨rfl, hB, hb⟩
          have hN' := hN.step hg hb hB HS.out
          clear hB hb hN e1
          go_wp2_with fail
          exact ⟨⟨k + 1, by omega, by go_num, hN'⟩, by simp [intOf]; omega⟩
        · obtain rfl : k = 256 := by omega
          obtain ⟨⟨a0, a1, a2, a3⟩, b0, b1, b2, b3⟩ := tfacts hN.res
          obtain ⟨⟨c0, c1, c2, c3⟩, d0, d1, d2, d3⟩ := tfacts hN.tab
          rw [← Tb.tab_def, Tb.tab_next] at c0 c1 c2 c3
          have hb := hN.below
          clear hN
          go_wp2_with fail
          refine bodyPost_ret (v := Tb.tv (Tb.next s r)) (by simp [results, Tryd.results49, go_sem, a0, a1, a2, a3]) rfl ⟨rfl, ?_⟩
          (repeat (first | (with_reducible exact Below.refl _ _) | (with_reducible assumption) | (with_reducible refine Below.drew ?_) | (with_reducible refine Below.setCell ?_ ?_ _; rotate_left; (first | omega | (simp <;> omega))) | (with_reducible refine Below.alloc ?_ ?_ _; rotate_left; (first | omega | (simp <;> omega))) | (with_reducible refine Below.trans ?_ (hb.mono ?_); rotate_left; (first | omega | (simp <;> omega)))))

/-- what Prev's loops keep -/
structure PL (w wr : World) (s r : Tb.T) (F : Tb.T) : Prop where
  keep : Keep w wr [(w.heap.size, s), (w.heap.size + 1, r), (w.heap.size + 1 + 1, 0#256)]
  tab : Blk wr (w.heap.size + 1 + 1 + 1) 24 (Tb.tcells F)
theorem PL.step {w wr w1 : World} {s r F : Tb.T} (h : PL w wr s r F) (hb : Below wr.heap.size wr w1) : PL w w1 s r F := ⟨h.keep.step hb, h.tab.below hb h.tab.lt⟩
theorem PL.put {w wr w1 : World} {s r F G : Tb.T} (h : PL w wr s r F) (hb : Below (w.heap.size + 1 + 1 + 1) wr w1) (hB : Blk w1 (w.heap.size + 1 + 1 + 1) 24 (Tb.tcells G)) : PL w w1 s r G :=
  ⟨h.keep.stepB hb (by simp; omega) (by omega), hB⟩

set_option maxRecDepth 100000 in
set_option maxHeartbeats 4000000 in
theorem rprev_any (s r : Tb.T) (w : World) :
    Calls Tryd.prog 50 #[Tb.tv s, Tb.tv r] w fun e w' => e = .returned (Tb.tv (Tb.prev s r)) ∧ Below w.heap.size w w' := by
  have hK := (((Keep.nil w).new s).new r).new 0#256
  simp only [List.cons_append, List.nil_append, alloc_size, Tb.tcells_zero] at hK
  have hB := Blk.new (((w.alloc (.cells (Tb.tcells s) 24)).alloc (.cells (Tb.tcells r) 24)).alloc (.cells #[.int .u64 0, .int .u64 0, .int .u64 0, .int .u64 0] 24)) 24 (Tb.tcells (Tb.tabTo (fun x => Tb.anyTo (Tb.goesR s r x) 256) 0))
  simp only [alloc_size] at hB
  have hK2 := hK.alloc (.cells (Tb.tcells (Tb.tabTo (fun x => Tb.anyTo (Tb.goesR s r x) 256) 0)) 24)
  have hP : PL w _ s r (Tb.tabTo (fun x => Tb.anyTo (Tb.goesR s r x) 256) 0) := ⟨hK2, hB⟩
  rw [Tb.tabTo_zero, Tb.tcells_zero] at hP
  clear hK hB hK2
  go_enter Tryd.func50, Tryd.ntmps50
  go_wp2_with fail
  go_loopw [6] (fun i wr => ∃ k : Nat, k ≤ 256 ∧ i = .int .i64 k ∧ PL w wr s r (Tb.tabTo (fun x => Tb.anyTo (Tb.goesR s r x) 256) k)) (fun i _ => 256 - (intOf i).toNat)
  case atStart => exact ⟨0, by omega, rfl, by rw [Tb.tabTo_zero]; exact hP⟩
  case round =>
    clear hP
    obtain ⟨k, hk, rfl, hP⟩ := hrel
    by_cases hlt : k < 256
    · have hHk := fun w => rhalf_any k w hlt
      have HHk := Bx.mk hHk
      clear hHk
      have HS := Bx.mk (Tb.setb_same (fun x => Tb.anyTo (Tb.goesR s r x) 256) k _ rfl)
      generalize Tb.tabTo (fun x => Tb.anyTo (Tb.goesR s r x) 256) k = F at hP HS
      go_wp2_with fail
      rw [show decide ((k : Int) < 256) = true from decide_eq_true (by omega)]
      go_loopw [7, 8] (fun ok j wq => ∃ y : Nat, y ≤ 256 ∧ j = .int .i64 y ∧ ok = .bool (Tb.anyTo (Tb.goesR s r k) y) ∧ PL w wq s r F) (fun _ j _ => 256 - (intOf j).toNat)
      case atStart => exact ⟨0, by omega, rfl, by rw [Tb.any_zero], hP⟩
      case round =>
        clear hP
        obtain ⟨y, hy, rfl, rfl, hP⟩ := hrel
        by_cases hly : y < 256
        · have HHy := Bx.mk (fun w => rhalf_any y w hly)
          have HE1 := fun w => reval_any r y w hly
          have HE2 := fun w => reval_any s (Tb.half y) w (Tb.half_lt y)
          have f1 := Tb.i64_even y hly
          have hq : IntKind.u8.wrap (y : Int) = (y : Int) := by rw [IntKind.wrap_u8]; omega
          have hq2 : IntKind.u8.wrap (Tb.half y : Int) = (Tb.half y : Int) := by have := Tb.half_lt y; rw [IntKind.wrap_u8]; omega
          have HA := Tb.any_succ (Tb.goesR s r k) y
          cases hc : (Tb.hf y == Tb.hf k) with
          | false =>
            have q : (((Tb.hf y : Nat) : Int) == ((Tb.hf k : Nat) : Int)) = false := by rw [← hc, Bool.eq_iff_iff, beq_iff_eq, beq_iff_eq]; omega
            rw [show Tb.goesR s r k y = false from by unfold Tb.goesR; rw [hc]; rfl, Bool.or_false] at HA
            have HB := Bx.mk HA
            clear HA HE1 HE2 hc
            go_wp2_with fail
            refine (HHy.out _).mono ?_
            rintro e w2 ⟨rfl, rfl⟩
            go_wp2_with fail
            refine (HHk.out _).mono ?_
            rintro e w2 ⟨rfl, rfl⟩
            go_wp2_with fail
            exact ⟨⟨y + 1, by omega, by go_num, by rw [HB.out], hP⟩, by simp [intOf]; omega⟩
          | true =>
            have q : (((Tb.hf y : Nat) : Int) == ((Tb.hf k : Nat) : Int)) = true := by rw [← hc, Bool.eq_iff_iff, beq_iff_eq, beq_iff_eq]; omega
            obtain ⟨⟨a0, a1, a2, a3⟩, c0, c1, c2, c3⟩ := tfacts (hP.keep.at_ 1 _ _ rfl)
            cases h1 : r.getLsbD y with
            | false =>
              rw [show Tb.goesR s r k y = false from by unfold Tb.goesR; rw [h1]; simp, Bool.or_false] at HA
              have HB := Bx.mk HA
              rw [h1] at HE1
              have HR := Bx.mk HE1
              clear HA HE1 HE2 hc h1
              go_wp2_with fail
              refine (HHy.out _).mono ?_
              rintro e w2 ⟨rfl, rfl⟩
              go_wp2_with fail
              refine (HHk.out _).mono ?_
              rintro e w2 ⟨rfl, rfl⟩
              go_wp2_with fail
              refine (HR.out _).mono ?_
              rintro e w1 ⟨rfl, b1⟩
              replace hP := hP.step b1
              clear b1 a0 a1 a2 a3 c0 c1 c2 c3
              go_wp2_with fail
              exact ⟨⟨y + 1, by omega, by go_num, by rw [HB.out], hP⟩, by simp [intOf]; omega⟩
            | true =>
              rw [show Tb.goesR s r k y = s.getLsbD (Tb.half y) from by unfold Tb.goesR; rw [h1, hc]; rfl] at HA
              rw [h1] at HE1
              have HR := Bx.mk HE1
              clear HE1 hc h1
              cases h2 : s.getLsbD (Tb.half y) with
              | false =>
                rw [h2] at HA HE2
                rw [Bool.or_false] at HA
                have HB := Bx.mk HA
                have HQ := Bx.mk HE2
                clear HA HE2 h2
                go_wp2_with fail
                refine (HHy.out _).mono ?_
                rintro e w2 ⟨rfl, rfl⟩
                go_wp2_with fail
                refine (HHk.out _).mono ?_
                rintro e w2 ⟨rfl, rfl⟩
                go_wp2_with fail
                refine (HR.out _).mono ?_
                rintro e w1 ⟨rfl, b1⟩
                replace hP := hP.step b1
                clear b1 a0 a1 a2 a3 c0 c1 c2 c3
                obtain ⟨⟨a0, a1, a2, a3⟩, c0, c1, c2, c3⟩ := tfacts (hP.keep.at_ 0 _ _ rfl)
                go_wp2_with fail
                refine (HQ.out _).mono ?_
                rintro e w1 ⟨rfl, b1⟩
                replace hP := hP.step b1
                clear b1 a0 a1 a2 a3 c0 c1 c2 c3
                go_wp2_with fail
                exact ⟨⟨y + 1, by omega, by go_num, by rw [HB.out], hP⟩, by simp [intOf]; omega⟩
              | true =>
                rw [h2] at HA HE2
                rw [Bool.or_true] at HA
                have HB := Bx.mk HA
                have HQ := Bx.mk HE2
                clear HA HE2 h2
                go_wp2_with fail
                refine (HHy.out _).mono ?_
                rintro e w2 ⟨rfl, rfl⟩
                go_wp2_with fail
                refine (HHk.out _).mono ?_
                rintro e w2 ⟨rfl, rfl⟩
                go_wp2_with fail
                refine (HR.out _).mono ?_
                rintro e w1 ⟨rfl, b1⟩
                replace hP := hP.step b1
                clear b1 a0 a1 a2 a3 c0 c1 c2 c3
                obtain ⟨⟨a0, a1, a2, a3⟩, c0, c1, c2, c3⟩ := tfacts (hP.keep.at_ 0 _ _ rfl)
                go_wp2_with fail
                refine (HQ.out _).mono ?_
                rintro e w1 ⟨rfl, b1⟩
                replace hP := hP.step b1
                clear b1 a0 a1 a2 a3 c0 c1 c2 c3
                go_wp2_with fail
                exact ⟨⟨y + 1, by omega, by go_num, by rw [HB.out], hP⟩, by simp [intOf]; omega⟩
        · obtain rfl : y = 256 := by omega
          rw [show ((256 : Nat) : Int) = 256 from rfl]
          have hq : IntKind.u8.wrap (k : Int) = (k : Int) := by rw [IntKind.wrap_u8]; omega
          generalize Tb.anyTo (Tb.goesR s r k) 256 = bb at HS ⊢
          go_wp2_with fail
          refine (rset_any _ _ k bb _ hlt hP.tab).mono ?_
          rintro e w1 ⟨rfl, hB, hb⟩
          have hP' := hP.put hb hB
          rw [HS.out] at hP'
          clear hB hb hP
          go_wp2_with fail
          exact ⟨⟨k + 1, by omega, by go_num, hP'⟩, by simp [intOf]; omega⟩
    · obtain rfl : k = 256 := by omega
      obtain ⟨⟨a0, a1, a2, a3⟩, b0, b1, b2, b3⟩ := tfacts (hP.keep.at_ 2 _ _ rfl)
      obtain ⟨⟨c0, c1, c2, c3⟩, d0, d1, d2, d3⟩ := tfacts hP.tab
      rw [← Tb.tab_def, Tb.tab_prev] at c0 c1 c2 c3
      have hb := hP.keep.below
      clear hP
      go_wp2_with fail
      refine bodyPost_ret (v := Tb.tv (Tb.prev s r)) (by simp [results, Tryd.results50, go_sem, a0, a1, a2, a3]) rfl ⟨rfl, ?_⟩
      (repeat (first | (with_reducible exact Below.refl _ _) | (with_reducible assumption) | (with_reducible refine Below.drew ?_) | (with_reducible refine Below.setCell ?_ ?_ _; rotate_left; (first | omega | (simp <;> omega))) | (with_reducible refine Below.alloc ?_ ?_ _; rotate_left; (first | omega | (simp <;> omega))) | (with_reducible refine Below.trans ?_ (hb.mono ?_); rotate_left; (first | omega | (simp <;> omega)))))
end Go.Proofs.YtfkefgelceaimaaDoor
