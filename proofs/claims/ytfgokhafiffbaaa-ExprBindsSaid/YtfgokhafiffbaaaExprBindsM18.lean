/-
  Texts on which the law ExprBinds rests, part 18 of 22.
-/
import Derived.Test.YtfgokhafiffbaaaExprBindsM17
/-
  Formulas of the document: form, Is.
-/
namespace Go.Proofs.Ytfgokhafiffbaaa
set_option linter.unusedVariables false
open Go.RowKit
def Ex.ok (t : Tr) : Bool := Ex.plain t && t.kids.allPlain
theorem Ex.ok_on (t : Tr) (r : Fo) : (t.on r).allPlain = (Ex.ok t && r.allPlain) := rfl
def Fz (n : Nat) : Prop := ∀ (t : Tr) (sl : Value) (B : Nat → Prop) (u : World), (t.on .nil).nodes ≤ n → SlF u B sl t.kids →
  Calls Try.prog 37 #[Ev t sl] u fun e w' => e = .returned (.bool (Ex.ok t)) ∧ Below u.heap.size u w'

set_option maxHeartbeats 1000000 in
theorem Fz.plain_iff {k a v : Int} {kids : Fo} {n : Nat} (hk : 1 ≤ k ∧ k ≤ 11) (hn : Ex.kids k = n) : Ex.plain ⟨k, a, v, kids⟩ = (decide (kids.len = n) && (decide (0 ≤ v) && decide (v ≤ Ex.top k))) := by
  unfold Ex.plain
  simp only []
  rw [hn, decide_eq_true hk.1, decide_eq_true hk.2]
  simp
theorem Fz.nv {b : Bool} {v T : Int} (h : ¬ (0 ≤ v ∧ v ≤ T)) : (b && (decide (0 ≤ v) && decide (v ≤ T))) = false := by
  by_cases h0 : 0 ≤ v
  · rw [decide_eq_false (fun h1 => h ⟨h0, h1⟩ : ¬ v ≤ T)]; simp
  · rw [decide_eq_false h0]; simp
set_option maxHeartbeats 16000000 in
theorem form_1 (n : Nat) (hn1 : n ≤ 1000000) (ih : Fz n) (ta tv : Int) (tkids : Fo) (p : Option Addr) (cap b o : Nat) (w : World) (hn : 1 + tkids.nodes ≤ n + 1) (hp : (tkids = .nil ∧ cap = 0) ∨ p = some ⟨b, o, none⟩) (hr : RdF w (fun g => g < w.heap.size) tkids b o) :
    Calls Try.prog 37 #[.agg #[.int .i64 1, .int .i64 ta, .int .i64 tv, .slice p tkids.len cap]] w fun e w' => e = .returned (.bool (Ex.ok ⟨1, ta, tv, tkids⟩)) ∧ Below w.heap.size w w' := by
  have hb1 := boxE w 1 ta tv (.slice p tkids.len cap)
  have HB1 := Bx.mk hb1
  obtain ⟨c0, c1, c2, c3, _, _, _, _⟩ := cells4 hb1
  have HK0 := Bx.mk (KL.start ((Below.refl w.heap.size w).alloc (Nat.le_refl _) (.cells #[.int .i64 1, .int .i64 ta, .int .i64 tv, .slice p tkids.len cap] 36)) hr)
  have HP : Bx (tkids.len ≠ 0 → p = some ⟨b, o, none⟩) := ⟨fun h => by
    rcases hp with ⟨e, _⟩ | e
    · exact absurd (by rw [e]; rfl) h
    · exact e⟩
  have HN := Bx.mk hn
  have IH := Bx.mk ih
  clear hb1 hp hr hn ih
  have hpi : Ex.plain ⟨1, ta, tv, tkids⟩ = (decide (tkids.len = 0) && (decide (0 ≤ tv) && decide (tv ≤ Ex.top 1))) := Fz.plain_iff (by omega) (Ex.kids0 (by omega))
  rw [show Ex.top 1 = 7 from by unfold Ex.top; rw [if_pos (by omega)]] at hpi
  have HPI := Bx.mk hpi
  clear hpi
  by_cases h0 : tv ≥ 0
  · by_cases h7 : tv ≤ 7
    · have h0' : 0 ≤ tv := h0
      by_cases hl : tkids.len = 0
      · have HPL := Bx.mk (show Ex.plain ⟨1, ta, tv, tkids⟩ = true from by rw [HPI.out]; simp; omega)
        have HLN := Bx.mk (show tkids.len = 0 from by omega)
        have ql : ((tkids.len : Int) != 0) = false := by rw [bne_eq_false_iff_eq]; omega
        clear hl
        go_enter Try.func37, Try.ntmps37
        go_wp2_with fail
        refine region_stB (by kernel_rfl) (by kernel_rfl) ?_
        (repeat (refine stB_step (fun K hK => ?_); go_simp; refine hK _ ?_; clear hK K))
        refine stB_nil ?_
        go_wp2_with fail
        refine region_stB (by kernel_rfl) (by kernel_rfl) ?_
        (repeat (refine stB_step (fun K hK => ?_); go_simp; refine hK _ ?_; clear hK K))
        refine stB_nil ?_
        go_wp2_with fail
        go_loopw [5] (fun j wr => ∃ (i : Nat) (F2 : Fo), j = .int .i64 (i : Int) ∧ Bx (tkids.allPlain = F2.allPlain) ∧ KL w wr b o i tkids F2 ∧ Blk wr w.heap.size 36 #[.int .i64 1, .int .i64 ta, .int .i64 tv, .slice p tkids.len cap]) (fun j _ => tkids.len - (intOf j).toNat)
        case atStart => exact ⟨0, tkids, rfl, ⟨rfl⟩, HK0.out.step (((Below.refl _ _).drew).drew), HB1.out.drew.drew⟩
        case round =>
          clear HK0 HB1 c0 c1 c2 c3
          obtain ⟨i, F2, rfl, HD, hK, hB⟩ := hrel
          have HK := Bx.mk hK
          have HB := Bx.mk hB
          obtain ⟨c0, c1, c2, c3, _, _, _, _⟩ := cells4 hB
          clear hK hB
          cases F2 with
          | nil =>
            have q : ¬ (i : Int) < 0 := by have h1 := HK.out.lf; have h2 := HLN.out; simp only [Fo.len] at h1; omega
            have HV := Bx.mk (show Ex.ok ⟨1, ta, tv, tkids⟩ = true from by unfold Ex.ok; rw [HPL.out, HD.out]; rfl)
            go_wp2_with fail
            go_ret
            exact ⟨by rw [HV.out]; rfl, HK.out.be⟩
          | cons k a v kids rest =>
            obtain ⟨sx, Kx, hnn, hil, hnext⟩ := HK.out.next
            exact absurd hil (by have := HLN.out; omega)
      · have ql : ((tkids.len : Int) != 0) = true := by rw [bne_iff_ne]; omega
        have HVF := Bx.mk (show Ex.ok ⟨1, ta, tv, tkids⟩ = false from by unfold Ex.ok; rw [HPI.out, decide_eq_false (by omega : ¬ tkids.len = 0)]; simp)
        clear hl
        go_enter Try.func37, Try.ntmps37
        go_wp2_with fail
        refine region_stB (by kernel_rfl) (by kernel_rfl) ?_
        (repeat (refine stB_step (fun K hK => ?_); go_simp; refine hK _ ?_; clear hK K))
        refine stB_nil ?_
        go_wp2_with fail
        refine region_stB (by kernel_rfl) (by kernel_rfl) ?_
        (repeat (refine stB_step (fun K hK => ?_); go_simp; refine hK _ ?_; clear hK K))
        refine stB_nil ?_
        go_wp2_with fail
        go_ret
        exact ⟨by rw [HVF.out]; rfl, (HK0.out.step (((Below.refl _ _).drew).drew)).be⟩
    · have hd7 : decide (tv ≤ 7) = false := decide_eq_false h7
      have h0' : 0 ≤ tv := h0
      have HVF := Bx.mk (show Ex.ok ⟨1, ta, tv, tkids⟩ = false from by unfold Ex.ok; rw [HPI.out, decide_eq_false (by omega : ¬ tv ≤ 7)]; simp)
      go_enter Try.func37, Try.ntmps37
      go_wp2_with fail
      refine region_stB (by kernel_rfl) (by kernel_rfl) ?_
      (repeat (refine stB_step (fun K hK => ?_); go_simp; refine hK _ ?_; clear hK K))
      refine stB_nil ?_
      go_wp2_with fail
      refine region_stB (by kernel_rfl) (by kernel_rfl) ?_
      (repeat (refine stB_step (fun K hK => ?_); go_simp; refine hK _ ?_; clear hK K))
      refine stB_nil ?_
      go_wp2_with fail
      go_ret
      exact ⟨by rw [HVF.out]; rfl, (HK0.out.step (((Below.refl _ _).drew).drew)).be⟩
  · have hd0 : decide (0 ≤ tv) = false := decide_eq_false (by omega)
    have hd0' : decide (tv ≥ 0) = false := decide_eq_false h0
    have HVF := Bx.mk (show Ex.ok ⟨1, ta, tv, tkids⟩ = false from by unfold Ex.ok; rw [HPI.out, decide_eq_false (by omega : ¬ 0 ≤ tv)]; simp)
    go_enter Try.func37, Try.ntmps37
    go_wp2_with fail
    refine region_stB (by kernel_rfl) (by kernel_rfl) ?_
    (repeat (refine stB_step (fun K hK => ?_); go_simp; refine hK _ ?_; clear hK K))
    refine stB_nil ?_
    go_wp2_with fail
    refine region_stB (by kernel_rfl) (by kernel_rfl) ?_
    (repeat (refine stB_step (fun K hK => ?_); go_simp; refine hK _ ?_; clear hK K))
    refine stB_nil ?_
    go_wp2_with fail
    go_ret
    exact ⟨by rw [HVF.out]; rfl, (HK0.out.step (((Below.refl _ _).drew).drew)).be⟩
set_option maxHeartbeats 16000000 in
theorem form_2 (n : Nat) (hn1 : n ≤ 1000000) (ih : Fz n) (ta tv : Int) (tkids : Fo) (p : Option Addr) (cap b o : Nat) (w : World) (hn : 1 + tkids.nodes ≤ n + 1) (hp : (tkids = .nil ∧ cap = 0) ∨ p = some ⟨b, o, none⟩) (hr : RdF w (fun g => g < w.heap.size) tkids b o) :
    Calls Try.prog 37 #[.agg #[.int .i64 2, .int .i64 ta, .int .i64 tv, .slice p tkids.len cap]] w fun e w' => e = .returned (.bool (Ex.ok ⟨2, ta, tv, tkids⟩)) ∧ Below w.heap.size w w' := by
  have hb1 := boxE w 2 ta tv (.slice p tkids.len cap)
  have HB1 := Bx.mk hb1
  obtain ⟨c0, c1, c2, c3, _, _, _, _⟩ := cells4 hb1
  have HK0 := Bx.mk (KL.start ((Below.refl w.heap.size w).alloc (Nat.le_refl _) (.cells #[.int .i64 2, .int .i64 ta, .int .i64 tv, .slice p tkids.len cap] 36)) hr)
  have HP : Bx (tkids.len ≠ 0 → p = some ⟨b, o, none⟩) := ⟨fun h => by
    rcases hp with ⟨e, _⟩ | e
    · exact absurd (by rw [e]; rfl) h
    · exact e⟩
  have HN := Bx.mk hn
  have IH := Bx.mk ih
  clear hb1 hp hr hn ih
  have hpi : Ex.plain ⟨2, ta, tv, tkids⟩ = (decide (tkids.len = 0) && (decide (0 ≤ tv) && decide (tv ≤ Ex.top 2))) := Fz.plain_iff (by omega) (Ex.kids0 (by omega))
  rw [show Ex.top 2 = 1 from by unfold Ex.top; rw [if_neg (by omega), if_pos rfl]] at hpi
  have HPI := Bx.mk hpi
  clear hpi
  by_cases h0 : tv = 0
  · by_cases hl : tkids.len = 0
    · have q0 : (tv == 0) = true := by rw [beq_iff_eq]; exact h0
      have HPL := Bx.mk (show Ex.plain ⟨2, ta, tv, tkids⟩ = true from by rw [HPI.out]; simp; omega)
      have HLN := Bx.mk (show tkids.len = 0 from by omega)
      have ql : ((tkids.len : Int) != 0) = false := by rw [bne_eq_false_iff_eq]; omega
      clear hl h0
      go_enter Try.func37, Try.ntmps37
      go_wp2_with fail
      refine region_stB (by kernel_rfl) (by kernel_rfl) ?_
      (repeat (refine stB_step (fun K hK => ?_); go_simp; refine hK _ ?_; clear hK K))
      refine stB_nil ?_
      go_wp2_with fail
      refine region_stB (by kernel_rfl) (by kernel_rfl) ?_
      (repeat (refine stB_step (fun K hK => ?_); go_simp; refine hK _ ?_; clear hK K))
      refine stB_nil ?_
      go_wp2_with fail
      go_loopw [5] (fun j wr => ∃ (i : Nat) (F2 : Fo), j = .int .i64 (i : Int) ∧ Bx (tkids.allPlain = F2.allPlain) ∧ KL w wr b o i tkids F2 ∧ Blk wr w.heap.size 36 #[.int .i64 2, .int .i64 ta, .int .i64 tv, .slice p tkids.len cap]) (fun j _ => tkids.len - (intOf j).toNat)
      case atStart => exact ⟨0, tkids, rfl, ⟨rfl⟩, HK0.out.step (((Below.refl _ _).drew).drew), HB1.out.drew.drew⟩
      case round =>
        clear HK0 HB1 c0 c1 c2 c3
        obtain ⟨i, F2, rfl, HD, hK, hB⟩ := hrel
        have HK := Bx.mk hK
        have HB := Bx.mk hB
        obtain ⟨c0, c1, c2, c3, _, _, _, _⟩ := cells4 hB
        clear hK hB
        cases F2 with
        | nil =>
          have q : ¬ (i : Int) < 0 := by have h1 := HK.out.lf; have h2 := HLN.out; simp only [Fo.len] at h1; omega
          have HV := Bx.mk (show Ex.ok ⟨2, ta, tv, tkids⟩ = true from by unfold Ex.ok; rw [HPL.out, HD.out]; rfl)
          go_wp2_with fail
          go_ret
          exact ⟨by rw [HV.out]; rfl, HK.out.be⟩
        | cons k a v kids rest =>
          obtain ⟨sx, Kx, hnn, hil, hnext⟩ := HK.out.next
          exact absurd hil (by have := HLN.out; omega)
    · have q0 : (tv == 0) = true := by rw [beq_iff_eq]; exact h0
      have ql : ((tkids.len : Int) != 0) = true := by rw [bne_iff_ne]; omega
      have HVF := Bx.mk (show Ex.ok ⟨2, ta, tv, tkids⟩ = false from by unfold Ex.ok; rw [HPI.out, decide_eq_false (by omega : ¬ tkids.len = 0)]; simp)
      clear hl h0
      go_enter Try.func37, Try.ntmps37
      go_wp2_with fail
      refine region_stB (by kernel_rfl) (by kernel_rfl) ?_
      (repeat (refine stB_step (fun K hK => ?_); go_simp; refine hK _ ?_; clear hK K))
      refine stB_nil ?_
      go_wp2_with fail
      refine region_stB (by kernel_rfl) (by kernel_rfl) ?_
      (repeat (refine stB_step (fun K hK => ?_); go_simp; refine hK _ ?_; clear hK K))
      refine stB_nil ?_
      go_wp2_with fail
      go_ret
      exact ⟨by rw [HVF.out]; rfl, (HK0.out.step (((Below.refl _ _).drew).drew)).be⟩
  · have q0 : (tv == 0) = false := by rw [beq_eq_false_iff_ne]; exact h0
    by_cases h1 : tv = 1
    · by_cases hl : tkids.len = 0
      · have q1 : (tv == 1) = true := by rw [beq_iff_eq]; exact h1
        have HPL := Bx.mk (show Ex.plain ⟨2, ta, tv, tkids⟩ = true from by rw [HPI.out]; simp; omega)
        have HLN := Bx.mk (show tkids.len = 0 from by omega)
        have ql : ((tkids.len : Int) != 0) = false := by rw [bne_eq_false_iff_eq]; omega
        clear hl h0 h1
        go_enter Try.func37, Try.ntmps37
        go_wp2_with fail
        refine region_stB (by kernel_rfl) (by kernel_rfl) ?_
        (repeat (refine stB_step (fun K hK => ?_); go_simp; refine hK _ ?_; clear hK K))
        refine stB_nil ?_
        go_wp2_with fail
        refine region_stB (by kernel_rfl) (by kernel_rfl) ?_
        (repeat (refine stB_step (fun K hK => ?_); go_simp; refine hK _ ?_; clear hK K))
        refine stB_nil ?_
        go_wp2_with fail
        go_loopw [5] (fun j wr => ∃ (i : Nat) (F2 : Fo), j = .int .i64 (i : Int) ∧ Bx (tkids.allPlain = F2.allPlain) ∧ KL w wr b o i tkids F2 ∧ Blk wr w.heap.size 36 #[.int .i64 2, .int .i64 ta, .int .i64 tv, .slice p tkids.len cap]) (fun j _ => tkids.len - (intOf j).toNat)
        case atStart => exact ⟨0, tkids, rfl, ⟨rfl⟩, HK0.out.step (((Below.refl _ _).drew).drew), HB1.out.drew.drew⟩
        case round =>
          clear HK0 HB1 c0 c1 c2 c3
          obtain ⟨i, F2, rfl, HD, hK, hB⟩ := hrel
          have HK := Bx.mk hK
          have HB := Bx.mk hB
          obtain ⟨c0, c1, c2, c3, _, _, _, _⟩ := cells4 hB
          clear hK hB
          cases F2 with
          | nil =>
            have q : ¬ (i : Int) < 0 := by have h1 := HK.out.lf; have h2 := HLN.out; simp only [Fo.len] at h1; omega
            have HV := Bx.mk (show Ex.ok ⟨2, ta, tv, tkids⟩ = true from by unfold Ex.ok; rw [HPL.out, HD.out]; rfl)
            go_wp2_with fail
            go_ret
            exact ⟨by rw [HV.out]; rfl, HK.out.be⟩
          | cons k a v kids rest =>
            obtain ⟨sx, Kx, hnn, hil, hnext⟩ := HK.out.next
            exact absurd hil (by have := HLN.out; omega)
      · have q1 : (tv == 1) = true := by rw [beq_iff_eq]; exact h1
        have ql : ((tkids.len : Int) != 0) = true := by rw [bne_iff_ne]; omega
        have HVF := Bx.mk (show Ex.ok ⟨2, ta, tv, tkids⟩ = false from by unfold Ex.ok; rw [HPI.out, decide_eq_false (by omega : ¬ tkids.len = 0)]; simp)
        clear hl h0 h1
        go_enter Try.func37, Try.ntmps37
        go_wp2_with fail
        refine region_stB (by kernel_rfl) (by kernel_rfl) ?_
        (repeat (refine stB_step (fun K hK => ?_); go_simp; refine hK _ ?_; clear hK K))
        refine stB_nil ?_
        go_wp2_with fail
        refine region_stB (by kernel_rfl) (by kernel_rfl) ?_
        (repeat (refine stB_step (fun K hK => ?_); go_simp; refine hK _ ?_; clear hK K))
        refine stB_nil ?_
        go_wp2_with fail
        go_ret
        exact ⟨by rw [HVF.out]; rfl, (HK0.out.step (((Below.refl _ _).drew).drew)).be⟩
    · have q1 : (tv == 1) = false := by rw [beq_eq_false_iff_ne]; exact h1
      have HVF := Bx.mk (show Ex.ok ⟨2, ta, tv, tkids⟩ = false from by unfold Ex.ok; rw [HPI.out, Fz.nv (by omega)]; simp)
      clear h0 h1
      go_enter Try.func37, Try.ntmps37
      go_wp2_with fail
      refine region_stB (by kernel_rfl) (by kernel_rfl) ?_
      (repeat (refine stB_step (fun K hK => ?_); go_simp; refine hK _ ?_; clear hK K))
      refine stB_nil ?_
      go_wp2_with fail
      refine region_stB (by kernel_rfl) (by kernel_rfl) ?_
      (repeat (refine stB_step (fun K hK => ?_); go_simp; refine hK _ ?_; clear hK K))
      refine stB_nil ?_
      go_wp2_with fail
      go_ret
      exact ⟨by rw [HVF.out]; rfl, (HK0.out.step (((Below.refl _ _).drew).drew)).be⟩
set_option maxHeartbeats 16000000 in
theorem form_3 (n : Nat) (hn1 : n ≤ 1000000) (ih : Fz n) (ta tv : Int) (tkids : Fo) (p : Option Addr) (cap b o : Nat) (w : World) (hn : 1 + tkids.nodes ≤ n + 1) (hp : (tkids = .nil ∧ cap = 0) ∨ p = some ⟨b, o, none⟩) (hr : RdF w (fun g => g < w.heap.size) tkids b o) :
    Calls Try.prog 37 #[.agg #[.int .i64 3, .int .i64 ta, .int .i64 tv, .slice p tkids.len cap]] w fun e w' => e = .returned (.bool (Ex.ok ⟨3, ta, tv, tkids⟩)) ∧ Below w.heap.size w w' := by
  have hb1 := boxE w 3 ta tv (.slice p tkids.len cap)
  have HB1 := Bx.mk hb1
  obtain ⟨c0, c1, c2, c3, _, _, _, _⟩ := cells4 hb1
  have HK0 := Bx.mk (KL.start ((Below.refl w.heap.size w).alloc (Nat.le_refl _) (.cells #[.int .i64 3, .int .i64 ta, .int .i64 tv, .slice p tkids.len cap] 36)) hr)
  have HP : Bx (tkids.len ≠ 0 → p = some ⟨b, o, none⟩) := ⟨fun h => by
    rcases hp with ⟨e, _⟩ | e
    · exact absurd (by rw [e]; rfl) h
    · exact e⟩
  have HN := Bx.mk hn
  have IH := Bx.mk ih
  clear hb1 hp hr hn ih
  have hpi : Ex.plain ⟨3, ta, tv, tkids⟩ = (decide (tkids.len = 1) && (decide (0 ≤ tv) && decide (tv ≤ Ex.top 3))) := Fz.plain_iff (by omega) (Ex.kids1 (by omega))
  rw [show Ex.top 3 = 0 from by unfold Ex.top; rw [if_neg (by omega), if_neg (by omega)]] at hpi
  have HPI := Bx.mk hpi
  clear hpi
  by_cases h0 : tv = 0
  · by_cases hl : tkids.len = 1
    · have q0 : (tv == 0) = true := by rw [beq_iff_eq]; exact h0
      have HPL := Bx.mk (show Ex.plain ⟨3, ta, tv, tkids⟩ = true from by rw [HPI.out]; simp; omega)
      have HLN := Bx.mk (show tkids.len = 1 from by omega)
      have ql : ((tkids.len : Int) != 1) = false := by rw [bne_eq_false_iff_eq]; omega
      clear hl h0
      go_enter Try.func37, Try.ntmps37
      go_wp2_with fail
      refine region_stB (by kernel_rfl) (by kernel_rfl) ?_
      (repeat (refine stB_step (fun K hK => ?_); go_simp; refine hK _ ?_; clear hK K))
      refine stB_nil ?_
      go_wp2_with fail
      go_loopw [5] (fun j wr => ∃ (i : Nat) (F2 : Fo), j = .int .i64 (i : Int) ∧ Bx (tkids.allPlain = F2.allPlain) ∧ KL w wr b o i tkids F2 ∧ Blk wr w.heap.size 36 #[.int .i64 3, .int .i64 ta, .int .i64 tv, .slice p tkids.len cap]) (fun j _ => tkids.len - (intOf j).toNat)
      case atStart => exact ⟨0, tkids, rfl, ⟨rfl⟩, HK0.out.step ((Below.refl _ _).drew), HB1.out.drew⟩
      case round =>
        clear HK0 HB1 c0 c1 c2 c3
        obtain ⟨i, F2, rfl, HD, hK, hB⟩ := hrel
        have HK := Bx.mk hK
        have HB := Bx.mk hB
        obtain ⟨c0, c1, c2, c3, _, _, _, _⟩ := cells4 hB
        clear hK hB
        cases F2 with
        | nil =>
          have q : ¬ (i : Int) < 1 := by have h1 := HK.out.lf; have h2 := HLN.out; simp only [Fo.len] at h1; omega
          have HV := Bx.mk (show Ex.ok ⟨3, ta, tv, tkids⟩ = true from by unfold Ex.ok; rw [HPL.out, HD.out]; rfl)
          go_wp2_with fail
          go_ret
          exact ⟨by rw [HV.out]; rfl, HK.out.be⟩
        | cons k a v kids rest =>
          obtain ⟨sx, Kx, hnn, hil, hnext⟩ := HK.out.next
          obtain ⟨px, cx, rfl⟩ := Kx.sl.is
          have q : (i : Int) < 1 := by have := HLN.out; omega
          have q' : (i : Int) < (tkids.len : Int) := by omega
          have hpp := HP.out (by omega)
          subst hpp
          obtain ⟨x0, x1, x2, x3, xS⟩ := Kx.below HK.out.be
          simp only [] at x0 x1 x2 x3
          have HI := Bx.mk (IH.out ⟨k, a, v, kids⟩ _ _ _ (by have := HN.out; rw [Fo.nodes_on]; simp only [show Fo.nil.nodes = 0 from rfl] at this ⊢; omega) xS)
          have HV := Bx.mk (show tkids.allPlain = (Ex.ok ⟨k, a, v, kids⟩ && rest.allPlain) from by rw [HD.out]; rfl)
          have HNX := Bx.mk hnext
          have HIL := Bx.mk hil
          have hlb := HLN.out
          have b3 : -9223372036854775808 ≤ (i : Int) + 1 ∧ (i : Int) + 1 ≤ 9223372036854775807 := by omega
          have hw : wrap64 ((i : Int) + 1) = (i : Int) + 1 := w64 _ b3
          clear Kx hnn hil hnext xS hlb b3
          unfold Ev at HI
          simp only [] at HI
          cases hok : Ex.ok ⟨k, a, v, kids⟩ with
          | false =>
            have HVF := Bx.mk (show Ex.ok ⟨3, ta, tv, tkids⟩ = false from by unfold Ex.ok; rw [HV.out, hok]; simp)
            rw [hok] at HI
            clear hok
            go_wp2_with fail
            refine HI.out.mono ?_
            rintro e u ⟨rfl, hb⟩
            have HU := Bx.mk (HK.out.step hb)
            clear hb c0 c1 c2 c3
            go_wp2_with fail
            go_ret
            exact ⟨by rw [HVF.out]; rfl, HU.out.be⟩
          | true =>
            have HVT := Bx.mk (show tkids.allPlain = rest.allPlain from by rw [HV.out, hok]; rfl)
            rw [hok] at HI
            clear hok
            go_wp2_with fail
            refine HI.out.mono ?_
            rintro e u ⟨rfl, hb⟩
            have HU := Bx.mk (HNX.out u hb)
            have HBU := Bx.mk (HB.out.below hb HB.out.lt)
            clear hb c0 c1 c2 c3
            go_wp2_with fail
            refine ⟨⟨i + 1, rest, by go_num, HVT, HU.out, HBU.out⟩, ?_⟩
            rw [intOf_i, intOf_i]
            (try rw [hw])
            have := HIL.out
            clear hw
            omega
    · have q0 : (tv == 0) = true := by rw [beq_iff_eq]; exact h0
      have ql : ((tkids.len : Int) != 1) = true := by rw [bne_iff_ne]; omega
      have HVF := Bx.mk (show Ex.ok ⟨3, ta, tv, tkids⟩ = false from by unfold Ex.ok; rw [HPI.out, decide_eq_false (by omega : ¬ tkids.len = 1)]; simp)
      clear hl h0
      go_enter Try.func37, Try.ntmps37
      go_wp2_with fail
      refine region_stB (by kernel_rfl) (by kernel_rfl) ?_
      (repeat (refine stB_step (fun K hK => ?_); go_simp; refine hK _ ?_; clear hK K))
      refine stB_nil ?_
      go_wp2_with fail
      go_ret
      exact ⟨by rw [HVF.out]; rfl, (HK0.out.step ((Below.refl _ _).drew)).be⟩
  · have q0 : (tv == 0) = false := by rw [beq_eq_false_iff_ne]; exact h0
    have HVF := Bx.mk (show Ex.ok ⟨3, ta, tv, tkids⟩ = false from by unfold Ex.ok; rw [HPI.out, Fz.nv (by omega)]; simp)
    clear h0
    go_enter Try.func37, Try.ntmps37
    go_wp2_with fail
    refine region_stB (by kernel_rfl) (by kernel_rfl) ?_
    (repeat (refine stB_step (fun K hK => ?_); go_simp; refine hK _ ?_; clear hK K))
    refine stB_nil ?_
    go_wp2_with fail
    go_ret
    exact ⟨by rw [HVF.out]; rfl, (HK0.out.step ((Below.refl _ _).drew)).be⟩
set_option maxHeartbeats 16000000 in
theorem form_4 (n : Nat) (hn1 : n ≤ 1000000) (ih : Fz n) (ta tv : Int) (tkids : Fo) (p : Option Addr) (cap b o : Nat) (w : World) (hn : 1 + tkids.nodes ≤ n + 1) (hp : (tkids = .nil ∧ cap = 0) ∨ p = some ⟨b, o, none⟩) (hr : RdF w (fun g => g < w.heap.size) tkids b o) :
    Calls Try.prog 37 #[.agg #[.int .i64 4, .int .i64 ta, .int .i64 tv, .slice p tkids.len cap]] w fun e w' => e = .returned (.bool (Ex.ok ⟨4, ta, tv, tkids⟩)) ∧ Below w.heap.size w w' := by
  have hb1 := boxE w 4 ta tv (.slice p tkids.len cap)
  have HB1 := Bx.mk hb1
  obtain ⟨c0, c1, c2, c3, _, _, _, _⟩ := cells4 hb1
  have HK0 := Bx.mk (KL.start ((Below.refl w.heap.size w).alloc (Nat.le_refl _) (.cells #[.int .i64 4, .int .i64 ta, .int .i64 tv, .slice p tkids.len cap] 36)) hr)
  have HP : Bx (tkids.len ≠ 0 → p = some ⟨b, o, none⟩) := ⟨fun h => by
    rcases hp with ⟨e, _⟩ | e
    · exact absurd (by rw [e]; rfl) h
    · exact e⟩
  have HN := Bx.mk hn
  have IH := Bx.mk ih
  clear hb1 hp hr hn ih
  have hpi : Ex.plain ⟨4, ta, tv, tkids⟩ = (decide (tkids.len = 2) && (decide (0 ≤ tv) && decide (tv ≤ Ex.top 4))) := Fz.plain_iff (by omega) (Ex.kids2 (by omega))
  rw [show Ex.top 4 = 0 from by unfold Ex.top; rw [if_neg (by omega), if_neg (by omega)]] at hpi
  have HPI := Bx.mk hpi
  clear hpi
  by_cases h0 : tv = 0
  · by_cases hl : tkids.len = 2
    · have q0 : (tv == 0) = true := by rw [beq_iff_eq]; exact h0
      have HPL := Bx.mk (show Ex.plain ⟨4, ta, tv, tkids⟩ = true from by rw [HPI.out]; simp; omega)
      have HLN := Bx.mk (show tkids.len = 2 from by omega)
      have ql : ((tkids.len : Int) != 2) = false := by rw [bne_eq_false_iff_eq]; omega
      clear hl h0
      go_enter Try.func37, Try.ntmps37
      go_wp2_with fail
      refine region_stB (by kernel_rfl) (by kernel_rfl) ?_
      (repeat (refine stB_step (fun K hK => ?_); go_simp; refine hK _ ?_; clear hK K))
      refine stB_nil ?_
      go_wp2_with fail
      go_loopw [5] (fun j wr => ∃ (i : Nat) (F2 : Fo), j = .int .i64 (i : Int) ∧ Bx (tkids.allPlain = F2.allPlain) ∧ KL w wr b o i tkids F2 ∧ Blk wr w.heap.size 36 #[.int .i64 4, .int .i64 ta, .int .i64 tv, .slice p tkids.len cap]) (fun j _ => tkids.len - (intOf j).toNat)
      case atStart => exact ⟨0, tkids, rfl, ⟨rfl⟩, HK0.out.step ((Below.refl _ _).drew), HB1.out.drew⟩
      case round =>
        clear HK0 HB1 c0 c1 c2 c3
        obtain ⟨i, F2, rfl, HD, hK, hB⟩ := hrel
        have HK := Bx.mk hK
        have HB := Bx.mk hB
        obtain ⟨c0, c1, c2, c3, _, _, _, _⟩ := cells4 hB
        clear hK hB
        cases F2 with
        | nil =>
          have q : ¬ (i : Int) < 2 := by have h1 := HK.out.lf; have h2 := HLN.out; simp only [Fo.len] at h1; omega
          have HV := Bx.mk (show Ex.ok ⟨4, ta, tv, tkids⟩ = true from by unfold Ex.ok; rw [HPL.out, HD.out]; rfl)
          go_wp2_with fail
          go_ret
          exact ⟨by rw [HV.out]; rfl, HK.out.be⟩
        | cons k a v kids rest =>
          obtain ⟨sx, Kx, hnn, hil, hnext⟩ := HK.out.next
          obtain ⟨px, cx, rfl⟩ := Kx.sl.is
          have q : (i : Int) < 2 := by have := HLN.out; omega
          have q' : (i : Int) < (tkids.len : Int) := by omega
          have hpp := HP.out (by omega)
          subst hpp
          obtain ⟨x0, x1, x2, x3, xS⟩ := Kx.below HK.out.be
          simp only [] at x0 x1 x2 x3
          have HI := Bx.mk (IH.out ⟨k, a, v, kids⟩ _ _ _ (by have := HN.out; rw [Fo.nodes_on]; simp only [show Fo.nil.nodes = 0 from rfl] at this ⊢; omega) xS)
          have HV := Bx.mk (show tkids.allPlain = (Ex.ok ⟨k, a, v, kids⟩ && rest.allPlain) from by rw [HD.out]; rfl)
          have HNX := Bx.mk hnext
          have HIL := Bx.mk hil
          have hlb := HLN.out
          have b3 : -9223372036854775808 ≤ (i : Int) + 1 ∧ (i : Int) + 1 ≤ 9223372036854775807 := by omega
          have hw : wrap64 ((i : Int) + 1) = (i : Int) + 1 := w64 _ b3
          clear Kx hnn hil hnext xS hlb b3
          unfold Ev at HI
          simp only [] at HI
          cases hok : Ex.ok ⟨k, a, v, kids⟩ with
          | false =>
            have HVF := Bx.mk (show Ex.ok ⟨4, ta, tv, tkids⟩ = false from by unfold Ex.ok; rw [HV.out, hok]; simp)
            rw [hok] at HI
            clear hok
            go_wp2_with fail
            refine HI.out.mono ?_
            rintro e u ⟨rfl, hb⟩
            have HU := Bx.mk (HK.out.step hb)
            clear hb c0 c1 c2 c3
            go_wp2_with fail
            go_ret
            exact ⟨by rw [HVF.out]; rfl, HU.out.be⟩
          | true =>
            have HVT := Bx.mk (show tkids.allPlain = rest.allPlain from by rw [HV.out, hok]; rfl)
            rw [hok] at HI
            clear hok
            go_wp2_with fail
            refine HI.out.mono ?_
            rintro e u ⟨rfl, hb⟩
            have HU := Bx.mk (HNX.out u hb)
            have HBU := Bx.mk (HB.out.below hb HB.out.lt)
            clear hb c0 c1 c2 c3
            go_wp2_with fail
            refine ⟨⟨i + 1, rest, by go_num, HVT, HU.out, HBU.out⟩, ?_⟩
            rw [intOf_i, intOf_i]
            (try rw [hw])
            have := HIL.out
            clear hw
            omega
    · have q0 : (tv == 0) = true := by rw [beq_iff_eq]; exact h0
      have ql : ((tkids.len : Int) != 2) = true := by rw [bne_iff_ne]; omega
      have HVF := Bx.mk (show Ex.ok ⟨4, ta, tv, tkids⟩ = false from by unfold Ex.ok; rw [HPI.out, decide_eq_false (by omega : ¬ tkids.len = 2)]; simp)
      clear hl h0
      go_enter Try.func37, Try.ntmps37
      go_wp2_with fail
      refine region_stB (by kernel_rfl) (by kernel_rfl) ?_
      (repeat (refine stB_step (fun K hK => ?_); go_simp; refine hK _ ?_; clear hK K))
      refine stB_nil ?_
      go_wp2_with fail
      go_ret
      exact ⟨by rw [HVF.out]; rfl, (HK0.out.step ((Below.refl _ _).drew)).be⟩
  · have q0 : (tv == 0) = false := by rw [beq_eq_false_iff_ne]; exact h0
    have HVF := Bx.mk (show Ex.ok ⟨4, ta, tv, tkids⟩ = false from by unfold Ex.ok; rw [HPI.out, Fz.nv (by omega)]; simp)
    clear h0
    go_enter Try.func37, Try.ntmps37
    go_wp2_with fail
    refine region_stB (by kernel_rfl) (by kernel_rfl) ?_
    (repeat (refine stB_step (fun K hK => ?_); go_simp; refine hK _ ?_; clear hK K))
    refine stB_nil ?_
    go_wp2_with fail
    go_ret
    exact ⟨by rw [HVF.out]; rfl, (HK0.out.step ((Below.refl _ _).drew)).be⟩
set_option maxHeartbeats 16000000 in
theorem form_5 (n : Nat) (hn1 : n ≤ 1000000) (ih : Fz n) (ta tv : Int) (tkids : Fo) (p : Option Addr) (cap b o : Nat) (w : World) (hn : 1 + tkids.nodes ≤ n + 1) (hp : (tkids = .nil ∧ cap = 0) ∨ p = some ⟨b, o, none⟩) (hr : RdF w (fun g => g < w.heap.size) tkids b o) :
    Calls Try.prog 37 #[.agg #[.int .i64 5, .int .i64 ta, .int .i64 tv, .slice p tkids.len cap]] w fun e w' => e = .returned (.bool (Ex.ok ⟨5, ta, tv, tkids⟩)) ∧ Below w.heap.size w w' := by
  have hb1 := boxE w 5 ta tv (.slice p tkids.len cap)
  have HB1 := Bx.mk hb1
  obtain ⟨c0, c1, c2, c3, _, _, _, _⟩ := cells4 hb1
  have HK0 := Bx.mk (KL.start ((Below.refl w.heap.size w).alloc (Nat.le_refl _) (.cells #[.int .i64 5, .int .i64 ta, .int .i64 tv, .slice p tkids.len cap] 36)) hr)
  have HP : Bx (tkids.len ≠ 0 → p = some ⟨b, o, none⟩) := ⟨fun h => by
    rcases hp with ⟨e, _⟩ | e
    · exact absurd (by rw [e]; rfl) h
    · exact e⟩
  have HN := Bx.mk hn
  have IH := Bx.mk ih
  clear hb1 hp hr hn ih
  have hpi : Ex.plain ⟨5, ta, tv, tkids⟩ = (decide (tkids.len = 2) && (decide (0 ≤ tv) && decide (tv ≤ Ex.top 5))) := Fz.plain_iff (by omega) (Ex.kids2 (by omega))
  rw [show Ex.top 5 = 0 from by unfold Ex.top; rw [if_neg (by omega), if_neg (by omega)]] at hpi
  have HPI := Bx.mk hpi
  clear hpi
  by_cases h0 : tv = 0
  · by_cases hl : tkids.len = 2
    · have q0 : (tv == 0) = true := by rw [beq_iff_eq]; exact h0
      have HPL := Bx.mk (show Ex.plain ⟨5, ta, tv, tkids⟩ = true from by rw [HPI.out]; simp; omega)
      have HLN := Bx.mk (show tkids.len = 2 from by omega)
      have ql : ((tkids.len : Int) != 2) = false := by rw [bne_eq_false_iff_eq]; omega
      clear hl h0
      go_enter Try.func37, Try.ntmps37
      go_wp2_with fail
      refine region_stB (by kernel_rfl) (by kernel_rfl) ?_
      (repeat (refine stB_step (fun K hK => ?_); go_simp; refine hK _ ?_; clear hK K))
      refine stB_nil ?_
      go_wp2_with fail
      go_loopw [5] (fun j wr => ∃ (i : Nat) (F2 : Fo), j = .int .i64 (i : Int) ∧ Bx (tkids.allPlain = F2.allPlain) ∧ KL w wr b o i tkids F2 ∧ Blk wr w.heap.size 36 #[.int .i64 5, .int .i64 ta, .int .i64 tv, .slice p tkids.len cap]) (fun j _ => tkids.len - (intOf j).toNat)
      case atStart => exact ⟨0, tkids, rfl, ⟨rfl⟩, HK0.out.step ((Below.refl _ _).drew), HB1.out.drew⟩
      case round =>
        clear HK0 HB1 c0 c1 c2 c3
        obtain ⟨i, F2, rfl, HD, hK, hB⟩ := hrel
        have HK := Bx.mk hK
        have HB := Bx.mk hB
        obtain ⟨c0, c1, c2, c3, _, _, _, _⟩ := cells4 hB
        clear hK hB
        cases F2 with
        | nil =>
          have q : ¬ (i : Int) < 2 := by have h1 := HK.out.lf; have h2 := HLN.out; simp only [Fo.len] at h1; omega
          have HV := Bx.mk (show Ex.ok ⟨5, ta, tv, tkids⟩ = true from by unfold Ex.ok; rw [HPL.out, HD.out]; rfl)
          go_wp2_with fail
          go_ret
          exact ⟨by rw [HV.out]; rfl, HK.out.be⟩
        | cons k a v kids rest =>
          obtain ⟨sx, Kx, hnn, hil, hnext⟩ := HK.out.next
          obtain ⟨px, cx, rfl⟩ := Kx.sl.is
          have q : (i : Int) < 2 := by have := HLN.out; omega
          have q' : (i : Int) < (tkids.len : Int) := by omega
          have hpp := HP.out (by omega)
          subst hpp
          obtain ⟨x0, x1, x2, x3, xS⟩ := Kx.below HK.out.be
          simp only [] at x0 x1 x2 x3
          have HI := Bx.mk (IH.out ⟨k, a, v, kids⟩ _ _ _ (by have := HN.out; rw [Fo.nodes_on]; simp only [show Fo.nil.nodes = 0 from rfl] at this ⊢; omega) xS)
          have HV := Bx.mk (show tkids.allPlain = (Ex.ok ⟨k, a, v, kids⟩ && rest.allPlain) from by rw [HD.out]; rfl)
          have HNX := Bx.mk hnext
          have HIL := Bx.mk hil
          have hlb := HLN.out
          have b3 : -9223372036854775808 ≤ (i : Int) + 1 ∧ (i : Int) + 1 ≤ 9223372036854775807 := by omega
          have hw : wrap64 ((i : Int) + 1) = (i : Int) + 1 := w64 _ b3
          clear Kx hnn hil hnext xS hlb b3
          unfold Ev at HI
          simp only [] at HI
          cases hok : Ex.ok ⟨k, a, v, kids⟩ with
          | false =>
            have HVF := Bx.mk (show Ex.ok ⟨5, ta, tv, tkids⟩ = false from by unfold Ex.ok; rw [HV.out, hok]; simp)
            rw [hok] at HI
            clear hok
            go_wp2_with fail
            refine HI.out.mono ?_
            rintro e u ⟨rfl, hb⟩
            have HU := Bx.mk (HK.out.step hb)
            clear hb c0 c1 c2 c3
            go_wp2_with fail
            go_ret
            exact ⟨by rw [HVF.out]; rfl, HU.out.be⟩
          | true =>
            have HVT := Bx.mk (show tkids.allPlain = rest.allPlain from by rw [HV.out, hok]; rfl)
            rw [hok] at HI
            clear hok
            go_wp2_with fail
            refine HI.out.mono ?_
            rintro e u ⟨rfl, hb⟩
            have HU := Bx.mk (HNX.out u hb)
            have HBU := Bx.mk (HB.out.below hb HB.out.lt)
            clear hb c0 c1 c2 c3
            go_wp2_with fail
            refine ⟨⟨i + 1, rest, by go_num, HVT, HU.out, HBU.out⟩, ?_⟩
            rw [intOf_i, intOf_i]
            (try rw [hw])
            have := HIL.out
            clear hw
            omega
    · have q0 : (tv == 0) = true := by rw [beq_iff_eq]; exact h0
      have ql : ((tkids.len : Int) != 2) = true := by rw [bne_iff_ne]; omega
      have HVF := Bx.mk (show Ex.ok ⟨5, ta, tv, tkids⟩ = false from by unfold Ex.ok; rw [HPI.out, decide_eq_false (by omega : ¬ tkids.len = 2)]; simp)
      clear hl h0
      go_enter Try.func37, Try.ntmps37
      go_wp2_with fail
      refine region_stB (by kernel_rfl) (by kernel_rfl) ?_
      (repeat (refine stB_step (fun K hK => ?_); go_simp; refine hK _ ?_; clear hK K))
      refine stB_nil ?_
      go_wp2_with fail
      go_ret
      exact ⟨by rw [HVF.out]; rfl, (HK0.out.step ((Below.refl _ _).drew)).be⟩
  · have q0 : (tv == 0) = false := by rw [beq_eq_false_iff_ne]; exact h0
    have HVF := Bx.mk (show Ex.ok ⟨5, ta, tv, tkids⟩ = false from by unfold Ex.ok; rw [HPI.out, Fz.nv (by omega)]; simp)
    clear h0
    go_enter Try.func37, Try.ntmps37
    go_wp2_with fail
    refine region_stB (by kernel_rfl) (by kernel_rfl) ?_
    (repeat (refine stB_step (fun K hK => ?_); go_simp; refine hK _ ?_; clear hK K))
    refine stB_nil ?_
    go_wp2_with fail
    go_ret
    exact ⟨by rw [HVF.out]; rfl, (HK0.out.step ((Below.refl _ _).drew)).be⟩
set_option maxHeartbeats 16000000 in
theorem form_6 (n : Nat) (hn1 : n ≤ 1000000) (ih : Fz n) (ta tv : Int) (tkids : Fo) (p : Option Addr) (cap b o : Nat) (w : World) (hn : 1 + tkids.nodes ≤ n + 1) (hp : (tkids = .nil ∧ cap = 0) ∨ p = some ⟨b, o, none⟩) (hr : RdF w (fun g => g < w.heap.size) tkids b o) :
    Calls Try.prog 37 #[.agg #[.int .i64 6, .int .i64 ta, .int .i64 tv, .slice p tkids.len cap]] w fun e w' => e = .returned (.bool (Ex.ok ⟨6, ta, tv, tkids⟩)) ∧ Below w.heap.size w w' := by
  have hb1 := boxE w 6 ta tv (.slice p tkids.len cap)
  have HB1 := Bx.mk hb1
  obtain ⟨c0, c1, c2, c3, _, _, _, _⟩ := cells4 hb1
  have HK0 := Bx.mk (KL.start ((Below.refl w.heap.size w).alloc (Nat.le_refl _) (.cells #[.int .i64 6, .int .i64 ta, .int .i64 tv, .slice p tkids.len cap] 36)) hr)
  have HP : Bx (tkids.len ≠ 0 → p = some ⟨b, o, none⟩) := ⟨fun h => by
    rcases hp with ⟨e, _⟩ | e
    · exact absurd (by rw [e]; rfl) h
    · exact e⟩
  have HN := Bx.mk hn
  have IH := Bx.mk ih
  clear hb1 hp hr hn ih
  have hpi : Ex.plain ⟨6, ta, tv, tkids⟩ = (decide (tkids.len = 2) && (decide (0 ≤ tv) && decide (tv ≤ Ex.top 6))) := Fz.plain_iff (by omega) (Ex.kids2 (by omega))
  rw [show Ex.top 6 = 0 from by unfold Ex.top; rw [if_neg (by omega), if_neg (by omega)]] at hpi
  have HPI := Bx.mk hpi
  clear hpi
  by_cases h0 : tv = 0
  · by_cases hl : tkids.len = 2
    · have q0 : (tv == 0) = true := by rw [beq_iff_eq]; exact h0
      have HPL := Bx.mk (show Ex.plain ⟨6, ta, tv, tkids⟩ = true from by rw [HPI.out]; simp; omega)
      have HLN := Bx.mk (show tkids.len = 2 from by omega)
      have ql : ((tkids.len : Int) != 2) = false := by rw [bne_eq_false_iff_eq]; omega
      clear hl h0
      go_enter Try.func37, Try.ntmps37
      go_wp2_with fail
      refine region_stB (by kernel_rfl) (by kernel_rfl) ?_
      (repeat (refine stB_step (fun K hK => ?_); go_simp; refine hK _ ?_; clear hK K))
      refine stB_nil ?_
      go_wp2_with fail
      go_loopw [5] (fun j wr => ∃ (i : Nat) (F2 : Fo), j = .int .i64 (i : Int) ∧ Bx (tkids.allPlain = F2.allPlain) ∧ KL w wr b o i tkids F2 ∧ Blk wr w.heap.size 36 #[.int .i64 6, .int .i64 ta, .int .i64 tv, .slice p tkids.len cap]) (fun j _ => tkids.len - (intOf j).toNat)
      case atStart => exact ⟨0, tkids, rfl, ⟨rfl⟩, HK0.out.step ((Below.refl _ _).drew), HB1.out.drew⟩
      case round =>
        clear HK0 HB1 c0 c1 c2 c3
        obtain ⟨i, F2, rfl, HD, hK, hB⟩ := hrel
        have HK := Bx.mk hK
        have HB := Bx.mk hB
        obtain ⟨c0, c1, c2, c3, _, _, _, _⟩ := cells4 hB
        clear hK hB
        cases F2 with
        | nil =>
          have q : ¬ (i : Int) < 2 := by have h1 := HK.out.lf; have h2 := HLN.out; simp only [Fo.len] at h1; omega
          have HV := Bx.mk (show Ex.ok ⟨6, ta, tv, tkids⟩ = true from by unfold Ex.ok; rw [HPL.out, HD.out]; rfl)
          go_wp2_with fail
          go_ret
          exact ⟨by rw [HV.out]; rfl, HK.out.be⟩
        | cons k a v kids rest =>
          obtain ⟨sx, Kx, hnn, hil, hnext⟩ := HK.out.next
          obtain ⟨px, cx, rfl⟩ := Kx.sl.is
          have q : (i : Int) < 2 := by have := HLN.out; omega
          have q' : (i : Int) < (tkids.len : Int) := by omega
          have hpp := HP.out (by omega)
          subst hpp
          obtain ⟨x0, x1, x2, x3, xS⟩ := Kx.below HK.out.be
          simp only [] at x0 x1 x2 x3
          have HI := Bx.mk (IH.out ⟨k, a, v, kids⟩ _ _ _ (by have := HN.out; rw [Fo.nodes_on]; simp only [show Fo.nil.nodes = 0 from rfl] at this ⊢; omega) xS)
          have HV := Bx.mk (show tkids.allPlain = (Ex.ok ⟨k, a, v, kids⟩ && rest.allPlain) from by rw [HD.out]; rfl)
          have HNX := Bx.mk hnext
          have HIL := Bx.mk hil
          have hlb := HLN.out
          have b3 : -9223372036854775808 ≤ (i : Int) + 1 ∧ (i : Int) + 1 ≤ 9223372036854775807 := by omega
          have hw : wrap64 ((i : Int) + 1) = (i : Int) + 1 := w64 _ b3
          clear Kx hnn hil hnext xS hlb b3
          unfold Ev at HI
          simp only [] at HI
          cases hok : Ex.ok ⟨k, a, v, kids⟩ with
          | false =>
            have HVF := Bx.mk (show Ex.ok ⟨6, ta, tv, tkids⟩ = false from by unfold Ex.ok; rw [HV.out, hok]; simp)
            rw [hok] at HI
            clear hok
            go_wp2_with fail
            refine HI.out.mono ?_
            rintro e u ⟨rfl, hb⟩
            have HU := Bx.mk (HK.out.step hb)
            clear hb c0 c1 c2 c3
            go_wp2_with fail
            go_ret
            exact ⟨by rw [HVF.out]; rfl, HU.out.be⟩
          | true =>
            have HVT := Bx.mk (show tkids.allPlain = rest.allPlain from by rw [HV.out, hok]; rfl)
            rw [hok] at HI
            clear hok
            go_wp2_with fail
            refine HI.out.mono ?_
            rintro e u ⟨rfl, hb⟩
            have HU := Bx.mk (HNX.out u hb)
            have HBU := Bx.mk (HB.out.below hb HB.out.lt)
            clear hb c0 c1 c2 c3
            go_wp2_with fail
            refine ⟨⟨i + 1, rest, by go_num, HVT, HU.out, HBU.out⟩, ?_⟩
            rw [intOf_i, intOf_i]
            (try rw [hw])
            have := HIL.out
            clear hw
            omega
    · have q0 : (tv == 0) = true := by rw [beq_iff_eq]; exact h0
      have ql : ((tkids.len : Int) != 2) = true := by rw [bne_iff_ne]; omega
      have HVF := Bx.mk (show Ex.ok ⟨6, ta, tv, tkids⟩ = false from by unfold Ex.ok; rw [HPI.out, decide_eq_false (by omega : ¬ tkids.len = 2)]; simp)
      clear hl h0
      go_enter Try.func37, Try.ntmps37
      go_wp2_with fail
      refine region_stB (by kernel_rfl) (by kernel_rfl) ?_
      (repeat (refine stB_step (fun K hK => ?_); go_simp; refine hK _ ?_; clear hK K))
      refine stB_nil ?_
      go_wp2_with fail
      go_ret
      exact ⟨by rw [HVF.out]; rfl, (HK0.out.step ((Below.refl _ _).drew)).be⟩
  · have q0 : (tv == 0) = false := by rw [beq_eq_false_iff_ne]; exact h0
    have HVF := Bx.mk (show Ex.ok ⟨6, ta, tv, tkids⟩ = false from by unfold Ex.ok; rw [HPI.out, Fz.nv (by omega)]; simp)
    clear h0
    go_enter Try.func37, Try.ntmps37
    go_wp2_with fail
    refine region_stB (by kernel_rfl) (by kernel_rfl) ?_
    (repeat (refine stB_step (fun K hK => ?_); go_simp; refine hK _ ?_; clear hK K))
    refine stB_nil ?_
    go_wp2_with fail
    go_ret
    exact ⟨by rw [HVF.out]; rfl, (HK0.out.step ((Below.refl _ _).drew)).be⟩
set_option maxHeartbeats 16000000 in
theorem form_7 (n : Nat) (hn1 : n ≤ 1000000) (ih : Fz n) (ta tv : Int) (tkids : Fo) (p : Option Addr) (cap b o : Nat) (w : World) (hn : 1 + tkids.nodes ≤ n + 1) (hp : (tkids = .nil ∧ cap = 0) ∨ p = some ⟨b, o, none⟩) (hr : RdF w (fun g => g < w.heap.size) tkids b o) :
    Calls Try.prog 37 #[.agg #[.int .i64 7, .int .i64 ta, .int .i64 tv, .slice p tkids.len cap]] w fun e w' => e = .returned (.bool (Ex.ok ⟨7, ta, tv, tkids⟩)) ∧ Below w.heap.size w w' := by
  have hb1 := boxE w 7 ta tv (.slice p tkids.len cap)
  have HB1 := Bx.mk hb1
  obtain ⟨c0, c1, c2, c3, _, _, _, _⟩ := cells4 hb1
  have HK0 := Bx.mk (KL.start ((Below.refl w.heap.size w).alloc (Nat.le_refl _) (.cells #[.int .i64 7, .int .i64 ta, .int .i64 tv, .slice p tkids.len cap] 36)) hr)
  have HP : Bx (tkids.len ≠ 0 → p = some ⟨b, o, none⟩) := ⟨fun h => by
    rcases hp with ⟨e, _⟩ | e
    · exact absurd (by rw [e]; rfl) h
    · exact e⟩
  have HN := Bx.mk hn
  have IH := Bx.mk ih
  clear hb1 hp hr hn ih
  have hpi : Ex.plain ⟨7, ta, tv, tkids⟩ = (decide (tkids.len = 2) && (decide (0 ≤ tv) && decide (tv ≤ Ex.top 7))) := Fz.plain_iff (by omega) (Ex.kids2 (by omega))
  rw [show Ex.top 7 = 0 from by unfold Ex.top; rw [if_neg (by omega), if_neg (by omega)]] at hpi
  have HPI := Bx.mk hpi
  clear hpi
  by_cases h0 : tv = 0
  · by_cases hl : tkids.len = 2
    · have q0 : (tv == 0) = true := by rw [beq_iff_eq]; exact h0
      have HPL := Bx.mk (show Ex.plain ⟨7, ta, tv, tkids⟩ = true from by rw [HPI.out]; simp; omega)
      have HLN := Bx.mk (show tkids.len = 2 from by omega)
      have ql : ((tkids.len : Int) != 2) = false := by rw [bne_eq_false_iff_eq]; omega
      clear hl h0
      go_enter Try.func37, Try.ntmps37
      go_wp2_with fail
      refine region_stB (by kernel_rfl) (by kernel_rfl) ?_
      (repeat (refine stB_step (fun K hK => ?_); go_simp; refine hK _ ?_; clear hK K))
      refine stB_nil ?_
      go_wp2_with fail
      go_loopw [5] (fun j wr => ∃ (i : Nat) (F2 : Fo), j = .int .i64 (i : Int) ∧ Bx (tkids.allPlain = F2.allPlain) ∧ KL w wr b o i tkids F2 ∧ Blk wr w.heap.size 36 #[.int .i64 7, .int .i64 ta, .int .i64 tv, .slice p tkids.len cap]) (fun j _ => tkids.len - (intOf j).toNat)
      case atStart => exact ⟨0, tkids, rfl, ⟨rfl⟩, HK0.out.step ((Below.refl _ _).drew), HB1.out.drew⟩
      case round =>
        clear HK0 HB1 c0 c1 c2 c3
        obtain ⟨i, F2, rfl, HD, hK, hB⟩ := hrel
        have HK := Bx.mk hK
        have HB := Bx.mk hB
        obtain ⟨c0, c1, c2, c3, _, _, _, _⟩ := cells4 hB
        clear hK hB
        cases F2 with
        | nil =>
          have q : ¬ (i : Int) < 2 := by have h1 := HK.out.lf; have h2 := HLN.out; simp only [Fo.len] at h1; omega
          have HV := Bx.mk (show Ex.ok ⟨7, ta, tv, tkids⟩ = true from by unfold Ex.ok; rw [HPL.out, HD.out]; rfl)
          go_wp2_with fail
          go_ret
          exact ⟨by rw [HV.out]; rfl, HK.out.be⟩
        | cons k a v kids rest =>
          obtain ⟨sx, Kx, hnn, hil, hnext⟩ := HK.out.next
          obtain ⟨px, cx, rfl⟩ := Kx.sl.is
          have q : (i : Int) < 2 := by have := HLN.out; omega
          have q' : (i : Int) < (tkids.len : Int) := by omega
          have hpp := HP.out (by omega)
          subst hpp
          obtain ⟨x0, x1, x2, x3, xS⟩ := Kx.below HK.out.be
          simp only [] at x0 x1 x2 x3
          have HI := Bx.mk (IH.out ⟨k, a, v, kids⟩ _ _ _ (by have := HN.out; rw [Fo.nodes_on]; simp only [show Fo.nil.nodes = 0 from rfl] at this ⊢; omega) xS)
          have HV := Bx.mk (show tkids.allPlain = (Ex.ok ⟨k, a, v, kids⟩ && rest.allPlain) from by rw [HD.out]; rfl)
          have HNX := Bx.mk hnext
          have HIL := Bx.mk hil
          have hlb := HLN.out
          have b3 : -9223372036854775808 ≤ (i : Int) + 1 ∧ (i : Int) + 1 ≤ 9223372036854775807 := by omega
          have hw : wrap64 ((i : Int) + 1) = (i : Int) + 1 := w64 _ b3
          clear Kx hnn hil hnext xS hlb b3
          unfold Ev at HI
          simp only [] at HI
          cases hok : Ex.ok ⟨k, a, v, kids⟩ with
          | false =>
            have HVF := Bx.mk (show Ex.ok ⟨7, ta, tv, tkids⟩ = false from by unfold Ex.ok; rw [HV.out, hok]; simp)
            rw [hok] at HI
            clear hok
            go_wp2_with fail
            refine HI.out.mono ?_
            rintro e u ⟨rfl, hb⟩
            have HU := Bx.mk (HK.out.step hb)
            clear hb c0 c1 c2 c3
            go_wp2_with fail
            go_ret
            exact ⟨by rw [HVF.out]; rfl, HU.out.be⟩
          | true =>
            have HVT := Bx.mk (show tkids.allPlain = rest.allPlain from by rw [HV.out, hok]; rfl)
            rw [hok] at HI
            clear hok
            go_wp2_with fail
            refine HI.out.mono ?_
            rintro e u ⟨rfl, hb⟩
            have HU := Bx.mk (HNX.out u hb)
            have HBU := Bx.mk (HB.out.below hb HB.out.lt)
            clear hb c0 c1 c2 c3
            go_wp2_with fail
            refine ⟨⟨i + 1, rest, by go_num, HVT, HU.out, HBU.out⟩, ?_⟩
            rw [intOf_i, intOf_i]
            (try rw [hw])
            have := HIL.out
            clear hw
            omega
    · have q0 : (tv == 0) = true := by rw [beq_iff_eq]; exact h0
      have ql : ((tkids.len : Int) != 2) = true := by rw [bne_iff_ne]; omega
      have HVF := Bx.mk (show Ex.ok ⟨7, ta, tv, tkids⟩ = false from by unfold Ex.ok; rw [HPI.out, decide_eq_false (by omega : ¬ tkids.len = 2)]; simp)
      clear hl h0
      go_enter Try.func37, Try.ntmps37
      go_wp2_with fail
      refine region_stB (by kernel_rfl) (by kernel_rfl) ?_
      (repeat (refine stB_step (fun K hK => ?_); go_simp; refine hK _ ?_; clear hK K))
      refine stB_nil ?_
      go_wp2_with fail
      go_ret
      exact ⟨by rw [HVF.out]; rfl, (HK0.out.step ((Below.refl _ _).drew)).be⟩
  · have q0 : (tv == 0) = false := by rw [beq_eq_false_iff_ne]; exact h0
    have HVF := Bx.mk (show Ex.ok ⟨7, ta, tv, tkids⟩ = false from by unfold Ex.ok; rw [HPI.out, Fz.nv (by omega)]; simp)
    clear h0
    go_enter Try.func37, Try.ntmps37
    go_wp2_with fail
    refine region_stB (by kernel_rfl) (by kernel_rfl) ?_
    (repeat (refine stB_step (fun K hK => ?_); go_simp; refine hK _ ?_; clear hK K))
    refine stB_nil ?_
    go_wp2_with fail
    go_ret
    exact ⟨by rw [HVF.out]; rfl, (HK0.out.step ((Below.refl _ _).drew)).be⟩
set_option maxHeartbeats 16000000 in
theorem form_8 (n : Nat) (hn1 : n ≤ 1000000) (ih : Fz n) (ta tv : Int) (tkids : Fo) (p : Option Addr) (cap b o : Nat) (w : World) (hn : 1 + tkids.nodes ≤ n + 1) (hp : (tkids = .nil ∧ cap = 0) ∨ p = some ⟨b, o, none⟩) (hr : RdF w (fun g => g < w.heap.size) tkids b o) :
    Calls Try.prog 37 #[.agg #[.int .i64 8, .int .i64 ta, .int .i64 tv, .slice p tkids.len cap]] w fun e w' => e = .returned (.bool (Ex.ok ⟨8, ta, tv, tkids⟩)) ∧ Below w.heap.size w w' := by
  have hb1 := boxE w 8 ta tv (.slice p tkids.len cap)
  have HB1 := Bx.mk hb1
  obtain ⟨c0, c1, c2, c3, _, _, _, _⟩ := cells4 hb1
  have HK0 := Bx.mk (KL.start ((Below.refl w.heap.size w).alloc (Nat.le_refl _) (.cells #[.int .i64 8, .int .i64 ta, .int .i64 tv, .slice p tkids.len cap] 36)) hr)
  have HP : Bx (tkids.len ≠ 0 → p = some ⟨b, o, none⟩) := ⟨fun h => by
    rcases hp with ⟨e, _⟩ | e
    · exact absurd (by rw [e]; rfl) h
    · exact e⟩
  have HN := Bx.mk hn
  have IH := Bx.mk ih
  clear hb1 hp hr hn ih
  have hpi : Ex.plain ⟨8, ta, tv, tkids⟩ = (decide (tkids.len = 2) && (decide (0 ≤ tv) && decide (tv ≤ Ex.top 8))) := Fz.plain_iff (by omega) (Ex.kids2 (by omega))
  rw [show Ex.top 8 = 0 from by unfold Ex.top; rw [if_neg (by omega), if_neg (by omega)]] at hpi
  have HPI := Bx.mk hpi
  clear hpi
  by_cases h0 : tv = 0
  · by_cases hl : tkids.len = 2
    · have q0 : (tv == 0) = true := by rw [beq_iff_eq]; exact h0
      have HPL := Bx.mk (show Ex.plain ⟨8, ta, tv, tkids⟩ = true from by rw [HPI.out]; simp; omega)
      have HLN := Bx.mk (show tkids.len = 2 from by omega)
      have ql : ((tkids.len : Int) != 2) = false := by rw [bne_eq_false_iff_eq]; omega
      clear hl h0
      go_enter Try.func37, Try.ntmps37
      go_wp2_with fail
      refine region_stB (by kernel_rfl) (by kernel_rfl) ?_
      (repeat (refine stB_step (fun K hK => ?_); go_simp; refine hK _ ?_; clear hK K))
      refine stB_nil ?_
      go_wp2_with fail
      go_loopw [5] (fun j wr => ∃ (i : Nat) (F2 : Fo), j = .int .i64 (i : Int) ∧ Bx (tkids.allPlain = F2.allPlain) ∧ KL w wr b o i tkids F2 ∧ Blk wr w.heap.size 36 #[.int .i64 8, .int .i64 ta, .int .i64 tv, .slice p tkids.len cap]) (fun j _ => tkids.len - (intOf j).toNat)
      case atStart => exact ⟨0, tkids, rfl, ⟨rfl⟩, HK0.out.step ((Below.refl _ _).drew), HB1.out.drew⟩
      case round =>
        clear HK0 HB1 c0 c1 c2 c3
        obtain ⟨i, F2, rfl, HD, hK, hB⟩ := hrel
        have HK := Bx.mk hK
        have HB := Bx.mk hB
        obtain ⟨c0, c1, c2, c3, _, _, _, _⟩ := cells4 hB
        clear hK hB
        cases F2 with
        | nil =>
          have q : ¬ (i : Int) < 2 := by have h1 := HK.out.lf; have h2 := HLN.out; simp only [Fo.len] at h1; omega
          have HV := Bx.mk (show Ex.ok ⟨8, ta, tv, tkids⟩ = true from by unfold Ex.ok; rw [HPL.out, HD.out]; rfl)
          go_wp2_with fail
          go_ret
          exact ⟨by rw [HV.out]; rfl, HK.out.be⟩
        | cons k a v kids rest =>
          obtain ⟨sx, Kx, hnn, hil, hnext⟩ := HK.out.next
          obtain ⟨px, cx, rfl⟩ := Kx.sl.is
          have q : (i : Int) < 2 := by have := HLN.out; omega
          have q' : (i : Int) < (tkids.len : Int) := by omega
          have hpp := HP.out (by omega)
          subst hpp
          obtain ⟨x0, x1, x2, x3, xS⟩ := Kx.below HK.out.be
          simp only [] at x0 x1 x2 x3
          have HI := Bx.mk (IH.out ⟨k, a, v, kids⟩ _ _ _ (by have := HN.out; rw [Fo.nodes_on]; simp only [show Fo.nil.nodes = 0 from rfl] at this ⊢; omega) xS)
          have HV := Bx.mk (show tkids.allPlain = (Ex.ok ⟨k, a, v, kids⟩ && rest.allPlain) from by rw [HD.out]; rfl)
          have HNX := Bx.mk hnext
          have HIL := Bx.mk hil
          have hlb := HLN.out
          have b3 : -9223372036854775808 ≤ (i : Int) + 1 ∧ (i : Int) + 1 ≤ 9223372036854775807 := by omega
          have hw : wrap64 ((i : Int) + 1) = (i : Int) + 1 := w64 _ b3
          clear Kx hnn hil hnext xS hlb b3
          unfold Ev at HI
          simp only [] at HI
          cases hok : Ex.ok ⟨k, a, v, kids⟩ with
          | false =>
            have HVF := Bx.mk (show Ex.ok ⟨8, ta, tv, tkids⟩ = false from by unfold Ex.ok; rw [HV.out, hok]; simp)
            rw [hok] at HI
            clear hok
            go_wp2_with fail
            refine HI.out.mono ?_
            rintro e u ⟨rfl, hb⟩
            have HU := Bx.mk (HK.out.step hb)
            clear hb c0 c1 c2 c3
            go_wp2_with fail
            go_ret
            exact ⟨by rw [HVF.out]; rfl, HU.out.be⟩
          | true =>
            have HVT := Bx.mk (show tkids.allPlain = rest.allPlain from by rw [HV.out, hok]; rfl)
            rw [hok] at HI
            clear hok
            go_wp2_with fail
            refine HI.out.mono ?_
            rintro e u ⟨rfl, hb⟩
            have HU := Bx.mk (HNX.out u hb)
            have HBU := Bx.mk (HB.out.below hb HB.out.lt)
            clear hb c0 c1 c2 c3
            go_wp2_with fail
            refine ⟨⟨i + 1, rest, by go_num, HVT, HU.out, HBU.out⟩, ?_⟩
            rw [intOf_i, intOf_i]
            (try rw [hw])
            have := HIL.out
            clear hw
            omega
    · have q0 : (tv == 0) = true := by rw [beq_iff_eq]; exact h0
      have ql : ((tkids.len : Int) != 2) = true := by rw [bne_iff_ne]; omega
      have HVF := Bx.mk (show Ex.ok ⟨8, ta, tv, tkids⟩ = false from by unfold Ex.ok; rw [HPI.out, decide_eq_false (by omega : ¬ tkids.len = 2)]; simp)
      clear hl h0
      go_enter Try.func37, Try.ntmps37
      go_wp2_with fail
      refine region_stB (by kernel_rfl) (by kernel_rfl) ?_
      (repeat (refine stB_step (fun K hK => ?_); go_simp; refine hK _ ?_; clear hK K))
      refine stB_nil ?_
      go_wp2_with fail
      go_ret
      exact ⟨by rw [HVF.out]; rfl, (HK0.out.step ((Below.refl _ _).drew)).be⟩
  · have q0 : (tv == 0) = false := by rw [beq_eq_false_iff_ne]; exact h0
    have HVF := Bx.mk (show Ex.ok ⟨8, ta, tv, tkids⟩ = false from by unfold Ex.ok; rw [HPI.out, Fz.nv (by omega)]; simp)
    clear h0
    go_enter Try.func37, Try.ntmps37
    go_wp2_with fail
    refine region_stB (by kernel_rfl) (by kernel_rfl) ?_
    (repeat (refine stB_step (fun K hK => ?_); go_simp; refine hK _ ?_; clear hK K))
    refine stB_nil ?_
    go_wp2_with fail
    go_ret
    exact ⟨by rw [HVF.out]; rfl, (HK0.out.step ((Below.refl _ _).drew)).be⟩
set_option maxHeartbeats 16000000 in
theorem form_9 (n : Nat) (hn1 : n ≤ 1000000) (ih : Fz n) (ta tv : Int) (tkids : Fo) (p : Option Addr) (cap b o : Nat) (w : World) (hn : 1 + tkids.nodes ≤ n + 1) (hp : (tkids = .nil ∧ cap = 0) ∨ p = some ⟨b, o, none⟩) (hr : RdF w (fun g => g < w.heap.size) tkids b o) :
    Calls Try.prog 37 #[.agg #[.int .i64 9, .int .i64 ta, .int .i64 tv, .slice p tkids.len cap]] w fun e w' => e = .returned (.bool (Ex.ok ⟨9, ta, tv, tkids⟩)) ∧ Below w.heap.size w w' := by
  have hb1 := boxE w 9 ta tv (.slice p tkids.len cap)
  have HB1 := Bx.mk hb1
  obtain ⟨c0, c1, c2, c3, _, _, _, _⟩ := cells4 hb1
  have HK0 := Bx.mk (KL.start ((Below.refl w.heap.size w).alloc (Nat.le_refl _) (.cells #[.int .i64 9, .int .i64 ta, .int .i64 tv, .slice p tkids.len cap] 36)) hr)
  have HP : Bx (tkids.len ≠ 0 → p = some ⟨b, o, none⟩) := ⟨fun h => by
    rcases hp with ⟨e, _⟩ | e
    · exact absurd (by rw [e]; rfl) h
    · exact e⟩
  have HN := Bx.mk hn
  have IH := Bx.mk ih
  clear hb1 hp hr hn ih
  have hpi : Ex.plain ⟨9, ta, tv, tkids⟩ = (decide (tkids.len = 3) && (decide (0 ≤ tv) && decide (tv ≤ Ex.top 9))) := Fz.plain_iff (by omega) (Ex.kids3 rfl)
  rw [show Ex.top 9 = 0 from by unfold Ex.top; rw [if_neg (by omega), if_neg (by omega)]] at hpi
  have HPI := Bx.mk hpi
  clear hpi
  by_cases h0 : tv = 0
  · by_cases hl : tkids.len = 3
    · have q0 : (tv == 0) = true := by rw [beq_iff_eq]; exact h0
      have HPL := Bx.mk (show Ex.plain ⟨9, ta, tv, tkids⟩ = true from by rw [HPI.out]; simp; omega)
      have HLN := Bx.mk (show tkids.len = 3 from by omega)
      have ql : ((tkids.len : Int) != 3) = false := by rw [bne_eq_false_iff_eq]; omega
      clear hl h0
      go_enter Try.func37, Try.ntmps37
      go_wp2_with fail
      refine region_stB (by kernel_rfl) (by kernel_rfl) ?_
      (repeat (refine stB_step (fun K hK => ?_); go_simp; refine hK _ ?_; clear hK K))
      refine stB_nil ?_
      go_wp2_with fail
      go_loopw [5] (fun j wr => ∃ (i : Nat) (F2 : Fo), j = .int .i64 (i : Int) ∧ Bx (tkids.allPlain = F2.allPlain) ∧ KL w wr b o i tkids F2 ∧ Blk wr w.heap.size 36 #[.int .i64 9, .int .i64 ta, .int .i64 tv, .slice p tkids.len cap]) (fun j _ => tkids.len - (intOf j).toNat)
      case atStart => exact ⟨0, tkids, rfl, ⟨rfl⟩, HK0.out.step ((Below.refl _ _).drew), HB1.out.drew⟩
      case round =>
        clear HK0 HB1 c0 c1 c2 c3
        obtain ⟨i, F2, rfl, HD, hK, hB⟩ := hrel
        have HK := Bx.mk hK
        have HB := Bx.mk hB
        obtain ⟨c0, c1, c2, c3, _, _, _, _⟩ := cells4 hB
        clear hK hB
        cases F2 with
        | nil =>
          have q : ¬ (i : Int) < 3 := by have h1 := HK.out.lf; have h2 := HLN.out; simp only [Fo.len] at h1; omega
          have HV := Bx.mk (show Ex.ok ⟨9, ta, tv, tkids⟩ = true from by unfold Ex.ok; rw [HPL.out, HD.out]; rfl)
          go_wp2_with fail
          go_ret
          exact ⟨by rw [HV.out]; rfl, HK.out.be⟩
        | cons k a v kids rest =>
          obtain ⟨sx, Kx, hnn, hil, hnext⟩ := HK.out.next
          obtain ⟨px, cx, rfl⟩ := Kx.sl.is
          have q : (i : Int) < 3 := by have := HLN.out; omega
          have q' : (i : Int) < (tkids.len : Int) := by omega
          have hpp := HP.out (by omega)
          subst hpp
          obtain ⟨x0, x1, x2, x3, xS⟩ := Kx.below HK.out.be
          simp only [] at x0 x1 x2 x3
          have HI := Bx.mk (IH.out ⟨k, a, v, kids⟩ _ _ _ (by have := HN.out; rw [Fo.nodes_on]; simp only [show Fo.nil.nodes = 0 from rfl] at this ⊢; omega) xS)
          have HV := Bx.mk (show tkids.allPlain = (Ex.ok ⟨k, a, v, kids⟩ && rest.allPlain) from by rw [HD.out]; rfl)
          have HNX := Bx.mk hnext
          have HIL := Bx.mk hil
          have hlb := HLN.out
          have b3 : -9223372036854775808 ≤ (i : Int) + 1 ∧ (i : Int) + 1 ≤ 9223372036854775807 := by omega
          have hw : wrap64 ((i : Int) + 1) = (i : Int) + 1 := w64 _ b3
          clear Kx hnn hil hnext xS hlb b3
          unfold Ev at HI
          simp only [] at HI
          cases hok : Ex.ok ⟨k, a, v, kids⟩ with
          | false =>
            have HVF := Bx.mk (show Ex.ok ⟨9, ta, tv, tkids⟩ = false from by unfold Ex.ok; rw [HV.out, hok]; simp)
            rw [hok] at HI
            clear hok
            go_wp2_with fail
            refine HI.out.mono ?_
            rintro e u ⟨rfl, hb⟩
            have HU := Bx.mk (HK.out.step hb)
            clear hb c0 c1 c2 c3
            go_wp2_with fail
            go_ret
            exact ⟨by rw [HVF.out]; rfl, HU.out.be⟩
          | true =>
            have HVT := Bx.mk (show tkids.allPlain = rest.allPlain from by rw [HV.out, hok]; rfl)
            rw [hok] at HI
            clear hok
            go_wp2_with fail
            refine HI.out.mono ?_
            rintro e u ⟨rfl, hb⟩
            have HU := Bx.mk (HNX.out u hb)
            have HBU := Bx.mk (HB.out.below hb HB.out.lt)
            clear hb c0 c1 c2 c3
            go_wp2_with fail
            refine ⟨⟨i + 1, rest, by go_num, HVT, HU.out, HBU.out⟩, ?_⟩
            rw [intOf_i, intOf_i]
            (try rw [hw])
            have := HIL.out
            clear hw
            omega
    · have q0 : (tv == 0) = true := by rw [beq_iff_eq]; exact h0
      have ql : ((tkids.len : Int) != 3) = true := by rw [bne_iff_ne]; omega
      have HVF := Bx.mk (show Ex.ok ⟨9, ta, tv, tkids⟩ = false from by unfold Ex.ok; rw [HPI.out, decide_eq_false (by omega : ¬ tkids.len = 3)]; simp)
      clear hl h0
      go_enter Try.func37, Try.ntmps37
      go_wp2_with fail
      refine region_stB (by kernel_rfl) (by kernel_rfl) ?_
      (repeat (refine stB_step (fun K hK => ?_); go_simp; refine hK _ ?_; clear hK K))
      refine stB_nil ?_
      go_wp2_with fail
      go_ret
      exact ⟨by rw [HVF.out]; rfl, (HK0.out.step ((Below.refl _ _).drew)).be⟩
  · have q0 : (tv == 0) = false := by rw [beq_eq_false_iff_ne]; exact h0
    have HVF := Bx.mk (show Ex.ok ⟨9, ta, tv, tkids⟩ = false from by unfold Ex.ok; rw [HPI.out, Fz.nv (by omega)]; simp)
    clear h0
    go_enter Try.func37, Try.ntmps37
    go_wp2_with fail
    refine region_stB (by kernel_rfl) (by kernel_rfl) ?_
    (repeat (refine stB_step (fun K hK => ?_); go_simp; refine hK _ ?_; clear hK K))
    refine stB_nil ?_
    go_wp2_with fail
    go_ret
    exact ⟨by rw [HVF.out]; rfl, (HK0.out.step ((Below.refl _ _).drew)).be⟩
set_option maxHeartbeats 16000000 in
theorem form_10 (n : Nat) (hn1 : n ≤ 1000000) (ih : Fz n) (ta tv : Int) (tkids : Fo) (p : Option Addr) (cap b o : Nat) (w : World) (hn : 1 + tkids.nodes ≤ n + 1) (hp : (tkids = .nil ∧ cap = 0) ∨ p = some ⟨b, o, none⟩) (hr : RdF w (fun g => g < w.heap.size) tkids b o) :
    Calls Try.prog 37 #[.agg #[.int .i64 10, .int .i64 ta, .int .i64 tv, .slice p tkids.len cap]] w fun e w' => e = .returned (.bool (Ex.ok ⟨10, ta, tv, tkids⟩)) ∧ Below w.heap.size w w' := by
  have hb1 := boxE w 10 ta tv (.slice p tkids.len cap)
  have HB1 := Bx.mk hb1
  obtain ⟨c0, c1, c2, c3, _, _, _, _⟩ := cells4 hb1
  have HK0 := Bx.mk (KL.start ((Below.refl w.heap.size w).alloc (Nat.le_refl _) (.cells #[.int .i64 10, .int .i64 ta, .int .i64 tv, .slice p tkids.len cap] 36)) hr)
  have HP : Bx (tkids.len ≠ 0 → p = some ⟨b, o, none⟩) := ⟨fun h => by
    rcases hp with ⟨e, _⟩ | e
    · exact absurd (by rw [e]; rfl) h
    · exact e⟩
  have HN := Bx.mk hn
  have IH := Bx.mk ih
  clear hb1 hp hr hn ih
  have hpi : Ex.plain ⟨10, ta, tv, tkids⟩ = (decide (tkids.len = 1) && (decide (0 ≤ tv) && decide (tv ≤ Ex.top 10))) := Fz.plain_iff (by omega) (Ex.kids1 (by omega))
  rw [show Ex.top 10 = 7 from by unfold Ex.top; rw [if_pos (by omega)]] at hpi
  have HPI := Bx.mk hpi
  clear hpi
  by_cases h0 : tv ≥ 0
  · by_cases h7 : tv ≤ 7
    · have h0' : 0 ≤ tv := h0
      by_cases hl : tkids.len = 1
      · have HPL := Bx.mk (show Ex.plain ⟨10, ta, tv, tkids⟩ = true from by rw [HPI.out]; simp; omega)
        have HLN := Bx.mk (show tkids.len = 1 from by omega)
        have ql : ((tkids.len : Int) != 1) = false := by rw [bne_eq_false_iff_eq]; omega
        clear hl
        go_enter Try.func37, Try.ntmps37
        go_wp2_with fail
        refine region_stB (by kernel_rfl) (by kernel_rfl) ?_
        (repeat (refine stB_step (fun K hK => ?_); go_simp; refine hK _ ?_; clear hK K))
        refine stB_nil ?_
        go_wp2_with fail
        refine region_stB (by kernel_rfl) (by kernel_rfl) ?_
        (repeat (refine stB_step (fun K hK => ?_); go_simp; refine hK _ ?_; clear hK K))
        refine stB_nil ?_
        go_wp2_with fail
        go_loopw [5] (fun j wr => ∃ (i : Nat) (F2 : Fo), j = .int .i64 (i : Int) ∧ Bx (tkids.allPlain = F2.allPlain) ∧ KL w wr b o i tkids F2 ∧ Blk wr w.heap.size 36 #[.int .i64 10, .int .i64 ta, .int .i64 tv, .slice p tkids.len cap]) (fun j _ => tkids.len - (intOf j).toNat)
        case atStart => exact ⟨0, tkids, rfl, ⟨rfl⟩, HK0.out.step (((Below.refl _ _).drew).drew), HB1.out.drew.drew⟩
        case round =>
          clear HK0 HB1 c0 c1 c2 c3
          obtain ⟨i, F2, rfl, HD, hK, hB⟩ := hrel
          have HK := Bx.mk hK
          have HB := Bx.mk hB
          obtain ⟨c0, c1, c2, c3, _, _, _, _⟩ := cells4 hB
          clear hK hB
          cases F2 with
          | nil =>
            have q : ¬ (i : Int) < 1 := by have h1 := HK.out.lf; have h2 := HLN.out; simp only [Fo.len] at h1; omega
            have HV := Bx.mk (show Ex.ok ⟨10, ta, tv, tkids⟩ = true from by unfold Ex.ok; rw [HPL.out, HD.out]; rfl)
            go_wp2_with fail
            go_ret
            exact ⟨by rw [HV.out]; rfl, HK.out.be⟩
          | cons k a v kids rest =>
            obtain ⟨sx, Kx, hnn, hil, hnext⟩ := HK.out.next
            obtain ⟨px, cx, rfl⟩ := Kx.sl.is
            have q : (i : Int) < 1 := by have := HLN.out; omega
            have q' : (i : Int) < (tkids.len : Int) := by omega
            have hpp := HP.out (by omega)
            subst hpp
            obtain ⟨x0, x1, x2, x3, xS⟩ := Kx.below HK.out.be
            simp only [] at x0 x1 x2 x3
            have HI := Bx.mk (IH.out ⟨k, a, v, kids⟩ _ _ _ (by have := HN.out; rw [Fo.nodes_on]; simp only [show Fo.nil.nodes = 0 from rfl] at this ⊢; omega) xS)
            have HV := Bx.mk (show tkids.allPlain = (Ex.ok ⟨k, a, v, kids⟩ && rest.allPlain) from by rw [HD.out]; rfl)
            have HNX := Bx.mk hnext
            have HIL := Bx.mk hil
            have hlb := HLN.out
            have b3 : -9223372036854775808 ≤ (i : Int) + 1 ∧ (i : Int) + 1 ≤ 9223372036854775807 := by omega
            have hw : wrap64 ((i : Int) + 1) = (i : Int) + 1 := w64 _ b3
            clear Kx hnn hil hnext xS hlb b3
            unfold Ev at HI
            simp only [] at HI
            cases hok : Ex.ok ⟨k, a, v, kids⟩ with
            | false =>
              have HVF := Bx.mk (show Ex.ok ⟨10, ta, tv, tkids⟩ = false from by unfold Ex.ok; rw [HV.out, hok]; simp)
              rw [hok] at HI
              clear hok
              go_wp2_with fail
              refine HI.out.mono ?_
              rintro e u ⟨rfl, hb⟩
              have HU := Bx.mk (HK.out.step hb)
              clear hb c0 c1 c2 c3
              go_wp2_with fail
              go_ret
              exact ⟨by rw [HVF.out]; rfl, HU.out.be⟩
            | true =>
              have HVT := Bx.mk (show tkids.allPlain = rest.allPlain from by rw [HV.out, hok]; rfl)
              rw [hok] at HI
              clear hok
              go_wp2_with fail
              refine HI.out.mono ?_
              rintro e u ⟨rfl, hb⟩
              have HU := Bx.mk (HNX.out u hb)
              have HBU := Bx.mk (HB.out.below hb HB.out.lt)
              clear hb c0 c1 c2 c3
              go_wp2_with fail
              refine ⟨⟨i + 1, rest, by go_num, HVT, HU.out, HBU.out⟩, ?_⟩
              rw [intOf_i, intOf_i]
              (try rw [hw])
              have := HIL.out
              clear hw
              omega
      · have ql : ((tkids.len : Int) != 1) = true := by rw [bne_iff_ne]; omega
        have HVF := Bx.mk (show Ex.ok ⟨10, ta, tv, tkids⟩ = false from by unfold Ex.ok; rw [HPI.out, decide_eq_false (by omega : ¬ tkids.len = 1)]; simp)
        clear hl
        go_enter Try.func37, Try.ntmps37
        go_wp2_with fail
        refine region_stB (by kernel_rfl) (by kernel_rfl) ?_
        (repeat (refine stB_step (fun K hK => ?_); go_simp; refine hK _ ?_; clear hK K))
        refine stB_nil ?_
        go_wp2_with fail
        refine region_stB (by kernel_rfl) (by kernel_rfl) ?_
        (repeat (refine stB_step (fun K hK => ?_); go_simp; refine hK _ ?_; clear hK K))
        refine stB_nil ?_
        go_wp2_with fail
        go_ret
        exact ⟨by rw [HVF.out]; rfl, (HK0.out.step (((Below.refl _ _).drew).drew)).be⟩
    · have hd7 : decide (tv ≤ 7) = false := decide_eq_false h7
      have h0' : 0 ≤ tv := h0
      have HVF := Bx.mk (show Ex.ok ⟨10, ta, tv, tkids⟩ = false from by unfold Ex.ok; rw [HPI.out, decide_eq_false (by omega : ¬ tv ≤ 7)]; simp)
      go_enter Try.func37, Try.ntmps37
      go_wp2_with fail
      refine region_stB (by kernel_rfl) (by kernel_rfl) ?_
      (repeat (refine stB_step (fun K hK => ?_); go_simp; refine hK _ ?_; clear hK K))
      refine stB_nil ?_
      go_wp2_with fail
      refine region_stB (by kernel_rfl) (by kernel_rfl) ?_
      (repeat (refine stB_step (fun K hK => ?_); go_simp; refine hK _ ?_; clear hK K))
      refine stB_nil ?_
      go_wp2_with fail
      go_ret
      exact ⟨by rw [HVF.out]; rfl, (HK0.out.step (((Below.refl _ _).drew).drew)).be⟩
  · have hd0 : decide (0 ≤ tv) = false := decide_eq_false (by omega)
    have hd0' : decide (tv ≥ 0) = false := decide_eq_false h0
    have HVF := Bx.mk (show Ex.ok ⟨10, ta, tv, tkids⟩ = false from by unfold Ex.ok; rw [HPI.out, decide_eq_false (by omega : ¬ 0 ≤ tv)]; simp)
    go_enter Try.func37, Try.ntmps37
    go_wp2_with fail
    refine region_stB (by kernel_rfl) (by kernel_rfl) ?_
    (repeat (refine stB_step (fun K hK => ?_); go_simp; refine hK _ ?_; clear hK K))
    refine stB_nil ?_
    go_wp2_with fail
    refine region_stB (by kernel_rfl) (by kernel_rfl) ?_
    (repeat (refine stB_step (fun K hK => ?_); go_simp; refine hK _ ?_; clear hK K))
    refine stB_nil ?_
    go_wp2_with fail
    go_ret
    exact ⟨by rw [HVF.out]; rfl, (HK0.out.step (((Below.refl _ _).drew).drew)).be⟩
set_option maxHeartbeats 16000000 in
theorem form_11 (n : Nat) (hn1 : n ≤ 1000000) (ih : Fz n) (ta tv : Int) (tkids : Fo) (p : Option Addr) (cap b o : Nat) (w : World) (hn : 1 + tkids.nodes ≤ n + 1) (hp : (tkids = .nil ∧ cap = 0) ∨ p = some ⟨b, o, none⟩) (hr : RdF w (fun g => g < w.heap.size) tkids b o) :
    Calls Try.prog 37 #[.agg #[.int .i64 11, .int .i64 ta, .int .i64 tv, .slice p tkids.len cap]] w fun e w' => e = .returned (.bool (Ex.ok ⟨11, ta, tv, tkids⟩)) ∧ Below w.heap.size w w' := by
  have hb1 := boxE w 11 ta tv (.slice p tkids.len cap)
  have HB1 := Bx.mk hb1
  obtain ⟨c0, c1, c2, c3, _, _, _, _⟩ := cells4 hb1
  have HK0 := Bx.mk (KL.start ((Below.refl w.heap.size w).alloc (Nat.le_refl _) (.cells #[.int .i64 11, .int .i64 ta, .int .i64 tv, .slice p tkids.len cap] 36)) hr)
  have HP : Bx (tkids.len ≠ 0 → p = some ⟨b, o, none⟩) := ⟨fun h => by
    rcases hp with ⟨e, _⟩ | e
    · exact absurd (by rw [e]; rfl) h
    · exact e⟩
  have HN := Bx.mk hn
  have IH := Bx.mk ih
  clear hb1 hp hr hn ih
  have hpi : Ex.plain ⟨11, ta, tv, tkids⟩ = (decide (tkids.len = 1) && (decide (0 ≤ tv) && decide (tv ≤ Ex.top 11))) := Fz.plain_iff (by omega) (Ex.kids1 (by omega))
  rw [show Ex.top 11 = 7 from by unfold Ex.top; rw [if_pos (by omega)]] at hpi
  have HPI := Bx.mk hpi
  clear hpi
  by_cases h0 : tv ≥ 0
  · by_cases h7 : tv ≤ 7
    · have h0' : 0 ≤ tv := h0
      by_cases hl : tkids.len = 1
      · have HPL := Bx.mk (show Ex.plain ⟨11, ta, tv, tkids⟩ = true from by rw [HPI.out]; simp; omega)
        have HLN := Bx.mk (show tkids.len = 1 from by omega)
        have ql : ((tkids.len : Int) != 1) = false := by rw [bne_eq_false_iff_eq]; omega
        clear hl
        go_enter Try.func37, Try.ntmps37
        go_wp2_with fail
        refine region_stB (by kernel_rfl) (by kernel_rfl) ?_
        (repeat (refine stB_step (fun K hK => ?_); go_simp; refine hK _ ?_; clear hK K))
        refine stB_nil ?_
        go_wp2_with fail
        refine region_stB (by kernel_rfl) (by kernel_rfl) ?_
        (repeat (refine stB_step (fun K hK => ?_); go_simp; refine hK _ ?_; clear hK K))
        refine stB_nil ?_
        go_wp2_with fail
        go_loopw [5] (fun j wr => ∃ (i : Nat) (F2 : Fo), j = .int .i64 (i : Int) ∧ Bx (tkids.allPlain = F2.allPlain) ∧ KL w wr b o i tkids F2 ∧ Blk wr w.heap.size 36 #[.int .i64 11, .int .i64 ta, .int .i64 tv, .slice p tkids.len cap]) (fun j _ => tkids.len - (intOf j).toNat)
        case atStart => exact ⟨0, tkids, rfl, ⟨rfl⟩, HK0.out.step (((Below.refl _ _).drew).drew), HB1.out.drew.drew⟩
        case round =>
          clear HK0 HB1 c0 c1 c2 c3
          obtain ⟨i, F2, rfl, HD, hK, hB⟩ := hrel
          have HK := Bx.mk hK
          have HB := Bx.mk hB
          obtain ⟨c0, c1, c2, c3, _, _, _, _⟩ := cells4 hB
          clear hK hB
          cases F2 with
          | nil =>
            have q : ¬ (i : Int) < 1 := by have h1 := HK.out.lf; have h2 := HLN.out; simp only [Fo.len] at h1; omega
            have HV := Bx.mk (show Ex.ok ⟨11, ta, tv, tkids⟩ = true from by unfold Ex.ok; rw [HPL.out, HD.out]; rfl)
            go_wp2_with fail
            go_ret
            exact ⟨by rw [HV.out]; rfl, HK.out.be⟩
          | cons k a v kids rest =>
            obtain ⟨sx, Kx, hnn, hil, hnext⟩ := HK.out.next
            obtain ⟨px, cx, rfl⟩ := Kx.sl.is
            have q : (i : Int) < 1 := by have := HLN.out; omega
            have q' : (i : Int) < (tkids.len : Int) := by omega
            have hpp := HP.out (by omega)
            subst hpp
            obtain ⟨x0, x1, x2, x3, xS⟩ := Kx.below HK.out.be
            simp only [] at x0 x1 x2 x3
            have HI := Bx.mk (IH.out ⟨k, a, v, kids⟩ _ _ _ (by have := HN.out; rw [Fo.nodes_on]; simp only [show Fo.nil.nodes = 0 from rfl] at this ⊢; omega) xS)
            have HV := Bx.mk (show tkids.allPlain = (Ex.ok ⟨k, a, v, kids⟩ && rest.allPlain) from by rw [HD.out]; rfl)
            have HNX := Bx.mk hnext
            have HIL := Bx.mk hil
            have hlb := HLN.out
            have b3 : -9223372036854775808 ≤ (i : Int) + 1 ∧ (i : Int) + 1 ≤ 9223372036854775807 := by omega
            have hw : wrap64 ((i : Int) + 1) = (i : Int) + 1 := w64 _ b3
            clear Kx hnn hil hnext xS hlb b3
            unfold Ev at HI
            simp only [] at HI
            cases hok : Ex.ok ⟨k, a, v, kids⟩ with
            | false =>
              have HVF := Bx.mk (show Ex.ok ⟨11, ta, tv, tkids⟩ = false from by unfold Ex.ok; rw [HV.out, hok]; simp)
              rw [hok] at HI
              clear hok
              go_wp2_with fail
              refine HI.out.mono ?_
              rintro e u ⟨rfl, hb⟩
              have HU := Bx.mk (HK.out.step hb)
              clear hb c0 c1 c2 c3
              go_wp2_with fail
              go_ret
              exact ⟨by rw [HVF.out]; rfl, HU.out.be⟩
            | true =>
              have HVT := Bx.mk (show tkids.allPlain = rest.allPlain from by rw [HV.out, hok]; rfl)
              rw [hok] at HI
              clear hok
              go_wp2_with fail
              refine HI.out.mono ?_
              rintro e u ⟨rfl, hb⟩
              have HU := Bx.mk (HNX.out u hb)
              have HBU := Bx.mk (HB.out.below hb HB.out.lt)
              clear hb c0 c1 c2 c3
              go_wp2_with fail
              refine ⟨⟨i + 1, rest, by go_num, HVT, HU.out, HBU.out⟩, ?_⟩
              rw [intOf_i, intOf_i]
              (try rw [hw])
              have := HIL.out
              clear hw
              omega
      · have ql : ((tkids.len : Int) != 1) = true := by rw [bne_iff_ne]; omega
        have HVF := Bx.mk (show Ex.ok ⟨11, ta, tv, tkids⟩ = false from by unfold Ex.ok; rw [HPI.out, decide_eq_false (by omega : ¬ tkids.len = 1)]; simp)
        clear hl
        go_enter Try.func37, Try.ntmps37
        go_wp2_with fail
        refine region_stB (by kernel_rfl) (by kernel_rfl) ?_
        (repeat (refine stB_step (fun K hK => ?_); go_simp; refine hK _ ?_; clear hK K))
        refine stB_nil ?_
        go_wp2_with fail
        refine region_stB (by kernel_rfl) (by kernel_rfl) ?_
        (repeat (refine stB_step (fun K hK => ?_); go_simp; refine hK _ ?_; clear hK K))
        refine stB_nil ?_
        go_wp2_with fail
        go_ret
        exact ⟨by rw [HVF.out]; rfl, (HK0.out.step (((Below.refl _ _).drew).drew)).be⟩
    · have hd7 : decide (tv ≤ 7) = false := decide_eq_false h7
      have h0' : 0 ≤ tv := h0
      have HVF := Bx.mk (show Ex.ok ⟨11, ta, tv, tkids⟩ = false from by unfold Ex.ok; rw [HPI.out, decide_eq_false (by omega : ¬ tv ≤ 7)]; simp)
      go_enter Try.func37, Try.ntmps37
      go_wp2_with fail
      refine region_stB (by kernel_rfl) (by kernel_rfl) ?_
      (repeat (refine stB_step (fun K hK => ?_); go_simp; refine hK _ ?_; clear hK K))
      refine stB_nil ?_
      go_wp2_with fail
      refine region_stB (by kernel_rfl) (by kernel_rfl) ?_
      (repeat (refine stB_step (fun K hK => ?_); go_simp; refine hK _ ?_; clear hK K))
      refine stB_nil ?_
      go_wp2_with fail
      go_ret
      exact ⟨by rw [HVF.out]; rfl, (HK0.out.step (((Below.refl _ _).drew).drew)).be⟩
  · have hd0 : decide (0 ≤ tv) = false := decide_eq_false (by omega)
    have hd0' : decide (tv ≥ 0) = false := decide_eq_false h0
    have HVF := Bx.mk (show Ex.ok ⟨11, ta, tv, tkids⟩ = false from by unfold Ex.ok; rw [HPI.out, decide_eq_false (by omega : ¬ 0 ≤ tv)]; simp)
    go_enter Try.func37, Try.ntmps37
    go_wp2_with fail
    refine region_stB (by kernel_rfl) (by kernel_rfl) ?_
    (repeat (refine stB_step (fun K hK => ?_); go_simp; refine hK _ ?_; clear hK K))
    refine stB_nil ?_
    go_wp2_with fail
    refine region_stB (by kernel_rfl) (by kernel_rfl) ?_
    (repeat (refine stB_step (fun K hK => ?_); go_simp; refine hK _ ?_; clear hK K))
    refine stB_nil ?_
    go_wp2_with fail
    go_ret
    exact ⟨by rw [HVF.out]; rfl, (HK0.out.step (((Below.refl _ _).drew).drew)).be⟩
set_option maxHeartbeats 16000000 in
theorem form_0 (n : Nat) (hn1 : n ≤ 1000000) (ih : Fz n) (tk : Int) (hk : tk < 1 ∨ 11 < tk) (ta tv : Int) (tkids : Fo) (p : Option Addr) (cap b o : Nat) (w : World) (hn : 1 + tkids.nodes ≤ n + 1) (hp : (tkids = .nil ∧ cap = 0) ∨ p = some ⟨b, o, none⟩) (hr : RdF w (fun g => g < w.heap.size) tkids b o) :
    Calls Try.prog 37 #[.agg #[.int .i64 tk, .int .i64 ta, .int .i64 tv, .slice p tkids.len cap]] w fun e w' => e = .returned (.bool (Ex.ok ⟨tk, ta, tv, tkids⟩)) ∧ Below w.heap.size w w' := by
  have hb1 := boxE w tk ta tv (.slice p tkids.len cap)
  have HB1 := Bx.mk hb1
  obtain ⟨c0, c1, c2, c3, _, _, _, _⟩ := cells4 hb1
  have HK0 := Bx.mk (KL.start ((Below.refl w.heap.size w).alloc (Nat.le_refl _) (.cells #[.int .i64 tk, .int .i64 ta, .int .i64 tv, .slice p tkids.len cap] 36)) hr)
  have HP : Bx (tkids.len ≠ 0 → p = some ⟨b, o, none⟩) := ⟨fun h => by
    rcases hp with ⟨e, _⟩ | e
    · exact absurd (by rw [e]; rfl) h
    · exact e⟩
  have HN := Bx.mk hn
  have IH := Bx.mk ih
  clear hb1 hp hr hn ih
  have q1 : (tk == 1) = false := by rw [beq_eq_false_iff_ne]; omega
  have q2 : (tk == 2) = false := by rw [beq_eq_false_iff_ne]; omega
  have q3 : (tk == 3) = false := by rw [beq_eq_false_iff_ne]; omega
  have q4 : (tk == 4) = false := by rw [beq_eq_false_iff_ne]; omega
  have q5 : (tk == 5) = false := by rw [beq_eq_false_iff_ne]; omega
  have q6 : (tk == 6) = false := by rw [beq_eq_false_iff_ne]; omega
  have q7 : (tk == 7) = false := by rw [beq_eq_false_iff_ne]; omega
  have q8 : (tk == 8) = false := by rw [beq_eq_false_iff_ne]; omega
  have q9 : (tk == 9) = false := by rw [beq_eq_false_iff_ne]; omega
  have q10 : (tk == 10) = false := by rw [beq_eq_false_iff_ne]; omega
  have q11 : (tk == 11) = false := by rw [beq_eq_false_iff_ne]; omega
  have HVF := Bx.mk (show Ex.ok ⟨tk, ta, tv, tkids⟩ = false from by unfold Ex.ok Ex.plain; simp; omega)
  clear hk
  go_enter Try.func37, Try.ntmps37
  go_wp2_with fail
  refine region_stB (by kernel_rfl) (by kernel_rfl) ?_
  (repeat (refine stB_step (fun K hK => ?_); go_simp; refine hK _ ?_; clear hK K))
  refine stB_nil ?_
  go_wp2_with fail
  go_ret
  exact ⟨by rw [HVF.out]; rfl, (HK0.out.step ((Below.refl _ _).drew)).be⟩
theorem Fz.succ (n : Nat) (hn1 : n ≤ 1000000) (ih : Fz n) : Fz (n + 1) := by
  intro t sl B w hn hs
  obtain ⟨k, a, v, kids⟩ := t
  rw [Fo.nodes_on] at hn
  simp only [show Fo.nil.nodes = 0 from rfl, Nat.add_zero] at hn
  obtain ⟨p, cap, b, o, rfl, hp, hc, hr⟩ := hs
  have hr2 := hr.lows
  unfold Ev
  simp only [] at hp hr2 ⊢
  by_cases hk : 1 ≤ k ∧ k ≤ 11
  · have hc : k = 1 ∨ k = 2 ∨ k = 3 ∨ k = 4 ∨ k = 5 ∨ k = 6 ∨ k = 7 ∨ k = 8 ∨ k = 9 ∨ k = 10 ∨ k = 11 := by omega
    clear hk
    rcases hc with rfl | rfl | rfl | rfl | rfl | rfl | rfl | rfl | rfl | rfl | rfl
    · exact form_1 n hn1 ih a v kids p cap b o w hn hp hr2
    · exact form_2 n hn1 ih a v kids p cap b o w hn hp hr2
    · exact form_3 n hn1 ih a v kids p cap b o w hn hp hr2
    · exact form_4 n hn1 ih a v kids p cap b o w hn hp hr2
    · exact form_5 n hn1 ih a v kids p cap b o w hn hp hr2
    · exact form_6 n hn1 ih a v kids p cap b o w hn hp hr2
    · exact form_7 n hn1 ih a v kids p cap b o w hn hp hr2
    · exact form_8 n hn1 ih a v kids p cap b o w hn hp hr2
    · exact form_9 n hn1 ih a v kids p cap b o w hn hp hr2
    · exact form_10 n hn1 ih a v kids p cap b o w hn hp hr2
    · exact form_11 n hn1 ih a v kids p cap b o w hn hp hr2
  · exact form_0 n hn1 ih k (by omega) a v kids p cap b o w hn hp hr2
theorem Fz.all : ∀ n, n ≤ 1000000 → Fz n
  | 0, _ => fun t sl B u h => by rw [Fo.nodes_on] at h; omega
  | n + 1, h => Fz.succ n (by omega) (Fz.all n (by omega))
theorem form_any (t : Tr) (sl : Value) (B : Nat → Prop) (u : World) (hn : (t.on .nil).nodes ≤ 1000000) (hs : SlF u B sl t.kids) :
    Calls Try.prog 37 #[Ev t sl] u fun e w' => e = .returned (.bool (Ex.ok t)) ∧ Below u.heap.size u w' := Fz.all _ (Nat.le_refl _) t sl B u hn hs
end Go.Proofs.Ytfgokhafiffbaaa

/-
  Tables, more: what they hang on, how many assignments make them true, the least. No program in sight.
-/
namespace Go.Proofs.Ytfgokhafiffbaaa
set_option linter.unusedVariables false
namespace Tb
theorem supTo_same {f : T} {k : Nat} (h : fix f (k : Int) false = fix f (k : Int) true) : (supTo f k : Int) = (supTo f (k + 1) : Int) := by
  rw [show supTo f (k + 1) = supTo f k from by rw [supTo]; simp [h]]
theorem supTo_other {f : T} {k : Nat} (h : ¬ fix f (k : Int) false = fix f (k : Int) true) (hk : k < 8) : bits .or .u8 (supTo f k : Int) (2 ^ k % 256) = (supTo f (k + 1) : Int) := by
  have e : (2 : Int) ^ k % 256 = ((2 ^ k : Nat) : Int) := by
    have : k = 0 ∨ k = 1 ∨ k = 2 ∨ k = 3 ∨ k = 4 ∨ k = 5 ∨ k = 6 ∨ k = 7 := by omega
    rcases this with h | h | h | h | h | h | h | h <;> subst h <;> decide
  have hp : 2 ^ k < 256 := Nat.pow_lt_pow_right (by omega) hk
  rw [e, u8_or_nat _ _ (supTo_lt f k (by omega)) hp]
  rw [show supTo f (k + 1) = supTo f k ||| 2 ^ k from by rw [supTo]; simp [h]]
end Tb
end Go.Proofs.Ytfgokhafiffbaaa

/-
  Counting bits in parallel: what math/bits.OnesCount64 computes is how many bits are set. No program in sight.
-/
namespace Go.Proofs.Ytfgokhafiffbaaa
set_option linter.unusedVariables false
namespace Oc
open Bt

def rep (c : Nat) : Nat → Nat
  | 0 => 0
  | n + 1 => c + 256 * rep c n

theorem and_split (a b c d : Nat) (ha : a < 256) (hc : c < 256) : (a + 256 * b) &&& (c + 256 * d) = (a &&& c) + 256 * (b &&& d) := by
  have h1 : ∀ u v : Nat, u < 256 → u + 256 * v = 2 ^ 8 * v ||| u := fun u v hu => by
    rw [Nat.add_comm, ← Nat.two_pow_add_eq_or_of_lt (i := 8) (by omega)]
  have hac : a &&& c < 256 := Nat.lt_of_le_of_lt Nat.and_le_left ha
  apply Nat.eq_of_testBit_eq
  intro i
  rw [Nat.testBit_and, h1 a b ha, h1 c d hc, h1 _ _ hac]
  simp only [Nat.testBit_or, Nat.testBit_and, Nat.testBit_two_pow_mul]
  by_cases hi : 8 ≤ i
  · have e1 : a.testBit i = false := Nat.testBit_lt_two_pow (Nat.lt_of_lt_of_le ha (Nat.pow_le_pow_right (n := 2) (by omega) hi))
    have e2 : c.testBit i = false := Nat.testBit_lt_two_pow (Nat.lt_of_lt_of_le hc (Nat.pow_le_pow_right (n := 2) (by omega) hi))
    simp [e1, e2, hi]
  · simp [hi]

def f1 (n x : Nat) : Nat := ((x / 2) &&& rep 85 n) + (x &&& rep 85 n)
def f2 (n x : Nat) : Nat := ((x / 4) &&& rep 51 n) + (x &&& rep 51 n)
def f3 (n x : Nat) : Nat := (x / 16 + x) &&& rep 15 n

theorem d1 : ∀ b : Nat, b < 256 → ∀ k : Nat, k < 2 → (b / 2 + 128 * k) &&& 85 = (b / 2) &&& 85 := by decide +kernel
theorem d2 : ∀ b : Nat, b < 256 → ∀ k : Nat, k < 4 → (b / 4 + 64 * k) &&& 51 = (b / 4) &&& 51 := by decide +kernel
theorem d3 : ∀ b : Nat, b < 69 → ∀ k : Nat, k < 16 → k < 5 → (b / 16 + b + 16 * k) &&& 15 = (b / 16 + b) &&& 15 := by decide +kernel

theorem f1_succ (n x : Nat) : f1 (n + 1) x = f1 1 (x % 256) + 256 * f1 n (x / 256) := by
  have e1 : x / 2 = ((x % 256) / 2 + 128 * (x / 256 % 2)) + 256 * (x / 256 / 2) := by omega
  have e2 : x = x % 256 + 256 * (x / 256) := by omega
  have a1 := and_split ((x % 256) / 2 + 128 * (x / 256 % 2)) (x / 256 / 2) 85 (rep 85 n) (by omega) (by omega)
  have a2 := and_split (x % 256) (x / 256) 85 (rep 85 n) (by omega) (by omega)
  have h := d1 (x % 256) (by omega) (x / 256 % 2) (by omega)
  unfold f1
  simp only [rep, Nat.mul_zero, Nat.add_zero]
  rw [← e1] at a1
  rw [← e2] at a2
  rw [a1, a2, h]
  omega
theorem f2_succ (n x : Nat) : f2 (n + 1) x = f2 1 (x % 256) + 256 * f2 n (x / 256) := by
  have e1 : x / 4 = ((x % 256) / 4 + 64 * (x / 256 % 4)) + 256 * (x / 256 / 4) := by omega
  have e2 : x = x % 256 + 256 * (x / 256) := by omega
  have a1 := and_split ((x % 256) / 4 + 64 * (x / 256 % 4)) (x / 256 / 4) 51 (rep 51 n) (by omega) (by omega)
  have a2 := and_split (x % 256) (x / 256) 51 (rep 51 n) (by omega) (by omega)
  have h := d2 (x % 256) (by omega) (x / 256 % 4) (by omega)
  unfold f2
  simp only [rep, Nat.mul_zero, Nat.add_zero]
  rw [← e1] at a1
  rw [← e2] at a2
  rw [a1, a2, h]
  omega
theorem f3_succ (n x : Nat) (hb : x % 256 < 69) (hk : x / 256 % 16 < 5) : f3 (n + 1) x = f3 1 (x % 256) + 256 * f3 n (x / 256) := by
  have e1 : x / 16 + x = ((x % 256) / 16 + x % 256 + 16 * (x / 256 % 16)) + 256 * (x / 256 / 16 + x / 256) := by omega
  have a1 := and_split ((x % 256) / 16 + x % 256 + 16 * (x / 256 % 16)) (x / 256 / 16 + x / 256) 15 (rep 15 n) (by omega) (by omega)
  have h := d3 (x % 256) hb (x / 256 % 16) (by omega) hk
  unfold f3
  simp only [rep, Nat.mul_zero, Nat.add_zero]
  rw [e1, a1, h]

theorem byte1 : ∀ b : Nat, b < 256 → f1 1 b < 171 := by decide +kernel
theorem byte2 : ∀ b : Nat, b < 256 → f2 1 (f1 1 b) < 69 ∧ f2 1 (f1 1 b) % 16 < 5 := by decide +kernel
theorem byte3 : ∀ b : Nat, b < 256 → f3 1 (f2 1 (f1 1 b)) = pc b := by decide +kernel

/-- all three steps, byte by byte -/
theorem three (n : Nat) : ∀ x, f3 (n + 1) (f2 (n + 1) (f1 (n + 1) x)) = pc (x % 256) + 256 * f3 n (f2 n (f1 n (x / 256))) ∧ f2 n (f1 n x) % 16 < 5 := by
  have low : ∀ n x, f1 (n + 1) x % 256 = f1 1 (x % 256) ∧ f1 (n + 1) x / 256 = f1 n (x / 256) := fun n x => by
    have := byte1 (x % 256) (by omega)
    rw [f1_succ]; omega
  have low2 : ∀ n x, f2 (n + 1) (f1 (n + 1) x) = f2 1 (f1 1 (x % 256)) + 256 * f2 n (f1 n (x / 256)) := fun n x => by
    rw [f2_succ, (low n x).1, (low n x).2]
  have nib : ∀ n x, f2 n (f1 n x) % 16 < 5 := fun n x => by
    cases n with
    | zero => simp [f2, rep]
    | succ n => rw [low2]; have := byte2 (x % 256) (by omega); omega
  intro x
  refine ⟨?_, nib n x⟩
  have hb := byte2 (x % 256) (by omega)
  have hn := nib n (x / 256)
  have e := low2 n x
  have e1 : f2 (n + 1) (f1 (n + 1) x) % 256 = f2 1 (f1 1 (x % 256)) := by omega
  have e2 : f2 (n + 1) (f1 (n + 1) x) / 256 = f2 n (f1 n (x / 256)) := by omega
  rw [f3_succ n _ (by omega) (by omega), e1, e2, byte3 (x % 256) (by omega)]

theorem pcF_zero' (f : Nat) : pcF f 0 = 0 := pcF_zero f
theorem pc_two (n : Nat) (h : n < 18446744073709551616) : pc n = n % 2 + pc (n / 2) := pc_shift n h

/-- a number's bits, byte by byte -/
theorem pc_byte (x : Nat) (h : x < 18446744073709551616) : pc x = pc (x % 256) + pc (x / 256) := by
  have s : ∀ n, n < 18446744073709551616 → pc n = n % 2 + n / 2 % 2 + n / 4 % 2 + n / 8 % 2 + n / 16 % 2 + n / 32 % 2 + n / 64 % 2 + n / 128 % 2 + pc (n / 256) := fun n h => by
    rw [pc_two n h, pc_two (n / 2) (by omega), pc_two (n / 2 / 2) (by omega), pc_two (n / 2 / 2 / 2) (by omega), pc_two (n / 2 / 2 / 2 / 2) (by omega), pc_two (n / 2 / 2 / 2 / 2 / 2) (by omega), pc_two (n / 2 / 2 / 2 / 2 / 2 / 2) (by omega), pc_two (n / 2 / 2 / 2 / 2 / 2 / 2 / 2) (by omega)]
    rw [show n / 2 / 2 / 2 / 2 / 2 / 2 / 2 / 2 = n / 256 from by omega]
    omega
  have h0 : pc 0 = 0 := by decide +kernel
  rw [s x h, s (x % 256) (by omega), show x % 256 / 256 = 0 from by omega, h0]
  omega

theorem pc_le8 : ∀ b : Nat, b < 256 → pc b ≤ 8 := by decide +kernel

def oc (x : Nat) : Nat :=
  let x3 := f3 8 (f2 8 (f1 8 x))
  let x4 := x3 + x3 / 256
  let x5 := x4 + x4 / 65536
  let x6 := x5 + x5 / 4294967296
  x6 % 128

theorem f3_zero (x : Nat) : f3 0 x = 0 := by simp [f3, rep]

theorem dig1 (a t : Nat) (ha : a < 256) : (a + 256 * t) / 256 = t := by omega
theorem dig2 (a b t : Nat) (ha : a < 256) (hb : b < 256) : (a + 256 * (b + 256 * t)) / 65536 = t := by omega
theorem dig4 (a b c d t : Nat) (ha : a < 256) (hb : b < 256) (hc : c < 256) (hd : d < 256) : (a + 256 * (b + 256 * (c + 256 * (d + 256 * t)))) / 4294967296 = t := by omega
theorem low7 (a t : Nat) (ha : a ≤ 64) : (a + 256 * t) % 128 = a := by omega

theorem sum8 (c0 c1 c2 c3 c4 c5 c6 c7 t1 t2 t3 t4 t5 t6 t7 : Nat) (l0 : c0 ≤ 8) (l1 : c1 ≤ 8) (l2 : c2 ≤ 8) (l3 : c3 ≤ 8) (l4 : c4 ≤ 8) (l5 : c5 ≤ 8) (l6 : c6 ≤ 8) (l7 : c7 ≤ 8)
    (h1 : t1 = c1 + 256 * t2) (h2 : t2 = c2 + 256 * t3) (h3 : t3 = c3 + 256 * t4) (h4 : t4 = c4 + 256 * t5) (h5 : t5 = c5 + 256 * t6) (h6 : t6 = c6 + 256 * t7) (h7 : t7 = c7) :
    (let x3 := c0 + 256 * t1; let x4 := x3 + x3 / 256; let x5 := x4 + x4 / 65536; let x6 := x5 + x5 / 4294967296; x6 % 128) = c0 + (c1 + (c2 + (c3 + (c4 + (c5 + (c6 + (c7 + 0))))))) := by
  show (((c0 + 256 * t1 + (c0 + 256 * t1) / 256) + (c0 + 256 * t1 + (c0 + 256 * t1) / 256) / 65536) + ((c0 + 256 * t1 + (c0 + 256 * t1) / 256) + (c0 + 256 * t1 + (c0 + 256 * t1) / 256) / 65536) / 4294967296) % 128 = _
  rw [dig1 c0 t1 (by omega)]
  have e4 : c0 + 256 * t1 + t1 = (c0 + c1) + 256 * ((c1 + c2) + 256 * (t2 + t3)) := by omega
  rw [e4, dig2 (c0 + c1) (c1 + c2) (t2 + t3) (by omega) (by omega)]
  have e5 : (c0 + c1) + 256 * ((c1 + c2) + 256 * (t2 + t3)) + (t2 + t3) = (c0 + c1 + c2 + c3) + 256 * ((c1 + c2 + c3 + c4) + 256 * ((c2 + c3 + c4 + c5) + 256 * ((c3 + c4 + c5 + c6) + 256 * (t4 + t5 + t6 + t7)))) := by omega
  rw [e5, dig4 (c0 + c1 + c2 + c3) (c1 + c2 + c3 + c4) (c2 + c3 + c4 + c5) (c3 + c4 + c5 + c6) (t4 + t5 + t6 + t7) (by omega) (by omega) (by omega) (by omega)]
  have e6 : (c0 + c1 + c2 + c3) + 256 * ((c1 + c2 + c3 + c4) + 256 * ((c2 + c3 + c4 + c5) + 256 * ((c3 + c4 + c5 + c6) + 256 * (t4 + t5 + t6 + t7)))) + (t4 + t5 + t6 + t7) =
      (c0 + (c1 + (c2 + (c3 + (c4 + (c5 + (c6 + (c7 + 0)))))))) + 256 * ((c1 + c2 + c3 + c4) + 256 * ((c2 + c3 + c4 + c5) + 256 * ((c3 + c4 + c5 + c6) + 256 * (t4 + t5 + t6 + t7))) + (t5 + t6 + t7)) := by omega
  rw [e6]
  exact low7 _ _ (by omega)

theorem oc_pc (x : Nat) (h : x < 18446744073709551616) : oc x = pc x := by
  have t0 := (three 7 x).1
  have t1 := (three 6 (x / 256)).1
  have t2 := (three 5 (x / 256 / 256)).1
  have t3 := (three 4 (x / 256 / 256 / 256)).1
  have t4 := (three 3 (x / 256 / 256 / 256 / 256)).1
  have t5 := (three 2 (x / 256 / 256 / 256 / 256 / 256)).1
  have t6 := (three 1 (x / 256 / 256 / 256 / 256 / 256 / 256)).1
  have t7 := (three 0 (x / 256 / 256 / 256 / 256 / 256 / 256 / 256)).1
  rw [f3_zero] at t7
  have p0 := pc_byte x h
  have p1 := pc_byte (x / 256) (by omega)
  have p2 := pc_byte (x / 256 / 256) (by omega)
  have p3 := pc_byte (x / 256 / 256 / 256) (by omega)
  have p4 := pc_byte (x / 256 / 256 / 256 / 256) (by omega)
  have p5 := pc_byte (x / 256 / 256 / 256 / 256 / 256) (by omega)
  have p6 := pc_byte (x / 256 / 256 / 256 / 256 / 256 / 256) (by omega)
  have p7 := pc_byte (x / 256 / 256 / 256 / 256 / 256 / 256 / 256) (by omega)
  have hz : x / 256 / 256 / 256 / 256 / 256 / 256 / 256 / 256 = 0 := by omega
  have h0 : pc 0 = 0 := by decide +kernel
  rw [hz, h0] at p7
  have l0 := pc_le8 (x % 256) (by omega)
  have l1 := pc_le8 (x / 256 % 256) (by omega)
  have l2 := pc_le8 (x / 256 / 256 % 256) (by omega)
  have l3 := pc_le8 (x / 256 / 256 / 256 % 256) (by omega)
  have l4 := pc_le8 (x / 256 / 256 / 256 / 256 % 256) (by omega)
  have l5 := pc_le8 (x / 256 / 256 / 256 / 256 / 256 % 256) (by omega)
  have l6 := pc_le8 (x / 256 / 256 / 256 / 256 / 256 / 256 % 256) (by omega)
  have l7 := pc_le8 (x / 256 / 256 / 256 / 256 / 256 / 256 / 256 % 256) (by omega)
  simp only [Nat.reduceAdd] at t0 t1 t2 t3 t4 t5 t6 t7
  show (let x3 := f3 8 (f2 8 (f1 8 x)); let x4 := x3 + x3 / 256; let x5 := x4 + x4 / 65536; let x6 := x5 + x5 / 4294967296; x6 % 128) = pc x
  rw [p0, p1, p2, p3, p4, p5, p6, p7]
  rw [t0, t1, t2, t3, t4, t5, t6, t7]
  clear t0 t1 t2 t3 t4 t5 t6 t7 p0 p1 p2 p3 p4 p5 p6 p7 hz h0 h
  generalize pc (x % 256) = c0 at *
  generalize pc (x / 256 % 256) = c1 at *
  generalize pc (x / 256 / 256 % 256) = c2 at *
  generalize pc (x / 256 / 256 / 256 % 256) = c3 at *
  generalize pc (x / 256 / 256 / 256 / 256 % 256) = c4 at *
  generalize pc (x / 256 / 256 / 256 / 256 / 256 % 256) = c5 at *
  generalize pc (x / 256 / 256 / 256 / 256 / 256 / 256 % 256) = c6 at *
  generalize pc (x / 256 / 256 / 256 / 256 / 256 / 256 / 256 % 256) = c7 at *
  exact sum8 c0 c1 c2 c3 c4 c5 c6 c7 _ _ _ _ _ _ _ l0 l1 l2 l3 l4 l5 l6 l7 rfl rfl rfl rfl rfl rfl (by omega)

theorem rep85 : rep 85 8 = 6148914691236517205 := by decide
theorem rep51 : rep 51 8 = 3689348814741910323 := by decide
theorem rep15 : rep 15 8 = 1085102592571150095 := by decide
theorem u64w (n : Nat) (h : n < 18446744073709551616) : IntKind.u64.wrap (n : Int) = (n : Int) := by rw [IntKind.wrap_u64]; omega

theorem w1 (x : Nat) (h : x < 18446744073709551616) : IntKind.u64.wrap (bits .and .u64 ((x : Int) / 2) 6148914691236517205 + bits .and .u64 (x : Int) 6148914691236517205) = (f1 8 x : Int) := by
  have a := bits_and_u64_nat (x / 2) 6148914691236517205 (by omega) (by omega)
  have b := bits_and_u64_nat x 6148914691236517205 h (by omega)
  have la : x / 2 &&& 6148914691236517205 ≤ 6148914691236517205 := Nat.and_le_right
  have lb : x &&& 6148914691236517205 ≤ 6148914691236517205 := Nat.and_le_right
  rw [show ((x : Int) / 2) = ((x / 2 : Nat) : Int) from by omega, show (6148914691236517205 : Int) = ((6148914691236517205 : Nat) : Int) from rfl, a, b, ← Int.natCast_add, u64w _ (by omega)]
  unfold f1; rw [rep85]
theorem f1_le (x : Nat) : f1 8 x ≤ 12297829382473034410 := by
  have la : x / 2 &&& 6148914691236517205 ≤ 6148914691236517205 := Nat.and_le_right
  have lb : x &&& 6148914691236517205 ≤ 6148914691236517205 := Nat.and_le_right
  unfold f1; rw [rep85]; omega
theorem w2 (x : Nat) (h : x < 18446744073709551616) : IntKind.u64.wrap (bits .and .u64 ((x : Int) / 4) 3689348814741910323 + bits .and .u64 (x : Int) 3689348814741910323) = (f2 8 x : Int) := by
  have a := bits_and_u64_nat (x / 4) 3689348814741910323 (by omega) (by omega)
  have b := bits_and_u64_nat x 3689348814741910323 h (by omega)
  have la : x / 4 &&& 3689348814741910323 ≤ 3689348814741910323 := Nat.and_le_right
  have lb : x &&& 3689348814741910323 ≤ 3689348814741910323 := Nat.and_le_right
  rw [show ((x : Int) / 4) = ((x / 4 : Nat) : Int) from by omega, show (3689348814741910323 : Int) = ((3689348814741910323 : Nat) : Int) from rfl, a, b, ← Int.natCast_add, u64w _ (by omega)]
  unfold f2; rw [rep51]
theorem f2_le (x : Nat) : f2 8 x ≤ 7378697629483820646 := by
  have la : x / 4 &&& 3689348814741910323 ≤ 3689348814741910323 := Nat.and_le_right
  have lb : x &&& 3689348814741910323 ≤ 3689348814741910323 := Nat.and_le_right
  unfold f2; rw [rep51]; omega
theorem w3 (x : Nat) (h : x ≤ 7378697629483820646) : bits .and .u64 (IntKind.u64.wrap ((x : Int) / 16 + (x : Int))) 1085102592571150095 = (f3 8 x : Int) := by
  have a := bits_and_u64_nat (x / 16 + x) 1085102592571150095 (by omega) (by omega)
  rw [show ((x : Int) / 16 + (x : Int)) = ((x / 16 + x : Nat) : Int) from by omega, u64w _ (by omega), show (1085102592571150095 : Int) = ((1085102592571150095 : Nat) : Int) from rfl, a]
  unfold f3; rw [rep15]
theorem f3_le (x : Nat) : f3 8 x ≤ 1085102592571150095 := by
  have la : x / 16 + x &&& 1085102592571150095 ≤ 1085102592571150095 := Nat.and_le_right
  unfold f3; rw [rep15]; exact la
theorem w4 (u : Nat) (k : Nat) (h : u ≤ 4611686018427387904) : IntKind.u64.wrap ((u : Int) + (u : Int) / (k : Int)) = ((u + u / k : Nat) : Int) := by
  have : u / k ≤ u := Nat.div_le_self _ _
  rw [show ((u : Int) + (u : Int) / (k : Int)) = ((u + u / k : Nat) : Int) from by rw [Int.natCast_add, Int.natCast_ediv], u64w _ (by omega)]
theorem w7 (u : Nat) (h : u < 9223372036854775808) : bits .and .i64 (RowKit.wrap64 (u : Int)) 127 = ((u % 128 : Nat) : Int) := by
  rw [show RowKit.wrap64 (u : Int) = (u : Int) from by unfold RowKit.wrap64; omega]
  have h1 : (BitVec.ofInt 64 (u : Int)).toNat = u := by rw [BitVec.ofInt_natCast, BitVec.toNat_ofNat]; exact Nat.mod_eq_of_lt (by omega)
  have h2 : (BitVec.ofInt 64 (127 : Int)).toNat = 127 := by decide
  show IntKind.i64.wrap ((BitVec.ofInt 64 (u : Int) &&& BitVec.ofInt 64 (127 : Int)).toNat : Int) = _
  rw [BitVec.toNat_and, h1, h2, show (127 : Nat) = 2 ^ 7 - 1 from rfl, Nat.and_two_pow_sub_one_eq_mod]
  simp only [IntKind.wrap, IntKind.bits, IntKind.signed]
  simp
  omega

/-- the walk's last value: the count -/
theorem oc_walk (x : Nat) (h : x < 18446744073709551616) (y1 y2 y3 y4 y5 y6 : Int)
    (e1 : y1 = IntKind.u64.wrap (bits .and .u64 ((x : Int) / 2) 6148914691236517205 + bits .and .u64 (x : Int) 6148914691236517205))
    (e2 : y2 = IntKind.u64.wrap (bits .and .u64 (y1 / 4) 3689348814741910323 + bits .and .u64 y1 3689348814741910323))
    (e3 : y3 = bits .and .u64 (IntKind.u64.wrap (y2 / 16 + y2)) 1085102592571150095)
    (e4 : y4 = IntKind.u64.wrap (y3 + y3 / 256)) (e5 : y5 = IntKind.u64.wrap (y4 + y4 / 65536)) (e6 : y6 = IntKind.u64.wrap (y5 + y5 / 4294967296)) :
    bits .and .i64 (RowKit.wrap64 y6) 127 = (pc x : Int) := by
  have l1 := f1_le x
  rw [w1 x h] at e1
  subst e1
  have l2 := f2_le (f1 8 x)
  rw [w2 _ (by omega)] at e2
  subst e2
  have l3 := f3_le (f2 8 (f1 8 x))
  rw [w3 _ l2] at e3
  subst e3
  have hoc := oc_pc x h
  unfold oc at hoc
  generalize f3 8 (f2 8 (f1 8 x)) = u at *
  have k4 := w4 u 256 (by omega)
  rw [show ((256 : Nat) : Int) = 256 from rfl] at k4
  rw [k4] at e4
  subst e4
  have k5 := w4 (u + u / 256) 65536 (by omega)
  rw [show ((65536 : Nat) : Int) = 65536 from rfl] at k5
  rw [k5] at e5
  subst e5
  have k6 := w4 (u + u / 256 + (u + u / 256) / 65536) 4294967296 (by omega)
  rw [show ((4294967296 : Nat) : Int) = 4294967296 from rfl] at k6
  rw [k6] at e6
  subst e6
  rw [w7 _ (by omega)]
  exact congrArg Nat.cast hoc

end Oc
end Go.Proofs.Ytfgokhafiffbaaa

/-
  The lowest bit that is set, by a product and a table; the least assignment. No program in sight.
-/
namespace Go.Proofs.Ytfgokhafiffbaaa
set_option linter.unusedVariables false
namespace Tb
open Bt

/-- how many zeros stand below the lowest one -/
theorem ctz_ex (n : Nat) : ∀ x, 0 < x → x < 2 ^ n → ∃ k q, k < n ∧ x = 2 ^ k * (2 * q + 1) := by
  induction n with
  | zero => intro x h0 h1; simp at h1; omega
  | succ n ih =>
    intro x h0 h1
    rcases Nat.mod_two_eq_zero_or_one x with h | h
    · obtain ⟨k, q, hk, e⟩ := ih (x / 2) (by omega) (by rw [Nat.pow_succ] at h1; omega)
      refine ⟨k + 1, q, by omega, ?_⟩
      rw [Nat.pow_succ, Nat.mul_right_comm, ← e]; omega
    · exact ⟨0, x / 2, by omega, by simp; omega⟩

theorem low_bit (k q : Nat) (hk : k < 64) (hx : 2 ^ k * (2 * q + 1) < 18446744073709551616) : (2 ^ k * (2 * q + 1)) &&& (18446744073709551616 - 2 ^ k * (2 * q + 1)) = 2 ^ k := by
  have hp : 0 < 2 ^ k := Nat.two_pow_pos k
  have e1 : 2 ^ k * (2 * q + 1) - 1 = 2 ^ k * (2 * q) + (2 ^ k - 1) := by rw [Nat.mul_add]; omega
  have hpos : 0 < 2 ^ k * (2 * q + 1) := Nat.mul_pos hp (by omega)
  apply Nat.eq_of_testBit_eq
  intro i
  rw [show 18446744073709551616 - 2 ^ k * (2 * q + 1) = 2 ^ 64 - ((2 ^ k * (2 * q + 1) - 1) + 1) from by omega, Nat.testBit_and, Nat.testBit_two_pow_sub_succ (by omega), e1,
    Nat.testBit_two_pow_mul_add _ (by omega), Nat.testBit_two_pow_mul, Nat.testBit_two_pow]
  by_cases h1 : i < k
  · simp [h1, show ¬ k ≤ i from by omega, show ¬ k = i from by omega]
  · by_cases h2 : i = k
    · subst h2; simp [hk]
    · obtain ⟨j, rfl⟩ : ∃ j, i = k + (j + 1) := ⟨i - k - 1, by omega⟩
      simp only [h1, if_false, show k ≤ k + (j + 1) from by omega, decide_true, Bool.true_and, show k + (j + 1) - k = j + 1 from by omega]
      rw [Nat.testBit_succ, Nat.testBit_succ, show (2 * q + 1) / 2 = q from by omega, show (2 * q) / 2 = q from by omega]
      rw [decide_eq_false (show ¬ k = k + (j + 1) from by omega)]
      cases q.testBit j <;> simp

/-- the place in the table -/
def deb (k : Nat) : Nat := 2 ^ k * 285870213051353865 % 18446744073709551616 / 288230376151711744
theorem deb_lt (k : Nat) : deb k < 64 := by unfold deb; omega

/-- the table, by places -/
def debTab : List Nat := [0, 1, 56, 2, 57, 49, 28, 3, 61, 58, 42, 50, 38, 29, 17, 4, 62, 47, 59, 36, 45, 43, 51, 22, 53, 39, 33, 30, 24, 18, 12, 5, 63, 55, 48, 27, 60, 41, 37, 16, 46, 35, 44, 21, 52, 32, 23, 11, 54, 26, 40, 15, 34, 20, 31, 10, 25, 14, 19, 9, 13, 8, 7, 6]
theorem debTab_at : ∀ k : Nat, k < 64 → debTab[deb k]? = some k := by decide +kernel

/-- the least assignment that makes it true -/
def one (f : T) : Option Nat := (List.range 256).find? fun x => f.getLsbD x
theorem one_some {f : T} {x : Nat} (hx : x < 256) (h : f.getLsbD x = true) (hl : ∀ y, y < x → f.getLsbD y = false) : one f = some x := by
  unfold one
  rw [List.find?_eq_some_iff_append]
  refine ⟨h, List.range x, (List.range' (x + 1) (255 - x)), ?_, fun y hy => ?_⟩
  · rw [List.range_eq_range', List.range_eq_range', show (x :: List.range' (x + 1) (255 - x)) = List.range' x (256 - x) from by rw [show 256 - x = (255 - x) + 1 from by omega, List.range'_succ]]
    have := List.range'_append (s := 0) (m := x) (n := 256 - x) (step := 1)
    rw [show 0 + 1 * x = x from by omega, show x + (256 - x) = 256 from by omega] at this
    exact this.symm
  · rw [hl y (List.mem_range.1 hy)]; rfl
theorem one_none {f : T} (h : ∀ y, y < 256 → f.getLsbD y = false) : one f = none := by
  unfold one
  rw [List.find?_eq_none]
  intro y hy
  rw [h y (List.mem_range.1 hy)]; simp

theorem word_zero {f : T} {c : Nat} (h : wd f c = 0) (j : Nat) (hj : j < 64) : f.getLsbD (64 * c + j) = false := by
  rw [← wd_testBit f c j hj, h]; simp

/-- the least one, if word c is the first that isn't nought -/
theorem one_word {f : T} {c k q : Nat} (hc : c < 4) (hk : k < 64) (he : (wd f c).toNat = 2 ^ k * (2 * q + 1)) (hz : ∀ d, d < c → wd f d = 0) : one f = some (64 * c + k) := by
  have hb : ∀ j, j < 64 → f.getLsbD (64 * c + j) = (2 ^ k * (2 * q + 1)).testBit j := fun j hj => by rw [← wd_testBit f c j hj, he]
  refine one_some (by omega) ?_ fun y hy => ?_
  · rw [hb k hk, Nat.testBit_two_pow_mul]; simp
  · by_cases h : y < 64 * c
    · have := word_zero (hz (y / 64) (by omega)) (y % 64) (Nat.mod_lt _ (by omega))
      rw [show 64 * (y / 64) + y % 64 = y from by omega] at this
      exact this
    · obtain ⟨j, rfl⟩ : ∃ j, y = 64 * c + j := ⟨y - 64 * c, by omega⟩
      rw [hb j (by omega), Nat.testBit_two_pow_mul]
      simp [show ¬ k ≤ j from by omega]
theorem one_zero {f : T} (h0 : wd f 0 = 0) (h1 : wd f 1 = 0) (h2 : wd f 2 = 0) (h3 : wd f 3 = 0) : one f = none := by
  refine one_none fun y hy => ?_
  have hd : wd f (y / 64) = 0 := by
    have : y / 64 = 0 ∨ y / 64 = 1 ∨ y / 64 = 2 ∨ y / 64 = 3 := by omega
    rcases this with h | h | h | h <;> rw [h] <;> assumption
  have := word_zero hd (y % 64) (Nat.mod_lt _ (by omega))
  rw [show 64 * (y / 64) + y % 64 = y from by omega] at this
  exact this

/-- how many assignments make it true -/
def cnt (f : T) : Nat := pc (wd f 0).toNat + pc (wd f 1).toNat + pc (wd f 2).toNat + pc (wd f 3).toNat
attribute [irreducible] cnt one deb
end Tb
end Go.Proofs.Ytfgokhafiffbaaa

/-
  How many assignments make a table true: the laws of TruthCountsUp. No program in sight.
-/
namespace Go.Proofs.Ytfgokhafiffbaaa
set_option linter.unusedVariables false
theorem Oc.pc_count : ∀ m, m ≤ 64 → ∀ n, n < 2 ^ m → Bt.pc n = (List.range m).countP (fun i => n.testBit i) := by
  intro m
  induction m with
  | zero =>
    intro _ n hn
    obtain rfl : n = 0 := by simpa using hn
    have := Oc.pc_two 0 (by decide)
    decide +kernel
  | succ m ih =>
    intro hm n hn
    have hlt : n < 18446744073709551616 := Nat.lt_of_lt_of_le hn (by have := Nat.pow_le_pow_right (show 0 < 2 by omega) hm; simpa using this)
    rw [Oc.pc_two n hlt, ih (by omega) (n / 2) (by rw [Nat.pow_succ] at hn; omega), List.range_succ_eq_map, List.countP_cons, List.countP_map]
    have e : ((fun i => n.testBit i) ∘ Nat.succ) = fun i => (n / 2).testBit i := by
      funext i; simp [Nat.testBit_succ]
    rw [e, Nat.testBit_zero]
    have : n % 2 = 0 ∨ n % 2 = 1 := by omega
    rcases this with h | h <;> simp [h] <;> omega
namespace Tb
theorem cnt_eq (f : T) : cnt f = (List.range 256).countP (fun x => f.getLsbD x) := by
  have hw : ∀ c, Bt.pc (wd f c).toNat = (List.range 64).countP (fun j => f.getLsbD (64 * c + j)) := fun c => by
    rw [Oc.pc_count 64 (by omega) _ (by have := wd_lo f c; have := wd_hi f c; omega)]
    refine List.countP_congr fun j hj => ?_
    rw [wd_testBit f c j (by simpa using hj)]
  have hr : List.range 256 = (List.range 64).map (fun j => 64 * 0 + j) ++ ((List.range 64).map (fun j => 64 * 1 + j) ++ ((List.range 64).map (fun j => 64 * 2 + j) ++ (List.range 64).map (fun j => 64 * 3 + j))) := by decide +kernel
  unfold cnt
  rw [hw, hw, hw, hw, hr, List.countP_append, List.countP_append, List.countP_append, List.countP_map, List.countP_map, List.countP_map, List.countP_map]
  simp only [Function.comp_def]
  omega
theorem cnt_le (f : T) : cnt f ≤ 256 := by
  rw [cnt_eq]
  have := List.countP_le_length (p := fun x => f.getLsbD x) (l := List.range 256)
  simpa using this
theorem countP_two (p q : Nat → Bool) (l : List Nat) : l.countP (fun x => p x && q x) + l.countP (fun x => p x || q x) = l.countP p + l.countP q := by
  induction l with
  | nil => rfl
  | cons a l ih =>
    simp only [List.countP_cons]
    cases p a <;> cases q a <;> simp <;> omega
theorem countP_half (p q : Nat → Bool) (l : List Nat) : l.countP (fun x => p x && q x) + l.countP (fun x => p x && !(q x)) = l.countP p := by
  induction l with
  | nil => rfl
  | cons a l ih =>
    simp only [List.countP_cons]
    cases p a <;> cases q a <;> simp <;> omega
theorem cnt_not (f : T) : cnt f + cnt (~~~f) = 256 := by
  rw [cnt_eq, cnt_eq]
  have h := countP_half (fun _ => true) (fun x => f.getLsbD x) (List.range 256)
  simp only [Bool.true_and] at h
  have e : (List.range 256).countP (fun x => (~~~f).getLsbD x) = (List.range 256).countP (fun x => !f.getLsbD x) :=
    List.countP_congr fun x hx => by rw [BitVec.getLsbD_not]; simp [show x < 256 from by simpa using hx]
  rw [e, h]; simp
theorem cnt_two (f g : T) : cnt (f &&& g) + cnt (f ||| g) = cnt f + cnt g := by
  rw [cnt_eq, cnt_eq, cnt_eq, cnt_eq, ← countP_two (fun x => f.getLsbD x) (fun x => g.getLsbD x)]
  congr 1
  · exact List.countP_congr fun x _ => by rw [BitVec.getLsbD_and]
  · exact List.countP_congr fun x _ => by rw [BitVec.getLsbD_or]
theorem cnt_half (f g : T) : cnt (f &&& g) + cnt (f &&& ~~~g) = cnt f := by
  rw [cnt_eq, cnt_eq, cnt_eq, ← countP_half (fun x => f.getLsbD x) (fun x => g.getLsbD x)]
  congr 1
  · exact List.countP_congr fun x _ => by rw [BitVec.getLsbD_and]
  · exact List.countP_congr fun x hx => by rw [BitVec.getLsbD_and, BitVec.getLsbD_not]; simp [show x < 256 from by simpa using hx]
theorem swap_perm : ∀ k : Nat, k < 8 → ((List.range 256).map fun x => x ^^^ 2 ^ k).Perm (List.range 256) := by decide +kernel
theorem cnt_swap (p : Nat → Bool) (k : Nat) (hk : k < 8) : (List.range 256).countP (fun x => p (x ^^^ 2 ^ k)) = (List.range 256).countP p := by
  rw [← (swap_perm k hk).countP_eq p, List.countP_map]; rfl
theorem swap_wth : ∀ x : Nat, x < 256 → ∀ k : Nat, k < 8 → (wth x k true = if x.testBit k then x else x ^^^ 2 ^ k) ∧ (x ^^^ 2 ^ k).testBit k = !x.testBit k ∧ (x ^^^ 2 ^ k) ^^^ 2 ^ k = x ∧ x ^^^ 2 ^ k < 256 := by decide +kernel
theorem kn_nat {k : Nat} (hk : k < 8) : kn (k : Int) = true := by unfold kn; simp; omega
theorem var_bit {k x : Nat} (hk : k < 8) (hx : x < 256) : (var (k : Int)).getLsbD x = x.testBit k := by
  rw [var_get _ _ hx, kn_nat hk]; simp
theorem cnt_fix (f : T) (k : Nat) (hk : k < 8) : cnt (fix f (k : Int) true) = 2 * cnt (f &&& var (k : Int)) := by
  have h := cnt_half (fix f (k : Int) true) (var (k : Int))
  have e1 : cnt (fix f (k : Int) true &&& var (k : Int)) = cnt (f &&& var (k : Int)) := by
    rw [cnt_eq, cnt_eq]
    refine List.countP_congr fun x hx => ?_
    have hx : x < 256 := by simpa using hx
    rw [BitVec.getLsbD_and, BitVec.getLsbD_and, fix_get hk hx, var_bit hk hx, (swap_wth x hx k hk).1]
    cases x.testBit k <;> simp
  have e2 : cnt (fix f (k : Int) true &&& ~~~ var (k : Int)) = cnt (f &&& var (k : Int)) := by
    rw [cnt_eq, cnt_eq, ← cnt_swap (fun x => (f &&& var (k : Int)).getLsbD x) k hk]
    refine List.countP_congr fun x hx => ?_
    have hx : x < 256 := by simpa using hx
    obtain ⟨h1, h2, h3, h4⟩ := swap_wth x hx k hk
    rw [BitVec.getLsbD_and, BitVec.getLsbD_not, BitVec.getLsbD_and, fix_get hk hx, var_bit hk hx, var_bit hk h4, h1, h2]
    cases x.testBit k <;> simp [hx]
  omega
theorem sup_bit : ∀ n : Nat, n < 256 → ∀ k : Nat, k < 8 → decide ((n / 2 ^ k) &&& 1 = 1) = n.testBit k := by decide +kernel
theorem sup_fix (f : T) (k : Nat) (hk : k < 8) : decide ((support f / 2 ^ k) &&& 1 = 1) = decide (fix f (k : Int) true ≠ fix f (k : Int) false) := by
  rw [sup_bit _ (support_lt f) k hk, support_bit]
  simp only [hk, decide_true, Bool.true_and, decide_eq_decide]
  exact ne_comm
end Tb
end Go.Proofs.Ytfgokhafiffbaaa

/-
  A variable set for good, word by word, as the document does it. No program in sight.
-/
namespace Go.Proofs.Ytfgokhafiffbaaa
set_option linter.unusedVariables false
namespace Tb
/-- two words are one if their bits are -/
theorem word_ext {F G : T} {c d : Nat} (h : ∀ j, j < 64 → F.getLsbD (64 * c + j) = G.getLsbD (64 * d + j)) : wd F c = wd G d := by
  have h1 := wd_lo F c
  have h2 := wd_lo G d
  have h3 := wd_hi F c
  have h4 := wd_hi G d
  have : (wd F c).toNat = (wd G d).toNat := by
    apply Nat.eq_of_testBit_eq
    intro j
    by_cases hj : j < 64
    · rw [wd_testBit F c j hj, wd_testBit G d j hj, h j hj]
    · have hp : 18446744073709551616 ≤ 2 ^ j := by
        have : 2 ^ 64 ≤ 2 ^ j := Nat.pow_le_pow_right (by omega) (by omega)
        simpa using this
      rw [Nat.testBit_lt_two_pow (by omega), Nat.testBit_lt_two_pow (by omega)]
  omega
theorem high_wth : ∀ c : Nat, c < 4 → ∀ j : Nat, j < 64 →
    wth (64 * c + j) 6 true = 64 * (c ||| 1) + j ∧ wth (64 * c + j) 6 false = 64 * (c - c % 2) + j ∧ wth (64 * c + j) 7 true = 64 * (c ||| 2) + j ∧ wth (64 * c + j) 7 false = 64 * (c % 2) + j := by decide +kernel
theorem fix6 (f : T) (c : Nat) (hc : c < 4) : wd (fix f 6 true) c = wd f (c ||| 1) ∧ wd (fix f 6 false) c = wd f (c - c % 2) ∧ wd (fix f 7 true) c = wd f (c ||| 2) ∧ wd (fix f 7 false) c = wd f (c % 2) := by
  refine ⟨word_ext fun j hj => ?_, word_ext fun j hj => ?_, word_ext fun j hj => ?_, word_ext fun j hj => ?_⟩
  · rw [← (high_wth c hc j hj).1]; exact fix_get (v := 6) (by omega) (by omega)
  · rw [← (high_wth c hc j hj).2.1]; exact fix_get (v := 6) (by omega) (by omega)
  · rw [← (high_wth c hc j hj).2.2.1]; exact fix_get (v := 7) (by omega) (by omega)
  · rw [← (high_wth c hc j hj).2.2.2]; exact fix_get (v := 7) (by omega) (by omega)
/-- the places whose bit v is set, below k -/
def mk (v : Nat) : Nat → Nat
  | 0 => 0
  | k + 1 => if k.testBit v then mk v k ||| 2 ^ k else mk v k
theorem mk_lt (v : Nat) : ∀ k, mk v k < 2 ^ k := by
  intro k
  induction k with
  | zero => simp [mk]
  | succ k ih =>
    have hp : 2 ^ k < 2 ^ (k + 1) := Nat.pow_lt_pow_right (by omega) (by omega)
    unfold mk
    split
    · exact Nat.or_lt_two_pow (by omega) hp
    · omega
theorem mk_bit (v : Nat) : ∀ k j, (mk v k).testBit j = (decide (j < k) && j.testBit v) := by
  intro k
  induction k with
  | zero => intro j; simp [mk]
  | succ k ih =>
    intro j
    unfold mk
    by_cases e : j = k
    · subst e
      split
      · rename_i h; rw [Nat.testBit_or, ih, Nat.testBit_two_pow]; simp [h]
      · rename_i h; rw [ih]; simp at h; simp [h]
    · rw [show decide (j < k + 1) = decide (j < k) from by rw [decide_eq_decide]; omega]
      split
      · rw [Nat.testBit_or, ih, Nat.testBit_two_pow]; simp [show ¬ k = j from fun h => e h.symm]
      · exact ih j
theorem lw1 : ∀ v : Nat, v < 6 → ∀ j : Nat, j < 64 → j.testBit v = true → (j + 2 ^ v).testBit v = false := by decide +kernel
theorem lw2 : ∀ v : Nat, v < 6 → ∀ j : Nat, j < 64 → j.testBit v = false → (j + 2 ^ v).testBit v = true ∧ j + 2 ^ v < 64 := by decide +kernel
theorem lw3 : ∀ v : Nat, v < 6 → ∀ j : Nat, j < 64 → j.testBit v = true → (j - 2 ^ v).testBit v = false ∧ 2 ^ v ≤ j := by decide +kernel
theorem lw4 : ∀ v : Nat, v < 6 → ∀ j : Nat, j < 64 → j.testBit v = false → 2 ^ v ≤ j → (j - 2 ^ v).testBit v = true := by decide +kernel
theorem low_wth2 : ∀ v : Nat, v < 6 → ∀ x : Nat, x < 256 → wth x v true = (if (x % 64).testBit v then x else x + 2 ^ v) ∧ wth x v false = (if (x % 64).testBit v then x - 2 ^ v else x) := by decide +kernel
theorem pow64 : (2 : Nat) ^ 64 = 18446744073709551616 := by decide
theorem high64 {n j : Nat} (hn : n < 18446744073709551616) (hj : ¬ j < 64) : n.testBit j = false := by
  have hp : 18446744073709551616 ≤ 2 ^ j := by
    have : 2 ^ 64 ≤ 2 ^ j := Nat.pow_le_pow_right (by omega) (by omega)
    simpa using this
  exact Nat.testBit_lt_two_pow (by omega)
theorem fix_low_true (f : T) (v c : Nat) (hv : v < 6) (hc : c < 4) :
    bits .or .u64 (bits .and .u64 (wd f c) (mk v 64 : Int)) (bits .and .u64 (wd f c) (mk v 64 : Int) / 2 ^ (2 ^ v)) = wd (fix f (v : Int) true) c := by
  have h1 := wd_lo f c
  have h2 := wd_hi f c
  have h3 := wd_lo (fix f (v : Int) true) c
  have h4 := wd_hi (fix f (v : Int) true) c
  have hm : mk v 64 < 18446744073709551616 := by have := mk_lt v 64; rwa [pow64] at this
  generalize hW : (wd f c).toNat = W
  have hWl : W < 18446744073709551616 := by omega
  rw [show wd f c = (W : Int) from by omega, bits_and_u64_nat W _ hWl hm]
  have hA : W &&& mk v 64 < 18446744073709551616 := Nat.lt_of_le_of_lt Nat.and_le_left hWl
  have hS : (W &&& mk v 64) / 2 ^ 2 ^ v < 18446744073709551616 := Nat.lt_of_le_of_lt (Nat.div_le_self _ _) hA
  have e : (((W &&& mk v 64 : Nat) : Int) / 2 ^ 2 ^ v) = (((W &&& mk v 64) / 2 ^ 2 ^ v : Nat) : Int) := by norm_cast
  rw [e, bits_or_u64_nat _ _ hA hS]
  have : ((W &&& mk v 64) ||| ((W &&& mk v 64) / 2 ^ 2 ^ v)) = (wd (fix f (v : Int) true) c).toNat := by
    apply Nat.eq_of_testBit_eq
    intro j
    by_cases hj : j < 64
    · rw [wd_testBit _ c j hj, fix_get (by omega) (by omega), Nat.testBit_or, Nat.testBit_and, Nat.testBit_div_two_pow, Nat.testBit_and, mk_bit, mk_bit, ← hW]
      have l4 := (low_wth2 v hv (64 * c + j) (by omega)).1
      rw [show (64 * c + j) % 64 = j from by omega] at l4
      rw [l4]
      cases hb : j.testBit v
      · obtain ⟨q1, q2⟩ := lw2 v hv j hj hb
        rw [show j + 2 ^ v = j + 2 ^ v from rfl]
        simp only [q1, q2, Bool.and_false, Bool.false_or, decide_true, Bool.and_true, Bool.false_eq_true, if_false]
        rw [wd_testBit f c _ q2, Nat.add_assoc]
      · have q1 := lw1 v hv j hj hb
        rw [wd_testBit f c j hj]
        by_cases h64 : j + 2 ^ v < 64
        · simp [hj, q1]
        · simp [hj, h64]
    · rw [Nat.testBit_or, high64 hA hj, high64 hS hj, high64 (n := (wd (fix f (v : Int) true) c).toNat) (by omega) hj]; rfl
  omega
theorem fix_low_false (f : T) (v c : Nat) (hv : v < 6) (hc : c < 4) :
    bits .or .u64 (bits .andNot .u64 (wd f c) (mk v 64 : Int)) (IntKind.u64.wrap (bits .andNot .u64 (wd f c) (mk v 64 : Int) * 2 ^ (2 ^ v))) = wd (fix f (v : Int) false) c := by
  have h1 := wd_lo f c
  have h2 := wd_hi f c
  have h3 := wd_lo (fix f (v : Int) false) c
  have h4 := wd_hi (fix f (v : Int) false) c
  have hm : mk v 64 < 18446744073709551616 := by have := mk_lt v 64; rwa [pow64] at this
  generalize hW : (wd f c).toNat = W
  have hWl : W < 18446744073709551616 := by omega
  rw [show wd f c = (W : Int) from by omega, u64_andNot_nat W _ hWl hm]
  have hA : W &&& (18446744073709551615 - mk v 64) < 18446744073709551616 := Nat.lt_of_le_of_lt Nat.and_le_left hWl
  have hS : (W &&& (18446744073709551615 - mk v 64)) * 2 ^ 2 ^ v % 18446744073709551616 < 18446744073709551616 := Nat.mod_lt _ (by decide)
  have e : IntKind.u64.wrap (((W &&& (18446744073709551615 - mk v 64) : Nat) : Int) * 2 ^ 2 ^ v) = (((W &&& (18446744073709551615 - mk v 64)) * 2 ^ 2 ^ v % 18446744073709551616 : Nat) : Int) := by
    rw [IntKind.wrap_u64]; simp only [Int.natCast_emod, Int.natCast_mul, Int.natCast_pow]; rfl
  rw [e, bits_or_u64_nat _ _ hA hS]
  have hcomp : ∀ i, i < 64 → (18446744073709551615 - mk v 64).testBit i = !(i.testBit v) := fun i hi => by
    have := Nat.testBit_two_pow_sub_succ (x := mk v 64) (n := 64) (by rw [pow64]; exact hm) i
    rw [pow64, show 18446744073709551616 - (mk v 64 + 1) = 18446744073709551615 - mk v 64 from by omega] at this
    rw [this, mk_bit]; simp [hi]
  have : ((W &&& (18446744073709551615 - mk v 64)) ||| ((W &&& (18446744073709551615 - mk v 64)) * 2 ^ 2 ^ v % 18446744073709551616)) = (wd (fix f (v : Int) false) c).toNat := by
    apply Nat.eq_of_testBit_eq
    intro j
    by_cases hj : j < 64
    · have hmod : ((W &&& (18446744073709551615 - mk v 64)) * 2 ^ 2 ^ v % 18446744073709551616).testBit j = (decide (2 ^ v ≤ j) && (W &&& (18446744073709551615 - mk v 64)).testBit (j - 2 ^ v)) := by
        rw [← pow64, Nat.testBit_mod_two_pow, Nat.testBit_mul_two_pow]
        simp [hj]
      have l4 := (low_wth2 v hv (64 * c + j) (by omega)).2
      rw [show (64 * c + j) % 64 = j from by omega] at l4
      rw [wd_testBit _ c j hj, fix_get (by omega) (by omega), Nat.testBit_or, hmod, Nat.testBit_and, hcomp j hj, l4]
      cases hb : j.testBit v
      · by_cases hp : 2 ^ v ≤ j
        · have q1 := lw4 v hv j hj hb hp
          rw [Nat.testBit_and, hcomp _ (Nat.lt_of_le_of_lt (Nat.sub_le _ _) hj), q1, ← hW, wd_testBit f c j hj]
          simp
        · rw [← hW, wd_testBit f c j hj]
          simp [hp]
      · obtain ⟨q1, q2⟩ := lw3 v hv j hj hb
        rw [Nat.testBit_and, hcomp _ (Nat.lt_of_le_of_lt (Nat.sub_le _ _) hj), q1, ← hW, wd_testBit f c (j - 2 ^ v) (Nat.lt_of_le_of_lt (Nat.sub_le _ _) hj)]
        rw [show 64 * c + j - 2 ^ v = 64 * c + (j - 2 ^ v) from Nat.add_sub_assoc q2 _]
        simp [q2]
    · rw [Nat.testBit_or, high64 hA hj, high64 hS hj, high64 (n := (wd (fix f (v : Int) false) c).toNat) (by omega) hj]; rfl
  omega
attribute [irreducible] mk
end Tb
end Go.Proofs.Ytfgokhafiffbaaa
