/-
  The walks of package truth, tenth part: what one gets of a table by setting variables in order, and how many that are.
-/
import Derived.Test.YtfkefgelceaimaaDoorTruthI
import Derived.Test.YtfkefgelceaimaaDoorSet
import Derived.Test.YtfkefgelceaimaaDoorCofPlain
namespace Go.Proofs.YtfkefgelceaimaaDoor
set_option linter.unusedVariables false
open Go.RowKit

/-- a slice of ints whose elements are known -/
structure IntsAt (w : World) (p : Option Addr) (vs : List Int) : Prop where
  at_ : ∀ j x, vs[j]? = some x → ∃ g off, p = some ⟨g, off, none⟩ ∧ w.cell? ⟨g, off + j, none⟩ = some (.int .i64 x)

/-- the round's end of the first loop -/
structure Lev (w wr : World) (bm : Nat) (M : List Tb.T) (f : Tb.T) (vs : List Int) (k g cap : Nat) (L M' : List Tb.T) : Prop where
  row : TRow wr w.heap.size g cap L
  met : IsSet wr bm M'
  grown : w.grownBy wr (some bm)
  lev : Tb.Same L (fun F => F ∈ Tb.levTo f vs k)
  cof : Tb.Same M' (fun F => F ∈ M ∨ Tb.CofTo f vs k F)
  few : L.length ≤ 2 ^ k
  less : M'.length ≤ M.length + 2 ^ (k + 1)

/-- the inner loop over the level -/
structure Nxt (wo wr : World) (bn : Nat) (L : List Tb.T) (v : Int) (j : Nat) (Nx : List Tb.T) : Prop where
  set_ : IsSet wr bn Nx
  same : Tb.Same Nx (Tb.Both (L.take j) v)
  few : Nx.length ≤ 2 * j
  grown : wo.grownBy wr none

/-- the inner loop over the map -/
structure Gat (w wr : World) (bm bn r : Nat) (M' Nx : List Tb.T) (g cap : Nat) (L todo M2 : List Tb.T) : Prop where
  row : TRow wr w.heap.size g cap L
  rng : IsRange wr bn r Nx todo
  met : IsSet wr bm M2
  grown : w.grownBy wr (some bm)
  nd : todo.Nodup
  lev : Tb.Same L (fun F => F ∈ Nx ∧ F ∉ todo)
  cof : Tb.Same M2 (fun F => F ∈ M' ∨ (F ∈ Nx ∧ F ∉ todo))
  cnt : L.length + todo.length = Nx.length
  mcnt : M2.length + todo.length ≤ M'.length + Nx.length

set_option maxRecDepth 100000 in
set_option maxHeartbeats 2000000 in
theorem cofactors_any (f : Tb.T) (p : Option Addr) (vs : List Int) (cap0 : Nat) (bm : Nat) (w : World) (M : List Tb.T) (hM : IsSet w bm M) (hlt : M.length + 1024 < maxLen) (hI : IntsAt w p vs) (h8 : vs.length ≤ 8) :
    Calls Tryd.prog 53 #[Tb.tv f, .slice p vs.length cap0, .map (some bm)] w fun e w' => e = .returned (.tuple #[]) ∧
      ∃ M', IsSet w' bm M' ∧ w.grownBy w' (some bm) ∧ M'.length ≤ M.length + 1024 ∧ ∀ F, F ∈ M' ↔ F ∈ M ∨ Tb.CofTo f vs vs.length F := by
  have hbm := hM.lt
  obtain ⟨w1, hr1, hM1, hg1⟩ := ((hM.alloc (.cells (Tb.tcells f) 24)).alloc (.cells (Tb.tcells f) 24)).run_add (by omega) f
  have hrow := TRow.one (w.alloc (.cells (Tb.tcells f) 24)) w.heap.size f (by simp)
  have hrow1 := hrow.kept hg1 (by simp; omega)
  have hgg : w.grownBy w1 (some bm) := ((World.grownBy_alloc w _ _).trans (World.grownBy_alloc _ _ _)).trans hg1
  have hM2 : (Tb.add f M).length ≤ M.length + 1 := Tb.length_add f M
  rw [show (w.alloc (.cells (Tb.tcells f) 24)).heap.size = w.heap.size + 1 from by simp] at hrow1
  have hlev : Lev w w1 bm M f vs 0 (w.heap.size + 1) 1 [f] (Tb.add f M) :=
    ⟨hrow1, hM1, hgg, Tb.lev_zero f vs, ⟨fun F => by rw [Tb.mem_add, Tb.cof_zero]; exact or_comm⟩, by simp, by simp; omega⟩
  clear hrow hrow1 hgg hM2 hM1 hg1
  go_enter Tryd.func53, Tryd.ntmps53
  go_wp2_with fail
  go_loopw [6, 20] (fun lv i wr => ∃ (k g cap : Nat) (L M' : List Tb.T), k ≤ vs.length ∧ i = .int .i64 k ∧ lv = .slice (some ⟨g, 0, none⟩) L.length cap ∧ Lev w wr bm M f vs k g cap L M') (fun _ i _ => vs.length - (intOf i).toNat)
  case atStart => exact ⟨0, _, _, _, _, by omega, rfl, rfl, hlev⟩
  case round =>
    obtain ⟨k, g, cap, L, M', hk, rfl, rfl, hL⟩ := hrel
    by_cases hlt2 : k < vs.length
    · obtain ⟨v, hv⟩ : ∃ v, vs[k]? = some v := ⟨_, List.getElem?_eq_getElem hlt2⟩
      obtain ⟨gv, off, rfl, hc⟩ := hI.at_ k v hv
      have hne : gv ≠ bm := fun e => by
        obtain ⟨D, ⟨es, clock, hb, _⟩, _⟩ := hM.ex
        subst e
        simp [World.cell?, hb] at hc
      have hc1 := hL.grown.cell hc (by simpa using hne)
      have hL256 : L.length ≤ 256 := Nat.le_trans hL.few (Nat.pow_le_pow_right (n := 2) (by omega) (show k ≤ 8 by omega))
      have hmk : (Instr.makeMap 54 none).run Tryd.prog wr = .ok (.map (some wr.heap.size)) (wr.alloc (.map #[] 0)) := run_makeMap _ wr
      obtain ⟨wo, rfl⟩ : ∃ wo : World, wo = wr := ⟨_, rfl⟩
      have hN0 : Nxt wo (wo.alloc (.map #[] 0)) wo.heap.size L v 0 [] := ⟨IsSet.new wo, Tb.both_zero L v, by simp, World.grownBy_alloc wo _ _⟩
      go_wp2_with fail
      go_loopw [11, 27] (fun _ i wr => ∃ (j : Nat) (Nx : List Tb.T), j ≤ L.length ∧ i = .int .i64 j ∧ Nxt wo wr wo.heap.size L v j Nx) (fun _ i _ => L.length - (intOf i).toNat)
      case atStart => exact ⟨0, [], by omega, rfl, hN0⟩
      case round =>
        obtain ⟨j, Nx, hj, rfl, hN⟩ := hrel
        by_cases hlt3 : j < L.length
        · obtain ⟨F, hF⟩ : ∃ F, L[j]? = some F := ⟨_, List.getElem?_eq_getElem hlt3⟩
          have hrow := hL.row.kept hN.grown (by simp)
          obtain ⟨c0, c1, c2, c3⟩ := hrow.cells4 hF
          obtain ⟨bx, bg, bz⟩ := boxed_new wr F
          have hbn := hN.set_.lt
          go_wp2_with fail
          refine (fix_any F v false _).mono ?_
          rintro e wa ⟨rfl, ba⟩
          have bxa := bx.below ba bx.lt
          have hga : wo.grownBy wa none := grown_below (hN.grown.trans bg) ba (by rw [bz]; have := hN.grown.size; omega)
          have hNa := (hN.set_.kept bg (by simp)).below ba (by rw [bz]; omega)
          have hza : wr.heap.size < wa.heap.size := bxa.lt
          clear ba bg bz bx c0 c1 c2 c3 hrow
          obtain ⟨wb, hrb, hNb, hgb⟩ := hNa.run_add (by have := hN.few; unfold maxLen; omega) (Tb.fix F v false)
          have bxb := bxa.grown hgb (by simp; omega)
          have hgob : wo.grownBy wb none := grown_new hga hgb (by intro j hj; simp at hj; omega)
          obtain ⟨⟨a0, a1, a2, a3⟩, b0, b1, b2, b3⟩ := tfacts bxb
          go_wp2_with fail
          refine (fix_any F v true _).mono ?_
          rintro e wc ⟨rfl, bc⟩
          have hNc := hNb.below bc hNb.lt
          have hgc : wo.grownBy wc none := grown_below hgob bc hgob.size
          obtain ⟨wd, hrd, hNd, hgd⟩ := hNc.run_add (by have := hN.few; have := Tb.length_add (Tb.fix F v false) Nx; unfold maxLen; omega) (Tb.fix F v true)
          have hgd : wo.grownBy wd none := grown_new hgc hgd (by intro j hj; simp at hj; omega)
          clear a0 a1 a2 a3 b0 b1 b2 b3
          go_wp2_with fail
          have hlen1 := Tb.length_add (Tb.fix F v false) Nx
          have hlen2 := Tb.length_add (Tb.fix F v true) (Tb.add (Tb.fix F v false) Nx)
          have hfew := hN.few
          refine ⟨⟨j + 1, _, by omega, by go_num, hNd, ⟨fun G => ?_⟩, by omega, hgd⟩, by simp [intOf]; omega⟩
          rw [Tb.both_take hF, Tb.mem_add, Tb.mem_add, hN.same.iff G]
          exact ⟨fun h => h.elim (fun h => .inr (.inr h)) (fun h => h.elim (fun h => .inr (.inl h)) .inl), fun h => h.elim (fun h => .inr (.inr h)) (fun h => h.elim (fun h => .inr (.inl h)) .inl)⟩
        · obtain rfl : j = L.length := by omega
          obtain ⟨wq, hrq, hRq, hgq, hzq⟩ := hN.set_.run_range
          obtain ⟨wp, rfl⟩ : ∃ wp : World, wp = wr := ⟨_, rfl⟩
          have hwr : w.heap.size ≤ wp.heap.size := Nat.le_trans hL.grown.size hN.grown.size
          have hG0 : Gat w wq bm wo.heap.size wp.heap.size M' Nx g cap [] Nx M' :=
            ⟨((hL.row.kept hN.grown (by simp)).kept hgq (by simp)).zero, hRq, (hL.met.kept hN.grown (by simp)).kept hgq (by simp), grown_new (grown_new hL.grown hN.grown (by simp)) hgq (by simp),
              hN.set_.nd, ⟨fun F => by simp⟩, ⟨fun F => by simp⟩, by simp, by omega⟩
          go_wp2_with fail
          go_loopw [6, 12] (fun lv _ wr => ∃ (g2 cap2 : Nat) (L2 todo M2 : List Tb.T), lv = .slice (some ⟨g2, 0, none⟩) L2.length cap2 ∧ Gat w wr bm wo.heap.size wp.heap.size M' Nx g2 cap2 L2 todo M2) (fun _ _ wr => wr.rangeLeft wo.heap.size wp.heap.size)
          case atStart => exact ⟨_, _, [], Nx, M', rfl, hG0⟩
          case round =>
            obtain ⟨g2, cap2, L2, todo, M2, rfl, hG⟩ := hrel
            have hbn := hG.rng.set_.lt
            rcases hG.rng.run_next 0 with ⟨hno, hrn⟩ | ⟨F, wn, hF, hrn, hRn, hless, hgn, hzn, hen⟩
            · go_wp2_with fail
              have e0 : todo = [] := List.eq_nil_iff_forall_not_mem.2 hno
              subst e0
              have hp2 : 2 ^ (k + 1 + 1) = 2 * 2 ^ (k + 1) := by rw [Nat.pow_succ]; omega
              have hp1 : 2 ^ (k + 1) = 2 * 2 ^ k := by rw [Nat.pow_succ]; omega
              have q1 := hG.cnt
              have q2 := hG.mcnt
              have q3 := hN.few
              have q4 := hL.few
              have q5 := hL.less
              simp only [List.length_nil, Nat.add_zero] at q1 q2
              have hlevN : ∀ G, G ∈ Nx ↔ G ∈ Tb.levTo f vs (k + 1) := fun G => by
                rw [← Tb.lev_succ hv hL.lev, hN.same.iff G, List.take_length]
              refine ⟨⟨k + 1, g2, cap2, L2, M2, by omega, by go_num, rfl, hG.row, hG.met, hG.grown, ⟨fun G => ?_⟩, ⟨fun G => ?_⟩, by omega, by omega⟩, by simp [intOf]; omega⟩
              · rw [hG.lev.iff G, hlevN G]; simp
              · rw [hG.cof.iff G, hL.cof.iff G, Tb.cof_succ, hlevN G]; simp [or_assoc]
            · obtain ⟨hg2, cs2, hcs2⟩ := hG.row.heap
              have hlt2 := hG.row.lt
              have hTn := hG.row.kept hgn (by simpa using hG.rng.ne_cells hcs2)
              have hMn := hG.met.kept hgn (by simp; omega)
              have hgw : w.grownBy wn (some bm) := grown_new hG.grown hgn (by intro j hj; simp at hj; omega)
              have q0 := hG.nd
              have q1 := hG.cnt
              have q2 := hG.mcnt
              have q3 := hN.few
              have q5 := hL.less
              have q6 := Tb.length_del (F := F) hG.nd
              simp only [hF, if_true] at q6
              have p8 : 2 ^ (k + 1) ≤ 256 := Nat.pow_le_pow_right (n := 2) (by omega) (show k + 1 ≤ 8 by omega)
              obtain ⟨bx, bg, bz⟩ := boxed_new wn F
              have hX := Blk.new (wn.alloc (.cells (Tb.tcells F) 24)) 24 (Tb.tcells F)
              have hgX := World.grownBy_alloc (wn.alloc (.cells (Tb.tcells F) 24)) (.cells (Tb.tcells F) 24) none
              rw [bz] at hX
              have hTX := (hTn.kept bg (by simp)).kept hgX (by simp)
              obtain ⟨g3, cap3, wa, hra, hTa, hga⟩ := hTX.run_append F (wn.heap.size + 1) (fun i hi => by
                rw [hX.cell]
                match i, hi with
                | 0, _ => rfl
                | 1, _ => rfl
                | 2, _ => rfl
                | 3, _ => rfl) (by omega) (by simp; omega) 25 1
              have bxa := ((bx.grown hgX (by simp)).grown hga (by simp; omega))
              obtain ⟨⟨a0, a1, a2, a3⟩, b0, b1, b2, b3⟩ := tfacts bxa
              have hMa := ((hMn.kept bg (by simp)).kept hgX (by simp)).kept hga (by simp; omega)
              obtain ⟨wm, hrm, hMm, hgm⟩ := hMa.run_add (by omega) F
              have hRa := hRn.kept bg (by simp) (by simp)
              have hRb := hRa.1.kept hgX (by simp) (by simp)
              have hRc := hRb.1.kept hga (by have := hG.rng.set_.ne_cells hcs2; simp; omega) (by have := hG.rng.ne_cells hcs2; simp; omega)
              have hwo := hL.grown.size
              have hRm := hRc.1.kept hgm (by simp; omega) (by simp; omega)
              have hless' : wm.rangeLeft wo.heap.size wp.heap.size < wr.rangeLeft wo.heap.size wp.heap.size := by
                rw [hRm.2, hRc.2, hRb.2, hRa.2]; exact hless
              clear hzn bz hRa hRb hRc
              go_wp2_with (first | (at_builtin; refine wpList_by_append _ rfl _ _ _ rfl rfl rfl hra ?_) | fail)
              have hF' := hG.rng.sub F hF
              have q7 := Tb.length_add F M2
              refine ⟨⟨g3, cap3, L2 ++ [F], Tb.del F todo, Tb.add F M2, by simp, ?_⟩, hless'⟩
              refine ⟨hTa.kept hgm (by have := hTa.heap.1; simp; omega), hRm.1, hMm, ?_, Tb.nodup_del hG.nd, ⟨fun G => ?_⟩, ⟨fun G => ?_⟩, by simp; omega, by omega⟩
              · exact grown_new (grown_new (grown_new (grown_new hgw bg (by simp)) hgX (by simp)) hga (by intro j hj; simp at hj; omega)) hgm (by intro j hj; exact .inr hj)
              · rw [List.mem_append, hG.lev.iff G, Tb.mem_del, List.mem_singleton]
                by_cases e : G = F
                · subst e; simp [hF']
                · simp [e]
              · rw [Tb.mem_add, hG.cof.iff G, Tb.mem_del]
                by_cases e : G = F
                · subst e; simp [hF']
                · simp [e]
    · obtain rfl : k = vs.length := by omega
      go_wp2_with fail
      go_end0
      refine ⟨rfl, M', hL.met, hL.grown, ?_, hL.cof.iff⟩
      have q5 := hL.less
      have p8 : 2 ^ (vs.length + 1) ≤ 2 ^ 9 := Nat.pow_le_pow_right (n := 2) (by omega) (by omega)
      simp at p8
      omega
end Go.Proofs.YtfkefgelceaimaaDoor
