/-
  Texts on which the laws of this seat rest, part 11 of 11.
-/
import Derived.Test.YthbifeoohphnpaaBa10
import Derived.Test.YthbifeoohphnpaaRows
import Derived.WalkKit
import Derived.ProofKit
import Derived.OpenShut
/-
  Package compose: the walk.
-/
namespace Go.Proofs.Ythbifeoohphnpaa
set_option linter.unusedVariables false
open Go.RowKit
section
variable {u : World} {a : Act} {o : Oper} {x y : Operand}
theorem exec_ixH {b f n c i : Nat} (hi : i < n) (hop : o.op = .indexAddr 50 x y) (hx : a.eval x = .slice (some ⟨b, f, none⟩) n c) (hy : a.eval y = .int .i64 (i : Int)) :
    (execOp a.eval o).run Try.prog u = .ok (.value (.pointer (some ⟨b, f + i, none⟩))) u := by
  have q0 : (0 : Int) ≤ (i : Int) := by omega
  have q1 : (i : Int) < (n : Int) := by omega
  unfold execOp
  simp only [hop, hx, hy]
  go_simp
theorem exec_ldSt {p off : Nat} {v : Value} (hop : o.op = .load 26 x) (hx : a.eval x = .pointer (some ⟨p, off, none⟩)) (hc : u.cell? ⟨p, off, none⟩ = some v) :
    (execOp a.eval o).run Try.prog u = .ok (.value v) u := by
  unfold execOp
  simp only [hop, hx]
  go_simp
theorem exec_ldHs {p off : Nat} {v : Value} (hop : o.op = .load 50 x) (hx : a.eval x = .pointer (some ⟨p, off, none⟩)) (hc : u.cell? ⟨p, off, none⟩ = some v) :
    (execOp a.eval o).run Try.prog u = .ok (.value v) u := by
  unfold execOp
  simp only [hop, hx]
  go_simp
end
theorem CRes.after {base bm : Nat} {p : Option Addr} {gs : List Int} {gt : Nat → Tb.T} {B : Bk} {w w1 w' : World} {S : Sto} {f cost : Nat} {e : Ending} (hf : Fr [] w w1) (h : CRes base bm p gs gt B w1 S f cost e w') : CRes base bm p gs gt B w S f cost e w' := by
  obtain ⟨S', B', m', h1, h2, h3⟩ := h
  exact ⟨S', B', m', h1, StpX.after hf h2, h3⟩
theorem OpRes.parts {base : Nat} {B : Bk} {w w' : World} {S : Sto} {T : Tb.T} {c : Nat} {r q : Int} (h : OpRes base B w S T c (.returned (.tuple #[.int .u32 r, .int .i64 q])) w') :
    ∃ S' B', StG w' base B' S' ∧ Stp B w B' w' ∧ S.Ext S' ∧ S.New S' T ∧ S'.hi ≤ S.hi + c ∧ ((q = 0 ∧ ∃ h : Nat, r = (h : Int) ∧ S'.is h = true ∧ S'.tab h = T) ∨ (q = 60 ∧ r = 0 ∧ S'.room ≤ S'.len)) := by
  obtain ⟨S', B', h1, h2, h3, h3n, h4, h5⟩ := h
  refine ⟨S', B', h1, h2, h3, h3n, h4, ?_⟩
  rcases h5 with ⟨x, he, h6⟩ | ⟨he, h6⟩
  · unfold retHE at he
    simp only [Ending.returned.injEq, Value.tuple.injEq, List.toArray_inj, Array.mk.injEq, List.cons.injEq, Value.int.injEq, true_and, and_true] at he
    exact .inl ⟨by omega, x, by omega, h6⟩
  · unfold retHE at he
    simp only [Ending.returned.injEq, Value.tuple.injEq, List.toArray_inj, Array.mk.injEq, List.cons.injEq, Value.int.injEq, true_and, and_true] at he
    exact .inr ⟨by omega, by omega, h6⟩
set_option maxRecDepth 100000 in
set_option maxHeartbeats 4000000 in
theorem doesC_step (D : Nat → Bool) (κ C : Nat → Nat) (l : Nat) (ih : ∀ l', l < l' → DoesC D κ C l') : DoesC D κ C l := by
  intro base bm p cap gs gt B S m f w E HK HC hif hl hfr
  have HE := Bx.mk E
  have HKK := Bx.mk HK
  have HCO := Bx.mk HC
  have HIF := Bx.mk hif
  have HL := Bx.mk hl
  have HFR := Bx.mk hfr
  have HIH := Bx.mk ih
  have sf := E.G.small hif
  have hX0 : Blk (w.alloc (.cells (cwC B.s p S.n cap bm) 122)) w.heap.size 122 (cwC B.s p S.n cap bm) := Blk.new w _ _
  have hF0 : Fr [] w (w.alloc (.cells (cwC B.s p S.n cap bm) 122)) := (Fr.refl _ _).alloc _
  obtain ⟨n, hn⟩ : ∃ n, n = S.n := ⟨_, rfl⟩
  rw [← hn] at hX0 hF0 ⊢
  have HN := Bx.mk hn
  clear E HK HC hif hl hfr ih hn
  cases hg : S.get f with
  | none =>
    have hf2 := S.is_none HIF.out hg
    have hdec : decide ((f : Int) ≤ 1) = true := decide_eq_true (by omega)
    have qf : (f : Int) ≤ 1 := by omega
    have HF2 := Bx.mk hf2
    clear hf2 hg
    go_enter Try.func68, Try.ntmps68
    go_wp2_with fail
    go_ret2
    have e0 := HE.out.fr0 hF0
    exact ⟨S, B, m, e0, StpX.of_fr (hF0.mono (by simp)), Sto.Ext.refl _, by omega, .inl ⟨f, rfl, HIF.out, by
      rcases HF2.out with rfl | rfl
      · rw [Sto.tab_zero, Tb.subst_zero]
      · rw [Sto.tab_one, Tb.subst_one]⟩⟩
  | some nd =>
    have hlt := Sto.get_lt hg
    have qf : ¬ (f : Int) ≤ 1 := by omega
    have HGET := Bx.mk hg
    have HSF := Bx.mk sf
    obtain ⟨k1, k2, k3, k4, k5⟩ := HE.out.G.wf.kid f nd hg
    have HKID := Bx.mk (And.intro k1 (And.intro k2 (And.intro k3 (And.intro k4 k5))))
    clear hg hlt sf k1 k2 k3 k4 k5
    obtain ⟨⟨g0, g1, g2⟩, gz⟩ := three hX0
    have HX0 := Bx.mk (Loc.new (B := B) HE.out.G (Nat.le_refl _) hX0)
    have HF0 := Bx.mk hF0
    have HE0 := Bx.mk (HE.out.fr0 hF0)
    have HBN := Bx.mk (show bm ≠ w.heap.size from fun e => absurd HE.out.mp.lt (by omega))
    clear hX0 hF0 gz
    go_enter Try.func68, Try.ntmps68
    go_wp2_with fail
    generalize w.alloc (.cells (cwC B.s p n cap bm) 122) = w0 at *
    obtain ⟨v, hv, hlk⟩ := HE0.out.mp.run_ok (t := 120) Try.underlying120 Try.underlying31 Try.underlying31 (zeroHandle _) f (by have := HSF.out; omega) (wf_u32n (by have := HSF.out; omega))
    cases hmf : m f with
    | some r =>
      have hvr : v = r := by
        rcases hv with h | h
        · rw [hmf] at h; exact (Option.some.inj h).symm
        · rw [hmf] at h; cases h
      subst hvr
      rw [hmf] at hlk
      have HR := Bx.mk (HE.out.ok f v hmf)
      clear hmf hv
      rw [hlk]
      go_wp2_with fail
      go_ret2
      exact ⟨S, B, m, HE0.out, StpX.of_fr (HF0.out.mono (by simp)), Sto.Ext.refl _, by omega, .inl ⟨v, rfl, HR.out.2⟩⟩
    | none =>
      rw [hmf] at hlk
      have hfr2 : ∀ q : Bool, ∀ i, i < S.n → D i = false → Tb.Free (S.tab (if q then nd.b else nd.a)) (S.vars.getD i 0) := fun q i hi hd => by
        have h8 := HE.out.G.wf.n8
        have hv1 := (HE.out.G.od.lt nd.l HKID.out.1).1
        have hvi := (HE.out.G.od.lt i hi).1
        have h1 := HFR.out i hi hd
        have hs := fun q => (HE.out.G.wf.sub_ok HE.out.G.od HIF.out (l := nd.l) (by rw [Sto.lev_nd HGET.out]; omega) HKID.out.1 q).2.2
        have e0 : S.sub nd.l q f = if q then nd.b else nd.a := by
          unfold Sto.sub Sto.high Sto.low
          rw [Sto.lev_nd HGET.out, if_pos rfl, HGET.out]
        rw [← e0, hs q]
        exact Tb.free_fix (by omega) (by omega) h1 q
      have hlnd : l ≤ nd.l := by have := HL.out; rw [Sto.lev_nd HGET.out] at this; omega
      have hdl : D nd.l = true := by
        cases hd : D nd.l with
        | true => rfl
        | false =>
          exfalso
          have h8 := HE.out.G.wf.n8
          have := HE.out.G.wf.lev_ge HE.out.G.od HIF.out (k := nd.l + 1) (by have := HKID.out.1; omega) (fun i hi => by
            by_cases e : i = nd.l
            · rw [e]; exact HFR.out nd.l HKID.out.1 hd
            · exact HE.out.G.wf.free' HE.out.G.od HIF.out (by rw [Sto.lev_nd HGET.out]; omega) (by have := HKID.out.1; omega))
          rw [Sto.lev_nd HGET.out] at this
          omega
      have HBO := Bx.mk (both_any D κ C base bm p cap gs gt B S m f nd w0 HE0.out HKK.out HCO.out HGET.out (HIH.out (nd.l + 1) (by omega)) hfr2)
      have HCALL : Bx (κ nd.l + 2 * C (nd.l + 1) ≤ C l) := ⟨HCO.out l nd.l hlnd HKID.out.1 hdl⟩
      have HFL : Bx (∀ i, i < S.n → (D i = false ∨ i < nd.l) → Tb.Free (S.tab f) (S.vars.getD i 0)) := ⟨fun i hi h => h.elim (HFR.out i hi) fun hl => HE.out.G.wf.free' HE.out.G.od HIF.out (by rw [Sto.lev_nd HGET.out]; omega) hi⟩
      have HLND := Bx.mk hlnd
      have HMF := Bx.mk hmf
      rw [← HN.out] at HBO
      clear hmf hv hfr2 hlnd hdl
      rw [hlk]
      go_wp2_with fail
      refine HBO.out.mono ?_
      rintro e w2 ⟨S1, B1, m1, E1, st1, X1, hi1, q1, r1, r2, rfl, hr1⟩
      have HR1 := Bx.mk hr1
      have HP1 : Bx (CEnv base bm p gs gt B1 S1 m1 w2 ∧ StpX [bm] B w B1 w2 ∧ S.Ext S1 ∧ S1.hi ≤ S.hi + 2 * (C (nd.l + 1)) ∧ B1.s = B.s) := ⟨E1, StpX.after HF0.out st1, X1, hi1, st1.s⟩
      have hL1 := HX0.out.stepX st1 (by simp only [List.mem_singleton]; exact fun e => HBN.out e.symm)
      clear g0 g1 g2 hr1 E1 st1 X1 hi1 HBO HX0 hlk
      obtain ⟨⟨g0, g1, g2⟩, gz⟩ := three hL1.blk
      have HX1 := Bx.mk hL1
      clear hL1 gz
      cases q1 with
      | false =>
        simp only [Bool.false_eq_true, if_false]
        go_wp2_with fail
        go_ret2
        exact ⟨S1, B1, m1, HP1.out.1, HP1.out.2.1, HP1.out.2.2.1, by have := HP1.out.2.2.2.1; have := HCALL.out; omega, .inr ⟨rfl, by simpa using HR1.out⟩⟩
      | true =>
        simp only [if_true]
        have hr1 := HR1.out
        simp only [if_true] at hr1
        have HR1' := Bx.mk hr1
        clear hr1 HR1
        go_wp2_with fail
        have HORD := Bx.mk (fun (u : World) (h : StG u base B1 S1) => gorder_any h)
        rw [HP1.out.2.2.2.2] at HORD
        have HLEV := Bx.mk (fun (u : World) (h : StG u base B1 S1) => glevel_any h (HP1.out.2.2.1.is HIF.out))
        rw [HP1.out.2.2.2.2, HP1.out.2.2.1.lev HIF.out, Sto.lev_nd HGET.out] at HLEV
        have HNL := Bx.mk (show nd.l < S1.n by rw [HP1.out.2.2.1.n]; exact HKID.out.1)
        obtain ⟨v2, hv2⟩ : ∃ v2, v2 = S.vars.getD nd.l 0 := ⟨_, rfl⟩
        have HV2 := Bx.mk hv2
        have HVAR := Bx.mk (fun (o : Nat) (u : World) (h : Blk u o 102 (ordV S1)) => ovar_any o nd.l S1 u h HP1.out.1.G.vl HNL.out)
        rw [HP1.out.2.2.1.vars, ← hv2] at HVAR
        clear hv2
-- ⟦CM9
        refine region_any 100 (fun u => Fr [] w2 u) (by kernel_rfl) ?_
        generalize hu : World.drew _ = y0
        have hS : Fr [] w2 y0 := by rw [← hu]; exact (Fr.refl _ _).drew
        clear hu
        refine any_tk (i := 0) (.pointer (some ⟨w.heap.size, 0, none⟩)) rfl rfl (by kernel_rfl) (fun _ _ d _ _ h => by cases d <;> exact h) (fun u hS => rfl) hS ?_
        try simp only [Act.put, List.getElem_toArray, List.getElem_cons_succ, List.getElem_cons_zero, List.setIfInBounds_toArray, List.set_cons_succ, List.set_cons_zero]
        refine any_tk (i := 1) (.pointer (some ⟨B.s, 0, none⟩)) rfl rfl (by kernel_rfl) (fun _ _ d _ _ h => by cases d <;> exact h) (fun u hS => exec_ldSt rfl rfl ((HX1.out.blk.fr hS (by simp)).cellEq (i := 0) rfl)) hS ?_
        try simp only [Act.put, List.getElem_toArray, List.getElem_cons_succ, List.getElem_cons_zero, List.setIfInBounds_toArray, List.set_cons_succ, List.set_cons_zero]
        refine any_tk (i := 3) (.pointer (some ⟨w.heap.size, 0, none⟩)) rfl rfl (by kernel_rfl) (fun _ _ d _ _ h => by cases d <;> exact h) (fun u hS => rfl) hS ?_
        try simp only [Act.put, List.getElem_toArray, List.getElem_cons_succ, List.getElem_cons_zero, List.setIfInBounds_toArray, List.set_cons_succ, List.set_cons_zero]
        refine any_tk (i := 4) (.pointer (some ⟨B.s, 0, none⟩)) rfl rfl (by kernel_rfl) (fun _ _ d _ _ h => by cases d <;> exact h) (fun u hS => exec_ldSt rfl rfl ((HX1.out.blk.fr hS (by simp)).cellEq (i := 0) rfl)) hS ?_
        try simp only [Act.put, List.getElem_toArray, List.getElem_cons_succ, List.getElem_cons_zero, List.setIfInBounds_toArray, List.set_cons_succ, List.set_cons_zero]
        refine any_tk (i := 5) (.int .u32 (f : Int)) rfl rfl (by kernel_rfl) (fun _ _ d _ _ h => by cases d <;> exact h) (fun u hS => rfl) hS ?_
        try simp only [Act.put, List.getElem_toArray, List.getElem_cons_succ, List.getElem_cons_zero, List.setIfInBounds_toArray, List.set_cons_succ, List.set_cons_zero]
        refine any_branch [2] (by kernel_rfl) rfl fun ix hix => ?_
        simp only [List.mem_cons, List.not_mem_nil, or_false] at hix
        subst hix
        refine any_op rfl rfl fun K hK => ?_
        go_simp
        refine (HORD.out _ (HP1.out.1.G.fr0 hS)).mono ?_
        rintro e y1 ⟨rfl, ho, hf, hz⟩
        replace hS := hS.trans hf (by simp)
        clear hf hz
        refine hK _ _ (fun _ => hS) ?_
        try simp only [Act.put, List.getElem_toArray, List.getElem_cons_succ, List.getElem_cons_zero, List.setIfInBounds_toArray, List.set_cons_succ, List.set_cons_zero]
        clear hK
        refine any_branch [6] (by kernel_rfl) rfl fun ix hix => ?_
        simp only [List.mem_cons, List.not_mem_nil, or_false] at hix
        subst hix
        refine any_op rfl rfl fun K hK => ?_
        go_simp
        refine (HLEV.out _ (HP1.out.1.G.fr0 hS)).mono ?_
        rintro e y2 ⟨rfl, rfl⟩
        refine hK _ _ (fun _ => hS) ?_
        try simp only [Act.put, List.getElem_toArray, List.getElem_cons_succ, List.getElem_cons_zero, List.setIfInBounds_toArray, List.set_cons_succ, List.set_cons_zero]
        clear hK
        refine any_branch [7] (by kernel_rfl) rfl fun ix hix => ?_
        simp only [List.mem_cons, List.not_mem_nil, or_false] at hix
        subst hix
        refine any_op rfl rfl fun K hK => ?_
        go_simp
        refine (HVAR.out _ _ ho).mono ?_
        rintro e y3 ⟨rfl, rfl⟩
        clear ho
        refine hK _ _ (fun _ => hS) ?_
        try simp only [Act.put, List.getElem_toArray, List.getElem_cons_succ, List.getElem_cons_zero, List.setIfInBounds_toArray, List.set_cons_succ, List.set_cons_zero]
        clear hK
        refine any_tk (i := 8) (.int .i64 (v2 : Int)) rfl rfl (by kernel_rfl) (fun _ _ d _ _ h => by cases d <;> exact h) (fun u hS => rfl) hS ?_
        try simp only [Act.put, List.getElem_toArray, List.getElem_cons_succ, List.getElem_cons_zero, List.setIfInBounds_toArray, List.set_cons_succ, List.set_cons_zero]
        refine any_end (by kernel_rfl) ?_
-- ⟧
        have HF3 := Bx.mk hS
        have HE1 := Bx.mk (HP1.out.1.fr0 hS)
        have hL1 := HX1.out.fr0 hS
        clear g0 g1 g2 hS HORD HLEV HVAR
        obtain ⟨⟨g0, g1, g2⟩, gz⟩ := three hL1.blk
        have HX2 := Bx.mk hL1
        clear hL1 gz
        have hv2n : v2 < S.n := by rw [HV2.out]; exact (HE.out.G.od.lt nd.l HKID.out.1).1
        have HVN := Bx.mk (show v2 < n by rw [HN.out]; exact hv2n)
        obtain ⟨gh, hgh, igh, tgh⟩ := HE1.out.gi v2 (by rw [HP1.out.2.2.1.n]; exact hv2n)
        obtain ⟨pg, po, rfl, hpo, hpc⟩ := HE1.out.rd.at_ v2 _ hgh
        have HPC := Bx.mk (And.intro hpo hpc)
        have HITE := Bx.mk (fun (u : World) (h : StG u base B1 S1) => ite_lg base B1 S1 gh r2 r1 0 u h igh HR1'.out.2.2.1 HR1'.out.1 (Sto.low_le h.wf igh) (Sto.low_le h.wf HR1'.out.2.2.1) (Sto.low_le h.wf HR1'.out.1))
        rw [HP1.out.2.2.2.2, tgh, HR1'.out.2.2.2, HR1'.out.2.1, ← Tb.subst_mux (by have := HE.out.G.wf.n8; omega), HP1.out.2.2.1.n] at HITE
        rw [show Tb.mux (v2 : Int) (S.tab nd.a) (S.tab nd.b) = S.tab f from by rw [HE.out.G.wf.tab_nd HGET.out, HV2.out]] at HITE
        clear hv2n hgh igh tgh hpo hpc
        go_wp2_with fail
-- ⟦CM10
        refine region_any 100 (fun u => Fr B1.own y3 u) (by kernel_rfl) ?_
        generalize hu : World.drew _ = z0
        have hS : Fr B1.own y3 z0 := by rw [← hu]; exact (Fr.refl _ _).drew
        have hq := (Fr.refl [] y3).drew
        rw [hu] at hq
        clear hu
        refine any_tk (i := 0) (.pointer (some ⟨w.heap.size, 0, none⟩)) rfl rfl (by kernel_rfl) (fun _ _ d _ _ h => by cases d <;> exact h) (fun u hS => rfl) hS ?_
        try simp only [Act.put, List.getElem_toArray, List.getElem_cons_succ, List.getElem_cons_zero, List.setIfInBounds_toArray, List.set_cons_succ, List.set_cons_zero]
        refine any_tk (i := 1) (.pointer (some ⟨B.s, 0, none⟩)) rfl rfl (by kernel_rfl) (fun _ _ d _ _ h => by cases d <;> exact h) (fun u hS => exec_ldSt rfl rfl ((HX2.out.blk.fr hS HX2.out.out).cellEq (i := 0) rfl)) hS ?_
        try simp only [Act.put, List.getElem_toArray, List.getElem_cons_succ, List.getElem_cons_zero, List.setIfInBounds_toArray, List.set_cons_succ, List.set_cons_zero]
        refine any_tk (i := 2) (.pointer (some ⟨w.heap.size, 1, none⟩)) rfl rfl (by kernel_rfl) (fun _ _ d _ _ h => by cases d <;> exact h) (fun u hS => rfl) hS ?_
        try simp only [Act.put, List.getElem_toArray, List.getElem_cons_succ, List.getElem_cons_zero, List.setIfInBounds_toArray, List.set_cons_succ, List.set_cons_zero]
        refine any_tk (i := 3) (.slice (some ⟨pg, po, none⟩) n cap) rfl rfl (by kernel_rfl) (fun _ _ d _ _ h => by cases d <;> exact h) (fun u hS => exec_ldHs rfl rfl ((HX2.out.blk.fr hS HX2.out.out).cellEq (i := 1) rfl)) hS ?_
        try simp only [Act.put, List.getElem_toArray, List.getElem_cons_succ, List.getElem_cons_zero, List.setIfInBounds_toArray, List.set_cons_succ, List.set_cons_zero]
        refine any_tk (i := 4) (.int .i64 (v2 : Int)) rfl rfl (by kernel_rfl) (fun _ _ d _ _ h => by cases d <;> exact h) (fun u hS => rfl) hS ?_
        try simp only [Act.put, List.getElem_toArray, List.getElem_cons_succ, List.getElem_cons_zero, List.setIfInBounds_toArray, List.set_cons_succ, List.set_cons_zero]
        refine any_tk (i := 5) (.pointer (some ⟨pg, po + v2, none⟩)) rfl rfl (by kernel_rfl) (fun _ _ d _ _ h => by cases d <;> exact h) (fun u hS => exec_ixH HVN.out rfl rfl rfl) hS ?_
        try simp only [Act.put, List.getElem_toArray, List.getElem_cons_succ, List.getElem_cons_zero, List.setIfInBounds_toArray, List.set_cons_succ, List.set_cons_zero]
        refine any_tk (i := 6) (.int .u32 (gh : Int)) rfl rfl (by kernel_rfl) (fun _ _ d _ _ h => by cases d <;> exact h) (fun u hS => exec_ldH rfl rfl (cell_fr hS HPC.out.1 HPC.out.2)) hS ?_
        try simp only [Act.put, List.getElem_toArray, List.getElem_cons_succ, List.getElem_cons_zero, List.setIfInBounds_toArray, List.set_cons_succ, List.set_cons_zero]
        refine any_tk (i := 7) (.int .u32 (r2 : Int)) rfl rfl (by kernel_rfl) (fun _ _ d _ _ h => by cases d <;> exact h) (fun u hS => rfl) hS ?_
        try simp only [Act.put, List.getElem_toArray, List.getElem_cons_succ, List.getElem_cons_zero, List.setIfInBounds_toArray, List.set_cons_succ, List.set_cons_zero]
        refine any_tk (i := 8) (.int .u32 (r1 : Int)) rfl rfl (by kernel_rfl) (fun _ _ d _ _ h => by cases d <;> exact h) (fun u hS => rfl) hS ?_
        try simp only [Act.put, List.getElem_toArray, List.getElem_cons_succ, List.getElem_cons_zero, List.setIfInBounds_toArray, List.set_cons_succ, List.set_cons_zero]
        refine any_branch [9] (by kernel_rfl) rfl fun ix hix => ?_
        simp only [List.mem_cons, List.not_mem_nil, or_false] at hix
        subst hix
        refine any_op rfl rfl fun K hK => ?_
        go_simp
        refine (HITE.out _ (HE1.out.G.fr0 hq)).mono ?_
        rintro e z1 hres
        obtain ⟨p3, r3, rfl⟩ := hres.pair
        obtain ⟨_, _, _, hst, _⟩ := id hres
        replace hS := hS.trans hst.fr (fun b hb _ => hb)
        replace hres := hres.after hq
        clear hst hq
        refine hK _ _ (fun _ => hS) ?_
        try simp only [Act.put, List.getElem_toArray, List.getElem_cons_succ, List.getElem_cons_zero, List.setIfInBounds_toArray, List.set_cons_succ, List.set_cons_zero]
        clear hK
        refine any_tk (i := 10) (.tuple #[.int .u32 r3, .int .i64 p3]) rfl rfl (by kernel_rfl) (fun _ _ d _ _ h => by cases d <;> exact h) (fun u hS => rfl) hS ?_
        try simp only [Act.put, List.getElem_toArray, List.getElem_cons_succ, List.getElem_cons_zero, List.setIfInBounds_toArray, List.set_cons_succ, List.set_cons_zero]
        refine any_tk (i := 11) (.int .u32 r3) rfl rfl (by kernel_rfl) (fun _ _ d _ _ h => by cases d <;> exact h) (fun u hS => rfl) hS ?_
        try simp only [Act.put, List.getElem_toArray, List.getElem_cons_succ, List.getElem_cons_zero, List.setIfInBounds_toArray, List.set_cons_succ, List.set_cons_zero]
        refine any_tk (i := 12) (.int .i64 p3) rfl rfl (by kernel_rfl) (fun _ _ d _ _ h => by cases d <;> exact h) (fun u hS => rfl) hS ?_
        try simp only [Act.put, List.getElem_toArray, List.getElem_cons_succ, List.getElem_cons_zero, List.setIfInBounds_toArray, List.set_cons_succ, List.set_cons_zero]
        refine any_tk (i := 13) (.int .u32 r3) rfl rfl (by kernel_rfl) (fun _ _ d _ _ h => by cases d <;> exact h) (fun u hS => rfl) hS ?_
        try simp only [Act.put, List.getElem_toArray, List.getElem_cons_succ, List.getElem_cons_zero, List.setIfInBounds_toArray, List.set_cons_succ, List.set_cons_zero]
        refine any_tk (i := 14) (.int .i64 p3) rfl rfl (by kernel_rfl) (fun _ _ d _ _ h => by cases d <;> exact h) (fun u hS => rfl) hS ?_
        try simp only [Act.put, List.getElem_toArray, List.getElem_cons_succ, List.getElem_cons_zero, List.setIfInBounds_toArray, List.set_cons_succ, List.set_cons_zero]
        refine any_end (by kernel_rfl) ?_
-- ⟧
        obtain ⟨S2, B2, G2, st2, X2, nw2, hi2, hcase⟩ := hres.parts
        have hE2 := HE1.out.step G2 st2 X2
        have HP2 : Bx (CEnv base bm (some ⟨pg, po, none⟩) gs gt B2 S2 m1 z1 ∧ StpX [bm] B w B2 z1 ∧ S.Ext S2 ∧ S2.hi ≤ S.hi + C l ∧ B2.s = B.s) := ⟨hE2, (HP1.out.2.1.trans ((StpX.of_fr (B := B1) (HF3.out.mono (S' := [bm]) (by simp))).trans st2.toX)), HP1.out.2.2.1.trans X2, by
          have := HKK.out nd.l (S.tab f) S1 S2 HKID.out.1 HFL.out HP1.out.1.G.wf G2.wf HP1.out.1.G.od HP1.out.2.2.1.n HP1.out.2.2.1.vars X2 nw2 hi2
          have h2 := HP1.out.2.2.2.1
          have h3 := HCALL.out
          omega, st2.s.trans HP1.out.2.2.2.2⟩
        have hL1 := HX2.out.step st2
        clear g0 g1 g2 hres G2 st2 X2 nw2 hi2 hE2 HITE hS
        obtain ⟨⟨g0, g1, g2⟩, gz⟩ := three hL1.blk
        clear hL1 gz
        rcases hcase with ⟨rfl, h3, rfl, hi3, ht3⟩ | ⟨rfl, rfl, hfull⟩
        · have HH := Bx.mk (And.intro hi3 ht3)
          have s3 := HP2.out.1.G.small hi3
          obtain ⟨w5, hup, hmp5, hf5, hz5⟩ := HP2.out.1.mp.run_set (t := 120) Try.underlying120 Try.underlying31 Try.underlying31 f h3 (by have := HSF.out; omega) (wf_u32n (by have := HSF.out; omega)) (wf_u32n (by omega))
          have hno : bm ∉ B2.own := HP2.out.1.bo
          have HP5 : Bx (CEnv base bm (some ⟨pg, po, none⟩) gs gt B2 S2 (fun y => if y = f then some h3 else m1 y) w5 ∧ StpX [bm] B w B2 w5) := ⟨⟨HP2.out.1.G.fr hf5 (fun b hb hm => by simp at hm; subst hm; exact hno hb), HP2.out.1.rd.fr hf5 (fun g off e hm => by simp at hm; exact HP2.out.1.pb g off e hm), hmp5, hno, HP2.out.1.pb, HP2.out.1.len, HP2.out.1.gi, fun x r hx => by
            by_cases e : x = f
            · subst e
              simp only [if_true, Option.some.injEq] at hx
              subst hx
              exact ⟨HP2.out.2.2.1.is HIF.out, hi3, by rw [ht3, HP2.out.2.2.1.tab HE.out.G.wf HIF.out]⟩
            · simp only [if_neg e] at hx
              exact HP2.out.1.ok x r hx⟩, HP2.out.2.1.trans (StpX.of_fr hf5)⟩
          clear hmp5 hf5 hz5 hno hi3 ht3 s3
          go_wp2_with fail
          go_ret2
          exact ⟨S2, B2, _, HP5.out.1, HP5.out.2, HP2.out.2.2.1, HP2.out.2.2.2.1, .inl ⟨h3, rfl, HH.out⟩⟩
        · have HH := Bx.mk hfull
          clear hfull
          go_wp2_with fail
          go_ret2
          exact ⟨S2, B2, m1, HP2.out.1, HP2.out.2.1, HP2.out.2.2.1, HP2.out.2.2.2.1, .inr ⟨rfl, HH.out⟩⟩
/-- the walk, from whatever level -/
theorem doesC_all (D : Nat → Bool) (κ C : Nat → Nat) : ∀ (d l : Nat), 9 ≤ l + d → DoesC D κ C l := by
  intro d
  induction d with
  | zero =>
    intro l hl base bm p cap gs gt B S m f w E HK HC hif hlf
    have h1 := (Sto.lev_le E.G.wf hif).2.1
    have h8 := E.G.wf.n8
    omega
  | succ d ih => exact fun l hl => doesC_step D κ C l (fun l' h => ih l' (by omega))
end Go.Proofs.Ythbifeoohphnpaa

/-
  Package compose: tables in variables' places.
-/
namespace Go.Proofs.Ythbifeoohphnpaa
set_option linter.unusedVariables false
open Go.RowKit
/-- what an operation on a store gives, new nodes counted alone -/
def SuRes (base : Nat) (B : Bk) (w : World) (S : Sto) (T : Tb.T) (c : Nat) (e : Ending) (w' : World) : Prop :=
  ∃ S' B', StG w' base B' S' ∧ Stp B w B' w' ∧ S.Ext S' ∧ S'.hi ≤ S.hi + c ∧ ((∃ r, e = retHE r 0 ∧ S'.is r = true ∧ S'.tab r = T) ∨ (e = retHE 0 60 ∧ S'.room ≤ S'.len))
theorem OpRes.su {base : Nat} {B : Bk} {w w' : World} {S : Sto} {T : Tb.T} {c : Nat} {e : Ending} (h : OpRes base B w S T c e w') : SuRes base B w S T c e w' := by
  obtain ⟨S', B', h1, h2, h3, h3n, h4⟩ := h
  exact ⟨S', B', h1, h2, h3, h4⟩
theorem SuRes.after {base : Nat} {B : Bk} {w w1 w' : World} {S : Sto} {T : Tb.T} {c : Nat} {e : Ending} (hf : Fr [] w w1) (h : SuRes base B w1 S T c e w') : SuRes base B w S T c e w' := by
  obtain ⟨S', B', h1, h2, h3⟩ := h
  exact ⟨S', B', h1, Stp.after hf h2, h3⟩
theorem SuRes.mono {base : Nat} {B : Bk} {w w' : World} {S : Sto} {T : Tb.T} {c c' : Nat} {e : Ending} (h : SuRes base B w S T c e w') (hc : c ≤ c') : SuRes base B w S T c' e w' := by
  obtain ⟨S', B', h1, h2, h3, h4, h5⟩ := h
  exact ⟨S', B', h1, h2, h3, by omega, h5⟩
/-- behind some steps already -/
theorem SuRes.trans {base : Nat} {B B1 : Bk} {w w1 w' : World} {S S1 : Sto} {T : Tb.T} {c c1 : Nat} {e : Ending} (st : Stp B w B1 w1) (X : S.Ext S1) (hi : S1.hi ≤ S.hi + c1) (h : SuRes base B1 w1 S1 T c e w') : SuRes base B w S T (c1 + c) e w' := by
  obtain ⟨S', B', h1, h2, h3, h4, h5⟩ := h
  exact ⟨S', B', h1, st.trans h2, X.trans h3, by omega, h5⟩
theorem SuRes.pair {base : Nat} {B : Bk} {w w' : World} {S : Sto} {T : Tb.T} {c : Nat} {e : Ending} (h : SuRes base B w S T c e w') : ∃ (p : Int) (r : Int), e = .returned (.tuple #[.int .u32 r, .int .i64 p]) := by
  obtain ⟨_, _, _, _, _, _, h5⟩ := h
  rcases h5 with ⟨r, he, _⟩ | ⟨he, _⟩
  · exact ⟨_, _, he⟩
  · exact ⟨_, _, he⟩
theorem SuRes.parts {base : Nat} {B : Bk} {w w' : World} {S : Sto} {T : Tb.T} {c : Nat} {r q : Int} (h : SuRes base B w S T c (.returned (.tuple #[.int .u32 r, .int .i64 q])) w') :
    ∃ S' B', StG w' base B' S' ∧ Stp B w B' w' ∧ S.Ext S' ∧ S'.hi ≤ S.hi + c ∧ ((q = 0 ∧ ∃ h : Nat, r = (h : Int) ∧ S'.is h = true ∧ S'.tab h = T) ∨ (q = 60 ∧ r = 0 ∧ S'.room ≤ S'.len)) := by
  obtain ⟨S', B', h1, h2, h3, h4, h5⟩ := h
  refine ⟨S', B', h1, h2, h3, h4, ?_⟩
  rcases h5 with ⟨x, he, h6⟩ | ⟨he, h6⟩
  · unfold retHE at he
    simp only [Ending.returned.injEq, Value.tuple.injEq, List.toArray_inj, Array.mk.injEq, List.cons.injEq, Value.int.injEq, true_and, and_true] at he
    exact .inl ⟨by omega, x, by omega, h6⟩
  · unfold retHE at he
    simp only [Ending.returned.injEq, Value.tuple.injEq, List.toArray_inj, Array.mk.injEq, List.cons.injEq, Value.int.injEq, true_and, and_true] at he
    exact .inr ⟨by omega, by omega, h6⟩
/-- with room enough there is a handle -/
theorem SuRes.ok {base : Nat} {B : Bk} {w w' : World} {S : Sto} {T : Tb.T} {c : Nat} {e : Ending} (h : SuRes base B w S T c e w') (hroom : S.hi + c + 14 < S.room) :
    ∃ S' B', StG w' base B' S' ∧ Stp B w B' w' ∧ S.Ext S' ∧ S'.hi ≤ S.hi + c ∧ ∃ r, e = retHE r 0 ∧ S'.is r = true ∧ S'.tab r = T := by
  obtain ⟨S', B', h1, h2, h3, h4, h5⟩ := h
  rcases h5 with h6 | ⟨he, h6⟩
  · exact ⟨S', B', h1, h2, h3, h4, h6⟩
  · exfalso
    have := h1.wf.len_hi
    rw [h3.room] at h6
    omega
theorem MadeRes.ok {base : Nat} {B : Bk} {w w' : World} {S : Sto} {T : Tb.T} {c : Nat} {e : Ending} (h : MadeRes base B w S T c e w') (hroom : S.hi + c + 14 < S.room) :
    ∃ S' B', StG w' base B' S' ∧ Stp B w B' w' ∧ S.Ext S' ∧ S.New S' T ∧ S'.hi ≤ S.hi + c ∧ ∃ r : Nat, e = .returned (.tuple #[.int .u32 (r : Int), .bool true]) ∧ S'.is r = true ∧ S'.tab r = T := by
  obtain ⟨S', B', h1, h2, h3, h3n, h4, h5⟩ := h
  rcases h5 with h6 | ⟨he, h6⟩
  · exact ⟨S', B', h1, h2, h3, h3n, h4, h6⟩
  · exfalso
    have := h1.wf.len_hi
    rw [h3.room] at h6
    omega
theorem KapOk.any (D : Nat → Bool) (n : Nat) (vars : List Nat) (gt : Nat → Tb.T) : KapOk D n vars gt (fun _ => Sto.cost n 0) := fun l f S1 S2 _ _ _ _ _ _ _ _ _ h => h
theorem CostOk.const (D : Nat → Bool) (n k : Nat) : CostOk D n (fun _ => k) (fun l => k * Sto.calls D n l) := fun l l' hl hn hd => by
  have h1 := Sto.calls_step hn hd
  have h2 := Sto.calls_mono (D := D) hl (Nat.le_of_lt hn)
  have h3 := Nat.mul_le_mul_left k h2
  rw [← h1, Nat.mul_add, Nat.mul_one, ← Nat.mul_assoc, Nat.mul_comm k 2, Nat.mul_assoc] at h3
  exact h3
/-- a table for each variable -/
def gtOf (Ts : List Tb.T) (v : Nat) : Tb.T := Ts.getD v 0#256
set_option maxRecDepth 100000 in
set_option maxHeartbeats 2000000 in
theorem subst_any (D : Nat → Bool) (κ C : Nat → Nat) (base : Nat) (B : Bk) (S : Sto) (f : Nat) (p : Option Addr) (cap : Nat) (gs : List Int) (Ts : List Tb.T) (w : World) (G : StG w base B S) (hif : S.is f = true) (hr : RdN .u32 B w p gs) (hT : HsOf S gs Ts) (hn : Ts.length = S.n)
    (HK : KapOk D S.n S.vars (gtOf Ts) κ) (HCO : CostOk D S.n κ C) (hfr : ∀ i, i < S.n → D i = false → Tb.Free (S.tab f) (S.vars.getD i 0)) :
    Calls Try.prog 35 #[.pointer (some ⟨B.s, 0, none⟩), .int .u32 (f : Int), .slice p gs.length cap] w (SuRes base B w S (Tb.subst (S.tab f) (gtOf Ts)) (C 0)) := by
  have HIS := Bx.mk (gis_any G (by have := G.small hif; omega) (h := f))
  rw [hif] at HIS
  have HG := Bx.mk G
  have HR := Bx.mk hr
  have HT := Bx.mk hT
  have HTN := Bx.mk hn
  have hlen : gs.length = S.n := by rw [hT.1, hn]
  have HVARS := Bx.mk (fun u (h : StG u base B S) => gvars_any h)
  have HDO := Bx.mk (fun (bm : Nat) (m : Nat → Option Nat) (u : World) (E : CEnv base bm p gs (gtOf Ts) B S m u) => doesC_all D κ C 9 0 (by omega) base bm p cap gs (gtOf Ts) B S m f u E HK HCO hif (Sto.low_le G.wf hif) hfr)
  have h8 := G.wf.n8
  obtain ⟨n, hnn⟩ : ∃ n, n = S.n := ⟨_, rfl⟩
  rw [hlen]
  rw [← hnn] at HVARS HDO h8 ⊢
  have HN := Bx.mk hnn
  have q8 : (n : Int) ≤ 8 := by omega
  have HLEN := Bx.mk hlen
  have HIF := Bx.mk hif
  clear G hif hr hT hn HK HCO hfr hlen hnn
  go_enter Try.func35, Try.ntmps35
  go_wp2_with fail
  refine HIS.out.mono ?_
  rintro e w1 ⟨rfl, rfl⟩
  go_wp2_with fail
  go_loop [16] (fun i => ∃ k : Nat, k ≤ n ∧ i = .int .i64 k) (fun i => n - (intOf i).toNat)
  case atStart => exact ⟨0, by omega, rfl⟩
  case round =>
    obtain ⟨k, hk, rfl⟩ := hrel
    by_cases hlt : k < n
    · obtain ⟨T, hTk⟩ : ∃ T, Ts[k]? = some T := ⟨_, List.getElem?_eq_getElem (by rw [HTN.out, ← HN.out]; exact hlt)⟩
      obtain ⟨x, hx, ix, tx⟩ := HT.out.2 k T hTk
      obtain ⟨g, off, rfl, hgo, hc⟩ := HR.out.at_ k _ hx
      have HI := Bx.mk (gis_any HG.out (by have := HG.out.small ix; omega) (h := x))
      rw [ix] at HI
      clear hTk hx ix tx hgo
      go_wp2_with fail
      refine HI.out.mono ?_
      rintro e w2 ⟨rfl, rfl⟩
      go_wp2_with fail
      go_round
      case rel => exact ⟨k + 1, by omega, by go_num⟩
      case measure => simp [intOf]; omega
    · obtain rfl : k = n := by omega
      go_wp2_with fail
      refine (HVARS.out _ HG.out).mono ?_
      rintro e w2 ⟨rfl, rfl⟩
      have hmk : (Instr.makeMap 120 none).run Try.prog w2 = .ok (.map (some w2.heap.size)) (w2.alloc (.map #[] 0)) := run_makeMap _ w2
      have hf2 : Fr [] w2 (w2.alloc (.map #[] 0)) := (Fr.refl _ _).alloc _
      have hE : CEnv base w2.heap.size p gs (gtOf Ts) B S (fun _ => none) (w2.alloc (.map #[] 0)) :=
        ⟨HG.out.fr0 hf2, HR.out.fr0 hf2, MapI.new _ _ _ _ w2, fun hb => absurd (Loc.lt' HG.out _ hb) (by omega), fun g off e h => by
          cases gs with
          | nil => have h1 := HLEN.out; have h2 := HG.out.od.n1; rw [List.length_nil] at h1; omega
          | cons x xs =>
            obtain ⟨g', off', e', _, hc⟩ := HR.out.at_ 0 x rfl
            rw [e] at e'
            simp only [Option.some.injEq, Addr.mk.injEq, and_true] at e'
            have := block_lt_of_cell hc
            simp only at this
            omega, HLEN.out, fun v hv => by
          obtain ⟨T, hTk⟩ : ∃ T, Ts[v]? = some T := ⟨_, List.getElem?_eq_getElem (by rw [HTN.out]; exact hv)⟩
          obtain ⟨x, hx, ix, tx⟩ := HT.out.2 v T hTk
          exact ⟨x, hx, ix, by rw [tx]; unfold gtOf; rw [List.getD_eq_getElem?_getD, hTk]; rfl⟩, fun x r h => by cases h⟩
      have HD := Bx.mk (HDO.out _ _ _ hE)
      have HF2 := Bx.mk hf2
      clear hE hf2 HDO
      go_wp2_with fail
      generalize w2.alloc (.map #[] 0) = w3 at *
      refine HD.out.mono ?_
      rintro e w4 ⟨S1, B1, m1, E1, st1, X1, hi1, hres⟩
      have hsu : SuRes base B w2 S (Tb.subst (S.tab f) (gtOf Ts)) (C 0) e w4 := ⟨S1, B1, E1.G, ((StpX.after HF2.out st1).toStp (by simp)), X1, hi1, hres⟩
      obtain ⟨p3, r3, rfl⟩ := hsu.pair
      have HSU := Bx.mk hsu
      clear hsu hres E1 st1 X1 hi1 HD hmk
      go_wp2_with fail
      go_ret2
      exact HSU.out
/-- a handle laid into a slice -/
theorem LocS.put {q : IntKind} {ty : TypeId} {B : Bk} {w : World} {base : Nat} {xs : List Int} {g cap : Nat} (h : LocS q ty B w base (.slice (some ⟨g, 0, none⟩) xs.length cap) xs) (i : Nat) (x : Int) :
    LocS q ty B (w.setCell ⟨g, i, none⟩ (.int q x)) base (.slice (some ⟨g, 0, none⟩) (xs.set i x).length cap) (xs.set i x) ∧ Fr [g] w (w.setCell ⟨g, i, none⟩ (.int q x)) := by
  have h1 := own_set h.row i (.int q x)
  refine ⟨⟨?_, fun b hb => h.out b (by simpa [Value.ownBlock] using hb)⟩, (Fr.refl [g] _).setCell (p := ⟨g, i, none⟩) (fun _ => by simp) _⟩
  rw [List.length_set, List.map_set]
  exact h1
theorem HsOf.set {S : Sto} {hs : List Int} {Ts : List Tb.T} (h : HsOf S hs Ts) {k x : Nat} (hx : S.is x = true) : HsOf S (hs.set k (x : Int)) (Ts.set k (S.tab x)) := ⟨by simp [h.1], fun j T hj => by
  rw [List.getElem?_set] at hj ⊢
  split at hj
  · rename_i e
    split at hj
    · rename_i hl
      cases hj
      rw [if_pos e, if_pos (by rw [h.1]; exact hl)]
      exact ⟨x, rfl, hx, rfl⟩
    · cases hj
  · rename_i e
    rw [if_neg e]
    exact h.2 j T hj⟩
theorem gtOf_var {xs : List Nat} {v x : Nat} (h : xs[v]? = some x) : gtOf (varTs xs) v = Tb.var (x : Int) := by
  unfold gtOf varTs
  rw [List.getD_eq_getElem?_getD, List.getElem?_map, h]
  rfl
theorem range_get {n v : Nat} (h : v < n) : (List.range n)[v]? = some v := List.getElem?_range h
/-- one variable's table among the variables' own -/
theorem gtOf_set {n v : Nat} {G : Tb.T} {u : Nat} (hv : v < n) : u < n → gtOf ((varTs (List.range n)).set v G) u = if u = v then G else Tb.var (u : Int) := fun hu => by
  unfold gtOf
  rw [List.getD_eq_getElem?_getD, List.getElem?_set]
  by_cases e : v = u
  · rw [if_pos e, if_pos e.symm, if_pos (by unfold varTs; simp; omega)]; rfl
  · rw [if_neg e, if_neg (fun h => e h.symm)]
    unfold varTs
    rw [List.getElem?_map, range_get hu]
    rfl
theorem nats_ints (n : Nat) : nats n = ints (List.range n) := rfl
/-- what a composition costs at most -/
def cmCost (n : Nat) : Nat := n + Sto.cost n 0 * (2 ^ n - 1)
set_option maxRecDepth 100000 in
set_option maxHeartbeats 4000000 in
theorem compose_any (base : Nat) (B : Bk) (S : Sto) (f g v : Nat) (w : World) (G : StG w base B S) (hif : S.is f = true) (hig : S.is g = true) (hv : v < S.n) :
    Calls Try.prog 34 #[.pointer (some ⟨B.s, 0, none⟩), .int .u32 (f : Int), .int .i64 (v : Int), .int .u32 (g : Int)] w (SuRes base B w S ((S.tab g &&& Tb.fix (S.tab f) (v : Int) true) ||| (~~~(S.tab g) &&& Tb.fix (S.tab f) (v : Int) false)) (cmCost S.n)) := by
  have HIF := Bx.mk (gis_any G (by have := G.small hif; omega) (h := f))
  have HIG := Bx.mk (gis_any G (by have := G.small hig; omega) (h := g))
  rw [hif] at HIF
  rw [hig] at HIG
  have HVARS := Bx.mk (gvars_any G)
  have HOWN := Bx.mk (own_any base B S w G)
  have h8 := G.wf.n8
  have HT : Bx (Tb.subst (S.tab f) (gtOf ((varTs (List.range S.n)).set v (S.tab g))) = (S.tab g &&& Tb.fix (S.tab f) (v : Int) true) ||| (~~~(S.tab g) &&& Tb.fix (S.tab f) (v : Int) false)) := ⟨by
    rw [← Tb.subst_one_var (by omega)]
    refine Tb.subst_congr fun u hu => ?_
    by_cases hun : u < S.n
    · exact .inl (gtOf_set hv hun)
    · exact .inr (G.wf.free_out' G.od hif (by omega) hu)⟩
  have HI := Bx.mk (And.intro hif hig)
  have HG := Bx.mk G
  obtain ⟨n, hn⟩ : ∃ n, n = S.n := ⟨_, rfl⟩
  rw [← hn] at HVARS HOWN HT h8 hv ⊢
  have HN := Bx.mk hn
  have HV := Bx.mk hv
  have H8 := Bx.mk h8
  have q0 : ¬ (v : Int) < 0 := by omega
  have q1 : ¬ (v : Int) ≥ (n : Int) := by omega
  have q2 : (v : Int) < 8 := by omega
  have q3 : (0 : Int) ≤ (v : Int) := by omega
  have q4 : (v : Int) < (n : Int) := by omega
  have HCOST : Bx (cmCost n = n + Sto.cost n 0 * Sto.calls (fun _ => true) n 0) := ⟨by unfold cmCost; rw [Sto.calls_all]⟩
  clear G hif hig hn hv h8
  generalize cmCost n = cc at *
  generalize hTT : ((S.tab g &&& Tb.fix (S.tab f) (v : Int) true) ||| (~~~(S.tab g) &&& Tb.fix (S.tab f) (v : Int) false)) = TT at *
  clear hTT
  go_enter Try.func34, Try.ntmps34
  go_wp2_with fail
  refine HIF.out.mono ?_
  rintro e w1 ⟨rfl, rfl⟩
  go_wp2_with fail
  refine HIG.out.mono ?_
  rintro e w1 ⟨rfl, rfl⟩
  go_wp2_with fail
  refine HVARS.out.mono ?_
  rintro e w1 ⟨rfl, rfl⟩
  go_wp2_with fail
  refine HOWN.out.mono ?_
  rintro e w2 ⟨lv, rfl, hl, hf2⟩
  have hG2 := HG.out.fr0 hf2
  obtain ⟨p, cap, rfl, hrd, _, _⟩ := hl.shape
  rw [nats_len] at hl ⊢
  have HVS := Bx.mk (variables_any base B S p cap (List.range n) w2 hG2 hrd (fun x hx => by rw [← HN.out]; exact List.mem_range.1 hx) (by rw [List.length_range]; have := H8.out; omega))
  rw [List.length_range] at HVS
  have HF2 := Bx.mk hf2
  clear hl hG2 hrd hf2 HOWN
  go_wp2_with fail
  refine HVS.out.mono ?_
  rintro e w3 ⟨S1, B1, G1, st1, X1, hi1, hres⟩
  have HP1 : Bx (StG w3 base B1 S1 ∧ Stp B w1 B1 w3 ∧ S.Ext S1 ∧ S1.hi ≤ S.hi + n) := ⟨G1, Stp.after HF2.out st1, X1, hi1⟩
  clear G1 st1 X1 hi1 HVS
  rcases hres with ⟨lv, hs, rfl, hrow, hhs⟩ | ⟨rfl, hfull⟩
  · have hlen : hs.length = n := by rw [hhs.1]; unfold varTs; simp
    obtain ⟨p2, cap2, rfl, hrd2, hpo, hpn⟩ := hrow.shape
    obtain ⟨pg, rfl⟩ : ∃ pg, p2 = some ⟨pg, 0, none⟩ := by
      rcases hrow.row.2 with ⟨h', h0⟩ | ⟨g', cap', cur, h', _⟩
      · have := HV.out; omega
      · injection h' with h' _ _; exact ⟨g', h'⟩
    obtain ⟨x0, hx0⟩ : ∃ x0, hs[v]? = some x0 := ⟨_, List.getElem?_eq_getElem (by have := HV.out; omega)⟩
    obtain ⟨g', off', e', hgo, hc⟩ := hrd2.at_ v x0 hx0
    simp only [Option.some.injEq, Addr.mk.injEq, and_true] at e'
    obtain ⟨rfl, rfl⟩ := e'
    rw [Nat.zero_add] at hc
    obtain ⟨hput, hfp⟩ := hrow.put v (g : Int)
    have hz : w3.frozen? ⟨pg, v, none⟩ = false := hrow.row.frozenAt _
    have hhs2 := hhs.set (k := v) (HP1.out.2.2.1.is HI.out.2)
    rw [HP1.out.2.2.1.tab HG.out.wf HI.out.2] at hhs2
    have HP4 : Bx (StG (w3.setCell ⟨pg, v, none⟩ (.int .u32 (g : Int))) base B1 S1 ∧ Stp B w1 B1 (w3.setCell ⟨pg, v, none⟩ (.int .u32 (g : Int)))) := ⟨HP1.out.1.fr hfp (fun b hb hm => by simp at hm; subst hm; exact hgo hb), ⟨HP1.out.2.1.fr.trans hfp (fun b hb hl => by
      simp at hb
      subst hb
      have := (hrow.lt b (by simp [Value.ownBlock])).1
      have := HF2.out.size
      omega), HP1.out.2.1.sub, HP1.out.2.1.s⟩⟩
    obtain ⟨p3, cap3, e3, hrd3, _, _⟩ := hput.shape
    simp only [Value.slice.injEq] at e3
    obtain ⟨rfl, _, rfl⟩ := e3
    have hsub := subst_any (fun _ => true) (fun _ => Sto.cost S1.n 0) (fun l => Sto.cost S1.n 0 * Sto.calls (fun _ => true) S1.n l) base B1 S1 f _ cap2 _ _ _ HP4.out.1 (HP1.out.2.2.1.is HI.out.1) hrd3 hhs2 (by rw [List.length_set, HP1.out.2.2.1.n, ← HN.out]; unfold varTs; simp) (KapOk.any _ _ _ _) (CostOk.const _ _ _) (fun i _ h => by cases h)
    rw [HP1.out.2.1.s, HP1.out.2.2.1.n, ← HN.out, HP1.out.2.2.1.tab HG.out.wf HI.out.1, HT.out, List.length_set, hlen] at hsub
    have HSUB := Bx.mk hsub
    rw [hlen]
    clear hrow hhs hrd2 hpo hpn hx0 hgo hput hfp hhs2 hrd3 hsub hlen
    go_wp2_with fail
    refine HSUB.out.mono ?_
    rintro e w5 hres
    have hsu := hres.trans HP4.out.2 HP1.out.2.2.1 HP1.out.2.2.2
    rw [← HCOST.out] at hsu
    obtain ⟨p3, r3, rfl⟩ := hsu.pair
    have HSU := Bx.mk hsu
    clear hsu hres HSUB
    go_wp2_with fail
    go_ret2
    exact HSU.out
  · have HFULL := Bx.mk hfull
    clear hfull
    go_wp2_with fail
    go_ret2
    exact ⟨S1, B1, HP1.out.1, HP1.out.2.1, HP1.out.2.2.1, by have := HP1.out.2.2.2; have := HCOST.out; omega, .inr ⟨rfl, HFULL.out⟩⟩
end Go.Proofs.Ythbifeoohphnpaa

/-
  Package compose: other names; what is refused.
-/
namespace Go.Proofs.Ythbifeoohphnpaa
set_option linter.unusedVariables false
open Go.RowKit
set_option maxRecDepth 100000 in
set_option maxHeartbeats 4000000 in
theorem rename_any (D : Nat → Bool) (κ C : Nat → Nat) (base : Nat) (B : Bk) (S : Sto) (f : Nat) (p : Option Addr) (cap : Nat) (xs : List Nat) (w : World) (G : StG w base B S) (hif : S.is f = true) (hr : RdN .i64 B w p (ints xs)) (hx : ∀ x ∈ xs, x < S.n) (hlen : xs.length = S.n)
    (HK : KapOk D S.n S.vars (gtOf (varTs xs)) κ) (HCO : CostOk D S.n κ C) (hfr : ∀ i, i < S.n → D i = false → Tb.Free (S.tab f) (S.vars.getD i 0)) :
    Calls Try.prog 36 #[.pointer (some ⟨B.s, 0, none⟩), .int .u32 (f : Int), .slice p xs.length cap] w (SuRes base B w S (Tb.subst (S.tab f) (gtOf (varTs xs))) (S.n + C 0)) := by
  have HIF := Bx.mk (gis_any G (by have := G.small hif; omega) (h := f))
  rw [hif] at HIF
  have HVARS := Bx.mk (gvars_any G)
  have h8 := G.wf.n8
  have HVS := Bx.mk (variables_any base B S p cap xs w G hr hx (by omega))
  have HI := Bx.mk hif
  have HR := Bx.mk hr
  have HX := Bx.mk hx
  have HG := Bx.mk G
  have HKK := Bx.mk (And.intro HK (And.intro HCO hfr))
  obtain ⟨n, hn⟩ : ∃ n, n = S.n := ⟨_, rfl⟩
  rw [hlen] at HVS ⊢
  rw [← hn] at HVARS h8 HVS ⊢
  have HN := Bx.mk hn
  have HLEN := Bx.mk hlen
  have q8 : (n : Int) ≤ 8 := by omega
  clear G hif hr hx HK HCO hfr hn hlen h8
  go_enter Try.func36, Try.ntmps36
  go_wp2_with fail
  refine HIF.out.mono ?_
  rintro e w1 ⟨rfl, rfl⟩
  go_wp2_with fail
  refine HVARS.out.mono ?_
  rintro e w1 ⟨rfl, rfl⟩
  go_wp2_with fail
  go_loop [23] (fun i => ∃ k : Nat, k ≤ n ∧ i = .int .i64 k) (fun i => n - (intOf i).toNat)
  case atStart => exact ⟨0, by omega, rfl⟩
  case round =>
    obtain ⟨k, hk, rfl⟩ := hrel
    by_cases hlt : k < n
    · obtain ⟨x, hxk⟩ : ∃ x, xs[k]? = some x := ⟨_, List.getElem?_eq_getElem (by rw [HLEN.out, ← HN.out]; exact hlt)⟩
      have hxn := HX.out x (List.mem_of_getElem? hxk)
      rw [← HN.out] at hxn
      obtain ⟨g, off, rfl, hgo, hc⟩ := HR.out.at_ k _ (ints_get hxk)
      have q0 : ¬ (x : Int) < 0 := by omega
      have q1 : ¬ (x : Int) ≥ (n : Int) := by omega
      clear hgo hxk hxn
      go_wp2_with fail
      refine HVARS.out.mono ?_
      rintro e w2 ⟨rfl, rfl⟩
      go_wp2_with fail
      go_round
      case rel => exact ⟨k + 1, by omega, by go_num⟩
      case measure => simp [intOf]; omega
    · obtain rfl : k = n := by omega
      go_wp2_with fail
      refine HVS.out.mono ?_
      rintro e w3 ⟨S1, B1, G1, st1, X1, hi1, hres⟩
      have HP1 : Bx (StG w3 base B1 S1 ∧ Stp B w1 B1 w3 ∧ S.Ext S1 ∧ S1.hi ≤ S.hi + k) := ⟨G1, st1, X1, hi1⟩
      clear G1 st1 X1 hi1 HVS
      rcases hres with ⟨lv, hs, rfl, hrow, hhs⟩ | ⟨rfl, hfull⟩
      · have hl2 : hs.length = k := by rw [hhs.1]; unfold varTs; rw [List.length_map, HLEN.out, HN.out]
        obtain ⟨p2, cap2, rfl, hrd2, hpo, hpn⟩ := hrow.shape
        have hsub := subst_any D κ C base B1 S1 f p2 cap2 hs _ w3 HP1.out.1 (HP1.out.2.2.1.is HI.out) hrd2 hhs (by rw [HP1.out.2.2.1.n]; unfold varTs; rw [List.length_map, HLEN.out]) (by rw [HP1.out.2.2.1.n, HP1.out.2.2.1.vars]; exact HKK.out.1) (by rw [HP1.out.2.2.1.n]; exact HKK.out.2.1) (by rw [HP1.out.2.2.1.n, HP1.out.2.2.1.vars, HP1.out.2.2.1.tab HG.out.wf HI.out]; exact HKK.out.2.2)
        rw [HP1.out.2.1.s, HP1.out.2.2.1.tab HG.out.wf HI.out, hl2] at hsub
        have HSUB := Bx.mk hsub
        rw [hl2]
        clear hrow hhs hrd2 hpo hpn hsub hl2
        go_wp2_with fail
        refine HSUB.out.mono ?_
        rintro e w5 hres
        have hsu := hres.trans HP1.out.2.1 HP1.out.2.2.1 HP1.out.2.2.2
        obtain ⟨p3, r3, rfl⟩ := hsu.pair
        have HSU := Bx.mk hsu
        clear hsu hres HSUB
        go_wp2_with fail
        go_ret2
        exact HSU.out
      · have HFULL := Bx.mk hfull
        clear hfull
        go_wp2_with fail
        go_ret2
        exact ⟨S1, B1, HP1.out.1, HP1.out.2.1, HP1.out.2.2.1, by have := HP1.out.2.2.2; omega, .inr ⟨rfl, HFULL.out⟩⟩
/-! what is refused -/
set_option maxRecDepth 100000 in
theorem compose_bad1 (base : Nat) (B : Bk) (S : Sto) (f g : Nat) (v : Int) (w : World) (G : StG w base B S) (hf : f < 4294967296) (hg : g < 4294967296) (h : ¬ (S.is f = true ∧ S.is g = true)) :
    Calls Try.prog 34 #[.pointer (some ⟨B.s, 0, none⟩), .int .u32 (f : Int), .int .i64 v, .int .u32 (g : Int)] w fun e w' => e = retHE 0 101 ∧ w' = w := by
  have HIF := Bx.mk (gis_any G hf)
  have HIG := Bx.mk (gis_any G hg)
  have HH := Bx.mk h
  clear G hf hg h
  cases e1 : S.is f with
  | false =>
    rw [e1] at HIF
    clear HH HIG e1
    go_enter Try.func34, Try.ntmps34
    go_wp2_with fail
    refine HIF.out.mono ?_
    rintro e w1 ⟨rfl, rfl⟩
    go_wp2_with fail
    go_ret2
    exact ⟨rfl, rfl⟩
  | true =>
    have e2 : S.is g = false := by
      cases e2 : S.is g with
      | false => rfl
      | true => exact absurd ⟨e1, e2⟩ HH.out
    rw [e1] at HIF
    rw [e2] at HIG
    clear HH e1 e2
    go_enter Try.func34, Try.ntmps34
    go_wp2_with fail
    refine HIF.out.mono ?_
    rintro e w1 ⟨rfl, rfl⟩
    go_wp2_with fail
    refine HIG.out.mono ?_
    rintro e w1 ⟨rfl, rfl⟩
    go_wp2_with fail
    go_ret2
    exact ⟨rfl, rfl⟩
set_option maxRecDepth 100000 in
theorem compose_bad2 (base : Nat) (B : Bk) (S : Sto) (f g : Nat) (v : Int) (w : World) (G : StG w base B S) (hif : S.is f = true) (hig : S.is g = true) (hv : ¬ (0 ≤ v ∧ v < (S.n : Int))) :
    Calls Try.prog 34 #[.pointer (some ⟨B.s, 0, none⟩), .int .u32 (f : Int), .int .i64 v, .int .u32 (g : Int)] w fun e w' => e = retHE 0 40 ∧ w' = w := by
  have HIF := Bx.mk (gis_any G (by have := G.small hif; omega) (h := f))
  have HIG := Bx.mk (gis_any G (by have := G.small hig; omega) (h := g))
  rw [hif] at HIF
  rw [hig] at HIG
  have HVARS := Bx.mk (gvars_any G)
  clear G hif hig
  generalize S.n = n at *
  by_cases h0 : v < 0
  · clear hv HVARS
    go_enter Try.func34, Try.ntmps34
    go_wp2_with fail
    refine HIF.out.mono ?_
    rintro e w1 ⟨rfl, rfl⟩
    go_wp2_with fail
    refine HIG.out.mono ?_
    rintro e w1 ⟨rfl, rfl⟩
    go_wp2_with fail
    go_ret2
    exact ⟨rfl, rfl⟩
  · have h1 : v ≥ (n : Int) := by omega
    clear hv
    go_enter Try.func34, Try.ntmps34
    go_wp2_with fail
    refine HIF.out.mono ?_
    rintro e w1 ⟨rfl, rfl⟩
    go_wp2_with fail
    refine HIG.out.mono ?_
    rintro e w1 ⟨rfl, rfl⟩
    go_wp2_with fail
    refine HVARS.out.mono ?_
    rintro e w1 ⟨rfl, rfl⟩
    go_wp2_with fail
    go_ret2
    exact ⟨rfl, rfl⟩
set_option maxRecDepth 100000 in
theorem subst_bad1 (base : Nat) (B : Bk) (S : Sto) (f n cap : Nat) (p : Option Addr) (w : World) (G : StG w base B S) (hf : f < 4294967296) (h : S.is f = false) :
    Calls Try.prog 35 #[.pointer (some ⟨B.s, 0, none⟩), .int .u32 (f : Int), .slice p n cap] w fun e w' => e = retHE 0 101 ∧ w' = w := by
  have HIF := Bx.mk (gis_any G hf)
  rw [h] at HIF
  clear G hf h
  go_enter Try.func35, Try.ntmps35
  go_wp2_with fail
  refine HIF.out.mono ?_
  rintro e w1 ⟨rfl, rfl⟩
  go_wp2_with fail
  go_ret2
  exact ⟨rfl, rfl⟩
set_option maxRecDepth 100000 in
set_option maxHeartbeats 1000000 in
theorem subst_bad2 (base : Nat) (B : Bk) (S : Sto) (f cap : Nat) (p : Option Addr) (gs : List Int) (w : World) (G : StG w base B S) (hif : S.is f = true) (hr : RdN .u32 B w p gs) (hg : ∀ (k : Nat) (x : Int), gs[k]? = some x → ∃ h : Nat, x = (h : Int) ∧ S.is h = true) (hl : gs.length ≠ S.n) (hm : gs.length < 1000) :
    Calls Try.prog 35 #[.pointer (some ⟨B.s, 0, none⟩), .int .u32 (f : Int), .slice p gs.length cap] w fun e w' => e = retHE 0 40 ∧ w' = w := by
  have HIS := Bx.mk (gis_any G (by have := G.small hif; omega) (h := f))
  rw [hif] at HIS
  have HG := Bx.mk G
  have HR := Bx.mk hr
  have HGG := Bx.mk hg
  have HVARS := Bx.mk (gvars_any G)
  have h8 := G.wf.n8
  obtain ⟨n, hn⟩ : ∃ n, n = S.n := ⟨_, rfl⟩
  obtain ⟨m, hmm⟩ : ∃ m, m = gs.length := ⟨_, rfl⟩
  rw [← hn] at HVARS hl h8
  rw [← hmm] at hl hm ⊢
  have HN := Bx.mk hn
  have HM := Bx.mk hmm
  have k0 : ((m : Int) == (n : Int)) = false := by rw [beq_eq_false_iff_ne]; omega
  have k1 : ((m : Int) != (n : Int)) = true := by rw [bne_iff_ne]; omega
  have q8 : (m : Int) < 1000 := by omega
  clear G hif hr hg hn hmm hl h8
  go_enter Try.func35, Try.ntmps35
  go_wp2_with fail
  refine HIS.out.mono ?_
  rintro e w1 ⟨rfl, rfl⟩
  go_wp2_with fail
  go_loop [16] (fun i => ∃ k : Nat, k ≤ m ∧ i = .int .i64 k) (fun i => m - (intOf i).toNat)
  case atStart => exact ⟨0, by omega, rfl⟩
  case round =>
    obtain ⟨k, hk, rfl⟩ := hrel
    by_cases hlt : k < m
    · obtain ⟨x, hx⟩ : ∃ x, gs[k]? = some x := ⟨_, List.getElem?_eq_getElem (by rw [← HM.out]; exact hlt)⟩
      obtain ⟨y, rfl, iy⟩ := HGG.out k x hx
      obtain ⟨g, off, rfl, hgo, hc⟩ := HR.out.at_ k _ hx
      have HI := Bx.mk (gis_any HG.out (by have := HG.out.small iy; omega) (h := y))
      rw [iy] at HI
      clear hx iy hgo
      go_wp2_with fail
      refine HI.out.mono ?_
      rintro e w2 ⟨rfl, rfl⟩
      go_wp2_with fail
      go_round
      case rel => exact ⟨k + 1, by omega, by go_num⟩
      case measure => simp [intOf]; omega
    · obtain rfl : k = m := by omega
      go_wp2_with fail
      refine HVARS.out.mono ?_
      rintro e w2 ⟨rfl, rfl⟩
      go_wp2_with fail
      go_ret2
      exact ⟨rfl, rfl⟩
set_option maxRecDepth 100000 in
theorem rename_bad1 (base : Nat) (B : Bk) (S : Sto) (f n cap : Nat) (p : Option Addr) (w : World) (G : StG w base B S) (hf : f < 4294967296) (h : S.is f = false) :
    Calls Try.prog 36 #[.pointer (some ⟨B.s, 0, none⟩), .int .u32 (f : Int), .slice p n cap] w fun e w' => e = retHE 0 101 ∧ w' = w := by
  have HIF := Bx.mk (gis_any G hf)
  rw [h] at HIF
  clear G hf h
  go_enter Try.func36, Try.ntmps36
  go_wp2_with fail
  refine HIF.out.mono ?_
  rintro e w1 ⟨rfl, rfl⟩
  go_wp2_with fail
  go_ret2
  exact ⟨rfl, rfl⟩
set_option maxRecDepth 100000 in
theorem rename_bad2 (base : Nat) (B : Bk) (S : Sto) (f m cap : Nat) (p : Option Addr) (w : World) (G : StG w base B S) (hif : S.is f = true) (hl : m ≠ S.n) :
    Calls Try.prog 36 #[.pointer (some ⟨B.s, 0, none⟩), .int .u32 (f : Int), .slice p m cap] w fun e w' => e = retHE 0 40 ∧ w' = w := by
  have HIF := Bx.mk (gis_any G (by have := G.small hif; omega) (h := f))
  rw [hif] at HIF
  have HVARS := Bx.mk (gvars_any G)
  clear G hif
  generalize S.n = n at *
  have k0 : ((m : Int) == (n : Int)) = false := by rw [beq_eq_false_iff_ne]; omega
  have k1 : ((m : Int) != (n : Int)) = true := by rw [bne_iff_ne]; omega
  clear hl
  go_enter Try.func36, Try.ntmps36
  go_wp2_with fail
  refine HIF.out.mono ?_
  rintro e w1 ⟨rfl, rfl⟩
  go_wp2_with fail
  refine HVARS.out.mono ?_
  rintro e w1 ⟨rfl, rfl⟩
  go_wp2_with fail
  go_ret2
  exact ⟨rfl, rfl⟩
set_option maxRecDepth 100000 in
set_option maxHeartbeats 1000000 in
theorem rename_bad3 (base : Nat) (B : Bk) (S : Sto) (f cap : Nat) (p : Option Addr) (xs : List Int) (w : World) (G : StG w base B S) (hif : S.is f = true) (hr : RdN .i64 B w p xs) (hl : xs.length = S.n) (hx : ¬ ∀ x ∈ xs, 0 ≤ x ∧ x < (S.n : Int)) :
    Calls Try.prog 36 #[.pointer (some ⟨B.s, 0, none⟩), .int .u32 (f : Int), .slice p xs.length cap] w fun e w' => e = retHE 0 40 ∧ w' = w := by
  have HIF := Bx.mk (gis_any G (by have := G.small hif; omega) (h := f))
  rw [hif] at HIF
  have HVARS := Bx.mk (gvars_any G)
  have h8 := G.wf.n8
  have HR := Bx.mk hr
  obtain ⟨n, hn⟩ : ∃ n, n = S.n := ⟨_, rfl⟩
  rw [hl]
  rw [← hn] at HVARS h8 hl hx ⊢
  have HX := Bx.mk hx
  have HL := Bx.mk hl
  have q8 : (n : Int) ≤ 8 := by omega
  clear G hif hr hl hx hn h8
  go_enter Try.func36, Try.ntmps36
  go_wp2_with fail
  refine HIF.out.mono ?_
  rintro e w1 ⟨rfl, rfl⟩
  go_wp2_with fail
  refine HVARS.out.mono ?_
  rintro e w1 ⟨rfl, rfl⟩
  go_wp2_with fail
  go_loop [23] (fun i => ∃ k : Nat, k ≤ n ∧ i = .int .i64 k ∧ ∀ x ∈ xs.take k, 0 ≤ x ∧ x < (n : Int)) (fun i => n - (intOf i).toNat)
  case atStart => exact ⟨0, by omega, rfl, by simp⟩
  case round =>
    obtain ⟨k, hk, rfl, hall⟩ := hrel
    by_cases hlt : k < n
    · obtain ⟨x, hxk⟩ : ∃ x, xs[k]? = some x := ⟨_, List.getElem?_eq_getElem (by rw [HL.out]; exact hlt)⟩
      obtain ⟨g, off, rfl, hgo, hc⟩ := HR.out.at_ k _ hxk
      by_cases h0 : x < 0
      · clear hgo hxk hall
        go_wp2_with fail
        go_ret2
        exact ⟨rfl, rfl⟩
      · by_cases h1 : x ≥ (n : Int)
        · clear hgo hxk hall
          go_wp2_with fail
          refine HVARS.out.mono ?_
          rintro e w2 ⟨rfl, rfl⟩
          go_wp2_with fail
          go_ret2
          exact ⟨rfl, rfl⟩
        · have HALL : Bx (∀ y ∈ xs.take (k + 1), 0 ≤ y ∧ y < (n : Int)) := ⟨fun y hy => by
            rw [List.take_add_one, hxk] at hy
            rcases List.mem_append.1 hy with hy | hy
            · exact hall y hy
            · simp at hy; subst hy; omega⟩
          clear hgo hxk hall
          go_wp2_with fail
          refine HVARS.out.mono ?_
          rintro e w2 ⟨rfl, rfl⟩
          go_wp2_with fail
          go_round
          case rel => exact ⟨k + 1, by omega, by go_num, HALL.out⟩
          case measure => simp [intOf]; omega
    · exfalso
      apply HX.out
      rw [List.take_of_length_le (by rw [HL.out]; omega)] at hall
      exact hall
end Go.Proofs.Ythbifeoohphnpaa

/-
  What a law does on a store of its own, step by step.
-/
namespace Go.Proofs.Ythbifeoohphnpaa
set_option linter.unusedVariables false
open Go.RowKit
/-- a handle's table -/
structure Hd (S : Sto) (h : Nat) (T : Tb.T) : Prop where
  is : S.is h = true
  tab : S.tab h = T
/-- a store grown -/
structure Gr (S S' : Sto) : Prop where
  wf : S.Wf
  ext : S.Ext S'
theorem Hd.ext {S S' : Sto} {x : Nat} {T : Tb.T} (h : Hd S x T) (k : Gr S S') : Hd S' x T := ⟨k.ext.is h.is, by rw [k.ext.tab k.wf h.is]; exact h.tab⟩
theorem Gr.refl {S : Sto} (W : S.Wf) : Gr S S := ⟨W, Sto.Ext.refl _⟩
theorem Gr.trans {S S' S'' : Sto} (h : Gr S S') (k : Gr S' S'') : Gr S S'' := ⟨h.wf, h.ext.trans k.ext⟩
theorem Hd.zero (S : Sto) : Hd S 0 (0#256) := ⟨Sto.is_small (by omega), Sto.tab_zero S⟩
theorem Hd.one (S : Sto) : Hd S 1 (~~~(0#256)) := ⟨Sto.is_small (by omega), Sto.tab_one S⟩
/-- a store of the law's own: at s, made since w0; n variables, so much room, so many nodes at most above the two lowest levels -/
structure Ls (w0 : World) (s n room c : Nat) (B : Bk) (S : Sto) (w : World) : Prop where
  G : StG w w0.heap.size B S
  fr : Fr [] w0 w
  n : S.n = n
  room : S.room = room
  hi : S.hi ≤ c
  s : B.s = s
section
variable {w0 w w' : World} {s n room c : Nat} {B B' : Bk} {S S' : Sto}
theorem Ls.wf (L : Ls w0 s n room c B S w) : S.Wf := L.G.wf
theorem Ls.step (L : Ls w0 s n room c B S w) {c' : Nat} (G' : StG w' w0.heap.size B' S') (st : Stp B w B' w') (X : S.Ext S') (hi : S'.hi ≤ S.hi + c') : Ls w0 s n room (c + c') B' S' w' :=
  ⟨G', (L.fr.mono (S' := B.own) (by simp)).trans st.fr (fun b hb _ => hb) |>.mono (fun b hb hl => by
    obtain ⟨_, h1⟩ := L.G.at_
    exact absurd (h1.lo b hb) (by omega)), X.n.trans L.n, X.room.trans L.room, by have := L.hi; omega, st.s.trans L.s⟩
theorem Ls.fr0 (L : Ls w0 s n room c B S w) (hf : Fr [] w w') : Ls w0 s n room c B S w' := ⟨L.G.fr0 hf, L.fr.trans hf (by simp), L.n, L.room, L.hi, L.s⟩
theorem Ls.below (L : Ls w0 s n room c B S w) (hb : Below w.heap.size w w') : Ls w0 s n room c B S w' := L.fr0 (Fr.of_below hb (Nat.le_refl _))
theorem Ls.end_ (L : Ls w0 s n room c B S w) : Below w0.heap.size w0 w := L.fr.below (Nat.le_refl _) (by simp)
theorem Ls.eq (L : Ls w0 s n room c B S w) {x y : Nat} {T U : Tb.T} (h : Hd S x T) (k : Hd S y U) : x = y ↔ T = U :=
  ⟨fun e => by subst e; exact h.tab.symm.trans k.tab, fun e => L.wf.eq L.G.od h.is k.is (by rw [h.tab, k.tab, e])⟩
theorem Ls.n8 (L : Ls w0 s n room c B S w) : n ≤ 8 := by rw [← L.n]; exact L.wf.n8
/-- what a step of a law tells: a handle -/
def Told (w0 : World) (s n room c : Nat) (S : Sto) (T : Tb.T) (e : Ending) (w' : World) : Prop := ∃ S' B', Ls w0 s n room c B' S' w' ∧ Gr S S' ∧ ∃ h : Nat, e = .returned (.tuple #[.int .u32 (h : Int), .int .i64 0]) ∧ Hd S' h T
theorem SuRes.told {T : Tb.T} {c' : Nat} {e : Ending} (h : SuRes w0.heap.size B w S T c' e w') (L : Ls w0 s n room c B S w) (hr : c + c' + 14 < room) : Told w0 s n room (c + c') S T e w' := by
  obtain ⟨S', B', h1, h2, h3, h4, r, he, h5, h6⟩ := h.ok (by rw [L.room]; have := L.hi; omega)
  exact ⟨S', B', L.step h1 h2 h3 h4, ⟨L.wf, h3⟩, r, he, h5, h6⟩
/-! a store made -/
theorem Ls.new (n room : Nat) (w : World) (h1 : 1 ≤ n) (h8 : n ≤ 8) (hr1 : 1 ≤ room) (hr : room ≤ 32768) :
    Calls Try.prog 10 #[.int .i64 (n : Int), .int .i64 (room : Int)] w fun e w' => ∃ s B, e = .returned (.tuple #[.pointer (some ⟨s, 0, none⟩), .int .i64 0]) ∧ Ls w s n room 0 B (Sto.new n room) w' := by
  refine (snew_any n room w h1 h8 hr1 hr).mono ?_
  rintro e w' ⟨B, rfl, hst, hf, hy⟩
  refine ⟨B.s, B, rfl, StG.new hst h1 h8 hr hf.size hy, hf, rfl, rfl, ?_, rfl⟩
  unfold Sto.hi
  rw [show (Sto.new n room).all = [] from rfl]
  simp
/-- a table's node made -/
theorem Ls.make (L : Ls w0 s n room c B S w) (F : Tb.T) (hfr : ∀ v, v < 8 → n ≤ v → Tb.Free F v) (hr : c + Sto.cost n 0 + 14 < room) :
    Calls Try.prog 11 #[.pointer (some ⟨s, 0, none⟩), Tb.tv F] w fun e w' => ∃ S' B', Ls w0 s n room (c + Sto.cost n 0) B' S' w' ∧ Gr S S' ∧ S.New S' F ∧ ∃ h : Nat, e = .returned (.tuple #[.int .u32 (h : Int), .bool true]) ∧ Hd S' h F := by
  have h := make_any w0.heap.size B S F w L.G (by rw [L.n]; exact hfr)
  rw [L.s] at h
  refine h.mono ?_
  intro e w' hm
  obtain ⟨S', B', h1, h2, h3, hn, h4, r, he, h5, h6⟩ := hm.ok (by rw [L.room, L.n]; have := L.hi; omega)
  rw [L.n] at h4
  exact ⟨S', B', L.step h1 h2 h3 h4, ⟨L.wf, h3⟩, hn, r, he, h5, h6⟩
/-- is a handle a table's node? -/
theorem Ls.pis (L : Ls w0 s n room c B S w) {h : Nat} {T : Tb.T} (d : Hd S h T) (F : Tb.T) :
    Calls Try.prog 18 #[.pointer (some ⟨s, 0, none⟩), .int .u32 (h : Int), Tb.tv F] w fun e w' => e = .returned (.bool (decide (T = F))) ∧ Ls w0 s n room c B S w' ∧ Below w.heap.size w w' := by
  obtain ⟨Ll, h1⟩ := L.G.at_
  have hh := pis_any w0.heap.size B S Ll h F w h1 L.wf d.is
  rw [L.s, d.tab] at hh
  exact hh.mono fun e w' ⟨he, hb⟩ => ⟨he, L.below hb, hb⟩
/-- is a handle a node's? -/
theorem Ls.is (L : Ls w0 s n room c B S w) {h : Nat} (hh : h < 4294967296) :
    Calls Try.prog 32 #[.pointer (some ⟨s, 0, none⟩), .int .u32 (h : Int)] w fun e w' => e = .returned (.bool (S.is h)) ∧ w' = w := by
  have h1 := gis_any L.G hh
  rw [L.s] at h1
  exact h1
theorem Ls.var (L : Ls w0 s n room c B S w) {v : Nat} (hv : v < n) (hr : c + 1 + 14 < room) :
    Calls Try.prog 65 #[.pointer (some ⟨s, 0, none⟩), .int .i64 (v : Int)] w (Told w0 s n room (c + 1) S (Tb.var (v : Int))) := by
  have h := var_lg w0.heap.size B S v w L.G (by rw [L.n]; exact hv)
  rw [L.s] at h
  exact h.mono fun e w' h => h.su.told L hr
theorem Ls.ite (L : Ls w0 s n room c B S w) {a b d : Nat} {T U V : Tb.T} (ha : Hd S a T) (hb : Hd S b U) (hd : Hd S d V) (hr : c + Sto.cost n 0 + 14 < room) :
    Calls Try.prog 86 #[.pointer (some ⟨s, 0, none⟩), .int .u32 (a : Int), .int .u32 (b : Int), .int .u32 (d : Int)] w (Told w0 s n room (c + Sto.cost n 0) S ((T &&& U) ||| (~~~T &&& V))) := by
  have h := ite_lg w0.heap.size B S a b d 0 w L.G ha.is hb.is hd.is (Sto.low_le L.wf ha.is) (Sto.low_le L.wf hb.is) (Sto.low_le L.wf hd.is)
  rw [L.s, ha.tab, hb.tab, hd.tab, L.n] at h
  exact h.mono fun e w' h => h.su.told L hr
/-- one function within another -/
theorem Ls.compose (L : Ls w0 s n room c B S w) {f g v : Nat} {T U : Tb.T} (hf : Hd S f T) (hg : Hd S g U) (hv : v < n) (hr : c + cmCost n + 14 < room) :
    Calls Try.prog 34 #[.pointer (some ⟨s, 0, none⟩), .int .u32 (f : Int), .int .i64 (v : Int), .int .u32 (g : Int)] w (Told w0 s n room (c + cmCost n) S ((U &&& Tb.fix T (v : Int) true) ||| (~~~U &&& Tb.fix T (v : Int) false))) := by
  have h := compose_any w0.heap.size B S f g v w L.G hf.is hg.is (by rw [L.n]; exact hv)
  rw [L.s, hf.tab, hg.tab, L.n] at h
  exact h.mono fun e w' h => h.told L hr
/-- other names -/
theorem Ls.rename (L : Ls w0 s n room c B S w) {f cap : Nat} {T : Tb.T} (hf : Hd S f T) {p : Option Addr} {xs : List Nat} (hrd : RdN .i64 B w p (ints xs)) (hx : ∀ x ∈ xs, x < n) (hl : xs.length = n) (hr : c + cmCost n + 14 < room) :
    Calls Try.prog 36 #[.pointer (some ⟨s, 0, none⟩), .int .u32 (f : Int), .slice p xs.length cap] w (Told w0 s n room (c + cmCost n) S (Tb.subst T (gtOf (varTs xs)))) := by
  have h := rename_any (fun _ => true) (fun _ => Sto.cost S.n 0) (fun l => Sto.cost S.n 0 * Sto.calls (fun _ => true) S.n l) w0.heap.size B S f p cap xs w L.G hf.is hrd (by rw [L.n]; exact hx) (by rw [L.n]; exact hl) (KapOk.any _ _ _ _) (CostOk.const _ _ _) (fun i _ h => by cases h)
  rw [L.s, hf.tab, L.n, Sto.calls_all] at h
  exact h.mono fun e w' h => h.told L hr
end
end Go.Proofs.Ythbifeoohphnpaa

/-
  What a law's row asks of the memory behind it, where nothing that was there has turned.
-/
namespace Go.Proofs.Ythbifeoohphnpaa
open Go.ChangeShapes Go.WideShapes Go.ChangeAt Go.RowKit
set_option linter.unusedVariables false
section
variable {H : Type} {enc : TypeId × Value → H}
/-- what a row asks, where nothing that was there has turned -/
theorem post_of_below {P : Program} {f : Func} {s : ChangeSpec} {apart fresh handsOn again : Bool} {W W' : World} {args : Array Value} {v : Value} {ds gs : List (DataW H)} {before pa pv : List MemPlace}
    (hW : DataW.Whole enc P f.params.toList s.vars apart W args.toList ds gs before)
    (hres : ∀ (b : Nat) (sp : Nat → Bool) (hd : Bool), DataW.TrodAll enc P W' b sp hd f.resultTypes.toList (v.resultList f.resultTypes.size) (s.fn H (ds ++ gs)).results [])
    (hargs : ∀ sp : Nat → Bool, (∀ p ∈ before, sp p.block = true) → DataW.TrodAll enc P W' 0 sp true f.params.toList args.toList (s.fn H (ds ++ gs)).args pa)
    (hvars : ∀ sp : Nat → Bool, (∀ p ∈ before, sp p.block = true) → DataW.TrodVars enc P W' sp s.vars (s.fn H (ds ++ gs)).vars pv)
    (hps : before = pa ++ pv) (hb : Below W.heap.size W W')
    (hok : ∀ (j : Nat) (t : TypeId) (r : Value), f.resultTypes[j]? = some t → (v.resultList f.resultTypes.size)[j]? = some r → Value.okWide P W' .any 0 t r) :
    s.post enc P f apart fresh handsOn again W args v W' := by
  have hlt := fun p hp => hW.lt p hp
  have hold : ∀ p ∈ before, (fun b => decide (b < W.heap.size)) p.block = true := fun p hp => by simpa using hW.lt p hp
  refine ⟨ds, gs, before, [], pa, pv, hW, hres _ _ _, hargs _ hold, hvars _ hold, World.keptBut_mono (fun p hp => ⟨hp, ?_⟩) (hb.frame (· ∈ before)), fun _ => ?_⟩
  · rw [hps, List.mem_append] at hp
    exact Or.inr hp
  · obtain ⟨_, _, _, _, _, hz, hn⟩ := hW
    refine ⟨hok, _, _, ([] ++ pa) ++ pv, ⟨[] ++ pa, pv, trodAll_append (hargs _ (fun _ _ => rfl)) (hres _ _ _), hvars _ (fun _ _ => rfl), rfl, ?_, ?_⟩, ?_⟩
    · intro b off hp
      have hp' : MemPlace.cell b off ∈ before := by rw [hps]; simpa using hp
      have h1 : W'.frozen? ⟨b, off, none⟩ = W.frozen? ⟨b, off, none⟩ := hb.frozen (hlt _ hp')
      rw [h1]
      exact hz b off hp'
    · intro ha
      have := hn ha
      rw [hps] at this
      simpa using this
    · intro p hp _
      rw [hps]
      simpa using hp
end
end Go.Proofs.Ythbifeoohphnpaa
