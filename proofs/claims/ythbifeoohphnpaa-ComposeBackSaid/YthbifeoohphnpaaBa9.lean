/-
  Texts on which the laws of this seat rest, part 9 of 11.
-/
import Derived.Test.YthbifeoohphnpaaBa8
/-
  Package spinneyplay: a table's node made.
-/
namespace Go.Proofs.Ythbifeoohphnpaa
set_option linter.unusedVariables false
open Go.RowKit
/-- behind the two halves -/
structure MFix (w0 wx : World) (bx by_ : Nat) (X Y : Tb.T) : Prop where
  fr : Fr [] w0 wx
  hx : Blk wx bx 24 (Tb.tcells X)
  hy : Blk wx by_ 24 (Tb.tcells Y)
  lx : w0.heap.size ≤ bx
  ly : w0.heap.size ≤ by_
theorem retHE_ok (r : Nat) : retHE r 0 = .returned (.tuple #[.int .u32 (r : Int), .int .i64 0]) := rfl
theorem retHE_full : retHE 0 60 = .returned (.tuple #[.int .u32 0, .int .i64 60]) := rfl
theorem Stp.after {B B' : Bk} {w w1 w' : World} (hf : Fr [] w w1) (h : Stp B w1 B' w') : Stp B w B' w' :=
  ⟨(hf.mono (S' := B.own) (by simp)).trans h.fr (fun b hb _ => hb), fun b hb => (h.sub b hb).imp_right (fun hl => Nat.le_trans hf.size hl), h.s⟩
theorem Sto.Ext.len {S S' : Sto} (E : S.Ext S') (W : S.Wf) (W' : S'.Wf) : S.len ≤ S'.len := by
  rw [W.slen, W'.slen]
  exact Tb.nodup_le Sto.all_nodup fun x hx => by
    rw [Sto.mem_all] at hx ⊢
    cases hg : S.get x with
    | none => exact absurd hg hx
    | some nd => rw [E.get x nd hg]; simp
/-- what the inner calls ask: the halves hang on deeper variables alone -/
theorem Sto.Ord.free_fix {S : Sto} (O : S.Ord) (h8 : S.n ≤ 8) {F : Tb.T} {k : Nat} (hk : k < S.n) (h : ∀ v, v < 8 → (∀ l, k ≤ l → l < S.n → S.vars.getD l 0 ≠ v) → Tb.Free F v) (b : Bool) :
    ∀ v, v < 8 → (∀ l, k + 1 ≤ l → l < S.n → S.vars.getD l 0 ≠ v) → Tb.Free (Tb.fix F ((S.vars.getD k 0 : Nat) : Int) b) v := fun v hv hn => by
  have hu := (O.lt k hk).1
  by_cases e : v = S.vars.getD k 0
  · rw [e]; exact Tb.free_fix_same F (by omega) b
  · exact Tb.free_fix (by omega) hv (h v hv fun l hl hln e2 => by
      by_cases e3 : l = k
      · subst e3; exact e e2.symm
      · exact hn l (by omega) hln e2) b
theorem Sto.Ord.free_above {S : Sto} (O : S.Ord) (h8 : S.n ≤ 8) {F : Tb.T} {k : Nat} (hk : k ≤ S.n) (h : ∀ v, v < 8 → (∀ l, k ≤ l → l < S.n → S.vars.getD l 0 ≠ v) → Tb.Free F v) :
    ∀ l, l < k → Tb.Free F (S.vars.getD l 0) := fun l hl => by
  have hu := (O.lt l (by omega)).1
  exact h _ (by omega) fun l' h1 h2 e => by have := O.inj h2 (show l < S.n by omega) e; omega
set_option maxRecDepth 100000 in
set_option maxHeartbeats 4000000 in
theorem made_nd (base : Nat) (B : Bk) (S : Sto) (bl k : Nat) (F : Tb.T) (w : World) (G : StG w base B S) (hl : Loc B w bl 3 S.varCs) (hk : k < S.n)
    (hfr : ∀ v, v < 8 → (∀ l, k ≤ l → l < S.n → S.vars.getD l 0 ≠ v) → Tb.Free F v) (h1 : decide (F = Tb.cst false) = false) (h2 : decide (F = Tb.cst true) = false) (ih : MadeIs (k + 1)) :
    Calls Try.prog 45 #[.pointer (some ⟨B.s, 0, none⟩), Tb.tv F, .slice (some ⟨bl, 0, none⟩) S.n S.n, .int .i64 (k : Int)] w (MadeRes base B w S F (Sto.cost S.n k)) := by
  unfold MadeIs at ih
  have h8 := G.wf.n8
  have HFR := Bx.mk hfr
  have hvk := Sto.varCs_get G.od h8 hk
  have hv8 := (G.od.lt k hk).1
  obtain ⟨v, hv⟩ : ∃ v, v = S.vars.getD k 0 := ⟨_, rfl⟩
  rw [← hv] at hvk hv8
  have HV := Bx.mk hv
  have HVK := Bx.mk hvk
  have HIH := Bx.mk ih
  have HG := Bx.mk G
  have HL := Bx.mk hl
  have H1 := Bx.mk h1
  have H2 := Bx.mk h2
  obtain ⟨n, hn⟩ : ∃ n, n = S.n := ⟨_, rfl⟩
  rw [← hn] at hk hv8 h8 ⊢
  have HN := Bx.mk hn
  have HK := Bx.mk hk
  have HV8 := Bx.mk (show v < 8 by omega)
  have q0 : ¬ (k : Int) ≥ (n : Int) := by omega
  have q1 : (k : Int) < 8 := by omega
  have q2 : (0 : Int) ≤ (k : Int) := by omega
  obtain ⟨X, hX⟩ : ∃ X, X = Tb.fix F (v : Int) false := ⟨_, rfl⟩
  obtain ⟨Y, hY⟩ : ∃ Y, Y = Tb.fix F (v : Int) true := ⟨_, rfl⟩
  have HX := Bx.mk hX
  have HY := Bx.mk hY
  have hX0 : Blk (w.alloc (.cells (Tb.tcells F) 24)) w.heap.size 24 (Tb.tcells F) := Blk.new w _ _
  have hF0 : Fr [] w (w.alloc (.cells (Tb.tcells F) 24)) := (Fr.refl _ _).alloc _
  have HRX : Bx (∀ u : World, Calls Try.prog 56 #[Tb.tv F, .int .i64 (v : Int), .bool false] u fun e w' => e = .returned (Tb.tv X) ∧ Below u.heap.size u w') := ⟨fun u => by rw [hX]; exact rfix_any F (v : Int) false u⟩
  have HRY : Bx (∀ u : World, Calls Try.prog 56 #[Tb.tv F, .int .i64 (v : Int), .bool true] u fun e w' => e = .returned (Tb.tv Y) ∧ Below u.heap.size u w') := ⟨fun u => by rw [hY]; exact rfix_any F (v : Int) true u⟩
  clear G hl h1 h2 hvk ih hfr hk hv hn h8 hX hY hv8
  go_enter Try.func45, Try.ntmps45
  go_wp2_with fail
  generalize w.alloc (.cells (Tb.tcells F) 24) = w0 at *
  have HF0 := Bx.mk hF0
  have HX0 := Bx.mk hX0
  clear hF0 hX0
-- ⟦MD1
  refine region_any 100 (fun u => Fr [] w0 u) (by kernel_rfl) ?_
  generalize hu : World.drew _ = u0
  have hS : Fr [] w0 u0 := by rw [← hu]; exact (Fr.refl _ _).drew
  clear hu
  refine any_tk (i := 0) (Tb.tv F) rfl rfl (by kernel_rfl) (fun _ _ d _ _ h => by cases d <;> exact h) (fun u hS => exec_load rfl rfl (HX0.out.fr hS (by simp))) hS ?_
  try simp only [Act.put, List.getElem_toArray, List.getElem_cons_succ, List.getElem_cons_zero, List.setIfInBounds_toArray, List.set_cons_succ, List.set_cons_zero]
  refine any_branch [1] (by kernel_rfl) rfl fun ix hix => ?_
  simp only [List.mem_cons, List.not_mem_nil, or_false] at hix
  subst hix
  refine any_op rfl rfl fun K hK => ?_
  go_simp
  refine (rconst_any false _).mono ?_
  rintro e u1 ⟨rfl, hb1⟩
  have hf1 := Fr.of_below hb1 (Nat.le_refl _) (S := [])
  replace hS := hS.trans hf1 (by simp)
  clear hb1 hf1
  refine hK _ _ (fun _ => hS) ?_
  try simp only [Act.put, List.getElem_toArray, List.getElem_cons_succ, List.getElem_cons_zero, List.setIfInBounds_toArray, List.set_cons_succ, List.set_cons_zero]
  clear hK
  refine any_tk (i := 2) (.bool false) rfl rfl (by kernel_rfl) (fun _ _ d _ _ h => by cases d <;> exact h) (fun u hS => exec_eqF H1.out rfl rfl rfl) hS ?_
  try simp only [Act.put, List.getElem_toArray, List.getElem_cons_succ, List.getElem_cons_zero, List.setIfInBounds_toArray, List.set_cons_succ, List.set_cons_zero]
  refine any_tk (i := 3) (.bool false) rfl rfl (by kernel_rfl) (fun _ _ d _ _ h => by cases d <;> exact h) (fun u hS => rfl) hS ?_
  try simp only [Act.put, List.getElem_toArray, List.getElem_cons_succ, List.getElem_cons_zero, List.setIfInBounds_toArray, List.set_cons_succ, List.set_cons_zero]
  refine any_tk (i := 4) (Tb.tv F) rfl rfl (by kernel_rfl) (fun _ _ d _ _ h => by cases d <;> exact h) (fun u hS => exec_load rfl rfl (HX0.out.fr hS (by simp))) hS ?_
  try simp only [Act.put, List.getElem_toArray, List.getElem_cons_succ, List.getElem_cons_zero, List.setIfInBounds_toArray, List.set_cons_succ, List.set_cons_zero]
  refine any_branch [5] (by kernel_rfl) rfl fun ix hix => ?_
  simp only [List.mem_cons, List.not_mem_nil, or_false] at hix
  subst hix
  refine any_op rfl rfl fun K hK => ?_
  go_simp
  refine (rconst_any true _).mono ?_
  rintro e u2 ⟨rfl, hb2⟩
  have hf2 := Fr.of_below hb2 (Nat.le_refl _) (S := [])
  replace hS := hS.trans hf2 (by simp)
  clear hb2 hf2
  refine hK _ _ (fun _ => hS) ?_
  try simp only [Act.put, List.getElem_toArray, List.getElem_cons_succ, List.getElem_cons_zero, List.setIfInBounds_toArray, List.set_cons_succ, List.set_cons_zero]
  clear hK
  refine any_tk (i := 6) (.bool false) rfl rfl (by kernel_rfl) (fun _ _ d _ _ h => by cases d <;> exact h) (fun u hS => exec_eqF H2.out rfl rfl rfl) hS ?_
  try simp only [Act.put, List.getElem_toArray, List.getElem_cons_succ, List.getElem_cons_zero, List.setIfInBounds_toArray, List.set_cons_succ, List.set_cons_zero]
  refine any_tk (i := 7) (.bool false) rfl rfl (by kernel_rfl) (fun _ _ d _ _ h => by cases d <;> exact h) (fun u hS => exec_pickN rfl rfl rfl) hS ?_
  try simp only [Act.put, List.getElem_toArray, List.getElem_cons_succ, List.getElem_cons_zero, List.setIfInBounds_toArray, List.set_cons_succ, List.set_cons_zero]
  refine any_end (by kernel_rfl) ?_
-- ⟧
  have HF1 : Bx (Fr [] w u2) := ⟨HF0.out.trans hS (by simp)⟩
  have HX1 : Bx (Blk u2 w.heap.size 24 (Tb.tcells F)) := ⟨HX0.out.fr hS (by simp)⟩
  have HVB : Bx (Blk u2 bl 3 S.varCs) := ⟨HL.out.blk.fr HF1.out (by simp)⟩
  clear hS
  go_upto_region 7 with fail
  go_cut [10, 11] (fun sx sy wx => ∃ bx by_ : Nat, sx = .pointer (some ⟨bx, 0, none⟩) ∧ sy = .pointer (some ⟨by_, 0, none⟩) ∧ MFix u2 wx bx by_ X Y)
  case first =>
-- ⟦MD7
    refine region_any 100 (fun u => Fr [] u2 u) (by kernel_rfl) ?_
    generalize hu : World.drew _ = y0
    have hS : Fr [] u2 y0 := by rw [← hu]; exact (Fr.refl _ _).drew
    clear hu
    refine any_tk (i := 0) (Tb.tv F) rfl rfl (by kernel_rfl) (fun _ _ d _ _ h => by cases d <;> exact h) (fun u hS => exec_load rfl rfl (HX1.out.fr hS (by simp))) hS ?_
    try simp only [Act.put, List.getElem_toArray, List.getElem_cons_succ, List.getElem_cons_zero, List.setIfInBounds_toArray, List.set_cons_succ, List.set_cons_zero]
    refine any_tk (i := 1) (.slice (some ⟨bl, 0, none⟩) n n) rfl rfl (by kernel_rfl) (fun _ _ d _ _ h => by cases d <;> exact h) (fun u hS => rfl) hS ?_
    try simp only [Act.put, List.getElem_toArray, List.getElem_cons_succ, List.getElem_cons_zero, List.setIfInBounds_toArray, List.set_cons_succ, List.set_cons_zero]
    refine any_tk (i := 2) (.int .i64 (k : Int)) rfl rfl (by kernel_rfl) (fun _ _ d _ _ h => by cases d <;> exact h) (fun u hS => rfl) hS ?_
    try simp only [Act.put, List.getElem_toArray, List.getElem_cons_succ, List.getElem_cons_zero, List.setIfInBounds_toArray, List.set_cons_succ, List.set_cons_zero]
    refine any_tk (i := 3) (.pointer (some ⟨bl, 0 + k, none⟩)) rfl rfl (by kernel_rfl) (fun _ _ d _ _ h => by cases d <;> exact h) (fun u hS => exec_ixI HK.out rfl rfl rfl) hS ?_
    try simp only [Act.put, List.getElem_toArray, List.getElem_cons_succ, List.getElem_cons_zero, List.setIfInBounds_toArray, List.set_cons_succ, List.set_cons_zero]
    refine any_tk (i := 4) (.int .i64 (v : Int)) rfl rfl (by kernel_rfl) (fun _ _ d _ _ h => by cases d <;> exact h) (fun u hS => exec_ld_I rfl rfl (by rw [Nat.zero_add]; exact (HVB.out.fr hS (by simp)).cellEq HVK.out)) hS ?_
    try simp only [Act.put, List.getElem_toArray, List.getElem_cons_succ, List.getElem_cons_zero, List.setIfInBounds_toArray, List.set_cons_succ, List.set_cons_zero]
    refine any_tk (i := 6) (Tb.tv F) rfl rfl (by kernel_rfl) (fun _ _ d _ _ h => by cases d <;> exact h) (fun u hS => exec_load rfl rfl (HX1.out.fr hS (by simp))) hS ?_
    try simp only [Act.put, List.getElem_toArray, List.getElem_cons_succ, List.getElem_cons_zero, List.setIfInBounds_toArray, List.set_cons_succ, List.set_cons_zero]
    refine any_tk (i := 7) (.slice (some ⟨bl, 0, none⟩) n n) rfl rfl (by kernel_rfl) (fun _ _ d _ _ h => by cases d <;> exact h) (fun u hS => rfl) hS ?_
    try simp only [Act.put, List.getElem_toArray, List.getElem_cons_succ, List.getElem_cons_zero, List.setIfInBounds_toArray, List.set_cons_succ, List.set_cons_zero]
    refine any_tk (i := 8) (.int .i64 (k : Int)) rfl rfl (by kernel_rfl) (fun _ _ d _ _ h => by cases d <;> exact h) (fun u hS => rfl) hS ?_
    try simp only [Act.put, List.getElem_toArray, List.getElem_cons_succ, List.getElem_cons_zero, List.setIfInBounds_toArray, List.set_cons_succ, List.set_cons_zero]
    refine any_tk (i := 9) (.pointer (some ⟨bl, 0 + k, none⟩)) rfl rfl (by kernel_rfl) (fun _ _ d _ _ h => by cases d <;> exact h) (fun u hS => exec_ixI HK.out rfl rfl rfl) hS ?_
    try simp only [Act.put, List.getElem_toArray, List.getElem_cons_succ, List.getElem_cons_zero, List.setIfInBounds_toArray, List.set_cons_succ, List.set_cons_zero]
    refine any_tk (i := 10) (.int .i64 (v : Int)) rfl rfl (by kernel_rfl) (fun _ _ d _ _ h => by cases d <;> exact h) (fun u hS => exec_ld_I rfl rfl (by rw [Nat.zero_add]; exact (HVB.out.fr hS (by simp)).cellEq HVK.out)) hS ?_
    try simp only [Act.put, List.getElem_toArray, List.getElem_cons_succ, List.getElem_cons_zero, List.setIfInBounds_toArray, List.set_cons_succ, List.set_cons_zero]
    refine any_branch [5, 12, 13] (by kernel_rfl) rfl fun ix hix => ?_
    simp only [List.mem_cons, List.not_mem_nil, or_false] at hix
    rcases hix with rfl | rfl | rfl
    · refine any_op rfl rfl fun K hK => ?_
      go_simp
      refine (HRX.out _).mono ?_
      rintro e y1 ⟨rfl, hb1⟩
      have hf1 := Fr.of_below hb1 (Nat.le_refl _) (S := [])
      replace hS := hS.trans hf1 (by simp)
      clear hb1 hf1
      refine hK _ _ (fun _ => hS) ?_
      try simp only [Act.put, List.getElem_toArray, List.getElem_cons_succ, List.getElem_cons_zero, List.setIfInBounds_toArray, List.set_cons_succ, List.set_cons_zero]
      clear hK
      refine any_branch [11, 12, 13] (by kernel_rfl) rfl fun ix hix => ?_
      simp only [List.mem_cons, List.not_mem_nil, or_false] at hix
      rcases hix with rfl | rfl | rfl
      · refine any_op rfl rfl fun K hK => ?_
        go_simp
        refine (HRY.out _).mono ?_
        rintro e y2 ⟨rfl, hb2⟩
        have hf2 := Fr.of_below hb2 (Nat.le_refl _) (S := [])
        replace hS := hS.trans hf2 (by simp)
        clear hb2 hf2
        refine hK _ _ (fun _ => hS) ?_
        try simp only [Act.put, List.getElem_toArray, List.getElem_cons_succ, List.getElem_cons_zero, List.setIfInBounds_toArray, List.set_cons_succ, List.set_cons_zero]
        clear hK
        refine any_branch [12, 13] (by kernel_rfl) rfl fun ix hix => ?_
        simp only [List.mem_cons, List.not_mem_nil, or_false] at hix
        rcases hix with rfl | rfl
        · refine any_op rfl rfl fun K hK => ?_
          go_simp
          have hx_lo : u2.heap.size ≤ y2.heap.size := hS.size
          have hf3 := (Fr.refl [] y2).alloc (.cells #[.int .u64 0, .int .u64 0, .int .u64 0, .int .u64 0] 24)
          replace hS := hS.trans hf3 (by simp)
          have hx := Blk.new y2 24 #[.int .u64 0, .int .u64 0, .int .u64 0, .int .u64 0]
          clear hf3
          refine hK _ _ (fun _ => hS) ?_
          try simp only [Act.put, List.getElem_toArray, List.getElem_cons_succ, List.getElem_cons_zero, List.setIfInBounds_toArray, List.set_cons_succ, List.set_cons_zero]
          clear hK
          generalize y2.alloc (.cells #[.int .u64 0, .int .u64 0, .int .u64 0, .int .u64 0] 24) = y3 at *
          refine any_branch [13] (by kernel_rfl) rfl fun ix hix => ?_
          simp only [List.mem_cons, List.not_mem_nil, or_false] at hix
          subst hix
          refine any_op rfl rfl fun K hK => ?_
          go_simp
          have hy_lo : u2.heap.size ≤ y3.heap.size := hS.size
          have hf4 := (Fr.refl [] y3).alloc (.cells #[.int .u64 0, .int .u64 0, .int .u64 0, .int .u64 0] 24)
          replace hS := hS.trans hf4 (by simp)
          have hx_hy : y2.heap.size ≠ y3.heap.size := by have := hx.lt; omega
          replace hx := hx.fr hf4 (by simp)
          have hy := Blk.new y3 24 #[.int .u64 0, .int .u64 0, .int .u64 0, .int .u64 0]
          clear hf4
          refine hK _ _ (fun _ => hS) ?_
          try simp only [Act.put, List.getElem_toArray, List.getElem_cons_succ, List.getElem_cons_zero, List.setIfInBounds_toArray, List.set_cons_succ, List.set_cons_zero]
          clear hK
          generalize y3.alloc (.cells #[.int .u64 0, .int .u64 0, .int .u64 0, .int .u64 0] 24) = y4 at *
          refine any_branch [14] (by kernel_rfl) rfl fun ix hix => ?_
          simp only [List.mem_cons, List.not_mem_nil, or_false] at hix
          subst hix
          refine any_op rfl rfl fun K hK => ?_
          have z0 := hx.frozen 0
          have z1 := hx.frozen 1
          have z2 := hx.frozen 2
          have z3 := hx.frozen 3
          have c0 := hx.cell 0
          have c1 := hx.cell 1
          have c2 := hx.cell 2
          have c3 := hx.cell 3
          go_simp
          clear z0 z1 z2 z3 c0 c1 c2 c3
          have hf5 : Fr [y2.heap.size] y4 (((((y4.setCell ⟨y2.heap.size, 0, none⟩ (.int .u64 (Tb.wd X 0))).setCell ⟨y2.heap.size, 1, none⟩ (.int .u64 (Tb.wd X 1))).setCell ⟨y2.heap.size, 2, none⟩ (.int .u64 (Tb.wd X 2))).setCell ⟨y2.heap.size, 3, none⟩ (.int .u64 (Tb.wd X 3)))) := ((((Fr.refl [y2.heap.size] y4).setCell (fun _ => by simp) _).setCell (fun _ => by simp) _).setCell (fun _ => by simp) _).setCell (fun _ => by simp) _
          replace hS := hS.trans hf5 (fun b hb hl => by obtain rfl := List.mem_singleton.1 hb; exact absurd hl (by omega))
          replace hy := hy.fr hf5 (by simp; omega)
          replace hx := blk4z hx (X)
          clear hf5
          refine hK _ _ (fun _ => hS) ?_
          try simp only [Act.put, List.getElem_toArray, List.getElem_cons_succ, List.getElem_cons_zero, List.setIfInBounds_toArray, List.set_cons_succ, List.set_cons_zero]
          clear hK
          generalize (((((y4.setCell ⟨y2.heap.size, 0, none⟩ (.int .u64 (Tb.wd X 0))).setCell ⟨y2.heap.size, 1, none⟩ (.int .u64 (Tb.wd X 1))).setCell ⟨y2.heap.size, 2, none⟩ (.int .u64 (Tb.wd X 2))).setCell ⟨y2.heap.size, 3, none⟩ (.int .u64 (Tb.wd X 3)))) = y5 at *
          refine any_branch [15] (by kernel_rfl) rfl fun ix hix => ?_
          simp only [List.mem_cons, List.not_mem_nil, or_false] at hix
          subst hix
          refine any_op rfl rfl fun K hK => ?_
          have z0 := hy.frozen 0
          have z1 := hy.frozen 1
          have z2 := hy.frozen 2
          have z3 := hy.frozen 3
          have c0 := hy.cell 0
          have c1 := hy.cell 1
          have c2 := hy.cell 2
          have c3 := hy.cell 3
          go_simp
          clear z0 z1 z2 z3 c0 c1 c2 c3
          have hf6 : Fr [y3.heap.size] y5 (((((y5.setCell ⟨y3.heap.size, 0, none⟩ (.int .u64 (Tb.wd Y 0))).setCell ⟨y3.heap.size, 1, none⟩ (.int .u64 (Tb.wd Y 1))).setCell ⟨y3.heap.size, 2, none⟩ (.int .u64 (Tb.wd Y 2))).setCell ⟨y3.heap.size, 3, none⟩ (.int .u64 (Tb.wd Y 3)))) := ((((Fr.refl [y3.heap.size] y5).setCell (fun _ => by simp) _).setCell (fun _ => by simp) _).setCell (fun _ => by simp) _).setCell (fun _ => by simp) _
          replace hS := hS.trans hf6 (fun b hb hl => by obtain rfl := List.mem_singleton.1 hb; exact absurd hl (by omega))
          replace hx := hx.fr hf6 (by simp; omega)
          replace hy := blk4z hy (Y)
          clear hf6
          refine hK _ _ (fun _ => hS) ?_
          try simp only [Act.put, List.getElem_toArray, List.getElem_cons_succ, List.getElem_cons_zero, List.setIfInBounds_toArray, List.set_cons_succ, List.set_cons_zero]
          clear hK
          generalize (((((y5.setCell ⟨y3.heap.size, 0, none⟩ (.int .u64 (Tb.wd Y 0))).setCell ⟨y3.heap.size, 1, none⟩ (.int .u64 (Tb.wd Y 1))).setCell ⟨y3.heap.size, 2, none⟩ (.int .u64 (Tb.wd Y 2))).setCell ⟨y3.heap.size, 3, none⟩ (.int .u64 (Tb.wd Y 3)))) = y6 at *
          refine any_end (by kernel_rfl) ?_
          go_wp2_with fail
          go_meet
          case rel => exact ⟨_, _, rfl, rfl, hS, hx, hy, hx_lo, hy_lo⟩
        · refine any_op rfl rfl fun K hK => ?_
          go_simp
          have hy_lo : u2.heap.size ≤ y2.heap.size := hS.size
          have hf3 := (Fr.refl [] y2).alloc (.cells #[.int .u64 0, .int .u64 0, .int .u64 0, .int .u64 0] 24)
          replace hS := hS.trans hf3 (by simp)
          have hy := Blk.new y2 24 #[.int .u64 0, .int .u64 0, .int .u64 0, .int .u64 0]
          clear hf3
          refine hK _ _ (fun _ => hS) ?_
          try simp only [Act.put, List.getElem_toArray, List.getElem_cons_succ, List.getElem_cons_zero, List.setIfInBounds_toArray, List.set_cons_succ, List.set_cons_zero]
          clear hK
          generalize y2.alloc (.cells #[.int .u64 0, .int .u64 0, .int .u64 0, .int .u64 0] 24) = y3 at *
          refine any_branch [12] (by kernel_rfl) rfl fun ix hix => ?_
          simp only [List.mem_cons, List.not_mem_nil, or_false] at hix
          subst hix
          refine any_op rfl rfl fun K hK => ?_
          go_simp
          have hx_lo : u2.heap.size ≤ y3.heap.size := hS.size
          have hf4 := (Fr.refl [] y3).alloc (.cells #[.int .u64 0, .int .u64 0, .int .u64 0, .int .u64 0] 24)
          replace hS := hS.trans hf4 (by simp)
          have hy_hx : y2.heap.size ≠ y3.heap.size := by have := hy.lt; omega
          replace hy := hy.fr hf4 (by simp)
          have hx := Blk.new y3 24 #[.int .u64 0, .int .u64 0, .int .u64 0, .int .u64 0]
          clear hf4
          refine hK _ _ (fun _ => hS) ?_
          try simp only [Act.put, List.getElem_toArray, List.getElem_cons_succ, List.getElem_cons_zero, List.setIfInBounds_toArray, List.set_cons_succ, List.set_cons_zero]
          clear hK
          generalize y3.alloc (.cells #[.int .u64 0, .int .u64 0, .int .u64 0, .int .u64 0] 24) = y4 at *
          refine any_branch [14] (by kernel_rfl) rfl fun ix hix => ?_
          simp only [List.mem_cons, List.not_mem_nil, or_false] at hix
          subst hix
          refine any_op rfl rfl fun K hK => ?_
          have z0 := hx.frozen 0
          have z1 := hx.frozen 1
          have z2 := hx.frozen 2
          have z3 := hx.frozen 3
          have c0 := hx.cell 0
          have c1 := hx.cell 1
          have c2 := hx.cell 2
          have c3 := hx.cell 3
          go_simp
          clear z0 z1 z2 z3 c0 c1 c2 c3
          have hf5 : Fr [y3.heap.size] y4 (((((y4.setCell ⟨y3.heap.size, 0, none⟩ (.int .u64 (Tb.wd X 0))).setCell ⟨y3.heap.size, 1, none⟩ (.int .u64 (Tb.wd X 1))).setCell ⟨y3.heap.size, 2, none⟩ (.int .u64 (Tb.wd X 2))).setCell ⟨y3.heap.size, 3, none⟩ (.int .u64 (Tb.wd X 3)))) := ((((Fr.refl [y3.heap.size] y4).setCell (fun _ => by simp) _).setCell (fun _ => by simp) _).setCell (fun _ => by simp) _).setCell (fun _ => by simp) _
          replace hS := hS.trans hf5 (fun b hb hl => by obtain rfl := List.mem_singleton.1 hb; exact absurd hl (by omega))
          replace hy := hy.fr hf5 (by simp; omega)
          replace hx := blk4z hx (X)
          clear hf5
          refine hK _ _ (fun _ => hS) ?_
          try simp only [Act.put, List.getElem_toArray, List.getElem_cons_succ, List.getElem_cons_zero, List.setIfInBounds_toArray, List.set_cons_succ, List.set_cons_zero]
          clear hK
          generalize (((((y4.setCell ⟨y3.heap.size, 0, none⟩ (.int .u64 (Tb.wd X 0))).setCell ⟨y3.heap.size, 1, none⟩ (.int .u64 (Tb.wd X 1))).setCell ⟨y3.heap.size, 2, none⟩ (.int .u64 (Tb.wd X 2))).setCell ⟨y3.heap.size, 3, none⟩ (.int .u64 (Tb.wd X 3)))) = y5 at *
          refine any_branch [15] (by kernel_rfl) rfl fun ix hix => ?_
          simp only [List.mem_cons, List.not_mem_nil, or_false] at hix
          subst hix
          refine any_op rfl rfl fun K hK => ?_
          have z0 := hy.frozen 0
          have z1 := hy.frozen 1
          have z2 := hy.frozen 2
          have z3 := hy.frozen 3
          have c0 := hy.cell 0
          have c1 := hy.cell 1
          have c2 := hy.cell 2
          have c3 := hy.cell 3
          go_simp
          clear z0 z1 z2 z3 c0 c1 c2 c3
          have hf6 : Fr [y2.heap.size] y5 (((((y5.setCell ⟨y2.heap.size, 0, none⟩ (.int .u64 (Tb.wd Y 0))).setCell ⟨y2.heap.size, 1, none⟩ (.int .u64 (Tb.wd Y 1))).setCell ⟨y2.heap.size, 2, none⟩ (.int .u64 (Tb.wd Y 2))).setCell ⟨y2.heap.size, 3, none⟩ (.int .u64 (Tb.wd Y 3)))) := ((((Fr.refl [y2.heap.size] y5).setCell (fun _ => by simp) _).setCell (fun _ => by simp) _).setCell (fun _ => by simp) _).setCell (fun _ => by simp) _
          replace hS := hS.trans hf6 (fun b hb hl => by obtain rfl := List.mem_singleton.1 hb; exact absurd hl (by omega))
          replace hx := hx.fr hf6 (by simp; omega)
          replace hy := blk4z hy (Y)
          clear hf6
          refine hK _ _ (fun _ => hS) ?_
          try simp only [Act.put, List.getElem_toArray, List.getElem_cons_succ, List.getElem_cons_zero, List.setIfInBounds_toArray, List.set_cons_succ, List.set_cons_zero]
          clear hK
          generalize (((((y5.setCell ⟨y2.heap.size, 0, none⟩ (.int .u64 (Tb.wd Y 0))).setCell ⟨y2.heap.size, 1, none⟩ (.int .u64 (Tb.wd Y 1))).setCell ⟨y2.heap.size, 2, none⟩ (.int .u64 (Tb.wd Y 2))).setCell ⟨y2.heap.size, 3, none⟩ (.int .u64 (Tb.wd Y 3)))) = y6 at *
          refine any_end (by kernel_rfl) ?_
          go_wp2_with fail
          go_meet
          case rel => exact ⟨_, _, rfl, rfl, hS, hx, hy, hx_lo, hy_lo⟩
      · refine any_op rfl rfl fun K hK => ?_
        go_simp
        have hx_lo : u2.heap.size ≤ y1.heap.size := hS.size
        have hf2 := (Fr.refl [] y1).alloc (.cells #[.int .u64 0, .int .u64 0, .int .u64 0, .int .u64 0] 24)
        replace hS := hS.trans hf2 (by simp)
        have hx := Blk.new y1 24 #[.int .u64 0, .int .u64 0, .int .u64 0, .int .u64 0]
        clear hf2
        refine hK _ _ (fun _ => hS) ?_
        try simp only [Act.put, List.getElem_toArray, List.getElem_cons_succ, List.getElem_cons_zero, List.setIfInBounds_toArray, List.set_cons_succ, List.set_cons_zero]
        clear hK
        generalize y1.alloc (.cells #[.int .u64 0, .int .u64 0, .int .u64 0, .int .u64 0] 24) = y2 at *
        refine any_branch [11, 13] (by kernel_rfl) rfl fun ix hix => ?_
        simp only [List.mem_cons, List.not_mem_nil, or_false] at hix
        rcases hix with rfl | rfl
        · refine any_op rfl rfl fun K hK => ?_
          go_simp
          refine (HRY.out _).mono ?_
          rintro e y3 ⟨rfl, hb3⟩
          have hf3 := Fr.of_below hb3 (Nat.le_refl _) (S := [])
          replace hS := hS.trans hf3 (by simp)
          replace hx := hx.fr hf3 (by simp)
          clear hb3 hf3
          refine hK _ _ (fun _ => hS) ?_
          try simp only [Act.put, List.getElem_toArray, List.getElem_cons_succ, List.getElem_cons_zero, List.setIfInBounds_toArray, List.set_cons_succ, List.set_cons_zero]
          clear hK
          refine any_branch [13] (by kernel_rfl) rfl fun ix hix => ?_
          simp only [List.mem_cons, List.not_mem_nil, or_false] at hix
          subst hix
          refine any_op rfl rfl fun K hK => ?_
          go_simp
          have hy_lo : u2.heap.size ≤ y3.heap.size := hS.size
          have hf4 := (Fr.refl [] y3).alloc (.cells #[.int .u64 0, .int .u64 0, .int .u64 0, .int .u64 0] 24)
          replace hS := hS.trans hf4 (by simp)
          have hx_hy : y1.heap.size ≠ y3.heap.size := by have := hx.lt; omega
          replace hx := hx.fr hf4 (by simp)
          have hy := Blk.new y3 24 #[.int .u64 0, .int .u64 0, .int .u64 0, .int .u64 0]
          clear hf4
          refine hK _ _ (fun _ => hS) ?_
          try simp only [Act.put, List.getElem_toArray, List.getElem_cons_succ, List.getElem_cons_zero, List.setIfInBounds_toArray, List.set_cons_succ, List.set_cons_zero]
          clear hK
          generalize y3.alloc (.cells #[.int .u64 0, .int .u64 0, .int .u64 0, .int .u64 0] 24) = y4 at *
          refine any_branch [14] (by kernel_rfl) rfl fun ix hix => ?_
          simp only [List.mem_cons, List.not_mem_nil, or_false] at hix
          subst hix
          refine any_op rfl rfl fun K hK => ?_
          have z0 := hx.frozen 0
          have z1 := hx.frozen 1
          have z2 := hx.frozen 2
          have z3 := hx.frozen 3
          have c0 := hx.cell 0
          have c1 := hx.cell 1
          have c2 := hx.cell 2
          have c3 := hx.cell 3
          go_simp
          clear z0 z1 z2 z3 c0 c1 c2 c3
          have hf5 : Fr [y1.heap.size] y4 (((((y4.setCell ⟨y1.heap.size, 0, none⟩ (.int .u64 (Tb.wd X 0))).setCell ⟨y1.heap.size, 1, none⟩ (.int .u64 (Tb.wd X 1))).setCell ⟨y1.heap.size, 2, none⟩ (.int .u64 (Tb.wd X 2))).setCell ⟨y1.heap.size, 3, none⟩ (.int .u64 (Tb.wd X 3)))) := ((((Fr.refl [y1.heap.size] y4).setCell (fun _ => by simp) _).setCell (fun _ => by simp) _).setCell (fun _ => by simp) _).setCell (fun _ => by simp) _
          replace hS := hS.trans hf5 (fun b hb hl => by obtain rfl := List.mem_singleton.1 hb; exact absurd hl (by omega))
          replace hy := hy.fr hf5 (by simp; omega)
          replace hx := blk4z hx (X)
          clear hf5
          refine hK _ _ (fun _ => hS) ?_
          try simp only [Act.put, List.getElem_toArray, List.getElem_cons_succ, List.getElem_cons_zero, List.setIfInBounds_toArray, List.set_cons_succ, List.set_cons_zero]
          clear hK
          generalize (((((y4.setCell ⟨y1.heap.size, 0, none⟩ (.int .u64 (Tb.wd X 0))).setCell ⟨y1.heap.size, 1, none⟩ (.int .u64 (Tb.wd X 1))).setCell ⟨y1.heap.size, 2, none⟩ (.int .u64 (Tb.wd X 2))).setCell ⟨y1.heap.size, 3, none⟩ (.int .u64 (Tb.wd X 3)))) = y5 at *
          refine any_branch [15] (by kernel_rfl) rfl fun ix hix => ?_
          simp only [List.mem_cons, List.not_mem_nil, or_false] at hix
          subst hix
          refine any_op rfl rfl fun K hK => ?_
          have z0 := hy.frozen 0
          have z1 := hy.frozen 1
          have z2 := hy.frozen 2
          have z3 := hy.frozen 3
          have c0 := hy.cell 0
          have c1 := hy.cell 1
          have c2 := hy.cell 2
          have c3 := hy.cell 3
          go_simp
          clear z0 z1 z2 z3 c0 c1 c2 c3
          have hf6 : Fr [y3.heap.size] y5 (((((y5.setCell ⟨y3.heap.size, 0, none⟩ (.int .u64 (Tb.wd Y 0))).setCell ⟨y3.heap.size, 1, none⟩ (.int .u64 (Tb.wd Y 1))).setCell ⟨y3.heap.size, 2, none⟩ (.int .u64 (Tb.wd Y 2))).setCell ⟨y3.heap.size, 3, none⟩ (.int .u64 (Tb.wd Y 3)))) := ((((Fr.refl [y3.heap.size] y5).setCell (fun _ => by simp) _).setCell (fun _ => by simp) _).setCell (fun _ => by simp) _).setCell (fun _ => by simp) _
          replace hS := hS.trans hf6 (fun b hb hl => by obtain rfl := List.mem_singleton.1 hb; exact absurd hl (by omega))
          replace hx := hx.fr hf6 (by simp; omega)
          replace hy := blk4z hy (Y)
          clear hf6
          refine hK _ _ (fun _ => hS) ?_
          try simp only [Act.put, List.getElem_toArray, List.getElem_cons_succ, List.getElem_cons_zero, List.setIfInBounds_toArray, List.set_cons_succ, List.set_cons_zero]
          clear hK
          generalize (((((y5.setCell ⟨y3.heap.size, 0, none⟩ (.int .u64 (Tb.wd Y 0))).setCell ⟨y3.heap.size, 1, none⟩ (.int .u64 (Tb.wd Y 1))).setCell ⟨y3.heap.size, 2, none⟩ (.int .u64 (Tb.wd Y 2))).setCell ⟨y3.heap.size, 3, none⟩ (.int .u64 (Tb.wd Y 3)))) = y6 at *
          refine any_end (by kernel_rfl) ?_
          go_wp2_with fail
          go_meet
          case rel => exact ⟨_, _, rfl, rfl, hS, hx, hy, hx_lo, hy_lo⟩
        · refine any_op rfl rfl fun K hK => ?_
          go_simp
          have hy_lo : u2.heap.size ≤ y2.heap.size := hS.size
          have hf3 := (Fr.refl [] y2).alloc (.cells #[.int .u64 0, .int .u64 0, .int .u64 0, .int .u64 0] 24)
          replace hS := hS.trans hf3 (by simp)
          have hx_hy : y1.heap.size ≠ y2.heap.size := by have := hx.lt; omega
          replace hx := hx.fr hf3 (by simp)
          have hy := Blk.new y2 24 #[.int .u64 0, .int .u64 0, .int .u64 0, .int .u64 0]
          clear hf3
          refine hK _ _ (fun _ => hS) ?_
          try simp only [Act.put, List.getElem_toArray, List.getElem_cons_succ, List.getElem_cons_zero, List.setIfInBounds_toArray, List.set_cons_succ, List.set_cons_zero]
          clear hK
          generalize y2.alloc (.cells #[.int .u64 0, .int .u64 0, .int .u64 0, .int .u64 0] 24) = y3 at *
          refine any_branch [11] (by kernel_rfl) rfl fun ix hix => ?_
          simp only [List.mem_cons, List.not_mem_nil, or_false] at hix
          subst hix
          refine any_op rfl rfl fun K hK => ?_
          go_simp
          refine (HRY.out _).mono ?_
          rintro e y4 ⟨rfl, hb4⟩
          have hf4 := Fr.of_below hb4 (Nat.le_refl _) (S := [])
          replace hS := hS.trans hf4 (by simp)
          replace hx := hx.fr hf4 (by simp)
          replace hy := hy.fr hf4 (by simp)
          clear hb4 hf4
          refine hK _ _ (fun _ => hS) ?_
          try simp only [Act.put, List.getElem_toArray, List.getElem_cons_succ, List.getElem_cons_zero, List.setIfInBounds_toArray, List.set_cons_succ, List.set_cons_zero]
          clear hK
          refine any_branch [14] (by kernel_rfl) rfl fun ix hix => ?_
          simp only [List.mem_cons, List.not_mem_nil, or_false] at hix
          subst hix
          refine any_op rfl rfl fun K hK => ?_
          have z0 := hx.frozen 0
          have z1 := hx.frozen 1
          have z2 := hx.frozen 2
          have z3 := hx.frozen 3
          have c0 := hx.cell 0
          have c1 := hx.cell 1
          have c2 := hx.cell 2
          have c3 := hx.cell 3
          go_simp
          clear z0 z1 z2 z3 c0 c1 c2 c3
          have hf5 : Fr [y1.heap.size] y4 (((((y4.setCell ⟨y1.heap.size, 0, none⟩ (.int .u64 (Tb.wd X 0))).setCell ⟨y1.heap.size, 1, none⟩ (.int .u64 (Tb.wd X 1))).setCell ⟨y1.heap.size, 2, none⟩ (.int .u64 (Tb.wd X 2))).setCell ⟨y1.heap.size, 3, none⟩ (.int .u64 (Tb.wd X 3)))) := ((((Fr.refl [y1.heap.size] y4).setCell (fun _ => by simp) _).setCell (fun _ => by simp) _).setCell (fun _ => by simp) _).setCell (fun _ => by simp) _
          replace hS := hS.trans hf5 (fun b hb hl => by obtain rfl := List.mem_singleton.1 hb; exact absurd hl (by omega))
          replace hy := hy.fr hf5 (by simp; omega)
          replace hx := blk4z hx (X)
          clear hf5
          refine hK _ _ (fun _ => hS) ?_
          try simp only [Act.put, List.getElem_toArray, List.getElem_cons_succ, List.getElem_cons_zero, List.setIfInBounds_toArray, List.set_cons_succ, List.set_cons_zero]
          clear hK
          generalize (((((y4.setCell ⟨y1.heap.size, 0, none⟩ (.int .u64 (Tb.wd X 0))).setCell ⟨y1.heap.size, 1, none⟩ (.int .u64 (Tb.wd X 1))).setCell ⟨y1.heap.size, 2, none⟩ (.int .u64 (Tb.wd X 2))).setCell ⟨y1.heap.size, 3, none⟩ (.int .u64 (Tb.wd X 3)))) = y5 at *
          refine any_branch [15] (by kernel_rfl) rfl fun ix hix => ?_
          simp only [List.mem_cons, List.not_mem_nil, or_false] at hix
          subst hix
          refine any_op rfl rfl fun K hK => ?_
          have z0 := hy.frozen 0
          have z1 := hy.frozen 1
          have z2 := hy.frozen 2
          have z3 := hy.frozen 3
          have c0 := hy.cell 0
          have c1 := hy.cell 1
          have c2 := hy.cell 2
          have c3 := hy.cell 3
          go_simp
          clear z0 z1 z2 z3 c0 c1 c2 c3
          have hf6 : Fr [y2.heap.size] y5 (((((y5.setCell ⟨y2.heap.size, 0, none⟩ (.int .u64 (Tb.wd Y 0))).setCell ⟨y2.heap.size, 1, none⟩ (.int .u64 (Tb.wd Y 1))).setCell ⟨y2.heap.size, 2, none⟩ (.int .u64 (Tb.wd Y 2))).setCell ⟨y2.heap.size, 3, none⟩ (.int .u64 (Tb.wd Y 3)))) := ((((Fr.refl [y2.heap.size] y5).setCell (fun _ => by simp) _).setCell (fun _ => by simp) _).setCell (fun _ => by simp) _).setCell (fun _ => by simp) _
          replace hS := hS.trans hf6 (fun b hb hl => by obtain rfl := List.mem_singleton.1 hb; exact absurd hl (by omega))
          replace hx := hx.fr hf6 (by simp; omega)
          replace hy := blk4z hy (Y)
          clear hf6
          refine hK _ _ (fun _ => hS) ?_
          try simp only [Act.put, List.getElem_toArray, List.getElem_cons_succ, List.getElem_cons_zero, List.setIfInBounds_toArray, List.set_cons_succ, List.set_cons_zero]
          clear hK
          generalize (((((y5.setCell ⟨y2.heap.size, 0, none⟩ (.int .u64 (Tb.wd Y 0))).setCell ⟨y2.heap.size, 1, none⟩ (.int .u64 (Tb.wd Y 1))).setCell ⟨y2.heap.size, 2, none⟩ (.int .u64 (Tb.wd Y 2))).setCell ⟨y2.heap.size, 3, none⟩ (.int .u64 (Tb.wd Y 3)))) = y6 at *
          refine any_end (by kernel_rfl) ?_
          go_wp2_with fail
          go_meet
          case rel => exact ⟨_, _, rfl, rfl, hS, hx, hy, hx_lo, hy_lo⟩
      · refine any_op rfl rfl fun K hK => ?_
        go_simp
        have hy_lo : u2.heap.size ≤ y1.heap.size := hS.size
        have hf2 := (Fr.refl [] y1).alloc (.cells #[.int .u64 0, .int .u64 0, .int .u64 0, .int .u64 0] 24)
        replace hS := hS.trans hf2 (by simp)
        have hy := Blk.new y1 24 #[.int .u64 0, .int .u64 0, .int .u64 0, .int .u64 0]
        clear hf2
        refine hK _ _ (fun _ => hS) ?_
        try simp only [Act.put, List.getElem_toArray, List.getElem_cons_succ, List.getElem_cons_zero, List.setIfInBounds_toArray, List.set_cons_succ, List.set_cons_zero]
        clear hK
        generalize y1.alloc (.cells #[.int .u64 0, .int .u64 0, .int .u64 0, .int .u64 0] 24) = y2 at *
        refine any_branch [11, 12] (by kernel_rfl) rfl fun ix hix => ?_
        simp only [List.mem_cons, List.not_mem_nil, or_false] at hix
        rcases hix with rfl | rfl
        · refine any_op rfl rfl fun K hK => ?_
          go_simp
          refine (HRY.out _).mono ?_
          rintro e y3 ⟨rfl, hb3⟩
          have hf3 := Fr.of_below hb3 (Nat.le_refl _) (S := [])
          replace hS := hS.trans hf3 (by simp)
          replace hy := hy.fr hf3 (by simp)
          clear hb3 hf3
          refine hK _ _ (fun _ => hS) ?_
          try simp only [Act.put, List.getElem_toArray, List.getElem_cons_succ, List.getElem_cons_zero, List.setIfInBounds_toArray, List.set_cons_succ, List.set_cons_zero]
          clear hK
          refine any_branch [12] (by kernel_rfl) rfl fun ix hix => ?_
          simp only [List.mem_cons, List.not_mem_nil, or_false] at hix
          subst hix
          refine any_op rfl rfl fun K hK => ?_
          go_simp
          have hx_lo : u2.heap.size ≤ y3.heap.size := hS.size
          have hf4 := (Fr.refl [] y3).alloc (.cells #[.int .u64 0, .int .u64 0, .int .u64 0, .int .u64 0] 24)
          replace hS := hS.trans hf4 (by simp)
          have hy_hx : y1.heap.size ≠ y3.heap.size := by have := hy.lt; omega
          replace hy := hy.fr hf4 (by simp)
          have hx := Blk.new y3 24 #[.int .u64 0, .int .u64 0, .int .u64 0, .int .u64 0]
          clear hf4
          refine hK _ _ (fun _ => hS) ?_
          try simp only [Act.put, List.getElem_toArray, List.getElem_cons_succ, List.getElem_cons_zero, List.setIfInBounds_toArray, List.set_cons_succ, List.set_cons_zero]
          clear hK
          generalize y3.alloc (.cells #[.int .u64 0, .int .u64 0, .int .u64 0, .int .u64 0] 24) = y4 at *
          refine any_branch [14] (by kernel_rfl) rfl fun ix hix => ?_
          simp only [List.mem_cons, List.not_mem_nil, or_false] at hix
          subst hix
          refine any_op rfl rfl fun K hK => ?_
          have z0 := hx.frozen 0
          have z1 := hx.frozen 1
          have z2 := hx.frozen 2
          have z3 := hx.frozen 3
          have c0 := hx.cell 0
          have c1 := hx.cell 1
          have c2 := hx.cell 2
          have c3 := hx.cell 3
          go_simp
          clear z0 z1 z2 z3 c0 c1 c2 c3
          have hf5 : Fr [y3.heap.size] y4 (((((y4.setCell ⟨y3.heap.size, 0, none⟩ (.int .u64 (Tb.wd X 0))).setCell ⟨y3.heap.size, 1, none⟩ (.int .u64 (Tb.wd X 1))).setCell ⟨y3.heap.size, 2, none⟩ (.int .u64 (Tb.wd X 2))).setCell ⟨y3.heap.size, 3, none⟩ (.int .u64 (Tb.wd X 3)))) := ((((Fr.refl [y3.heap.size] y4).setCell (fun _ => by simp) _).setCell (fun _ => by simp) _).setCell (fun _ => by simp) _).setCell (fun _ => by simp) _
          replace hS := hS.trans hf5 (fun b hb hl => by obtain rfl := List.mem_singleton.1 hb; exact absurd hl (by omega))
          replace hy := hy.fr hf5 (by simp; omega)
          replace hx := blk4z hx (X)
          clear hf5
          refine hK _ _ (fun _ => hS) ?_
          try simp only [Act.put, List.getElem_toArray, List.getElem_cons_succ, List.getElem_cons_zero, List.setIfInBounds_toArray, List.set_cons_succ, List.set_cons_zero]
          clear hK
          generalize (((((y4.setCell ⟨y3.heap.size, 0, none⟩ (.int .u64 (Tb.wd X 0))).setCell ⟨y3.heap.size, 1, none⟩ (.int .u64 (Tb.wd X 1))).setCell ⟨y3.heap.size, 2, none⟩ (.int .u64 (Tb.wd X 2))).setCell ⟨y3.heap.size, 3, none⟩ (.int .u64 (Tb.wd X 3)))) = y5 at *
          refine any_branch [15] (by kernel_rfl) rfl fun ix hix => ?_
          simp only [List.mem_cons, List.not_mem_nil, or_false] at hix
          subst hix
          refine any_op rfl rfl fun K hK => ?_
          have z0 := hy.frozen 0
          have z1 := hy.frozen 1
          have z2 := hy.frozen 2
          have z3 := hy.frozen 3
          have c0 := hy.cell 0
          have c1 := hy.cell 1
          have c2 := hy.cell 2
          have c3 := hy.cell 3
          go_simp
          clear z0 z1 z2 z3 c0 c1 c2 c3
          have hf6 : Fr [y1.heap.size] y5 (((((y5.setCell ⟨y1.heap.size, 0, none⟩ (.int .u64 (Tb.wd Y 0))).setCell ⟨y1.heap.size, 1, none⟩ (.int .u64 (Tb.wd Y 1))).setCell ⟨y1.heap.size, 2, none⟩ (.int .u64 (Tb.wd Y 2))).setCell ⟨y1.heap.size, 3, none⟩ (.int .u64 (Tb.wd Y 3)))) := ((((Fr.refl [y1.heap.size] y5).setCell (fun _ => by simp) _).setCell (fun _ => by simp) _).setCell (fun _ => by simp) _).setCell (fun _ => by simp) _
          replace hS := hS.trans hf6 (fun b hb hl => by obtain rfl := List.mem_singleton.1 hb; exact absurd hl (by omega))
          replace hx := hx.fr hf6 (by simp; omega)
          replace hy := blk4z hy (Y)
          clear hf6
          refine hK _ _ (fun _ => hS) ?_
          try simp only [Act.put, List.getElem_toArray, List.getElem_cons_succ, List.getElem_cons_zero, List.setIfInBounds_toArray, List.set_cons_succ, List.set_cons_zero]
          clear hK
          generalize (((((y5.setCell ⟨y1.heap.size, 0, none⟩ (.int .u64 (Tb.wd Y 0))).setCell ⟨y1.heap.size, 1, none⟩ (.int .u64 (Tb.wd Y 1))).setCell ⟨y1.heap.size, 2, none⟩ (.int .u64 (Tb.wd Y 2))).setCell ⟨y1.heap.size, 3, none⟩ (.int .u64 (Tb.wd Y 3)))) = y6 at *
          refine any_end (by kernel_rfl) ?_
          go_wp2_with fail
          go_meet
          case rel => exact ⟨_, _, rfl, rfl, hS, hx, hy, hx_lo, hy_lo⟩
        · refine any_op rfl rfl fun K hK => ?_
          go_simp
          have hx_lo : u2.heap.size ≤ y2.heap.size := hS.size
          have hf3 := (Fr.refl [] y2).alloc (.cells #[.int .u64 0, .int .u64 0, .int .u64 0, .int .u64 0] 24)
          replace hS := hS.trans hf3 (by simp)
          have hy_hx : y1.heap.size ≠ y2.heap.size := by have := hy.lt; omega
          replace hy := hy.fr hf3 (by simp)
          have hx := Blk.new y2 24 #[.int .u64 0, .int .u64 0, .int .u64 0, .int .u64 0]
          clear hf3
          refine hK _ _ (fun _ => hS) ?_
          try simp only [Act.put, List.getElem_toArray, List.getElem_cons_succ, List.getElem_cons_zero, List.setIfInBounds_toArray, List.set_cons_succ, List.set_cons_zero]
          clear hK
          generalize y2.alloc (.cells #[.int .u64 0, .int .u64 0, .int .u64 0, .int .u64 0] 24) = y3 at *
          refine any_branch [11] (by kernel_rfl) rfl fun ix hix => ?_
          simp only [List.mem_cons, List.not_mem_nil, or_false] at hix
          subst hix
          refine any_op rfl rfl fun K hK => ?_
          go_simp
          refine (HRY.out _).mono ?_
          rintro e y4 ⟨rfl, hb4⟩
          have hf4 := Fr.of_below hb4 (Nat.le_refl _) (S := [])
          replace hS := hS.trans hf4 (by simp)
          replace hy := hy.fr hf4 (by simp)
          replace hx := hx.fr hf4 (by simp)
          clear hb4 hf4
          refine hK _ _ (fun _ => hS) ?_
          try simp only [Act.put, List.getElem_toArray, List.getElem_cons_succ, List.getElem_cons_zero, List.setIfInBounds_toArray, List.set_cons_succ, List.set_cons_zero]
          clear hK
          refine any_branch [14] (by kernel_rfl) rfl fun ix hix => ?_
          simp only [List.mem_cons, List.not_mem_nil, or_false] at hix
          subst hix
          refine any_op rfl rfl fun K hK => ?_
          have z0 := hx.frozen 0
          have z1 := hx.frozen 1
          have z2 := hx.frozen 2
          have z3 := hx.frozen 3
          have c0 := hx.cell 0
          have c1 := hx.cell 1
          have c2 := hx.cell 2
          have c3 := hx.cell 3
          go_simp
          clear z0 z1 z2 z3 c0 c1 c2 c3
          have hf5 : Fr [y2.heap.size] y4 (((((y4.setCell ⟨y2.heap.size, 0, none⟩ (.int .u64 (Tb.wd X 0))).setCell ⟨y2.heap.size, 1, none⟩ (.int .u64 (Tb.wd X 1))).setCell ⟨y2.heap.size, 2, none⟩ (.int .u64 (Tb.wd X 2))).setCell ⟨y2.heap.size, 3, none⟩ (.int .u64 (Tb.wd X 3)))) := ((((Fr.refl [y2.heap.size] y4).setCell (fun _ => by simp) _).setCell (fun _ => by simp) _).setCell (fun _ => by simp) _).setCell (fun _ => by simp) _
          replace hS := hS.trans hf5 (fun b hb hl => by obtain rfl := List.mem_singleton.1 hb; exact absurd hl (by omega))
          replace hy := hy.fr hf5 (by simp; omega)
          replace hx := blk4z hx (X)
          clear hf5
          refine hK _ _ (fun _ => hS) ?_
          try simp only [Act.put, List.getElem_toArray, List.getElem_cons_succ, List.getElem_cons_zero, List.setIfInBounds_toArray, List.set_cons_succ, List.set_cons_zero]
          clear hK
          generalize (((((y4.setCell ⟨y2.heap.size, 0, none⟩ (.int .u64 (Tb.wd X 0))).setCell ⟨y2.heap.size, 1, none⟩ (.int .u64 (Tb.wd X 1))).setCell ⟨y2.heap.size, 2, none⟩ (.int .u64 (Tb.wd X 2))).setCell ⟨y2.heap.size, 3, none⟩ (.int .u64 (Tb.wd X 3)))) = y5 at *
          refine any_branch [15] (by kernel_rfl) rfl fun ix hix => ?_
          simp only [List.mem_cons, List.not_mem_nil, or_false] at hix
          subst hix
          refine any_op rfl rfl fun K hK => ?_
          have z0 := hy.frozen 0
          have z1 := hy.frozen 1
          have z2 := hy.frozen 2
          have z3 := hy.frozen 3
          have c0 := hy.cell 0
          have c1 := hy.cell 1
          have c2 := hy.cell 2
          have c3 := hy.cell 3
          go_simp
          clear z0 z1 z2 z3 c0 c1 c2 c3
          have hf6 : Fr [y1.heap.size] y5 (((((y5.setCell ⟨y1.heap.size, 0, none⟩ (.int .u64 (Tb.wd Y 0))).setCell ⟨y1.heap.size, 1, none⟩ (.int .u64 (Tb.wd Y 1))).setCell ⟨y1.heap.size, 2, none⟩ (.int .u64 (Tb.wd Y 2))).setCell ⟨y1.heap.size, 3, none⟩ (.int .u64 (Tb.wd Y 3)))) := ((((Fr.refl [y1.heap.size] y5).setCell (fun _ => by simp) _).setCell (fun _ => by simp) _).setCell (fun _ => by simp) _).setCell (fun _ => by simp) _
          replace hS := hS.trans hf6 (fun b hb hl => by obtain rfl := List.mem_singleton.1 hb; exact absurd hl (by omega))
          replace hx := hx.fr hf6 (by simp; omega)
          replace hy := blk4z hy (Y)
          clear hf6
          refine hK _ _ (fun _ => hS) ?_
          try simp only [Act.put, List.getElem_toArray, List.getElem_cons_succ, List.getElem_cons_zero, List.setIfInBounds_toArray, List.set_cons_succ, List.set_cons_zero]
          clear hK
          generalize (((((y5.setCell ⟨y1.heap.size, 0, none⟩ (.int .u64 (Tb.wd Y 0))).setCell ⟨y1.heap.size, 1, none⟩ (.int .u64 (Tb.wd Y 1))).setCell ⟨y1.heap.size, 2, none⟩ (.int .u64 (Tb.wd Y 2))).setCell ⟨y1.heap.size, 3, none⟩ (.int .u64 (Tb.wd Y 3)))) = y6 at *
          refine any_end (by kernel_rfl) ?_
          go_wp2_with fail
          go_meet
          case rel => exact ⟨_, _, rfl, rfl, hS, hx, hy, hx_lo, hy_lo⟩
    · refine any_op rfl rfl fun K hK => ?_
      go_simp
      have hx_lo : u2.heap.size ≤ y0.heap.size := hS.size
      have hf1 := (Fr.refl [] y0).alloc (.cells #[.int .u64 0, .int .u64 0, .int .u64 0, .int .u64 0] 24)
      replace hS := hS.trans hf1 (by simp)
      have hx := Blk.new y0 24 #[.int .u64 0, .int .u64 0, .int .u64 0, .int .u64 0]
      clear hf1
      refine hK _ _ (fun _ => hS) ?_
      try simp only [Act.put, List.getElem_toArray, List.getElem_cons_succ, List.getElem_cons_zero, List.setIfInBounds_toArray, List.set_cons_succ, List.set_cons_zero]
      clear hK
      generalize y0.alloc (.cells #[.int .u64 0, .int .u64 0, .int .u64 0, .int .u64 0] 24) = y1 at *
      refine any_branch [5, 13] (by kernel_rfl) rfl fun ix hix => ?_
      simp only [List.mem_cons, List.not_mem_nil, or_false] at hix
      rcases hix with rfl | rfl
      · refine any_op rfl rfl fun K hK => ?_
        go_simp
        refine (HRX.out _).mono ?_
        rintro e y2 ⟨rfl, hb2⟩
        have hf2 := Fr.of_below hb2 (Nat.le_refl _) (S := [])
        replace hS := hS.trans hf2 (by simp)
        replace hx := hx.fr hf2 (by simp)
        clear hb2 hf2
        refine hK _ _ (fun _ => hS) ?_
        try simp only [Act.put, List.getElem_toArray, List.getElem_cons_succ, List.getElem_cons_zero, List.setIfInBounds_toArray, List.set_cons_succ, List.set_cons_zero]
        clear hK
        refine any_branch [11, 13] (by kernel_rfl) rfl fun ix hix => ?_
        simp only [List.mem_cons, List.not_mem_nil, or_false] at hix
        rcases hix with rfl | rfl
        · refine any_op rfl rfl fun K hK => ?_
          go_simp
          refine (HRY.out _).mono ?_
          rintro e y3 ⟨rfl, hb3⟩
          have hf3 := Fr.of_below hb3 (Nat.le_refl _) (S := [])
          replace hS := hS.trans hf3 (by simp)
          replace hx := hx.fr hf3 (by simp)
          clear hb3 hf3
          refine hK _ _ (fun _ => hS) ?_
          try simp only [Act.put, List.getElem_toArray, List.getElem_cons_succ, List.getElem_cons_zero, List.setIfInBounds_toArray, List.set_cons_succ, List.set_cons_zero]
          clear hK
          refine any_branch [13] (by kernel_rfl) rfl fun ix hix => ?_
          simp only [List.mem_cons, List.not_mem_nil, or_false] at hix
          subst hix
          refine any_op rfl rfl fun K hK => ?_
          go_simp
          have hy_lo : u2.heap.size ≤ y3.heap.size := hS.size
          have hf4 := (Fr.refl [] y3).alloc (.cells #[.int .u64 0, .int .u64 0, .int .u64 0, .int .u64 0] 24)
          replace hS := hS.trans hf4 (by simp)
          have hx_hy : y0.heap.size ≠ y3.heap.size := by have := hx.lt; omega
          replace hx := hx.fr hf4 (by simp)
          have hy := Blk.new y3 24 #[.int .u64 0, .int .u64 0, .int .u64 0, .int .u64 0]
          clear hf4
          refine hK _ _ (fun _ => hS) ?_
          try simp only [Act.put, List.getElem_toArray, List.getElem_cons_succ, List.getElem_cons_zero, List.setIfInBounds_toArray, List.set_cons_succ, List.set_cons_zero]
          clear hK
          generalize y3.alloc (.cells #[.int .u64 0, .int .u64 0, .int .u64 0, .int .u64 0] 24) = y4 at *
          refine any_branch [14] (by kernel_rfl) rfl fun ix hix => ?_
          simp only [List.mem_cons, List.not_mem_nil, or_false] at hix
          subst hix
          refine any_op rfl rfl fun K hK => ?_
          have z0 := hx.frozen 0
          have z1 := hx.frozen 1
          have z2 := hx.frozen 2
          have z3 := hx.frozen 3
          have c0 := hx.cell 0
          have c1 := hx.cell 1
          have c2 := hx.cell 2
          have c3 := hx.cell 3
          go_simp
          clear z0 z1 z2 z3 c0 c1 c2 c3
          have hf5 : Fr [y0.heap.size] y4 (((((y4.setCell ⟨y0.heap.size, 0, none⟩ (.int .u64 (Tb.wd X 0))).setCell ⟨y0.heap.size, 1, none⟩ (.int .u64 (Tb.wd X 1))).setCell ⟨y0.heap.size, 2, none⟩ (.int .u64 (Tb.wd X 2))).setCell ⟨y0.heap.size, 3, none⟩ (.int .u64 (Tb.wd X 3)))) := ((((Fr.refl [y0.heap.size] y4).setCell (fun _ => by simp) _).setCell (fun _ => by simp) _).setCell (fun _ => by simp) _).setCell (fun _ => by simp) _
          replace hS := hS.trans hf5 (fun b hb hl => by obtain rfl := List.mem_singleton.1 hb; exact absurd hl (by omega))
          replace hy := hy.fr hf5 (by simp; omega)
          replace hx := blk4z hx (X)
          clear hf5
          refine hK _ _ (fun _ => hS) ?_
          try simp only [Act.put, List.getElem_toArray, List.getElem_cons_succ, List.getElem_cons_zero, List.setIfInBounds_toArray, List.set_cons_succ, List.set_cons_zero]
          clear hK
          generalize (((((y4.setCell ⟨y0.heap.size, 0, none⟩ (.int .u64 (Tb.wd X 0))).setCell ⟨y0.heap.size, 1, none⟩ (.int .u64 (Tb.wd X 1))).setCell ⟨y0.heap.size, 2, none⟩ (.int .u64 (Tb.wd X 2))).setCell ⟨y0.heap.size, 3, none⟩ (.int .u64 (Tb.wd X 3)))) = y5 at *
          refine any_branch [15] (by kernel_rfl) rfl fun ix hix => ?_
          simp only [List.mem_cons, List.not_mem_nil, or_false] at hix
          subst hix
          refine any_op rfl rfl fun K hK => ?_
          have z0 := hy.frozen 0
          have z1 := hy.frozen 1
          have z2 := hy.frozen 2
          have z3 := hy.frozen 3
          have c0 := hy.cell 0
          have c1 := hy.cell 1
          have c2 := hy.cell 2
          have c3 := hy.cell 3
          go_simp
          clear z0 z1 z2 z3 c0 c1 c2 c3
          have hf6 : Fr [y3.heap.size] y5 (((((y5.setCell ⟨y3.heap.size, 0, none⟩ (.int .u64 (Tb.wd Y 0))).setCell ⟨y3.heap.size, 1, none⟩ (.int .u64 (Tb.wd Y 1))).setCell ⟨y3.heap.size, 2, none⟩ (.int .u64 (Tb.wd Y 2))).setCell ⟨y3.heap.size, 3, none⟩ (.int .u64 (Tb.wd Y 3)))) := ((((Fr.refl [y3.heap.size] y5).setCell (fun _ => by simp) _).setCell (fun _ => by simp) _).setCell (fun _ => by simp) _).setCell (fun _ => by simp) _
          replace hS := hS.trans hf6 (fun b hb hl => by obtain rfl := List.mem_singleton.1 hb; exact absurd hl (by omega))
          replace hx := hx.fr hf6 (by simp; omega)
          replace hy := blk4z hy (Y)
          clear hf6
          refine hK _ _ (fun _ => hS) ?_
          try simp only [Act.put, List.getElem_toArray, List.getElem_cons_succ, List.getElem_cons_zero, List.setIfInBounds_toArray, List.set_cons_succ, List.set_cons_zero]
          clear hK
          generalize (((((y5.setCell ⟨y3.heap.size, 0, none⟩ (.int .u64 (Tb.wd Y 0))).setCell ⟨y3.heap.size, 1, none⟩ (.int .u64 (Tb.wd Y 1))).setCell ⟨y3.heap.size, 2, none⟩ (.int .u64 (Tb.wd Y 2))).setCell ⟨y3.heap.size, 3, none⟩ (.int .u64 (Tb.wd Y 3)))) = y6 at *
          refine any_end (by kernel_rfl) ?_
          go_wp2_with fail
          go_meet
          case rel => exact ⟨_, _, rfl, rfl, hS, hx, hy, hx_lo, hy_lo⟩
        · refine any_op rfl rfl fun K hK => ?_
          go_simp
          have hy_lo : u2.heap.size ≤ y2.heap.size := hS.size
          have hf3 := (Fr.refl [] y2).alloc (.cells #[.int .u64 0, .int .u64 0, .int .u64 0, .int .u64 0] 24)
          replace hS := hS.trans hf3 (by simp)
          have hx_hy : y0.heap.size ≠ y2.heap.size := by have := hx.lt; omega
          replace hx := hx.fr hf3 (by simp)
          have hy := Blk.new y2 24 #[.int .u64 0, .int .u64 0, .int .u64 0, .int .u64 0]
          clear hf3
          refine hK _ _ (fun _ => hS) ?_
          try simp only [Act.put, List.getElem_toArray, List.getElem_cons_succ, List.getElem_cons_zero, List.setIfInBounds_toArray, List.set_cons_succ, List.set_cons_zero]
          clear hK
          generalize y2.alloc (.cells #[.int .u64 0, .int .u64 0, .int .u64 0, .int .u64 0] 24) = y3 at *
          refine any_branch [11] (by kernel_rfl) rfl fun ix hix => ?_
          simp only [List.mem_cons, List.not_mem_nil, or_false] at hix
          subst hix
          refine any_op rfl rfl fun K hK => ?_
          go_simp
          refine (HRY.out _).mono ?_
          rintro e y4 ⟨rfl, hb4⟩
          have hf4 := Fr.of_below hb4 (Nat.le_refl _) (S := [])
          replace hS := hS.trans hf4 (by simp)
          replace hx := hx.fr hf4 (by simp)
          replace hy := hy.fr hf4 (by simp)
          clear hb4 hf4
          refine hK _ _ (fun _ => hS) ?_
          try simp only [Act.put, List.getElem_toArray, List.getElem_cons_succ, List.getElem_cons_zero, List.setIfInBounds_toArray, List.set_cons_succ, List.set_cons_zero]
          clear hK
          refine any_branch [14] (by kernel_rfl) rfl fun ix hix => ?_
          simp only [List.mem_cons, List.not_mem_nil, or_false] at hix
          subst hix
          refine any_op rfl rfl fun K hK => ?_
          have z0 := hx.frozen 0
          have z1 := hx.frozen 1
          have z2 := hx.frozen 2
          have z3 := hx.frozen 3
          have c0 := hx.cell 0
          have c1 := hx.cell 1
          have c2 := hx.cell 2
          have c3 := hx.cell 3
          go_simp
          clear z0 z1 z2 z3 c0 c1 c2 c3
          have hf5 : Fr [y0.heap.size] y4 (((((y4.setCell ⟨y0.heap.size, 0, none⟩ (.int .u64 (Tb.wd X 0))).setCell ⟨y0.heap.size, 1, none⟩ (.int .u64 (Tb.wd X 1))).setCell ⟨y0.heap.size, 2, none⟩ (.int .u64 (Tb.wd X 2))).setCell ⟨y0.heap.size, 3, none⟩ (.int .u64 (Tb.wd X 3)))) := ((((Fr.refl [y0.heap.size] y4).setCell (fun _ => by simp) _).setCell (fun _ => by simp) _).setCell (fun _ => by simp) _).setCell (fun _ => by simp) _
          replace hS := hS.trans hf5 (fun b hb hl => by obtain rfl := List.mem_singleton.1 hb; exact absurd hl (by omega))
          replace hy := hy.fr hf5 (by simp; omega)
          replace hx := blk4z hx (X)
          clear hf5
          refine hK _ _ (fun _ => hS) ?_
          try simp only [Act.put, List.getElem_toArray, List.getElem_cons_succ, List.getElem_cons_zero, List.setIfInBounds_toArray, List.set_cons_succ, List.set_cons_zero]
          clear hK
          generalize (((((y4.setCell ⟨y0.heap.size, 0, none⟩ (.int .u64 (Tb.wd X 0))).setCell ⟨y0.heap.size, 1, none⟩ (.int .u64 (Tb.wd X 1))).setCell ⟨y0.heap.size, 2, none⟩ (.int .u64 (Tb.wd X 2))).setCell ⟨y0.heap.size, 3, none⟩ (.int .u64 (Tb.wd X 3)))) = y5 at *
          refine any_branch [15] (by kernel_rfl) rfl fun ix hix => ?_
          simp only [List.mem_cons, List.not_mem_nil, or_false] at hix
          subst hix
          refine any_op rfl rfl fun K hK => ?_
          have z0 := hy.frozen 0
          have z1 := hy.frozen 1
          have z2 := hy.frozen 2
          have z3 := hy.frozen 3
          have c0 := hy.cell 0
          have c1 := hy.cell 1
          have c2 := hy.cell 2
          have c3 := hy.cell 3
          go_simp
          clear z0 z1 z2 z3 c0 c1 c2 c3
          have hf6 : Fr [y2.heap.size] y5 (((((y5.setCell ⟨y2.heap.size, 0, none⟩ (.int .u64 (Tb.wd Y 0))).setCell ⟨y2.heap.size, 1, none⟩ (.int .u64 (Tb.wd Y 1))).setCell ⟨y2.heap.size, 2, none⟩ (.int .u64 (Tb.wd Y 2))).setCell ⟨y2.heap.size, 3, none⟩ (.int .u64 (Tb.wd Y 3)))) := ((((Fr.refl [y2.heap.size] y5).setCell (fun _ => by simp) _).setCell (fun _ => by simp) _).setCell (fun _ => by simp) _).setCell (fun _ => by simp) _
          replace hS := hS.trans hf6 (fun b hb hl => by obtain rfl := List.mem_singleton.1 hb; exact absurd hl (by omega))
          replace hx := hx.fr hf6 (by simp; omega)
          replace hy := blk4z hy (Y)
          clear hf6
          refine hK _ _ (fun _ => hS) ?_
          try simp only [Act.put, List.getElem_toArray, List.getElem_cons_succ, List.getElem_cons_zero, List.setIfInBounds_toArray, List.set_cons_succ, List.set_cons_zero]
          clear hK
          generalize (((((y5.setCell ⟨y2.heap.size, 0, none⟩ (.int .u64 (Tb.wd Y 0))).setCell ⟨y2.heap.size, 1, none⟩ (.int .u64 (Tb.wd Y 1))).setCell ⟨y2.heap.size, 2, none⟩ (.int .u64 (Tb.wd Y 2))).setCell ⟨y2.heap.size, 3, none⟩ (.int .u64 (Tb.wd Y 3)))) = y6 at *
          refine any_end (by kernel_rfl) ?_
          go_wp2_with fail
          go_meet
          case rel => exact ⟨_, _, rfl, rfl, hS, hx, hy, hx_lo, hy_lo⟩
      · refine any_op rfl rfl fun K hK => ?_
        go_simp
        have hy_lo : u2.heap.size ≤ y1.heap.size := hS.size
        have hf2 := (Fr.refl [] y1).alloc (.cells #[.int .u64 0, .int .u64 0, .int .u64 0, .int .u64 0] 24)
        replace hS := hS.trans hf2 (by simp)
        have hx_hy : y0.heap.size ≠ y1.heap.size := by have := hx.lt; omega
        replace hx := hx.fr hf2 (by simp)
        have hy := Blk.new y1 24 #[.int .u64 0, .int .u64 0, .int .u64 0, .int .u64 0]
        clear hf2
        refine hK _ _ (fun _ => hS) ?_
        try simp only [Act.put, List.getElem_toArray, List.getElem_cons_succ, List.getElem_cons_zero, List.setIfInBounds_toArray, List.set_cons_succ, List.set_cons_zero]
        clear hK
        generalize y1.alloc (.cells #[.int .u64 0, .int .u64 0, .int .u64 0, .int .u64 0] 24) = y2 at *
        refine any_branch [5] (by kernel_rfl) rfl fun ix hix => ?_
        simp only [List.mem_cons, List.not_mem_nil, or_false] at hix
        subst hix
        refine any_op rfl rfl fun K hK => ?_
        go_simp
        refine (HRX.out _).mono ?_
        rintro e y3 ⟨rfl, hb3⟩
        have hf3 := Fr.of_below hb3 (Nat.le_refl _) (S := [])
        replace hS := hS.trans hf3 (by simp)
        replace hx := hx.fr hf3 (by simp)
        replace hy := hy.fr hf3 (by simp)
        clear hb3 hf3
        refine hK _ _ (fun _ => hS) ?_
        try simp only [Act.put, List.getElem_toArray, List.getElem_cons_succ, List.getElem_cons_zero, List.setIfInBounds_toArray, List.set_cons_succ, List.set_cons_zero]
        clear hK
        refine any_branch [11] (by kernel_rfl) rfl fun ix hix => ?_
        simp only [List.mem_cons, List.not_mem_nil, or_false] at hix
        subst hix
        refine any_op rfl rfl fun K hK => ?_
        go_simp
        refine (HRY.out _).mono ?_
        rintro e y4 ⟨rfl, hb4⟩
        have hf4 := Fr.of_below hb4 (Nat.le_refl _) (S := [])
        replace hS := hS.trans hf4 (by simp)
        replace hx := hx.fr hf4 (by simp)
        replace hy := hy.fr hf4 (by simp)
        clear hb4 hf4
        refine hK _ _ (fun _ => hS) ?_
        try simp only [Act.put, List.getElem_toArray, List.getElem_cons_succ, List.getElem_cons_zero, List.setIfInBounds_toArray, List.set_cons_succ, List.set_cons_zero]
        clear hK
        refine any_branch [14] (by kernel_rfl) rfl fun ix hix => ?_
        simp only [List.mem_cons, List.not_mem_nil, or_false] at hix
        subst hix
        refine any_op rfl rfl fun K hK => ?_
        have z0 := hx.frozen 0
        have z1 := hx.frozen 1
        have z2 := hx.frozen 2
        have z3 := hx.frozen 3
        have c0 := hx.cell 0
        have c1 := hx.cell 1
        have c2 := hx.cell 2
        have c3 := hx.cell 3
        go_simp
        clear z0 z1 z2 z3 c0 c1 c2 c3
        have hf5 : Fr [y0.heap.size] y4 (((((y4.setCell ⟨y0.heap.size, 0, none⟩ (.int .u64 (Tb.wd X 0))).setCell ⟨y0.heap.size, 1, none⟩ (.int .u64 (Tb.wd X 1))).setCell ⟨y0.heap.size, 2, none⟩ (.int .u64 (Tb.wd X 2))).setCell ⟨y0.heap.size, 3, none⟩ (.int .u64 (Tb.wd X 3)))) := ((((Fr.refl [y0.heap.size] y4).setCell (fun _ => by simp) _).setCell (fun _ => by simp) _).setCell (fun _ => by simp) _).setCell (fun _ => by simp) _
        replace hS := hS.trans hf5 (fun b hb hl => by obtain rfl := List.mem_singleton.1 hb; exact absurd hl (by omega))
        replace hy := hy.fr hf5 (by simp; omega)
        replace hx := blk4z hx (X)
        clear hf5
        refine hK _ _ (fun _ => hS) ?_
        try simp only [Act.put, List.getElem_toArray, List.getElem_cons_succ, List.getElem_cons_zero, List.setIfInBounds_toArray, List.set_cons_succ, List.set_cons_zero]
        clear hK
        generalize (((((y4.setCell ⟨y0.heap.size, 0, none⟩ (.int .u64 (Tb.wd X 0))).setCell ⟨y0.heap.size, 1, none⟩ (.int .u64 (Tb.wd X 1))).setCell ⟨y0.heap.size, 2, none⟩ (.int .u64 (Tb.wd X 2))).setCell ⟨y0.heap.size, 3, none⟩ (.int .u64 (Tb.wd X 3)))) = y5 at *
        refine any_branch [15] (by kernel_rfl) rfl fun ix hix => ?_
        simp only [List.mem_cons, List.not_mem_nil, or_false] at hix
        subst hix
        refine any_op rfl rfl fun K hK => ?_
        have z0 := hy.frozen 0
        have z1 := hy.frozen 1
        have z2 := hy.frozen 2
        have z3 := hy.frozen 3
        have c0 := hy.cell 0
        have c1 := hy.cell 1
        have c2 := hy.cell 2
        have c3 := hy.cell 3
        go_simp
        clear z0 z1 z2 z3 c0 c1 c2 c3
        have hf6 : Fr [y1.heap.size] y5 (((((y5.setCell ⟨y1.heap.size, 0, none⟩ (.int .u64 (Tb.wd Y 0))).setCell ⟨y1.heap.size, 1, none⟩ (.int .u64 (Tb.wd Y 1))).setCell ⟨y1.heap.size, 2, none⟩ (.int .u64 (Tb.wd Y 2))).setCell ⟨y1.heap.size, 3, none⟩ (.int .u64 (Tb.wd Y 3)))) := ((((Fr.refl [y1.heap.size] y5).setCell (fun _ => by simp) _).setCell (fun _ => by simp) _).setCell (fun _ => by simp) _).setCell (fun _ => by simp) _
        replace hS := hS.trans hf6 (fun b hb hl => by obtain rfl := List.mem_singleton.1 hb; exact absurd hl (by omega))
        replace hx := hx.fr hf6 (by simp; omega)
        replace hy := blk4z hy (Y)
        clear hf6
        refine hK _ _ (fun _ => hS) ?_
        try simp only [Act.put, List.getElem_toArray, List.getElem_cons_succ, List.getElem_cons_zero, List.setIfInBounds_toArray, List.set_cons_succ, List.set_cons_zero]
        clear hK
        generalize (((((y5.setCell ⟨y1.heap.size, 0, none⟩ (.int .u64 (Tb.wd Y 0))).setCell ⟨y1.heap.size, 1, none⟩ (.int .u64 (Tb.wd Y 1))).setCell ⟨y1.heap.size, 2, none⟩ (.int .u64 (Tb.wd Y 2))).setCell ⟨y1.heap.size, 3, none⟩ (.int .u64 (Tb.wd Y 3)))) = y6 at *
        refine any_end (by kernel_rfl) ?_
        go_wp2_with fail
        go_meet
        case rel => exact ⟨_, _, rfl, rfl, hS, hx, hy, hx_lo, hy_lo⟩
    · refine any_op rfl rfl fun K hK => ?_
      go_simp
      have hy_lo : u2.heap.size ≤ y0.heap.size := hS.size
      have hf1 := (Fr.refl [] y0).alloc (.cells #[.int .u64 0, .int .u64 0, .int .u64 0, .int .u64 0] 24)
      replace hS := hS.trans hf1 (by simp)
      have hy := Blk.new y0 24 #[.int .u64 0, .int .u64 0, .int .u64 0, .int .u64 0]
      clear hf1
      refine hK _ _ (fun _ => hS) ?_
      try simp only [Act.put, List.getElem_toArray, List.getElem_cons_succ, List.getElem_cons_zero, List.setIfInBounds_toArray, List.set_cons_succ, List.set_cons_zero]
      clear hK
      generalize y0.alloc (.cells #[.int .u64 0, .int .u64 0, .int .u64 0, .int .u64 0] 24) = y1 at *
      refine any_branch [5, 12] (by kernel_rfl) rfl fun ix hix => ?_
      simp only [List.mem_cons, List.not_mem_nil, or_false] at hix
      rcases hix with rfl | rfl
      · refine any_op rfl rfl fun K hK => ?_
        go_simp
        refine (HRX.out _).mono ?_
        rintro e y2 ⟨rfl, hb2⟩
        have hf2 := Fr.of_below hb2 (Nat.le_refl _) (S := [])
        replace hS := hS.trans hf2 (by simp)
        replace hy := hy.fr hf2 (by simp)
        clear hb2 hf2
        refine hK _ _ (fun _ => hS) ?_
        try simp only [Act.put, List.getElem_toArray, List.getElem_cons_succ, List.getElem_cons_zero, List.setIfInBounds_toArray, List.set_cons_succ, List.set_cons_zero]
        clear hK
        refine any_branch [11, 12] (by kernel_rfl) rfl fun ix hix => ?_
        simp only [List.mem_cons, List.not_mem_nil, or_false] at hix
        rcases hix with rfl | rfl
        · refine any_op rfl rfl fun K hK => ?_
          go_simp
          refine (HRY.out _).mono ?_
          rintro e y3 ⟨rfl, hb3⟩
          have hf3 := Fr.of_below hb3 (Nat.le_refl _) (S := [])
          replace hS := hS.trans hf3 (by simp)
          replace hy := hy.fr hf3 (by simp)
          clear hb3 hf3
          refine hK _ _ (fun _ => hS) ?_
          try simp only [Act.put, List.getElem_toArray, List.getElem_cons_succ, List.getElem_cons_zero, List.setIfInBounds_toArray, List.set_cons_succ, List.set_cons_zero]
          clear hK
          refine any_branch [12] (by kernel_rfl) rfl fun ix hix => ?_
          simp only [List.mem_cons, List.not_mem_nil, or_false] at hix
          subst hix
          refine any_op rfl rfl fun K hK => ?_
          go_simp
          have hx_lo : u2.heap.size ≤ y3.heap.size := hS.size
          have hf4 := (Fr.refl [] y3).alloc (.cells #[.int .u64 0, .int .u64 0, .int .u64 0, .int .u64 0] 24)
          replace hS := hS.trans hf4 (by simp)
          have hy_hx : y0.heap.size ≠ y3.heap.size := by have := hy.lt; omega
          replace hy := hy.fr hf4 (by simp)
          have hx := Blk.new y3 24 #[.int .u64 0, .int .u64 0, .int .u64 0, .int .u64 0]
          clear hf4
          refine hK _ _ (fun _ => hS) ?_
          try simp only [Act.put, List.getElem_toArray, List.getElem_cons_succ, List.getElem_cons_zero, List.setIfInBounds_toArray, List.set_cons_succ, List.set_cons_zero]
          clear hK
          generalize y3.alloc (.cells #[.int .u64 0, .int .u64 0, .int .u64 0, .int .u64 0] 24) = y4 at *
          refine any_branch [14] (by kernel_rfl) rfl fun ix hix => ?_
          simp only [List.mem_cons, List.not_mem_nil, or_false] at hix
          subst hix
          refine any_op rfl rfl fun K hK => ?_
          have z0 := hx.frozen 0
          have z1 := hx.frozen 1
          have z2 := hx.frozen 2
          have z3 := hx.frozen 3
          have c0 := hx.cell 0
          have c1 := hx.cell 1
          have c2 := hx.cell 2
          have c3 := hx.cell 3
          go_simp
          clear z0 z1 z2 z3 c0 c1 c2 c3
          have hf5 : Fr [y3.heap.size] y4 (((((y4.setCell ⟨y3.heap.size, 0, none⟩ (.int .u64 (Tb.wd X 0))).setCell ⟨y3.heap.size, 1, none⟩ (.int .u64 (Tb.wd X 1))).setCell ⟨y3.heap.size, 2, none⟩ (.int .u64 (Tb.wd X 2))).setCell ⟨y3.heap.size, 3, none⟩ (.int .u64 (Tb.wd X 3)))) := ((((Fr.refl [y3.heap.size] y4).setCell (fun _ => by simp) _).setCell (fun _ => by simp) _).setCell (fun _ => by simp) _).setCell (fun _ => by simp) _
          replace hS := hS.trans hf5 (fun b hb hl => by obtain rfl := List.mem_singleton.1 hb; exact absurd hl (by omega))
          replace hy := hy.fr hf5 (by simp; omega)
          replace hx := blk4z hx (X)
          clear hf5
          refine hK _ _ (fun _ => hS) ?_
          try simp only [Act.put, List.getElem_toArray, List.getElem_cons_succ, List.getElem_cons_zero, List.setIfInBounds_toArray, List.set_cons_succ, List.set_cons_zero]
          clear hK
          generalize (((((y4.setCell ⟨y3.heap.size, 0, none⟩ (.int .u64 (Tb.wd X 0))).setCell ⟨y3.heap.size, 1, none⟩ (.int .u64 (Tb.wd X 1))).setCell ⟨y3.heap.size, 2, none⟩ (.int .u64 (Tb.wd X 2))).setCell ⟨y3.heap.size, 3, none⟩ (.int .u64 (Tb.wd X 3)))) = y5 at *
          refine any_branch [15] (by kernel_rfl) rfl fun ix hix => ?_
          simp only [List.mem_cons, List.not_mem_nil, or_false] at hix
          subst hix
          refine any_op rfl rfl fun K hK => ?_
          have z0 := hy.frozen 0
          have z1 := hy.frozen 1
          have z2 := hy.frozen 2
          have z3 := hy.frozen 3
          have c0 := hy.cell 0
          have c1 := hy.cell 1
          have c2 := hy.cell 2
          have c3 := hy.cell 3
          go_simp
          clear z0 z1 z2 z3 c0 c1 c2 c3
          have hf6 : Fr [y0.heap.size] y5 (((((y5.setCell ⟨y0.heap.size, 0, none⟩ (.int .u64 (Tb.wd Y 0))).setCell ⟨y0.heap.size, 1, none⟩ (.int .u64 (Tb.wd Y 1))).setCell ⟨y0.heap.size, 2, none⟩ (.int .u64 (Tb.wd Y 2))).setCell ⟨y0.heap.size, 3, none⟩ (.int .u64 (Tb.wd Y 3)))) := ((((Fr.refl [y0.heap.size] y5).setCell (fun _ => by simp) _).setCell (fun _ => by simp) _).setCell (fun _ => by simp) _).setCell (fun _ => by simp) _
          replace hS := hS.trans hf6 (fun b hb hl => by obtain rfl := List.mem_singleton.1 hb; exact absurd hl (by omega))
          replace hx := hx.fr hf6 (by simp; omega)
          replace hy := blk4z hy (Y)
          clear hf6
          refine hK _ _ (fun _ => hS) ?_
          try simp only [Act.put, List.getElem_toArray, List.getElem_cons_succ, List.getElem_cons_zero, List.setIfInBounds_toArray, List.set_cons_succ, List.set_cons_zero]
          clear hK
          generalize (((((y5.setCell ⟨y0.heap.size, 0, none⟩ (.int .u64 (Tb.wd Y 0))).setCell ⟨y0.heap.size, 1, none⟩ (.int .u64 (Tb.wd Y 1))).setCell ⟨y0.heap.size, 2, none⟩ (.int .u64 (Tb.wd Y 2))).setCell ⟨y0.heap.size, 3, none⟩ (.int .u64 (Tb.wd Y 3)))) = y6 at *
          refine any_end (by kernel_rfl) ?_
          go_wp2_with fail
          go_meet
          case rel => exact ⟨_, _, rfl, rfl, hS, hx, hy, hx_lo, hy_lo⟩
        · refine any_op rfl rfl fun K hK => ?_
          go_simp
          have hx_lo : u2.heap.size ≤ y2.heap.size := hS.size
          have hf3 := (Fr.refl [] y2).alloc (.cells #[.int .u64 0, .int .u64 0, .int .u64 0, .int .u64 0] 24)
          replace hS := hS.trans hf3 (by simp)
          have hy_hx : y0.heap.size ≠ y2.heap.size := by have := hy.lt; omega
          replace hy := hy.fr hf3 (by simp)
          have hx := Blk.new y2 24 #[.int .u64 0, .int .u64 0, .int .u64 0, .int .u64 0]
          clear hf3
          refine hK _ _ (fun _ => hS) ?_
          try simp only [Act.put, List.getElem_toArray, List.getElem_cons_succ, List.getElem_cons_zero, List.setIfInBounds_toArray, List.set_cons_succ, List.set_cons_zero]
          clear hK
          generalize y2.alloc (.cells #[.int .u64 0, .int .u64 0, .int .u64 0, .int .u64 0] 24) = y3 at *
          refine any_branch [11] (by kernel_rfl) rfl fun ix hix => ?_
          simp only [List.mem_cons, List.not_mem_nil, or_false] at hix
          subst hix
          refine any_op rfl rfl fun K hK => ?_
          go_simp
          refine (HRY.out _).mono ?_
          rintro e y4 ⟨rfl, hb4⟩
          have hf4 := Fr.of_below hb4 (Nat.le_refl _) (S := [])
          replace hS := hS.trans hf4 (by simp)
          replace hy := hy.fr hf4 (by simp)
          replace hx := hx.fr hf4 (by simp)
          clear hb4 hf4
          refine hK _ _ (fun _ => hS) ?_
          try simp only [Act.put, List.getElem_toArray, List.getElem_cons_succ, List.getElem_cons_zero, List.setIfInBounds_toArray, List.set_cons_succ, List.set_cons_zero]
          clear hK
          refine any_branch [14] (by kernel_rfl) rfl fun ix hix => ?_
          simp only [List.mem_cons, List.not_mem_nil, or_false] at hix
          subst hix
          refine any_op rfl rfl fun K hK => ?_
          have z0 := hx.frozen 0
          have z1 := hx.frozen 1
          have z2 := hx.frozen 2
          have z3 := hx.frozen 3
          have c0 := hx.cell 0
          have c1 := hx.cell 1
          have c2 := hx.cell 2
          have c3 := hx.cell 3
          go_simp
          clear z0 z1 z2 z3 c0 c1 c2 c3
          have hf5 : Fr [y2.heap.size] y4 (((((y4.setCell ⟨y2.heap.size, 0, none⟩ (.int .u64 (Tb.wd X 0))).setCell ⟨y2.heap.size, 1, none⟩ (.int .u64 (Tb.wd X 1))).setCell ⟨y2.heap.size, 2, none⟩ (.int .u64 (Tb.wd X 2))).setCell ⟨y2.heap.size, 3, none⟩ (.int .u64 (Tb.wd X 3)))) := ((((Fr.refl [y2.heap.size] y4).setCell (fun _ => by simp) _).setCell (fun _ => by simp) _).setCell (fun _ => by simp) _).setCell (fun _ => by simp) _
          replace hS := hS.trans hf5 (fun b hb hl => by obtain rfl := List.mem_singleton.1 hb; exact absurd hl (by omega))
          replace hy := hy.fr hf5 (by simp; omega)
          replace hx := blk4z hx (X)
          clear hf5
          refine hK _ _ (fun _ => hS) ?_
          try simp only [Act.put, List.getElem_toArray, List.getElem_cons_succ, List.getElem_cons_zero, List.setIfInBounds_toArray, List.set_cons_succ, List.set_cons_zero]
          clear hK
          generalize (((((y4.setCell ⟨y2.heap.size, 0, none⟩ (.int .u64 (Tb.wd X 0))).setCell ⟨y2.heap.size, 1, none⟩ (.int .u64 (Tb.wd X 1))).setCell ⟨y2.heap.size, 2, none⟩ (.int .u64 (Tb.wd X 2))).setCell ⟨y2.heap.size, 3, none⟩ (.int .u64 (Tb.wd X 3)))) = y5 at *
          refine any_branch [15] (by kernel_rfl) rfl fun ix hix => ?_
          simp only [List.mem_cons, List.not_mem_nil, or_false] at hix
          subst hix
          refine any_op rfl rfl fun K hK => ?_
          have z0 := hy.frozen 0
          have z1 := hy.frozen 1
          have z2 := hy.frozen 2
          have z3 := hy.frozen 3
          have c0 := hy.cell 0
          have c1 := hy.cell 1
          have c2 := hy.cell 2
          have c3 := hy.cell 3
          go_simp
          clear z0 z1 z2 z3 c0 c1 c2 c3
          have hf6 : Fr [y0.heap.size] y5 (((((y5.setCell ⟨y0.heap.size, 0, none⟩ (.int .u64 (Tb.wd Y 0))).setCell ⟨y0.heap.size, 1, none⟩ (.int .u64 (Tb.wd Y 1))).setCell ⟨y0.heap.size, 2, none⟩ (.int .u64 (Tb.wd Y 2))).setCell ⟨y0.heap.size, 3, none⟩ (.int .u64 (Tb.wd Y 3)))) := ((((Fr.refl [y0.heap.size] y5).setCell (fun _ => by simp) _).setCell (fun _ => by simp) _).setCell (fun _ => by simp) _).setCell (fun _ => by simp) _
          replace hS := hS.trans hf6 (fun b hb hl => by obtain rfl := List.mem_singleton.1 hb; exact absurd hl (by omega))
          replace hx := hx.fr hf6 (by simp; omega)
          replace hy := blk4z hy (Y)
          clear hf6
          refine hK _ _ (fun _ => hS) ?_
          try simp only [Act.put, List.getElem_toArray, List.getElem_cons_succ, List.getElem_cons_zero, List.setIfInBounds_toArray, List.set_cons_succ, List.set_cons_zero]
          clear hK
          generalize (((((y5.setCell ⟨y0.heap.size, 0, none⟩ (.int .u64 (Tb.wd Y 0))).setCell ⟨y0.heap.size, 1, none⟩ (.int .u64 (Tb.wd Y 1))).setCell ⟨y0.heap.size, 2, none⟩ (.int .u64 (Tb.wd Y 2))).setCell ⟨y0.heap.size, 3, none⟩ (.int .u64 (Tb.wd Y 3)))) = y6 at *
          refine any_end (by kernel_rfl) ?_
          go_wp2_with fail
          go_meet
          case rel => exact ⟨_, _, rfl, rfl, hS, hx, hy, hx_lo, hy_lo⟩
      · refine any_op rfl rfl fun K hK => ?_
        go_simp
        have hx_lo : u2.heap.size ≤ y1.heap.size := hS.size
        have hf2 := (Fr.refl [] y1).alloc (.cells #[.int .u64 0, .int .u64 0, .int .u64 0, .int .u64 0] 24)
        replace hS := hS.trans hf2 (by simp)
        have hy_hx : y0.heap.size ≠ y1.heap.size := by have := hy.lt; omega
        replace hy := hy.fr hf2 (by simp)
        have hx := Blk.new y1 24 #[.int .u64 0, .int .u64 0, .int .u64 0, .int .u64 0]
        clear hf2
        refine hK _ _ (fun _ => hS) ?_
        try simp only [Act.put, List.getElem_toArray, List.getElem_cons_succ, List.getElem_cons_zero, List.setIfInBounds_toArray, List.set_cons_succ, List.set_cons_zero]
        clear hK
        generalize y1.alloc (.cells #[.int .u64 0, .int .u64 0, .int .u64 0, .int .u64 0] 24) = y2 at *
        refine any_branch [5] (by kernel_rfl) rfl fun ix hix => ?_
        simp only [List.mem_cons, List.not_mem_nil, or_false] at hix
        subst hix
        refine any_op rfl rfl fun K hK => ?_
        go_simp
        refine (HRX.out _).mono ?_
        rintro e y3 ⟨rfl, hb3⟩
        have hf3 := Fr.of_below hb3 (Nat.le_refl _) (S := [])
        replace hS := hS.trans hf3 (by simp)
        replace hy := hy.fr hf3 (by simp)
        replace hx := hx.fr hf3 (by simp)
        clear hb3 hf3
        refine hK _ _ (fun _ => hS) ?_
        try simp only [Act.put, List.getElem_toArray, List.getElem_cons_succ, List.getElem_cons_zero, List.setIfInBounds_toArray, List.set_cons_succ, List.set_cons_zero]
        clear hK
        refine any_branch [11] (by kernel_rfl) rfl fun ix hix => ?_
        simp only [List.mem_cons, List.not_mem_nil, or_false] at hix
        subst hix
        refine any_op rfl rfl fun K hK => ?_
        go_simp
        refine (HRY.out _).mono ?_
        rintro e y4 ⟨rfl, hb4⟩
        have hf4 := Fr.of_below hb4 (Nat.le_refl _) (S := [])
        replace hS := hS.trans hf4 (by simp)
        replace hy := hy.fr hf4 (by simp)
        replace hx := hx.fr hf4 (by simp)
        clear hb4 hf4
        refine hK _ _ (fun _ => hS) ?_
        try simp only [Act.put, List.getElem_toArray, List.getElem_cons_succ, List.getElem_cons_zero, List.setIfInBounds_toArray, List.set_cons_succ, List.set_cons_zero]
        clear hK
        refine any_branch [14] (by kernel_rfl) rfl fun ix hix => ?_
        simp only [List.mem_cons, List.not_mem_nil, or_false] at hix
        subst hix
        refine any_op rfl rfl fun K hK => ?_
        have z0 := hx.frozen 0
        have z1 := hx.frozen 1
        have z2 := hx.frozen 2
        have z3 := hx.frozen 3
        have c0 := hx.cell 0
        have c1 := hx.cell 1
        have c2 := hx.cell 2
        have c3 := hx.cell 3
        go_simp
        clear z0 z1 z2 z3 c0 c1 c2 c3
        have hf5 : Fr [y1.heap.size] y4 (((((y4.setCell ⟨y1.heap.size, 0, none⟩ (.int .u64 (Tb.wd X 0))).setCell ⟨y1.heap.size, 1, none⟩ (.int .u64 (Tb.wd X 1))).setCell ⟨y1.heap.size, 2, none⟩ (.int .u64 (Tb.wd X 2))).setCell ⟨y1.heap.size, 3, none⟩ (.int .u64 (Tb.wd X 3)))) := ((((Fr.refl [y1.heap.size] y4).setCell (fun _ => by simp) _).setCell (fun _ => by simp) _).setCell (fun _ => by simp) _).setCell (fun _ => by simp) _
        replace hS := hS.trans hf5 (fun b hb hl => by obtain rfl := List.mem_singleton.1 hb; exact absurd hl (by omega))
        replace hy := hy.fr hf5 (by simp; omega)
        replace hx := blk4z hx (X)
        clear hf5
        refine hK _ _ (fun _ => hS) ?_
        try simp only [Act.put, List.getElem_toArray, List.getElem_cons_succ, List.getElem_cons_zero, List.setIfInBounds_toArray, List.set_cons_succ, List.set_cons_zero]
        clear hK
        generalize (((((y4.setCell ⟨y1.heap.size, 0, none⟩ (.int .u64 (Tb.wd X 0))).setCell ⟨y1.heap.size, 1, none⟩ (.int .u64 (Tb.wd X 1))).setCell ⟨y1.heap.size, 2, none⟩ (.int .u64 (Tb.wd X 2))).setCell ⟨y1.heap.size, 3, none⟩ (.int .u64 (Tb.wd X 3)))) = y5 at *
        refine any_branch [15] (by kernel_rfl) rfl fun ix hix => ?_
        simp only [List.mem_cons, List.not_mem_nil, or_false] at hix
        subst hix
        refine any_op rfl rfl fun K hK => ?_
        have z0 := hy.frozen 0
        have z1 := hy.frozen 1
        have z2 := hy.frozen 2
        have z3 := hy.frozen 3
        have c0 := hy.cell 0
        have c1 := hy.cell 1
        have c2 := hy.cell 2
        have c3 := hy.cell 3
        go_simp
        clear z0 z1 z2 z3 c0 c1 c2 c3
        have hf6 : Fr [y0.heap.size] y5 (((((y5.setCell ⟨y0.heap.size, 0, none⟩ (.int .u64 (Tb.wd Y 0))).setCell ⟨y0.heap.size, 1, none⟩ (.int .u64 (Tb.wd Y 1))).setCell ⟨y0.heap.size, 2, none⟩ (.int .u64 (Tb.wd Y 2))).setCell ⟨y0.heap.size, 3, none⟩ (.int .u64 (Tb.wd Y 3)))) := ((((Fr.refl [y0.heap.size] y5).setCell (fun _ => by simp) _).setCell (fun _ => by simp) _).setCell (fun _ => by simp) _).setCell (fun _ => by simp) _
        replace hS := hS.trans hf6 (fun b hb hl => by obtain rfl := List.mem_singleton.1 hb; exact absurd hl (by omega))
        replace hx := hx.fr hf6 (by simp; omega)
        replace hy := blk4z hy (Y)
        clear hf6
        refine hK _ _ (fun _ => hS) ?_
        try simp only [Act.put, List.getElem_toArray, List.getElem_cons_succ, List.getElem_cons_zero, List.setIfInBounds_toArray, List.set_cons_succ, List.set_cons_zero]
        clear hK
        generalize (((((y5.setCell ⟨y0.heap.size, 0, none⟩ (.int .u64 (Tb.wd Y 0))).setCell ⟨y0.heap.size, 1, none⟩ (.int .u64 (Tb.wd Y 1))).setCell ⟨y0.heap.size, 2, none⟩ (.int .u64 (Tb.wd Y 2))).setCell ⟨y0.heap.size, 3, none⟩ (.int .u64 (Tb.wd Y 3)))) = y6 at *
        refine any_end (by kernel_rfl) ?_
        go_wp2_with fail
        go_meet
        case rel => exact ⟨_, _, rfl, rfl, hS, hx, hy, hx_lo, hy_lo⟩
-- ⟧
  case rest =>
    obtain ⟨bx, by_, rfl, rfl, hM⟩ := hcut
    have HM := Bx.mk hM
    have hF3 := HF1.out.trans hM.fr (by simp)
    have HF3 := Bx.mk hF3
    have HG3 : Bx (StG wc base B S) := ⟨HG.out.fr0 hF3⟩
    have HL3 : Bx (Loc B wc bl 3 S.varCs) := ⟨HL.out.fr0 hF3⟩
    have HY3 : Bx (Loc B wc by_ 24 (Tb.tcells Y)) := ⟨Loc.new HG.out (Nat.le_trans HF1.out.size hM.ly) hM.hy⟩
    have hcx := hM.hx
    have hcy := hM.hy
    obtain ⟨⟨a0, a1, a2, a3⟩, c0, c1, c2, c3⟩ := tfacts hcx
    obtain ⟨⟨b0, b1, b2, b3⟩, d0, d1, d2, d3⟩ := tfacts hcy
    clear hM hF3 hcx hcy HX1 HVB HRX HRY H1 H2 HF1
    have h8 := HG.out.wf.n8
    have HFX : Bx (∀ v, v < 8 → (∀ l, k + 1 ≤ l → l < S.n → S.vars.getD l 0 ≠ v) → Tb.Free X v) := ⟨by rw [HX.out, HV.out]; exact HG.out.od.free_fix h8 (by rw [← HN.out]; exact HK.out) HFR.out false⟩
    have HFY : Bx (∀ v, v < 8 → (∀ l, k + 1 ≤ l → l < S.n → S.vars.getD l 0 ≠ v) → Tb.Free Y v) := ⟨by rw [HY.out, HV.out]; exact HG.out.od.free_fix h8 (by rw [← HN.out]; exact HK.out) HFR.out true⟩
    have HM1 := Bx.mk (HIH.out base B S bl X wc HG3.out HL3.out (by rw [← HN.out]; exact HK.out) HFX.out)
    rw [← HN.out] at HM1
    have qk : IntKind.i64.wrap ((k : Int) + 1) = (k : Int) + 1 := wi64 (by omega) (by omega)
    clear h8
    cases he : decide (X = Y) with
    | true =>
      have heq := run_equal_max he
      have HE := Bx.mk (of_decide_eq_true he)
      clear he
      go_wp2_with fail
      refine HM1.out.mono ?_
      rintro e w2 ⟨S2, B2, G2, st2, E2, nw2, hi2, hres⟩
      have HXF : Bx (X = F) := ⟨by
        have := Tb.mux_fix HV8.out F
        rw [← HX.out, ← HY.out, ← HE.out, Tb.mux_self HV8.out] at this
        exact this⟩
      have HR : Bx (StG w2 base B2 S2 ∧ Stp B w B2 w2 ∧ S.Ext S2 ∧ S.New S2 F ∧ S2.hi ≤ S.hi + Sto.cost n k) := ⟨G2, Stp.after HF3.out st2, E2, HXF.out ▸ nw2, Nat.le_trans hi2 (by have := Sto.cost_mono (n := n) (show k ≤ k + 1 by omega); omega)⟩
      clear G2 st2 E2 hi2 nw2
      rcases hres with ⟨r, rfl, hr⟩ | ⟨rfl, hr⟩
      · have HH := Bx.mk hr
        clear hr
        go_wp2_with fail
        go_ret2
        exact ⟨S2, B2, HR.out.1, HR.out.2.1, HR.out.2.2.1, HR.out.2.2.2.1, HR.out.2.2.2.2, .inl ⟨r, rfl, HH.out.1, HXF.out ▸ HH.out.2⟩⟩
      · have HH := Bx.mk hr
        clear hr
        go_wp2_with fail
        go_ret2
        exact ⟨S2, B2, HR.out.1, HR.out.2.1, HR.out.2.2.1, HR.out.2.2.2.1, HR.out.2.2.2.2, .inr ⟨rfl, HH.out⟩⟩
    | false =>
      have heq := run_equal_max he
      clear he
      go_wp2_with fail
      refine HM1.out.mono ?_
      rintro e w2 ⟨S2, B2, G2, st2, E2, nw2, hi2, hres⟩
      obtain ⟨p1, r1, he1, hr1⟩ : ∃ (p1 : Bool) (r1 : Nat), e = .returned (.tuple #[.int .u32 (r1 : Int), .bool p1]) ∧ if p1 then S2.is r1 = true ∧ S2.tab r1 = X else r1 = 0 ∧ S2.room ≤ S2.len := by
        rcases hres with ⟨r, rfl, hr⟩ | ⟨rfl, hr⟩
        · exact ⟨true, r, rfl, hr⟩
        · exact ⟨false, 0, rfl, rfl, hr⟩
      subst he1
      have HR1 := Bx.mk hr1
      have hY2 := HY3.out.step st2
      have HL2 : Bx (Loc B2 w2 bl 3 S2.varCs) := ⟨by rw [E2.varCs]; exact HL3.out.step st2⟩
      have HM2 := Bx.mk (HIH.out base B2 S2 bl Y w2 G2 HL2.out (by rw [E2.n, ← HN.out]; exact HK.out) (by rw [E2.n, E2.vars]; exact HFY.out))
      rw [st2.s, E2.n, ← HN.out] at HM2
      have HTA : Bx (∀ i, i < k → Tb.Free F (S.vars.getD i 0)) := ⟨HG.out.od.free_above HG.out.wf.n8 (by rw [← HN.out]; exact Nat.le_of_lt HK.out) HFR.out⟩
      have HP2 : Bx (StG w2 base B2 S2 ∧ Stp B w B2 w2 ∧ S.Ext S2 ∧ S2.hi ≤ S.hi + Sto.cost n (k + 1) ∧ S.New S2 F) := ⟨G2, Stp.after HF3.out st2, E2, hi2, by rw [HX.out, HV.out] at nw2; exact nw2.up HG.out.od G2.wf E2 (by rw [← HN.out]; exact HK.out) HTA.out⟩
      clear a0 a1 a2 a3 b0 b1 b2 b3 c0 c1 c2 c3 d0 d1 d2 d3
      have hcy := hY2.blk
      obtain ⟨⟨b0, b1, b2, b3⟩, d0, d1, d2, d3⟩ := tfacts hcy
      clear hcy hY2 hr1 hres G2 st2 E2 hi2 HM1 nw2
      go_wp2_with fail
      refine HM2.out.mono ?_
      rintro e w3 ⟨S3, B3, G3, st3, E3, nw3, hi3, hres⟩
      obtain ⟨p2, r2, he2, hr2⟩ : ∃ (p2 : Bool) (r2 : Nat), e = .returned (.tuple #[.int .u32 (r2 : Int), .bool p2]) ∧ if p2 then S3.is r2 = true ∧ S3.tab r2 = Y else r2 = 0 ∧ S3.room ≤ S3.len := by
        rcases hres with ⟨r, rfl, hr⟩ | ⟨rfl, hr⟩
        · exact ⟨true, r, rfl, hr⟩
        · exact ⟨false, 0, rfl, rfl, hr⟩
      subst he2
      have HR2 := Bx.mk hr2
      have hc2 := Sto.cost_succ n k
      have HP3 : Bx (StG w3 base B3 S3 ∧ Stp B w B3 w3 ∧ S.Ext S3 ∧ S3.hi + (if k + 2 < n then 1 else 0) ≤ S.hi + Sto.cost n k ∧ S2.Ext S3 ∧ B3.s = B.s ∧ S.New S3 F) := ⟨G3, HP2.out.2.1.trans st3, HP2.out.2.2.1.trans E3, by have := HP2.out.2.2.2.1; omega, E3, st3.s.trans HP2.out.2.1.s, by
        have E2 := HP2.out.2.2.1
        rw [HY.out, HV.out, ← E2.vars] at nw3
        exact HP2.out.2.2.2.2.trans (nw3.up HP2.out.1.od G3.wf E3 (by rw [E2.n, ← HN.out]; exact HK.out) (by rw [E2.vars]; exact HTA.out)) E2 E3 HP2.out.1.wf⟩
      clear b0 b1 b2 b3 d0 d1 d2 d3 hr2 hres G3 st3 E3 hi3 HM2 hc2 qk nw3
      cases p1 with
      | false =>
        have hfull : Bx (S3.room ≤ S3.len) := ⟨by
          have h1 := HR1.out.2
          have h2 := HP3.out.2.2.2.2.1.len HP2.out.1.wf HP3.out.1.wf
          rw [HP3.out.2.2.2.2.1.room]
          omega⟩
        cases p2 <;> (go_wp2_with fail; go_ret2; exact ⟨S3, B3, HP3.out.1, HP3.out.2.1, HP3.out.2.2.1, HP3.out.2.2.2.2.2.2, by have := HP3.out.2.2.2.1; omega, .inr ⟨rfl, hfull.out⟩⟩)
      | true =>
        cases p2 with
        | false =>
          have hfull : Bx (S3.room ≤ S3.len) := ⟨HR2.out.2⟩
          go_wp2_with fail
          go_ret2
          exact ⟨S3, B3, HP3.out.1, HP3.out.2.1, HP3.out.2.2.1, HP3.out.2.2.2.2.2.2, by have := HP3.out.2.2.2.1; omega, .inr ⟨rfl, hfull.out⟩⟩
        | true =>
          have hr1' := HR1.out
          have hr2' := HR2.out
          simp only [if_true] at hr1' hr2'
          have E3 := HP3.out.2.2.2.2.1
          have G3 := HP3.out.1
          have i1 := E3.is hr1'.1
          have t1 := E3.tab HP2.out.1.wf hr1'.1
          rw [hr1'.2] at t1
          have n3 : S3.n = n := by rw [HP3.out.2.2.1.n, HN.out]
          have v3 : S3.vars = S.vars := HP3.out.2.2.1.vars
          have h8 := G3.wf.n8
          have l1 := G3.wf.lev_ge G3.od i1 (k := k + 1) (by rw [n3]; exact HK.out) (by rw [t1]; exact G3.od.free_above h8 (by rw [n3]; exact HK.out) (by rw [n3, v3, HN.out]; exact HFX.out))
          have l2 := G3.wf.lev_ge G3.od hr2'.1 (k := k + 1) (by rw [n3]; exact HK.out) (by rw [hr2'.2]; exact G3.od.free_above h8 (by rw [n3]; exact HK.out) (by rw [n3, v3, HN.out]; exact HFY.out))
          have hmk := gmk_any base B3 S3 ⟨k, r1, r2⟩ w3 G3 (by rw [n3]; exact HK.out) i1 hr2'.1 (by show (k : Int) < S3.lev r1; omega) (by show (k : Int) < S3.lev r2; omega)
          rw [HP3.out.2.2.2.2.2.1] at hmk
          simp only at hmk
          rw [t1, hr2'.2, v3, ← HV.out, HX.out, HY.out, Tb.mux_fix HV8.out, n3] at hmk
          have HMK := Bx.mk hmk
          clear hr1' hr2' E3 G3 i1 t1 n3 v3 h8 l1 l2 hmk
          go_wp2_with fail
          refine HMK.out.mono ?_
          rintro e w4 ⟨S4, B4, G4, st4, E4, nw4, hi4, hres⟩
          have HP4 : Bx (StG w4 base B4 S4 ∧ Stp B w B4 w4 ∧ S.Ext S4 ∧ S.New S4 F ∧ S4.hi ≤ S.hi + Sto.cost n k) := ⟨G4, HP3.out.2.1.trans st4, HP3.out.2.2.1.trans E4, HP3.out.2.2.2.2.2.2.trans nw4 HP3.out.2.2.1 E4 HP3.out.1.wf, by have := HP3.out.2.2.2.1; omega⟩
          clear G4 st4 E4 hi4 HMK nw4
          rw [retHE_full] at hres
          rcases hres with ⟨r, he, hr⟩ | ⟨rfl, hr⟩
          · rw [retHE_ok] at he
            subst he
            have HH := Bx.mk hr
            clear hr
            go_wp2_with fail
            go_ret2
            exact ⟨S4, B4, HP4.out.1, HP4.out.2.1, HP4.out.2.2.1, HP4.out.2.2.2.1, HP4.out.2.2.2.2, .inl ⟨r, rfl, HH.out⟩⟩
          · have HH := Bx.mk hr
            clear hr
            go_wp2_with fail
            go_ret2
            exact ⟨S4, B4, HP4.out.1, HP4.out.2.1, HP4.out.2.2.1, HP4.out.2.2.2.1, HP4.out.2.2.2.2, .inr ⟨rfl, HH.out⟩⟩
/-- made, from whatever level -/
theorem made_all : ∀ (d k : Nat), 8 ≤ k + d → MadeIs k := by
  intro d
  induction d with
  | zero =>
    intro k hd base B S bl F w G hl hk hfr
    have h8 := G.wf.n8
    have hall : ∀ v, v < 8 → Tb.Free F v := fun v hv => hfr v hv fun l h1 h2 => by omega
    rcases Tb.free_const hall with h | h
    · rw [h, ← Tb.cst_f]; exact made_zero base B S bl k _ w G
    · rw [h, ← Tb.cst_t]; exact made_one base B S bl k _ w G
  | succ d ih =>
    intro k hd base B S bl F w G hl hk hfr
    by_cases h1 : F = Tb.cst false
    · rw [h1]; exact made_zero base B S bl k _ w G
    · by_cases h2 : F = Tb.cst true
      · rw [h2]; exact made_one base B S bl k _ w G
      · by_cases hkn : k < S.n
        · exact made_nd base B S bl k F w G hl hkn hfr (decide_eq_false h1) (decide_eq_false h2) (ih (k + 1) (by omega))
        · have h8 := G.wf.n8
          have hall : ∀ v, v < 8 → Tb.Free F v := fun v hv => hfr v hv fun l h1 h2 => by omega
          rcases Tb.free_const hall with h | h
          · exact absurd (h.trans Tb.cst_f.symm) h1
          · exact absurd (h.trans Tb.cst_t.symm) h2
theorem MadeRes.shape {base : Nat} {B : Bk} {w w' : World} {S : Sto} {T : Tb.T} {c : Nat} {e : Ending} (h : MadeRes base B w S T c e w') :
    ∃ (p : Bool) (r : Nat), e = .returned (.tuple #[.int .u32 (r : Int), .bool p]) := by
  obtain ⟨S', B', h1, h2, h3, h3n, h4, h5⟩ := h
  rcases h5 with ⟨r, he, _⟩ | ⟨he, _⟩
  · exact ⟨true, r, he⟩
  · exact ⟨false, 0, he⟩
theorem MadeRes.after {base : Nat} {B : Bk} {w w1 w' : World} {S : Sto} {T : Tb.T} {c : Nat} {e : Ending} (hf : Fr [] w w1) (h : MadeRes base B w1 S T c e w') : MadeRes base B w S T c e w' := by
  obtain ⟨S', B', h1, h2, h3⟩ := h
  exact ⟨S', B', h1, Stp.after hf h2, h3⟩
theorem gorder_any {base : Nat} {B : Bk} {S : Sto} {w : World} (G : StG w base B S) :
    Calls Try.prog 16 #[.pointer (some ⟨B.s, 0, none⟩)] w fun e w' => e = .returned (.pointer (some ⟨w.heap.size, 0, none⟩)) ∧ Blk w' w.heap.size 102 (ordV S) ∧ Fr [] w w' ∧ w'.heap.size = w.heap.size + 1 := by
  obtain ⟨L, h⟩ := G.at_
  exact sorder_any base B S L w h
set_option maxRecDepth 100000 in
set_option maxHeartbeats 1000000 in
/-- Make: a table's node -/
theorem make_any (base : Nat) (B : Bk) (S : Sto) (F : Tb.T) (w : World) (G : StG w base B S) (hfr : ∀ v, v < 8 → S.n ≤ v → Tb.Free F v) :
    Calls Try.prog 11 #[.pointer (some ⟨B.s, 0, none⟩), Tb.tv F] w (MadeRes base B w S F (Sto.cost S.n 0)) := by
  have HM := Bx.mk (fun (bl : Nat) (u : World) (G : StG u base B S) (hl : Loc B u bl 3 S.varCs) => made_all 8 0 (by omega) base B S bl F u G hl (Nat.zero_le _) (fun v hv h => hfr v hv (by
    rcases Nat.lt_or_ge v S.n with hlt | hge
    · obtain ⟨e1, e2⟩ := G.od.vl v hlt
      exact absurd e2 (h _ (Nat.zero_le _) e1)
    · exact hge)))
  have HG := Bx.mk G
  have HVL : Bx (S.vars.length = 8 ∧ S.levels.length = 8 ∧ S.n ≤ 8) := ⟨G.od.len.1, G.od.len.2, G.wf.n8⟩
  have hX0 : Blk (w.alloc (.cells (Tb.tcells F) 24)) w.heap.size 24 (Tb.tcells F) := Blk.new w _ _
  have hF0 : Fr [] w (w.alloc (.cells (Tb.tcells F) 24)) := (Fr.refl _ _).alloc _
  clear G hfr
  obtain ⟨n, hn⟩ : ∃ n, n = S.n := ⟨_, rfl⟩
  rw [← hn] at HM ⊢
  have HN := Bx.mk hn
  clear hn
  go_enter Try.func11, Try.ntmps11
  go_wp2_with fail
  generalize w.alloc (.cells (Tb.tcells F) 24) = w0 at *
  have HF0 := Bx.mk hF0
  have HX0 := Bx.mk hX0
  clear hF0 hX0
  have HXL : Bx (w.heap.size ∉ B.own) := ⟨fun h => by
    obtain ⟨L, h1⟩ := HG.out.at_
    exact absurd (h1.lt _ h) (by omega)⟩
-- ⟦MKK
  refine region_any 100 (fun u => Fr B.own w0 u) (by kernel_rfl) ?_
  generalize hu : World.drew _ = z0
  have hS : Fr B.own w0 z0 := by rw [← hu]; exact (Fr.refl _ _).drew
  have hq := (Fr.refl [] w0).drew
  rw [hu] at hq
  clear hu
  refine any_tk (i := 0) (.pointer (some ⟨B.s, 0, none⟩)) rfl rfl (by kernel_rfl) (fun _ _ d _ _ h => by cases d <;> exact h) (fun u hS => rfl) hS ?_
  try simp only [Act.put, List.getElem_toArray, List.getElem_cons_succ, List.getElem_cons_zero, List.setIfInBounds_toArray, List.set_cons_succ, List.set_cons_zero]
  refine any_tk (i := 1) (Tb.tv F) rfl rfl (by kernel_rfl) (fun _ _ d _ _ h => by cases d <;> exact h) (fun u hS => exec_load rfl rfl (HX0.out.fr hS HXL.out)) hS ?_
  try simp only [Act.put, List.getElem_toArray, List.getElem_cons_succ, List.getElem_cons_zero, List.setIfInBounds_toArray, List.set_cons_succ, List.set_cons_zero]
  refine any_tk (i := 2) (.pointer (some ⟨B.s, 0, none⟩)) rfl rfl (by kernel_rfl) (fun _ _ d _ _ h => by cases d <;> exact h) (fun u hS => rfl) hS ?_
  try simp only [Act.put, List.getElem_toArray, List.getElem_cons_succ, List.getElem_cons_zero, List.setIfInBounds_toArray, List.set_cons_succ, List.set_cons_zero]
  refine any_branch [3] (by kernel_rfl) rfl fun ix hix => ?_
  simp only [List.mem_cons, List.not_mem_nil, or_false] at hix
  subst hix
  refine any_op rfl rfl fun K hK => ?_
  go_simp
  refine (gorder_any (HG.out.fr0 (HF0.out.trans hq (by simp)))).mono ?_
  rintro e z1 ⟨rfl, ho, hf, hz⟩
  replace hS := hS.trans (hf.mono (S' := []) (by simp)) (by simp)
  replace hq := hq.trans hf (by simp)
  clear hf hz
  refine hK _ _ (fun _ => hS) ?_
  try simp only [Act.put, List.getElem_toArray, List.getElem_cons_succ, List.getElem_cons_zero, List.setIfInBounds_toArray, List.set_cons_succ, List.set_cons_zero]
  clear hK
  refine any_branch [4] (by kernel_rfl) rfl fun ix hix => ?_
  simp only [List.mem_cons, List.not_mem_nil, or_false] at hix
  subst hix
  refine any_op rfl rfl fun K hK => ?_
  go_simp
  refine (oall_any z0.heap.size S z1 ho HVL.out).mono ?_
  rintro e z2 ⟨rfl, hl, hf, hz⟩
  have hlo : w.heap.size ≤ z1.heap.size := (HF0.out.trans hq (by simp)).size
  replace hS := hS.trans hf (by simp)
  replace hq := hq.trans hf (by simp)
  rw [← HN.out]
  clear hf hz ho
  refine hK _ _ (fun _ => hS) ?_
  try simp only [Act.put, List.getElem_toArray, List.getElem_cons_succ, List.getElem_cons_zero, List.setIfInBounds_toArray, List.set_cons_succ, List.set_cons_zero]
  clear hK
  refine any_branch [5] (by kernel_rfl) rfl fun ix hix => ?_
  simp only [List.mem_cons, List.not_mem_nil, or_false] at hix
  subst hix
  refine any_op rfl rfl fun K hK => ?_
  go_simp
  refine (HM.out z1.heap.size z2 (HG.out.fr0 (HF0.out.trans hq (by simp))) (Loc.new HG.out hlo hl)).mono ?_
  rintro e z3 hres
  obtain ⟨p, r, rfl⟩ := hres.shape
  obtain ⟨_, _, _, hst, _⟩ := id hres
  replace hS := hS.trans hst.fr (fun b hb _ => hb)
  replace hres := hres.after (HF0.out.trans hq (by simp))
  clear hst hl hlo hq
  refine hK _ _ (fun _ => hS) ?_
  try simp only [Act.put, List.getElem_toArray, List.getElem_cons_succ, List.getElem_cons_zero, List.setIfInBounds_toArray, List.set_cons_succ, List.set_cons_zero]
  clear hK
  refine any_tk (i := 6) (.int .u32 (r : Int)) rfl rfl (by kernel_rfl) (fun _ _ d _ _ h => by cases d <;> exact h) (fun u hS => rfl) hS ?_
  try simp only [Act.put, List.getElem_toArray, List.getElem_cons_succ, List.getElem_cons_zero, List.setIfInBounds_toArray, List.set_cons_succ, List.set_cons_zero]
  refine any_tk (i := 7) (.bool p) rfl rfl (by kernel_rfl) (fun _ _ d _ _ h => by cases d <;> exact h) (fun u hS => rfl) hS ?_
  try simp only [Act.put, List.getElem_toArray, List.getElem_cons_succ, List.getElem_cons_zero, List.setIfInBounds_toArray, List.set_cons_succ, List.set_cons_zero]
  refine any_tk (i := 8) (.int .u32 (r : Int)) rfl rfl (by kernel_rfl) (fun _ _ d _ _ h => by cases d <;> exact h) (fun u hS => rfl) hS ?_
  try simp only [Act.put, List.getElem_toArray, List.getElem_cons_succ, List.getElem_cons_zero, List.setIfInBounds_toArray, List.set_cons_succ, List.set_cons_zero]
  refine any_tk (i := 9) (.bool p) rfl rfl (by kernel_rfl) (fun _ _ d _ _ h => by cases d <;> exact h) (fun u hS => rfl) hS ?_
  try simp only [Act.put, List.getElem_toArray, List.getElem_cons_succ, List.getElem_cons_zero, List.setIfInBounds_toArray, List.set_cons_succ, List.set_cons_zero]
  refine any_end (by kernel_rfl) ?_
-- ⟧
  have HR := Bx.mk hres
  clear hS hres
  go_wp2_with fail
  go_ret2
  exact HR.out
end Go.Proofs.Ythbifeoohphnpaa
