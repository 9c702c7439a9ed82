/-
  How many nodes: the laws of TruthSizes, second part. No program in sight.
-/
import Derived.Test.YtfkefgelceaimaaDoorSizePlain
namespace Go.Proofs.YtfkefgelceaimaaDoor
set_option linter.unusedVariables false
namespace Tb
theorem fix_not (f : T) (v : Int) (b : Bool) : fix (~~~f) v b = ~~~ (fix f v b) := by
  cases hk : kn v with
  | false => rw [fix_no hk, fix_no hk]
  | true =>
    obtain ⟨n, rfl⟩ : ∃ n : Nat, v = (n : Int) := ⟨v.toNat, by unfold kn at hk; simp at hk; omega⟩
    have hn : n < 8 := by unfold kn at hk; simp at hk; omega
    exact ext_get fun x hx => by
      rw [fix_get hn hx, BitVec.getLsbD_not, BitVec.getLsbD_not, fix_get hn hx]
      simp [hx, wth_lt x hx n hn b]
theorem not_not (F : T) : ~~~ (~~~F) = F := BitVec.not_not
theorem lev_not {f : T} {vs : List Int} : ∀ k F, F ∈ levTo f vs k → (~~~F) ∈ levTo (~~~f) vs k
  | 0, F, h => by simp [levTo] at h ⊢; rw [h]
  | k + 1, F, h => by
    obtain ⟨G, hG, b, rfl⟩ := lev_mem h
    rw [← fix_not]
    exact lev_step (lev_not k G hG) b
theorem not_cst (b : Bool) : ~~~ (cst b) = cst (!b) := ext_get fun x hx => by
  rw [BitVec.getLsbD_not, cst_get _ _ hx, cst_get _ _ hx]; simp [hx]
theorem cof_not {f : T} {vs : List Int} {k : Nat} {F : T} : CofTo (~~~f) vs k F ↔ CofTo f vs k (~~~F) := by
  unfold CofTo
  constructor
  · rintro ⟨j, hj, h⟩
    have := lev_not j F h
    rw [not_not] at this
    exact ⟨j, hj, this⟩
  · rintro ⟨j, hj, h⟩
    have := lev_not j _ h
    rw [not_not] at this
    exact ⟨j, hj, this⟩
end Tb
theorem SizeIs.not {f : Tb.T} {vs : List Int} {a : Nat} (h : SizeIs [f] vs a) : SizeIs [~~~f] vs a := by
  obtain ⟨S, hS, rfl, hm⟩ := h.ex
  refine ⟨⟨S.map (~~~ ·), ?_, by simp, fun F => ?_⟩⟩
  · unfold List.Nodup
    rw [List.pairwise_map]
    exact List.Pairwise.imp (fun {a b} hne e => hne (by rw [← Tb.not_not a, e, Tb.not_not])) hS
  · rw [List.mem_map]
    constructor
    · rintro ⟨G, hG, rfl⟩
      obtain ⟨⟨g, hg, hc⟩, h0, h1⟩ := (hm G).1 hG
      simp at hg
      subst hg
      refine ⟨⟨~~~g, by simp, Tb.cof_not.2 (by rw [Tb.not_not]; exact hc)⟩, fun e => h1 ?_, fun e => h0 ?_⟩
      · rw [← Tb.not_not G, e, Tb.not_cst]; rfl
      · rw [← Tb.not_not G, e, Tb.not_cst]; rfl
    · rintro ⟨⟨g, hg, hc⟩, h0, h1⟩
      simp at hg
      subst hg
      refine ⟨~~~F, (hm _).2 ⟨⟨f, by simp, Tb.cof_not.1 hc⟩, fun e => h1 ?_, fun e => h0 ?_⟩, Tb.not_not F⟩
      · rw [← Tb.not_not F, e, Tb.not_cst]; rfl
      · rw [← Tb.not_not F, e, Tb.not_cst]; rfl
theorem Tb.Perm8.take {vs : List Int} (hp : Tb.Perm8 vs) : vs.take 8 = vs := List.take_of_length_le (by rw [hp.len]; omega)
/-- how many variables it hangs on -/
def Tb.hangs (f : Tb.T) : Nat := (List.range 8).countP fun v => (Tb.support f).testBit v
theorem SizeIs.ge {f : Tb.T} {vs : List Int} {a : Nat} (h : SizeIs [f] vs a) (hp : Tb.Perm8 vs) : Tb.hangs f ≤ a := by
  obtain ⟨S, hS, rfl, hm⟩ := h.ex
  rw [hp.take, hp.len] at hm
  have hex : ∀ v : Nat, ∃ F : Tb.T, v < 8 → (Tb.support f).testBit v = true → F ∈ S ∧ ¬ Tb.Free F v ∧ ∃ k, k < 8 ∧ vs[k]? = some (v : Int) ∧ ∀ j, j < k → ∀ u : Nat, u < 8 → vs[j]? = some (u : Int) → Tb.Free F u := fun v => by
    by_cases hv : v < 8 ∧ (Tb.support f).testBit v = true
    · obtain ⟨hv, hs⟩ := hv
      obtain ⟨k, hk, hvk⟩ := hp.all v hv
      have hnf : ¬ Tb.Free f v := fun hf => by rw [Tb.free_sup hv] at hf; rw [hf] at hs; cases hs
      have hne : ¬ ∀ F, F ∈ Tb.levTo f vs k → Tb.Free F v := fun hall => hnf (Tb.lev_hangs hp hv k (by omega) (fun j hj e => by have := hp.once j k _ (by omega) hk e hvk; omega) f hall)
      simp only [Classical.not_forall] at hne
      obtain ⟨F, hF, hnF⟩ := hne
      refine ⟨F, fun _ _ => ⟨(hm F).2 ⟨⟨f, by simp, ?_⟩, fun e => hnF (e ▸ Tb.free_cst false hv), fun e => hnF (e ▸ Tb.free_cst true hv)⟩, hnF, k, hk, hvk, fun j hj u hu huj => Tb.lev_free hp k (by omega) F hF j hj u hu huj⟩⟩
      unfold Tb.CofTo
      exact ⟨k, by omega, hF⟩
    · exact ⟨f, fun h1 h2 => absurd ⟨h1, h2⟩ hv⟩
  let pick : Nat → Tb.T := fun v => (hex v).choose
  have hpick : ∀ v, v < 8 → (Tb.support f).testBit v = true → pick v ∈ S ∧ ¬ Tb.Free (pick v) v ∧ ∃ k, k < 8 ∧ vs[k]? = some (v : Int) ∧ ∀ j, j < k → ∀ u : Nat, u < 8 → vs[j]? = some (u : Int) → Tb.Free (pick v) u := fun v => (hex v).choose_spec
  have hlen : Tb.hangs f = (((List.range 8).filter fun v => (Tb.support f).testBit v).map pick).length := by
    unfold Tb.hangs
    rw [List.length_map, List.countP_eq_length_filter]
  rw [hlen]
  refine Tb.nodup_le ?_ fun F hF => ?_
  · unfold List.Nodup
    rw [List.pairwise_map]
    have hnd : ((List.range 8).filter fun v => (Tb.support f).testBit v).Nodup := List.Pairwise.filter _ List.nodup_range
    refine List.Pairwise.imp_of_mem (fun {x y} hx hy hne e => ?_) hnd
    rw [List.mem_filter, List.mem_range] at hx hy
    obtain ⟨_, hx2, kx, hkx, hvx, hfx⟩ := hpick x hx.1 hx.2
    obtain ⟨_, hy2, ky, hky, hvy, hfy⟩ := hpick y hy.1 hy.2
    rcases Nat.lt_trichotomy kx ky with hlt | heq | hgt
    · exact hx2 (by rw [e]; exact hfy kx hlt x hx.1 hvx)
    · subst heq
      rw [hvx] at hvy
      have := Option.some.inj hvy
      exact hne (by omega)
    · exact hy2 (by rw [← e]; exact hfx ky hgt y hy.1 hvy)
  · rw [List.mem_map] at hF
    obtain ⟨v, hv, rfl⟩ := hF
    rw [List.mem_filter, List.mem_range] at hv
    exact (hpick v hv.1 hv.2).1
theorem SizeIs.both {f g : Tb.T} {vs : List Int} {a b c : Nat} (ha : SizeIs [f] vs a) (hb : SizeIs [g] vs b) (hc : SizeIs [f, g, f] vs c) : c ≤ a + b ∧ a ≤ c ∧ b ≤ c := by
  obtain ⟨S, hS, rfl, hm⟩ := ha.ex
  obtain ⟨R, hR, rfl, hr⟩ := hb.ex
  obtain ⟨Q, hQ, rfl, hq⟩ := hc.ex
  refine ⟨?_, ?_, ?_⟩
  · have := Tb.nodup_le (S := Q) (L := S ++ R) hQ fun F hF => by
      obtain ⟨⟨h, hh, hco⟩, h0, h1⟩ := (hq F).1 hF
      rw [List.mem_append, hm F, hr F]
      simp at hh
      rcases hh with rfl | rfl | rfl
      · exact .inl ⟨⟨_, by simp, hco⟩, h0, h1⟩
      · exact .inr ⟨⟨_, by simp, hco⟩, h0, h1⟩
      · exact .inl ⟨⟨_, by simp, hco⟩, h0, h1⟩
    simpa using this
  · exact Tb.nodup_le hS fun F hF => by
      obtain ⟨⟨h, hh, hco⟩, h0, h1⟩ := (hm F).1 hF
      simp at hh
      subst hh
      exact (hq F).2 ⟨⟨_, by simp, hco⟩, h0, h1⟩
  · exact Tb.nodup_le hR fun F hF => by
      obtain ⟨⟨h, hh, hco⟩, h0, h1⟩ := (hr F).1 hF
      simp at hh
      subst hh
      exact (hq F).2 ⟨⟨_, by simp, hco⟩, h0, h1⟩
namespace Tb
/-- where some variables are free, the others tell -/
theorem free_walk {F : T} {x y : Nat} (hx : x < 256) (hy : y < 256) (h : ∀ v, v < 8 → x.testBit v = y.testBit v ∨ Free F v) : F.getLsbD x = F.getLsbD y := by
  have key : ∀ k, k ≤ 8 → ∃ z, z < 256 ∧ (∀ i, i < 8 → z.testBit i = if i < k then y.testBit i else x.testBit i) ∧ F.getLsbD z = F.getLsbD x := by
    intro k
    induction k with
    | zero => intro _; exact ⟨x, hx, fun i hi => by simp, rfl⟩
    | succ k ih =>
      intro hk
      obtain ⟨z, hz, hb, hf⟩ := ih (by omega)
      have hw := wth_lt z hz k (by omega) (y.testBit k)
      refine ⟨wth z k (y.testBit k), hw, fun i hi => ?_, ?_⟩
      · rw [wth_bit z hz k (by omega) _ i hi]
        by_cases e : i = k
        · subst e; simp
        · rw [if_neg e, hb i hi]
          by_cases h2 : i < k
          · simp [h2, show i < k + 1 from by omega]
          · simp [h2, show ¬ i < k + 1 from by omega]
      · rcases h k (by omega) with he | hfr
        · rw [← hf]
          congr 1
          refine eq_of_bits hw hz fun i hi => ?_
          rw [wth_bit z hz k (by omega) _ i hi]
          split
          · rename_i e; subst e; rw [hb i hi]; simp [he]
          · rfl
        · rw [(free_get (by omega)).1 hfr z hz, hf]
  obtain ⟨z, hz, hb, hf⟩ := key 8 (by omega)
  rw [← hf, eq_of_bits hz hy fun i hi => by rw [hb i hi]; simp [hi]]
end Tb
theorem SizeIs.zero {f : Tb.T} {vs : List Int} {a : Nat} (h : SizeIs [f] vs a) (hp : Tb.Perm8 vs) : 0 < Tb.hangs f ∨ a = 0 := by
  by_cases hh : 0 < Tb.hangs f
  · exact .inl hh
  · right
    obtain ⟨S, hS, rfl, hm⟩ := h.ex
    have hfree : ∀ v, v < 8 → Tb.Free f v := fun v hv => by
      rw [Tb.free_sup hv]
      cases e : (Tb.support f).testBit v
      · rfl
      · refine absurd ?_ hh
        unfold Tb.hangs
        exact List.countP_pos_iff.2 ⟨v, by simpa using hv, e⟩
    have hc : f = Tb.cst (f.getLsbD 0) := Tb.ext_get fun x hx => by
      rw [Tb.cst_get _ _ hx]
      exact Tb.free_walk hx (by omega) fun v hv => .inr (hfree v hv)
    have hlev : ∀ k F, k ≤ 8 → F ∈ Tb.levTo f vs k → F = f := by
      intro k
      induction k with
      | zero => intro F _ hF; simpa [Tb.levTo] using hF
      | succ k ih =>
        intro F hk hF
        obtain ⟨G, hG, b, rfl⟩ := Tb.lev_mem hF
        obtain ⟨u, hu, huk⟩ := hp.nat k (by omega)
        rw [ih G (by omega) hG, Tb.getD_of huk]
        exact hfree u hu b
    cases S with
    | nil => rfl
    | cons F S =>
      exfalso
      obtain ⟨⟨g, hg, hco⟩, h0, h1⟩ := (hm F).1 (by simp)
      simp at hg
      subst hg
      rw [hp.take, hp.len] at hco
      unfold Tb.CofTo at hco
      obtain ⟨j, hj, hF⟩ := hco
      rw [hlev j F hj hF, hc] at h0 h1
      cases e : g.getLsbD 0
      · rw [e] at h0; exact h0 rfl
      · rw [e] at h1; exact h1 rfl
namespace Tb
/-- a function of two variables, by its four values -/
def two (u v c : Nat) : T := tab fun z => c.testBit ((z.testBit u).toNat + 2 * (z.testBit v).toNat)
def code (a b c d : Bool) : Nat := a.toNat + 2 * b.toNat + 4 * c.toNat + 8 * d.toNat
theorem code_bit : ∀ a b c d : Bool, (code a b c d).testBit 0 = a ∧ (code a b c d).testBit 1 = b ∧ (code a b c d).testBit 2 = c ∧ (code a b c d).testBit 3 = d ∧ code a b c d < 16 := by decide +kernel
theorem two_of {F : T} {u v : Nat} (hu : u < 8) (hv : v < 8) (hne : u ≠ v) (h : ∀ w, w < 8 → w ≠ u → w ≠ v → Free F w) : ∃ c, c < 16 ∧ F = two u v c := by
  have e0 := wth_lt 0 (by omega) u hu
  let q : Bool → Bool → Bool := fun a b => F.getLsbD (wth (wth 0 u a) v b)
  obtain ⟨c0, c1, c2, c3, hc⟩ := code_bit (q false false) (q true false) (q false true) (q true true)
  refine ⟨_, hc, ext_get fun z hz => ?_⟩
  unfold two
  rw [tab_get]
  simp only [hz, decide_true, Bool.true_and]
  have hw : F.getLsbD z = q (z.testBit u) (z.testBit v) := by
    refine free_walk hz (wth_lt _ (e0 _) v hv _) fun w hw => ?_
    by_cases h1 : w = u
    · left; rw [wth_bit _ (e0 _) v hv _ w hw, wth_bit 0 (by omega) u hu _ w hw, if_neg (by rw [h1]; exact hne), if_pos h1, h1]
    · by_cases h2 : w = v
      · left; rw [wth_bit _ (e0 _) v hv _ w hw, if_pos h2, h2]
      · exact .inr (h w hw h1 h2)
  rw [hw]
  cases z.testBit u <;> cases z.testBit v
  · exact c0.symm
  · exact c2.symm
  · exact c1.symm
  · exact c3.symm
theorem two_zero (u v : Nat) : two u v 0 = cst false := by
  unfold two
  rw [← tab_cst]
  exact tab_congr fun x hx => by simp
theorem two_all (u v : Nat) : two u v 15 = cst true := by
  unfold two
  rw [← tab_cst]
  exact tab_congr fun x hx => by cases x.testBit u <;> cases x.testBit v <;> rfl
theorem lev_length (f : T) (vs : List Int) : ∀ k, (levTo f vs k).length = 2 ^ k
  | 0 => by simp [levTo]
  | k + 1 => by
    have ih := lev_length f vs k
    rw [levTo, Nat.pow_succ, ← ih]
    generalize levTo f vs k = L
    induction L with
    | nil => rfl
    | cons a L ih => rw [List.flatMap_cons, List.length_append, ih]; simp; omega
end Tb
theorem SizeIs.le {f : Tb.T} {vs : List Int} {a : Nat} (h : SizeIs [f] vs a) (hp : Tb.Perm8 vs) : a ≤ 77 := by
  obtain ⟨S, hS, rfl, hm⟩ := h.ex
  rw [hp.take, hp.len] at hm
  obtain ⟨u, hu, hu6⟩ := hp.nat 6 (by omega)
  obtain ⟨v, hv, hv7⟩ := hp.nat 7 (by omega)
  have hne : u ≠ v := fun e => by
    have := hp.once 6 7 _ (by omega) (by omega) hu6 (by rw [hv7, e])
    omega
  have := Tb.nodup_le (S := S) (L := Tb.levTo f vs 0 ++ (Tb.levTo f vs 1 ++ (Tb.levTo f vs 2 ++ (Tb.levTo f vs 3 ++ (Tb.levTo f vs 4 ++ (Tb.levTo f vs 5 ++ (List.range 14).map (fun c => Tb.two u v (c + 1)))))))) hS fun F hF => by
    obtain ⟨⟨g, hg, hco⟩, h0, h1⟩ := (hm F).1 hF
    simp at hg
    subst hg
    unfold Tb.CofTo at hco
    obtain ⟨j, hj, hFj⟩ := hco
    simp only [List.mem_append]
    have hcase : j = 0 ∨ j = 1 ∨ j = 2 ∨ j = 3 ∨ j = 4 ∨ j = 5 ∨ 6 ≤ j := by omega
    rcases hcase with rfl | rfl | rfl | rfl | rfl | rfl | h6
    · exact .inl hFj
    · exact .inr (.inl hFj)
    · exact .inr (.inr (.inl hFj))
    · exact .inr (.inr (.inr (.inl hFj)))
    · exact .inr (.inr (.inr (.inr (.inl hFj))))
    · exact .inr (.inr (.inr (.inr (.inr (.inl hFj)))))
    · refine .inr (.inr (.inr (.inr (.inr (.inr ?_)))))
      obtain ⟨c, hc, rfl⟩ := Tb.two_of hu hv hne (F := F) fun w hw h1 h2 => by
        obtain ⟨k, hk, hwk⟩ := hp.all w hw
        refine Tb.lev_free hp j hj F hFj k ?_ w hw hwk
        have k6 : k ≠ 6 := fun e => by
          subst e
          rw [hu6] at hwk
          have := Option.some.inj hwk
          omega
        have k7 : k ≠ 7 := fun e => by
          subst e
          rw [hv7] at hwk
          have := Option.some.inj hwk
          omega
        omega
      have c0 : c ≠ 0 := fun e => h0 (by rw [e, Tb.two_zero])
      have c15 : c ≠ 15 := fun e => h1 (by rw [e, Tb.two_all])
      rw [List.mem_map]
      exact ⟨c - 1, by rw [List.mem_range]; omega, by rw [show c - 1 + 1 = c from by omega]⟩
  simp only [List.length_append, Tb.lev_length, List.length_map, List.length_range] at this
  exact this
end Go.Proofs.YtfkefgelceaimaaDoor
