/-
  How many nodes: the laws of TruthSizes. No program in sight.
-/
import Derived.Test.YtfkefgelceaimaaDoorKnownPlain
import Derived.Test.YtfkefgelceaimaaDoorPointPlain
namespace Go.Proofs.YtfkefgelceaimaaDoor
set_option linter.unusedVariables false
namespace Tb
/-- a list without a double member is no longer than one that has all its members -/
theorem nodup_le {α : Type} [DecidableEq α] : ∀ {S L : List α}, S.Nodup → (∀ x, x ∈ S → x ∈ L) → S.length ≤ L.length
  | [], L, _, _ => by simp
  | a :: S, L, h, hs => by
    rw [List.nodup_cons] at h
    have ha : a ∈ L := hs a (by simp)
    have hl : (L.erase a).length = L.length - 1 := List.length_erase_of_mem ha
    have hpos : 0 < L.length := List.length_pos_of_mem ha
    have := nodup_le (S := S) (L := L.erase a) h.2 fun x hx => by
      have hne : x ≠ a := fun e => h.1 (e ▸ hx)
      exact (List.mem_erase_of_ne hne).2 (hs x (by simp [hx]))
    simp only [List.length_cons]
    omega
/-- it doesn't hang on a variable -/
def Free (F : T) (v : Nat) : Prop := ∀ b, fix F (v : Int) b = F
theorem free_get {F : T} {v : Nat} (hv : v < 8) : Free F v ↔ ∀ x, x < 256 → ∀ b, F.getLsbD (wth x v b) = F.getLsbD x := by
  constructor
  · intro h x hx b
    rw [← fix_get hv hx, h b]
  · intro h b
    exact ext_get fun x hx => by rw [fix_get hv hx, h x hx b]
theorem wth_same (x v : Nat) (hx : x < 256) (hv : v < 8) (b c : Bool) : wth (wth x v b) v c = wth x v c := by
  have h1 := wth_lt x hx v hv b
  refine eq_of_bits (wth_lt _ h1 v hv c) (wth_lt x hx v hv c) fun i hi => ?_
  rw [wth_bit _ h1 v hv c i hi, wth_bit x hx v hv c i hi, wth_bit x hx v hv b i hi]
  split <;> rfl
theorem wth_comm (x u v : Nat) (hx : x < 256) (hu : u < 8) (hv : v < 8) (hne : u ≠ v) (b c : Bool) : wth (wth x u b) v c = wth (wth x v c) u b := by
  have h1 := wth_lt x hx u hu b
  have h2 := wth_lt x hx v hv c
  refine eq_of_bits (wth_lt _ h1 v hv c) (wth_lt _ h2 u hu b) fun i hi => ?_
  rw [wth_bit _ h1 v hv c i hi, wth_bit _ h2 u hu b i hi, wth_bit x hx u hu b i hi, wth_bit x hx v hv c i hi]
  by_cases e : i = v
  · subst e; simp [hne.symm]
  · simp [e]
theorem free_fix_same (F : T) {v : Nat} (hv : v < 8) (b : Bool) : Free (fix F (v : Int) b) v := by
  rw [free_get hv]
  intro x hx c
  rw [fix_get hv (wth_lt x hx v hv c), fix_get hv hx, wth_same x v hx hv]
theorem free_fix {F : T} {u v : Nat} (hu : u < 8) (hv : v < 8) (h : Free F v) (b : Bool) : Free (fix F (u : Int) b) v := by
  by_cases e : u = v
  · subst e; exact free_fix_same F hu b
  · rw [free_get hv] at h ⊢
    intro x hx c
    rw [fix_get hu (wth_lt x hx v hv c), fix_get hu hx, ← wth_comm x u v hx hu hv e b c, h _ (wth_lt x hx u hu b) c]
/-- if both halves don't hang on it, the whole doesn't -/
theorem free_of_halves {F : T} {u v : Nat} (hu : u < 8) (hv : v < 8) (hne : u ≠ v) (h0 : Free (fix F (u : Int) false) v) (h1 : Free (fix F (u : Int) true) v) : Free F v := by
  rw [free_get hv] at h0 h1 ⊢
  intro x hx c
  have hx2 := wth_lt x hx v hv c
  have key : ∀ y, y < 256 → F.getLsbD y = (fix F (u : Int) (y.testBit u)).getLsbD y := fun y hy => by
    rw [fix_get hu hy]
    congr 1
    refine (eq_of_bits (wth_lt y hy u hu _) hy fun i hi => ?_).symm
    rw [wth_bit y hy u hu _ i hi]
    split
    · rename_i e; rw [e]
    · rfl
  rw [key _ hx2, key _ hx, wth_bit x hx v hv c u hu, if_neg hne]
  cases x.testBit u
  · exact h0 x hx c
  · exact h1 x hx c
/-- an order: each variable once -/
structure Perm8 (vs : List Int) : Prop where
  len : vs.length = 8
  nat : ∀ k, k < 8 → ∃ v : Nat, v < 8 ∧ vs[k]? = some (v : Int)
  all : ∀ v : Nat, v < 8 → ∃ k, k < 8 ∧ vs[k]? = some (v : Int)
  once : ∀ j k x, j < 8 → k < 8 → vs[j]? = some x → vs[k]? = some x → j = k
theorem lev_mem {f : T} {vs : List Int} {k : Nat} {F : T} (h : F ∈ levTo f vs (k + 1)) : ∃ G, G ∈ levTo f vs k ∧ ∃ b, F = fix G (vs.getD k 0) b := by
  rw [levTo, List.mem_flatMap] at h
  obtain ⟨G, hG, h⟩ := h
  simp at h
  rcases h with h | h
  · exact ⟨G, hG, false, h⟩
  · exact ⟨G, hG, true, h⟩
theorem lev_step {f : T} {vs : List Int} {k : Nat} {G : T} (h : G ∈ levTo f vs k) (b : Bool) : fix G (vs.getD k 0) b ∈ levTo f vs (k + 1) := by
  rw [levTo, List.mem_flatMap]
  exact ⟨G, h, by cases b <;> simp⟩
theorem getD_of {vs : List Int} {k : Nat} {x : Int} (h : vs[k]? = some x) : vs.getD k 0 = x := by simp [List.getD, h]
/-- what is left doesn't hang on what is set -/
theorem lev_free {f : T} {vs : List Int} (hp : Perm8 vs) : ∀ k, k ≤ 8 → ∀ F, F ∈ levTo f vs k → ∀ j, j < k → ∀ v : Nat, v < 8 → vs[j]? = some (v : Int) → Free F v
  | 0, _, F, _, j, hj, _, _, _ => by omega
  | k + 1, hk, F, hF, j, hj, v, hv, hvj => by
    obtain ⟨G, hG, b, rfl⟩ := lev_mem hF
    obtain ⟨u, hu, huk⟩ := hp.nat k (by omega)
    rw [getD_of huk]
    by_cases e : j = k
    · subst e
      rw [huk] at hvj
      have := Option.some.inj hvj
      obtain rfl : u = v := by omega
      exact free_fix_same G hu b
    · exact free_fix hu hv (lev_free hp k (by omega) G hG j (by omega) v hv hvj) b
/-- where it hangs on a variable, something of that variable's level does -/
theorem lev_hangs {vs : List Int} (hp : Perm8 vs) {v : Nat} (hv : v < 8) : ∀ k, k ≤ 8 → (∀ j, j < k → vs[j]? ≠ some (v : Int)) → ∀ g, (∀ F, F ∈ levTo g vs k → Free F v) → Free g v := by
  intro k
  induction k with
  | zero => intro _ _ g h; exact h g (by simp [levTo])
  | succ k ih =>
    intro hk hno g h
    refine ih (by omega) (fun j hj => hno j (by omega)) g fun F hF => ?_
    obtain ⟨u, hu, huk⟩ := hp.nat k (by omega)
    have hne : u ≠ v := fun e => hno k (by omega) (by rw [huk, e])
    refine free_of_halves hu hv hne ?_ ?_
    · exact h _ (by rw [← getD_of huk]; exact lev_step hF false)
    · exact h _ (by rw [← getD_of huk]; exact lev_step hF true)
theorem free_cst (b : Bool) {v : Nat} (hv : v < 8) : Free (cst b) v := by
  rw [free_get hv]
  intro x hx c
  rw [cst_get b _ (wth_lt x hx v hv c), cst_get b x hx]
theorem free_sup {f : T} {v : Nat} (hv : v < 8) : Free f v ↔ (support f).testBit v = false := by
  rw [support_bit]
  simp only [hv, decide_true, Bool.true_and, decide_eq_false_iff_not, ne_eq, Classical.not_not]
  constructor
  · intro h; rw [h false, h true]
  · intro h b
    have key : ∀ x, x < 256 → ∀ b, f.getLsbD (wth x v b) = f.getLsbD x := fun x hx b => by
      have e : f.getLsbD (wth x v false) = f.getLsbD (wth x v true) := by rw [← fix_get hv hx, ← fix_get hv hx, h]
      have hx' : f.getLsbD x = f.getLsbD (wth x v (x.testBit v)) := by
        congr 1
        refine (eq_of_bits (wth_lt x hx v hv _) hx fun i hi => ?_).symm
        rw [wth_bit x hx v hv _ i hi]
        split
        · rename_i e; rw [e]
        · rfl
      rw [hx']
      cases b <;> cases x.testBit v
      · rfl
      · exact e
      · exact e.symm
      · rfl
    exact (free_get hv).2 key b
end Tb
end Go.Proofs.YtfkefgelceaimaaDoor
