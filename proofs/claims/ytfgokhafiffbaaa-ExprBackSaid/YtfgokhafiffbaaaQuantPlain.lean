/-
  Tables with variables quantified or set: what each of them is at an assignment; the laws of TruthQuants. No program in sight.
-/
import Derived.Test.YtfgokhafiffbaaaTabPlain
namespace Go.Proofs.Ytfgokhafiffbaaa
set_option linter.unusedVariables false
namespace Tb
theorem eq_of_bits {x y : Nat} (hx : x < 256) (hy : y < 256) (h : ∀ i, i < 8 → x.testBit i = y.testBit i) : x = y := by
  apply Nat.eq_of_testBit_eq
  intro i
  by_cases hi : i < 8
  · exact h i hi
  · have hp : 256 ≤ 2 ^ i := by
      have : 2 ^ 8 ≤ 2 ^ i := Nat.pow_le_pow_right (by omega) (by omega)
      simpa using this
    rw [Nat.testBit_lt_two_pow (by omega), Nat.testBit_lt_two_pow (by omega)]
theorem fix_get {f : T} {v : Nat} {b : Bool} {x : Nat} (hv : v < 8) (hx : x < 256) : (fix f (v : Int) b).getLsbD x = f.getLsbD (wth x v b) := by
  have hk : kn (v : Int) = true := by unfold kn; simp; omega
  rw [fix_yes hk, tab_get]
  simp [hx]

theorem exsTo_get (f : T) (m : Nat) : ∀ (k : Nat), k ≤ 8 → ∀ x, x < 256 →
    ((halvesTo (fun F G => F ||| G) f m k).getLsbD x = true ↔ ∃ y, y < 256 ∧ f.getLsbD y = true ∧ ∀ i, i < 8 → ¬ (i < k ∧ m.testBit i = true) → y.testBit i = x.testBit i) := by
  intro k
  induction k with
  | zero =>
    intro _ x hx
    rw [halvesTo_zero]
    constructor
    · intro h; exact ⟨x, hx, h, fun _ _ _ => rfl⟩
    · rintro ⟨y, hy, h, hb⟩
      rw [← eq_of_bits hy hx (fun i hi => hb i hi (by omega))]; exact h
  | succ k ih =>
    intro hk x hx
    have ih := ih (by omega)
    by_cases hm : m.testBit k = true
    · rw [halvesTo_yes hm, BitVec.getLsbD_or, Bool.or_eq_true, fix_get (by omega) hx, fix_get (by omega) hx]
      have hw : ∀ b, wth x k b < 256 := wth_lt x hx k (by omega)
      have hwb := wth_bit x hx k (by omega)
      rw [ih _ (hw false), ih _ (hw true)]
      have key : ∀ b, (∃ y, y < 256 ∧ f.getLsbD y = true ∧ ∀ i, i < 8 → ¬ (i < k ∧ m.testBit i = true) → y.testBit i = (wth x k b).testBit i) → ∃ y, y < 256 ∧ f.getLsbD y = true ∧ ∀ i, i < 8 → ¬ (i < k + 1 ∧ m.testBit i = true) → y.testBit i = x.testBit i := by
        rintro b ⟨y, hy, h, hb⟩
        refine ⟨y, hy, h, fun i hi hn => ?_⟩
        have hik : i ≠ k := fun e => hn ⟨by omega, e ▸ hm⟩
        rw [hb i hi (fun ⟨h1, h2⟩ => hn ⟨by omega, h2⟩), hwb b i hi, if_neg hik]
      constructor
      · rintro (h | h)
        · exact key _ h
        · exact key _ h
      · rintro ⟨y, hy, h, hb⟩
        have h2 : ∃ y', y' < 256 ∧ f.getLsbD y' = true ∧ ∀ i, i < 8 → ¬ (i < k ∧ m.testBit i = true) → y'.testBit i = (wth x k (y.testBit k)).testBit i := by
          refine ⟨y, hy, h, fun i hi hn => ?_⟩
          rw [hwb _ i hi]
          split
          · rename_i e; rw [e]
          · rename_i e; exact hb i hi (fun ⟨h1, h2⟩ => hn ⟨by omega, h2⟩)
        revert h2
        cases y.testBit k
        · exact Or.inl
        · exact Or.inr
    · have hm' : m.testBit k = false := by simpa using hm
      rw [halvesTo_no hm', ih x hx]
      have : ∀ i, (i < k ∧ m.testBit i = true) ↔ (i < k + 1 ∧ m.testBit i = true) := fun i =>
        ⟨fun ⟨a, b⟩ => ⟨by omega, b⟩, fun ⟨a, b⟩ => ⟨by by_cases e : i = k; · subst e; exact absurd b hm
                                                        · omega, b⟩⟩
      simp only [this]
theorem allTo_get (f : T) (m : Nat) : ∀ (k : Nat), k ≤ 8 → ∀ x, x < 256 →
    ((halvesTo (fun F G => F &&& G) f m k).getLsbD x = true ↔ ∀ y, y < 256 → (∀ i, i < 8 → ¬ (i < k ∧ m.testBit i = true) → y.testBit i = x.testBit i) → f.getLsbD y = true) := by
  intro k
  induction k with
  | zero =>
    intro _ x hx
    rw [halvesTo_zero]
    constructor
    · intro h y hy hb
      rw [eq_of_bits hy hx (fun i hi => hb i hi (by omega))]; exact h
    · intro h; exact h x hx (fun _ _ _ => rfl)
  | succ k ih =>
    intro hk x hx
    have ih := ih (by omega)
    by_cases hm : m.testBit k = true
    · rw [halvesTo_yes hm, BitVec.getLsbD_and, Bool.and_eq_true, fix_get (by omega) hx, fix_get (by omega) hx]
      have hw : ∀ b, wth x k b < 256 := wth_lt x hx k (by omega)
      have hwb := wth_bit x hx k (by omega)
      rw [ih _ (hw false), ih _ (hw true)]
      constructor
      · rintro ⟨h0, h1⟩ y hy hb
        have h2 : ∀ i, i < 8 → ¬ (i < k ∧ m.testBit i = true) → y.testBit i = (wth x k (y.testBit k)).testBit i := by
          intro i hi hn
          rw [hwb _ i hi]
          split
          · rename_i e; rw [e]
          · rename_i e; exact hb i hi (fun ⟨h1, h2⟩ => hn ⟨by omega, h2⟩)
        revert h2
        cases y.testBit k
        · exact h0 y hy
        · exact h1 y hy
      · intro h
        have key : ∀ b y, y < 256 → (∀ i, i < 8 → ¬ (i < k ∧ m.testBit i = true) → y.testBit i = (wth x k b).testBit i) → f.getLsbD y = true := by
          intro b y hy hb
          refine h y hy fun i hi hn => ?_
          have hik : i ≠ k := fun e => hn ⟨by omega, e ▸ hm⟩
          rw [hb i hi (fun ⟨h1, h2⟩ => hn ⟨by omega, h2⟩), hwb b i hi, if_neg hik]
        exact ⟨key false, key true⟩
    · have hm' : m.testBit k = false := by simpa using hm
      rw [halvesTo_no hm', ih x hx]
      have : ∀ i, (i < k ∧ m.testBit i = true) ↔ (i < k + 1 ∧ m.testBit i = true) := fun i =>
        ⟨fun ⟨a, b⟩ => ⟨by omega, b⟩, fun ⟨a, b⟩ => ⟨by by_cases e : i = k; · subst e; exact absurd b hm
                                                        · omega, b⟩⟩
      simp only [this]
/-- two assignments agree but for a mask -/
def Agree (m x y : Nat) : Prop := ∀ i, i < 8 → m.testBit i = false → x.testBit i = y.testBit i
theorem Agree.refl (m x : Nat) : Agree m x x := fun _ _ _ => rfl
theorem Agree.symm {m x y : Nat} (h : Agree m x y) : Agree m y x := fun i hi hm => (h i hi hm).symm
theorem Agree.trans {m x y z : Nat} (h : Agree m x y) (h' : Agree m y z) : Agree m x z := fun i hi hm => (h i hi hm).trans (h' i hi hm)
theorem exs_get (f : T) (m : Nat) {x : Nat} (hx : x < 256) : (halves (fun F G => F ||| G) f m).getLsbD x = true ↔ ∃ y, y < 256 ∧ f.getLsbD y = true ∧ Agree m y x := by
  rw [halves_def, exsTo_get f m 8 (by omega) x hx]
  constructor
  · rintro ⟨y, hy, h, hb⟩
    exact ⟨y, hy, h, fun i hi hm => hb i hi (fun h => by rw [hm] at h; exact absurd h.2 (by simp))⟩
  · rintro ⟨y, hy, h, hb⟩
    exact ⟨y, hy, h, fun i hi hm => hb i hi (by cases e : m.testBit i; rfl; exact absurd ⟨hi, e⟩ hm)⟩
theorem all_get (f : T) (m : Nat) {x : Nat} (hx : x < 256) : (halves (fun F G => F &&& G) f m).getLsbD x = true ↔ ∀ y, y < 256 → Agree m y x → f.getLsbD y = true := by
  rw [halves_def, allTo_get f m 8 (by omega) x hx]
  constructor
  · intro h y hy hb
    exact h y hy fun i hi hm => hb i hi (by cases e : m.testBit i; rfl; exact absurd ⟨hi, e⟩ hm)
  · intro h y hy hb
    exact h y hy fun i hi hm => hb i hi (fun h => by rw [hm] at h; exact absurd h.2 (by simp))
theorem comp_bit (m : Nat) (hm : m < 256) (i : Nat) (hi : i < 8) : (255 - m).testBit i = !(m.testBit i) := by
  have := Nat.testBit_two_pow_sub_succ (x := m) (n := 8) hm i
  rw [show 2 ^ 8 - (m + 1) = 255 - m from by omega] at this
  rw [this]; simp [hi]
theorem rstx_bit (x m v : Nat) (hm : m < 256) (i : Nat) (hi : i < 8) : (rstx x m v).testBit i = if m.testBit i then v.testBit i else x.testBit i := by
  unfold rstx
  rw [Nat.testBit_or, Nat.testBit_and, Nat.testBit_and, comp_bit m hm i hi]
  cases m.testBit i <;> simp
theorem restrict_get (f : T) (m v : Nat) {x : Nat} (hx : x < 256) : (restrict f m v).getLsbD x = f.getLsbD (rstx x m v) := by
  rw [restrict_def, tab_get]; simp [hx]
theorem ext_iff {f g : T} (h : ∀ x, x < 256 → (f.getLsbD x = true ↔ g.getLsbD x = true)) : f = g := ext_get fun x hx => Bool.eq_iff_iff.2 (h x hx)
theorem or_lt {a b : Nat} (ha : a < 256) (hb : b < 256) : a ||| b < 256 := Nat.or_lt_two_pow (n := 8) ha hb
theorem andN_lt {a b : Nat} (ha : a < 256) : a &&& b < 256 := Nat.lt_of_le_of_lt Nat.and_le_left ha
theorem rstx_agree {x y m v : Nat} (hx : x < 256) (hy : y < 256) (hm : m < 256) (hv : v < 256) (h : Agree m x y) : rstx x m v = rstx y m v :=
  eq_of_bits (rstx_lt _ _ _ hx hv) (rstx_lt _ _ _ hy hv) fun i hi => by
    rw [rstx_bit _ _ _ hm i hi, rstx_bit _ _ _ hm i hi]
    cases e : m.testBit i
    · simpa using h i hi e
    · rfl
theorem agree_rstx {x m v : Nat} (hm : m < 256) : Agree m (rstx x m v) x := fun i hi e => by rw [rstx_bit _ _ _ hm i hi, e]; rfl
theorem agree_or {a b x y : Nat} (ha : a < 256) (hx : x < 256) (hy : y < 256) : Agree (a ||| b) x y ↔ ∃ z, z < 256 ∧ Agree a x z ∧ Agree b z y := by
  constructor
  · intro h
    refine ⟨rstx x a y, rstx_lt _ _ _ hx hy, (agree_rstx ha).symm, fun i hi hb => ?_⟩
    rw [rstx_bit _ _ _ ha i hi]
    cases e : a.testBit i
    · simpa using h i hi (by rw [Nat.testBit_or, e, hb]; rfl)
    · simp
  · rintro ⟨z, hz, h1, h2⟩ i hi hm
    rw [Nat.testBit_or, Bool.or_eq_false_iff] at hm
    exact (h1 i hi hm.1).trans (h2 i hi hm.2)
theorem exs_exs (f : T) (a b : Nat) (ha : a < 256) : halves (fun F G => F ||| G) (halves (fun F G => F ||| G) f a) b = halves (fun F G => F ||| G) f (a ||| b) := by
  refine ext_iff fun x hx => ?_
  rw [exs_get _ _ hx, exs_get _ _ hx]
  constructor
  · rintro ⟨y, hy, h, hb⟩
    obtain ⟨z, hz, h', hb'⟩ := (exs_get _ _ hy).1 h
    exact ⟨z, hz, h', (agree_or ha hz hx).2 ⟨y, hy, hb', hb⟩⟩
  · rintro ⟨z, hz, h, hb⟩
    obtain ⟨y, hy, h1, h2⟩ := (agree_or ha hz hx).1 hb
    exact ⟨y, hy, (exs_get _ _ hy).2 ⟨z, hz, h, h1⟩, h2⟩
theorem all_all (f : T) (a b : Nat) (ha : a < 256) : halves (fun F G => F &&& G) (halves (fun F G => F &&& G) f a) b = halves (fun F G => F &&& G) f (a ||| b) := by
  refine ext_iff fun x hx => ?_
  rw [all_get _ _ hx, all_get _ _ hx]
  constructor
  · intro h z hz hb
    obtain ⟨y, hy, h1, h2⟩ := (agree_or ha hz hx).1 hb
    exact (all_get _ _ hy).1 (h y hy h2) z hz h1
  · intro h y hy hb
    exact (all_get _ _ hy).2 fun z hz hb' => h z hz ((agree_or ha hz hx).2 ⟨y, hy, hb', hb⟩)
theorem or_exs (f : T) (a : Nat) : f ||| halves (fun F G => F ||| G) f a = halves (fun F G => F ||| G) f a := by
  refine ext_iff fun x hx => ?_
  rw [BitVec.getLsbD_or, Bool.or_eq_true]
  exact ⟨fun h => h.elim (fun h => (exs_get _ _ hx).2 ⟨x, hx, h, Agree.refl _ _⟩) id, Or.inr⟩
theorem and_all (f : T) (a : Nat) : f &&& halves (fun F G => F &&& G) f a = halves (fun F G => F &&& G) f a := by
  refine ext_iff fun x hx => ?_
  rw [BitVec.getLsbD_and, Bool.and_eq_true]
  exact ⟨And.right, fun h => ⟨(all_get _ _ hx).1 h x hx (Agree.refl _ _), h⟩⟩
/-- it doesn't hang on a mask's variables -/
def Indep (g : T) (m : Nat) : Prop := ∀ x y, x < 256 → y < 256 → Agree m x y → g.getLsbD x = true → g.getLsbD y = true
theorem indep_exs (f : T) (a : Nat) : Indep (halves (fun F G => F ||| G) f a) a := fun x y hx hy h hf => by
  obtain ⟨z, hz, h', hb⟩ := (exs_get _ _ hx).1 hf
  exact (exs_get _ _ hy).2 ⟨z, hz, h', hb.trans h⟩
theorem indep_all (f : T) (a : Nat) : Indep (halves (fun F G => F &&& G) f a) a := fun x y hx hy h hf =>
  (all_get _ _ hy).2 fun z hz hb => (all_get _ _ hx).1 hf z hz (hb.trans h.symm)
theorem indep_rst (f : T) (a v : Nat) (ha : a < 256) (hv : v < 256) : Indep (restrict f a v) a := fun x y hx hy h hf => by
  rw [restrict_get _ _ _ hy, ← rstx_agree hx hy ha hv h, ← restrict_get _ _ _ hx]; exact hf
theorem supTo_bit (f : T) (v : Nat) : ∀ k, k ≤ 8 → (supTo f k).testBit v = (decide (v < k) && decide (fix f (v : Int) false ≠ fix f (v : Int) true)) := by
  intro k
  induction k with
  | zero => intro _; simp [supTo]
  | succ k ih =>
    intro hk
    rw [supTo]
    split
    · rename_i h
      rw [ih (by omega)]
      by_cases e : v = k
      · subst e; rw [show decide (fix f (v : Int) false ≠ fix f (v : Int) true) = false from decide_eq_false (fun hn => hn h)]; simp
      · rw [show decide (v < k + 1) = decide (v < k) from by rw [decide_eq_decide]; omega]
    · rename_i h
      rw [Nat.testBit_or, ih (by omega), Nat.testBit_two_pow]
      by_cases e : v = k
      · subst e; rw [show decide (fix f (v : Int) false ≠ fix f (v : Int) true) = true from decide_eq_true h]; simp
      · rw [show decide (v < k + 1) = decide (v < k) from by rw [decide_eq_decide]; omega]
        simp [show ¬ k = v from fun h => e h.symm]
theorem support_bit (f : T) (v : Nat) : (support f).testBit v = (decide (v < 8) && decide (fix f (v : Int) false ≠ fix f (v : Int) true)) := by
  rw [support_def]; exact supTo_bit f v 8 (by omega)
theorem support_lt (f : T) : support f < 256 := by rw [support_def]; exact supTo_lt f 8 (by omega)
theorem sup_indep (g : T) (m : Nat) (h : Indep g m) : support g &&& m = 0 := by
  refine Nat.eq_of_testBit_eq fun i => ?_
  rw [Nat.testBit_and, support_bit, Nat.zero_testBit]
  by_cases hi : i < 8
  · cases e : m.testBit i
    · simp
    · have : fix g (i : Int) false = fix g (i : Int) true := ext_iff fun x hx => by
        have h0 := wth_lt x hx i hi false
        have h1 := wth_lt x hx i hi true
        rw [fix_get hi hx, fix_get hi hx]
        have ag : Agree m (wth x i false) (wth x i true) := fun j hj hm => by
          rw [wth_bit x hx i hi _ j hj, wth_bit x hx i hi _ j hj]
          by_cases ej : j = i
          · subst ej; rw [e] at hm; cases hm
          · simp [ej]
        exact ⟨h _ _ h0 h1 ag, h _ _ h1 h0 ag.symm⟩
      simp [this]
  · simp [hi]
theorem rst_exs (f : T) (a v : Nat) (ha : a < 256) (hv : v < 256) : restrict f a v &&& halves (fun F G => F ||| G) f a = restrict f a v := by
  refine ext_iff fun x hx => ?_
  rw [BitVec.getLsbD_and, Bool.and_eq_true]
  refine ⟨And.left, fun h => ⟨h, ?_⟩⟩
  rw [restrict_get _ _ _ hx] at h
  exact (exs_get _ _ hx).2 ⟨_, rstx_lt _ _ _ hx hv, h, agree_rstx ha⟩
theorem rst_all (f : T) (a v : Nat) (ha : a < 256) (hv : v < 256) : restrict f a v ||| halves (fun F G => F &&& G) f a = restrict f a v := by
  refine ext_iff fun x hx => ?_
  rw [BitVec.getLsbD_or, Bool.or_eq_true]
  refine ⟨fun h => h.elim id fun h => ?_, Or.inl⟩
  rw [restrict_get _ _ _ hx]
  exact (all_get _ _ hx).1 h _ (rstx_lt _ _ _ hx hv) (agree_rstx ha)
theorem rst_rst (f : T) (a b v : Nat) (ha : a < 256) (hb : b < 256) (hv : v < 256) : restrict (restrict f a v) (b &&& (255 - a)) v = restrict f (a ||| b) v := by
  refine ext_iff fun x hx => ?_
  have hc : b &&& (255 - a) < 256 := andN_lt hb
  have h1 := rstx_lt x (b &&& (255 - a)) v hx hv
  rw [restrict_get _ _ _ hx, restrict_get _ _ _ h1, restrict_get _ _ _ hx]
  rw [show rstx (rstx x (b &&& (255 - a)) v) a v = rstx x (a ||| b) v from eq_of_bits (rstx_lt _ _ _ h1 hv) (rstx_lt _ _ _ hx hv) fun i hi => by
    rw [rstx_bit _ _ _ ha i hi, rstx_bit _ _ _ hc i hi, rstx_bit _ _ _ (or_lt ha hb) i hi, Nat.testBit_and, Nat.testBit_or, comp_bit a ha i hi]
    cases a.testBit i <;> cases b.testBit i <;> simp]
end Tb
end Go.Proofs.Ytfgokhafiffbaaa
