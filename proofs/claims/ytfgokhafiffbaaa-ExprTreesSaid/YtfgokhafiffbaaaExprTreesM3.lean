/-
  Texts on which the law ExprTrees rests, part 3 of 9.
-/
import Derived.Test.YtfgokhafiffbaaaExprTreesM2
/-
  Tables with variables quantified or set: what each of them is at an assignment; the laws of TruthQuants. No program in sight.
-/
namespace Go.Proofs.Ytfgokhafiffbaaa
set_option linter.unusedVariables false
namespace Tb
theorem eq_of_bits {x y : Nat} (hx : x < 256) (hy : y < 256) (h : ∀ i, i < 8 → x.testBit i = y.testBit i) : x = y := by
  apply Nat.eq_of_testBit_eq
  intro i
  by_cases hi : i < 8
  · exact h i hi
  · have hp : 256 ≤ 2 ^ i := by
      have : 2 ^ 8 ≤ 2 ^ i := Nat.pow_le_pow_right (by omega) (by omega)
      simpa using this
    rw [Nat.testBit_lt_two_pow (by omega), Nat.testBit_lt_two_pow (by omega)]
theorem fix_get {f : T} {v : Nat} {b : Bool} {x : Nat} (hv : v < 8) (hx : x < 256) : (fix f (v : Int) b).getLsbD x = f.getLsbD (wth x v b) := by
  have hk : kn (v : Int) = true := by unfold kn; simp; omega
  rw [fix_yes hk, tab_get]
  simp [hx]

theorem exsTo_get (f : T) (m : Nat) : ∀ (k : Nat), k ≤ 8 → ∀ x, x < 256 →
    ((halvesTo (fun F G => F ||| G) f m k).getLsbD x = true ↔ ∃ y, y < 256 ∧ f.getLsbD y = true ∧ ∀ i, i < 8 → ¬ (i < k ∧ m.testBit i = true) → y.testBit i = x.testBit i) := by
  intro k
  induction k with
  | zero =>
    intro _ x hx
    rw [halvesTo_zero]
    constructor
    · intro h; exact ⟨x, hx, h, fun _ _ _ => rfl⟩
    · rintro ⟨y, hy, h, hb⟩
      rw [← eq_of_bits hy hx (fun i hi => hb i hi (by omega))]; exact h
  | succ k ih =>
    intro hk x hx
    have ih := ih (by omega)
    by_cases hm : m.testBit k = true
    · rw [halvesTo_yes hm, BitVec.getLsbD_or, Bool.or_eq_true, fix_get (by omega) hx, fix_get (by omega) hx]
      have hw : ∀ b, wth x k b < 256 := wth_lt x hx k (by omega)
      have hwb := wth_bit x hx k (by omega)
      rw [ih _ (hw false), ih _ (hw true)]
      have key : ∀ b, (∃ y, y < 256 ∧ f.getLsbD y = true ∧ ∀ i, i < 8 → ¬ (i < k ∧ m.testBit i = true) → y.testBit i = (wth x k b).testBit i) → ∃ y, y < 256 ∧ f.getLsbD y = true ∧ ∀ i, i < 8 → ¬ (i < k + 1 ∧ m.testBit i = true) → y.testBit i = x.testBit i := by
        rintro b ⟨y, hy, h, hb⟩
        refine ⟨y, hy, h, fun i hi hn => ?_⟩
        have hik : i ≠ k := fun e => hn ⟨by omega, e ▸ hm⟩
        rw [hb i hi (fun ⟨h1, h2⟩ => hn ⟨by omega, h2⟩), hwb b i hi, if_neg hik]
      constructor
      · rintro (h | h)
        · exact key _ h
        · exact key _ h
      · rintro ⟨y, hy, h, hb⟩
        have h2 : ∃ y', y' < 256 ∧ f.getLsbD y' = true ∧ ∀ i, i < 8 → ¬ (i < k ∧ m.testBit i = true) → y'.testBit i = (wth x k (y.testBit k)).testBit i := by
          refine ⟨y, hy, h, fun i hi hn => ?_⟩
          rw [hwb _ i hi]
          split
          · rename_i e; rw [e]
          · rename_i e; exact hb i hi (fun ⟨h1, h2⟩ => hn ⟨by omega, h2⟩)
        revert h2
        cases y.testBit k
        · exact Or.inl
        · exact Or.inr
    · have hm' : m.testBit k = false := by simpa using hm
      rw [halvesTo_no hm', ih x hx]
      have : ∀ i, (i < k ∧ m.testBit i = true) ↔ (i < k + 1 ∧ m.testBit i = true) := fun i =>
        ⟨fun ⟨a, b⟩ => ⟨by omega, b⟩, fun ⟨a, b⟩ => ⟨by by_cases e : i = k; · subst e; exact absurd b hm
                                                        · omega, b⟩⟩
      simp only [this]
theorem allTo_get (f : T) (m : Nat) : ∀ (k : Nat), k ≤ 8 → ∀ x, x < 256 →
    ((halvesTo (fun F G => F &&& G) f m k).getLsbD x = true ↔ ∀ y, y < 256 → (∀ i, i < 8 → ¬ (i < k ∧ m.testBit i = true) → y.testBit i = x.testBit i) → f.getLsbD y = true) := by
  intro k
  induction k with
  | zero =>
    intro _ x hx
    rw [halvesTo_zero]
    constructor
    · intro h y hy hb
      rw [eq_of_bits hy hx (fun i hi => hb i hi (by omega))]; exact h
    · intro h; exact h x hx (fun _ _ _ => rfl)
  | succ k ih =>
    intro hk x hx
    have ih := ih (by omega)
    by_cases hm : m.testBit k = true
    · rw [halvesTo_yes hm, BitVec.getLsbD_and, Bool.and_eq_true, fix_get (by omega) hx, fix_get (by omega) hx]
      have hw : ∀ b, wth x k b < 256 := wth_lt x hx k (by omega)
      have hwb := wth_bit x hx k (by omega)
      rw [ih _ (hw false), ih _ (hw true)]
      constructor
      · rintro ⟨h0, h1⟩ y hy hb
        have h2 : ∀ i, i < 8 → ¬ (i < k ∧ m.testBit i = true) → y.testBit i = (wth x k (y.testBit k)).testBit i := by
          intro i hi hn
          rw [hwb _ i hi]
          split
          · rename_i e; rw [e]
          · rename_i e; exact hb i hi (fun ⟨h1, h2⟩ => hn ⟨by omega, h2⟩)
        revert h2
        cases y.testBit k
        · exact h0 y hy
        · exact h1 y hy
      · intro h
        have key : ∀ b y, y < 256 → (∀ i, i < 8 → ¬ (i < k ∧ m.testBit i = true) → y.testBit i = (wth x k b).testBit i) → f.getLsbD y = true := by
          intro b y hy hb
          refine h y hy fun i hi hn => ?_
          have hik : i ≠ k := fun e => hn ⟨by omega, e ▸ hm⟩
          rw [hb i hi (fun ⟨h1, h2⟩ => hn ⟨by omega, h2⟩), hwb b i hi, if_neg hik]
        exact ⟨key false, key true⟩
    · have hm' : m.testBit k = false := by simpa using hm
      rw [halvesTo_no hm', ih x hx]
      have : ∀ i, (i < k ∧ m.testBit i = true) ↔ (i < k + 1 ∧ m.testBit i = true) := fun i =>
        ⟨fun ⟨a, b⟩ => ⟨by omega, b⟩, fun ⟨a, b⟩ => ⟨by by_cases e : i = k; · subst e; exact absurd b hm
                                                        · omega, b⟩⟩
      simp only [this]
/-- two assignments agree but for a mask -/
def Agree (m x y : Nat) : Prop := ∀ i, i < 8 → m.testBit i = false → x.testBit i = y.testBit i
theorem Agree.refl (m x : Nat) : Agree m x x := fun _ _ _ => rfl
theorem Agree.symm {m x y : Nat} (h : Agree m x y) : Agree m y x := fun i hi hm => (h i hi hm).symm
theorem Agree.trans {m x y z : Nat} (h : Agree m x y) (h' : Agree m y z) : Agree m x z := fun i hi hm => (h i hi hm).trans (h' i hi hm)
theorem exs_get (f : T) (m : Nat) {x : Nat} (hx : x < 256) : (halves (fun F G => F ||| G) f m).getLsbD x = true ↔ ∃ y, y < 256 ∧ f.getLsbD y = true ∧ Agree m y x := by
  rw [halves_def, exsTo_get f m 8 (by omega) x hx]
  constructor
  · rintro ⟨y, hy, h, hb⟩
    exact ⟨y, hy, h, fun i hi hm => hb i hi (fun h => by rw [hm] at h; exact absurd h.2 (by simp))⟩
  · rintro ⟨y, hy, h, hb⟩
    exact ⟨y, hy, h, fun i hi hm => hb i hi (by cases e : m.testBit i; rfl; exact absurd ⟨hi, e⟩ hm)⟩
theorem all_get (f : T) (m : Nat) {x : Nat} (hx : x < 256) : (halves (fun F G => F &&& G) f m).getLsbD x = true ↔ ∀ y, y < 256 → Agree m y x → f.getLsbD y = true := by
  rw [halves_def, allTo_get f m 8 (by omega) x hx]
  constructor
  · intro h y hy hb
    exact h y hy fun i hi hm => hb i hi (by cases e : m.testBit i; rfl; exact absurd ⟨hi, e⟩ hm)
  · intro h y hy hb
    exact h y hy fun i hi hm => hb i hi (fun h => by rw [hm] at h; exact absurd h.2 (by simp))
theorem comp_bit (m : Nat) (hm : m < 256) (i : Nat) (hi : i < 8) : (255 - m).testBit i = !(m.testBit i) := by
  have := Nat.testBit_two_pow_sub_succ (x := m) (n := 8) hm i
  rw [show 2 ^ 8 - (m + 1) = 255 - m from by omega] at this
  rw [this]; simp [hi]
theorem rstx_bit (x m v : Nat) (hm : m < 256) (i : Nat) (hi : i < 8) : (rstx x m v).testBit i = if m.testBit i then v.testBit i else x.testBit i := by
  unfold rstx
  rw [Nat.testBit_or, Nat.testBit_and, Nat.testBit_and, comp_bit m hm i hi]
  cases m.testBit i <;> simp
theorem restrict_get (f : T) (m v : Nat) {x : Nat} (hx : x < 256) : (restrict f m v).getLsbD x = f.getLsbD (rstx x m v) := by
  rw [restrict_def, tab_get]; simp [hx]
theorem ext_iff {f g : T} (h : ∀ x, x < 256 → (f.getLsbD x = true ↔ g.getLsbD x = true)) : f = g := ext_get fun x hx => Bool.eq_iff_iff.2 (h x hx)
theorem or_lt {a b : Nat} (ha : a < 256) (hb : b < 256) : a ||| b < 256 := Nat.or_lt_two_pow (n := 8) ha hb
theorem andN_lt {a b : Nat} (ha : a < 256) : a &&& b < 256 := Nat.lt_of_le_of_lt Nat.and_le_left ha
theorem rstx_agree {x y m v : Nat} (hx : x < 256) (hy : y < 256) (hm : m < 256) (hv : v < 256) (h : Agree m x y) : rstx x m v = rstx y m v :=
  eq_of_bits (rstx_lt _ _ _ hx hv) (rstx_lt _ _ _ hy hv) fun i hi => by
    rw [rstx_bit _ _ _ hm i hi, rstx_bit _ _ _ hm i hi]
    cases e : m.testBit i
    · simpa using h i hi e
    · rfl
theorem agree_rstx {x m v : Nat} (hm : m < 256) : Agree m (rstx x m v) x := fun i hi e => by rw [rstx_bit _ _ _ hm i hi, e]; rfl
theorem agree_or {a b x y : Nat} (ha : a < 256) (hx : x < 256) (hy : y < 256) : Agree (a ||| b) x y ↔ ∃ z, z < 256 ∧ Agree a x z ∧ Agree b z y := by
  constructor
  · intro h
    refine ⟨rstx x a y, rstx_lt _ _ _ hx hy, (agree_rstx ha).symm, fun i hi hb => ?_⟩
    rw [rstx_bit _ _ _ ha i hi]
    cases e : a.testBit i
    · simpa using h i hi (by rw [Nat.testBit_or, e, hb]; rfl)
    · simp
  · rintro ⟨z, hz, h1, h2⟩ i hi hm
    rw [Nat.testBit_or, Bool.or_eq_false_iff] at hm
    exact (h1 i hi hm.1).trans (h2 i hi hm.2)
theorem exs_exs (f : T) (a b : Nat) (ha : a < 256) : halves (fun F G => F ||| G) (halves (fun F G => F ||| G) f a) b = halves (fun F G => F ||| G) f (a ||| b) := by
  refine ext_iff fun x hx => ?_
  rw [exs_get _ _ hx, exs_get _ _ hx]
  constructor
  · rintro ⟨y, hy, h, hb⟩
    obtain ⟨z, hz, h', hb'⟩ := (exs_get _ _ hy).1 h
    exact ⟨z, hz, h', (agree_or ha hz hx).2 ⟨y, hy, hb', hb⟩⟩
  · rintro ⟨z, hz, h, hb⟩
    obtain ⟨y, hy, h1, h2⟩ := (agree_or ha hz hx).1 hb
    exact ⟨y, hy, (exs_get _ _ hy).2 ⟨z, hz, h, h1⟩, h2⟩
theorem all_all (f : T) (a b : Nat) (ha : a < 256) : halves (fun F G => F &&& G) (halves (fun F G => F &&& G) f a) b = halves (fun F G => F &&& G) f (a ||| b) := by
  refine ext_iff fun x hx => ?_
  rw [all_get _ _ hx, all_get _ _ hx]
  constructor
  · intro h z hz hb
    obtain ⟨y, hy, h1, h2⟩ := (agree_or ha hz hx).1 hb
    exact (all_get _ _ hy).1 (h y hy h2) z hz h1
  · intro h y hy hb
    exact (all_get _ _ hy).2 fun z hz hb' => h z hz ((agree_or ha hz hx).2 ⟨y, hy, hb', hb⟩)
theorem or_exs (f : T) (a : Nat) : f ||| halves (fun F G => F ||| G) f a = halves (fun F G => F ||| G) f a := by
  refine ext_iff fun x hx => ?_
  rw [BitVec.getLsbD_or, Bool.or_eq_true]
  exact ⟨fun h => h.elim (fun h => (exs_get _ _ hx).2 ⟨x, hx, h, Agree.refl _ _⟩) id, Or.inr⟩
theorem and_all (f : T) (a : Nat) : f &&& halves (fun F G => F &&& G) f a = halves (fun F G => F &&& G) f a := by
  refine ext_iff fun x hx => ?_
  rw [BitVec.getLsbD_and, Bool.and_eq_true]
  exact ⟨And.right, fun h => ⟨(all_get _ _ hx).1 h x hx (Agree.refl _ _), h⟩⟩
/-- it doesn't hang on a mask's variables -/
def Indep (g : T) (m : Nat) : Prop := ∀ x y, x < 256 → y < 256 → Agree m x y → g.getLsbD x = true → g.getLsbD y = true
theorem indep_exs (f : T) (a : Nat) : Indep (halves (fun F G => F ||| G) f a) a := fun x y hx hy h hf => by
  obtain ⟨z, hz, h', hb⟩ := (exs_get _ _ hx).1 hf
  exact (exs_get _ _ hy).2 ⟨z, hz, h', hb.trans h⟩
theorem indep_all (f : T) (a : Nat) : Indep (halves (fun F G => F &&& G) f a) a := fun x y hx hy h hf =>
  (all_get _ _ hy).2 fun z hz hb => (all_get _ _ hx).1 hf z hz (hb.trans h.symm)
theorem indep_rst (f : T) (a v : Nat) (ha : a < 256) (hv : v < 256) : Indep (restrict f a v) a := fun x y hx hy h hf => by
  rw [restrict_get _ _ _ hy, ← rstx_agree hx hy ha hv h, ← restrict_get _ _ _ hx]; exact hf
theorem supTo_bit (f : T) (v : Nat) : ∀ k, k ≤ 8 → (supTo f k).testBit v = (decide (v < k) && decide (fix f (v : Int) false ≠ fix f (v : Int) true)) := by
  intro k
  induction k with
  | zero => intro _; simp [supTo]
  | succ k ih =>
    intro hk
    rw [supTo]
    split
    · rename_i h
      rw [ih (by omega)]
      by_cases e : v = k
      · subst e; rw [show decide (fix f (v : Int) false ≠ fix f (v : Int) true) = false from decide_eq_false (fun hn => hn h)]; simp
      · rw [show decide (v < k + 1) = decide (v < k) from by rw [decide_eq_decide]; omega]
    · rename_i h
      rw [Nat.testBit_or, ih (by omega), Nat.testBit_two_pow]
      by_cases e : v = k
      · subst e; rw [show decide (fix f (v : Int) false ≠ fix f (v : Int) true) = true from decide_eq_true h]; simp
      · rw [show decide (v < k + 1) = decide (v < k) from by rw [decide_eq_decide]; omega]
        simp [show ¬ k = v from fun h => e h.symm]
theorem support_bit (f : T) (v : Nat) : (support f).testBit v = (decide (v < 8) && decide (fix f (v : Int) false ≠ fix f (v : Int) true)) := by
  rw [support_def]; exact supTo_bit f v 8 (by omega)
theorem support_lt (f : T) : support f < 256 := by rw [support_def]; exact supTo_lt f 8 (by omega)
theorem sup_indep (g : T) (m : Nat) (h : Indep g m) : support g &&& m = 0 := by
  refine Nat.eq_of_testBit_eq fun i => ?_
  rw [Nat.testBit_and, support_bit, Nat.zero_testBit]
  by_cases hi : i < 8
  · cases e : m.testBit i
    · simp
    · have : fix g (i : Int) false = fix g (i : Int) true := ext_iff fun x hx => by
        have h0 := wth_lt x hx i hi false
        have h1 := wth_lt x hx i hi true
        rw [fix_get hi hx, fix_get hi hx]
        have ag : Agree m (wth x i false) (wth x i true) := fun j hj hm => by
          rw [wth_bit x hx i hi _ j hj, wth_bit x hx i hi _ j hj]
          by_cases ej : j = i
          · subst ej; rw [e] at hm; cases hm
          · simp [ej]
        exact ⟨h _ _ h0 h1 ag, h _ _ h1 h0 ag.symm⟩
      simp [this]
  · simp [hi]
theorem rst_exs (f : T) (a v : Nat) (ha : a < 256) (hv : v < 256) : restrict f a v &&& halves (fun F G => F ||| G) f a = restrict f a v := by
  refine ext_iff fun x hx => ?_
  rw [BitVec.getLsbD_and, Bool.and_eq_true]
  refine ⟨And.left, fun h => ⟨h, ?_⟩⟩
  rw [restrict_get _ _ _ hx] at h
  exact (exs_get _ _ hx).2 ⟨_, rstx_lt _ _ _ hx hv, h, agree_rstx ha⟩
theorem rst_all (f : T) (a v : Nat) (ha : a < 256) (hv : v < 256) : restrict f a v ||| halves (fun F G => F &&& G) f a = restrict f a v := by
  refine ext_iff fun x hx => ?_
  rw [BitVec.getLsbD_or, Bool.or_eq_true]
  refine ⟨fun h => h.elim id fun h => ?_, Or.inl⟩
  rw [restrict_get _ _ _ hx]
  exact (all_get _ _ hx).1 h _ (rstx_lt _ _ _ hx hv) (agree_rstx ha)
theorem rst_rst (f : T) (a b v : Nat) (ha : a < 256) (hb : b < 256) (hv : v < 256) : restrict (restrict f a v) (b &&& (255 - a)) v = restrict f (a ||| b) v := by
  refine ext_iff fun x hx => ?_
  have hc : b &&& (255 - a) < 256 := andN_lt hb
  have h1 := rstx_lt x (b &&& (255 - a)) v hx hv
  rw [restrict_get _ _ _ hx, restrict_get _ _ _ h1, restrict_get _ _ _ hx]
  rw [show rstx (rstx x (b &&& (255 - a)) v) a v = rstx x (a ||| b) v from eq_of_bits (rstx_lt _ _ _ h1 hv) (rstx_lt _ _ _ hx hv) fun i hi => by
    rw [rstx_bit _ _ _ ha i hi, rstx_bit _ _ _ hc i hi, rstx_bit _ _ _ (or_lt ha hb) i hi, Nat.testBit_and, Nat.testBit_or, comp_bit a ha i hi]
    cases a.testBit i <;> cases b.testBit i <;> simp]
end Tb
end Go.Proofs.Ytfgokhafiffbaaa

/-
  What the walks of the laws over tables are made of, more: numbers, bools, empty tables.
-/
namespace Go.Proofs.Ytfgokhafiffbaaa
set_option linter.unusedVariables false
open Go.RowKit

section
variable {P : Program} {a : Act} {u : World} {o : Oper} {x y : Operand}
theorem exec_bin {op : BinOp} {t t' : TypeId} {p q r : Value} (hop : o.op = .binOp op t x y t') (hx : a.eval x = p) (hy : a.eval y = q) (hg : (eqGuard op t x y p q).run P u = .ok () u) (h : (binOp op t p q).run P u = .ok r u) :
    (execOp a.eval o).run P u = .ok (.value r) u := by
  unfold execOp
  simp only [hop, hx, hy]
  simp [Sem.run_bind, hg, h]
theorem exec_un {op : UnOp} {t : TypeId} {p r : Value} (hop : o.op = .unOp op t x) (hx : a.eval x = p) (h : (Op.unary op p).run P u = .ok r u) :
    (execOp a.eval o).run P u = .ok (.value r) u := by
  unfold execOp
  simp only [hop, hx]
  simp [h]
theorem exec_assign {v : Value} (hop : o.op = .assign x) (hx : a.eval x = v) : (execOp a.eval o).run P u = .ok (.value v) u := by
  unfold execOp
  simp only [hop, hx]
  rfl
theorem exec_pick_and {c : Operand} {p q : Bool} (hop : o.op = .pick c x y) (hc : a.eval c = .bool p) (hx : a.eval x = bif p then .bool q else undef) (hy : a.eval y = .bool false) : (execOp a.eval o).run P u = .ok (.value (.bool (p && q))) u := by
  unfold execOp
  simp only [hop, hc, hx, hy]
  cases p <;> rfl
theorem exec_pick_or {c : Operand} {p q : Bool} (hop : o.op = .pick c x y) (hc : a.eval c = .bool p) (hx : a.eval x = .bool true) (hy : a.eval y = bif p then undef else .bool q) : (execOp a.eval o).run P u = .ok (.value (.bool (p || q))) u := by
  unfold execOp
  simp only [hop, hc, hx, hy]
  cases p <;> rfl
theorem guard_int {op : BinOp} {t : TypeId} {k k' : IntKind} {p q : Int} (P : Program) (u : World) : (eqGuard op t x y (.int k p) (.int k' q)).run P u = .ok () u := by
  unfold eqGuard
  cases op <;> rfl
theorem guard_bool {op : BinOp} {t : TypeId} {p q : Bool} (P : Program) (u : World) : (eqGuard op t x y (.bool p) (.bool q)).run P u = .ok () u := by
  unfold eqGuard
  cases op <;> rfl
end
section
variable {t : TypeId} (P : Program) (u : World)
theorem bin_or8 {m n : Nat} (hm : m < 256) (hn : n < 256) (P : Program) (u : World) : (binOp .or t (.int .u8 (m : Int)) (.int .u8 (n : Int))).run P u = .ok (.int .u8 ((m ||| n : Nat) : Int)) u := by
  rw [← u8_or_nat m n hm hn]; rfl
theorem bin_and8 {m n : Nat} (hm : m < 256) (hn : n < 256) (P : Program) (u : World) : (binOp .and t (.int .u8 (m : Int)) (.int .u8 (n : Int))).run P u = .ok (.int .u8 ((m &&& n : Nat) : Int)) u := by
  rw [← u8_and_nat m n hm hn]; rfl
theorem bin_andNot8 {m n : Nat} (hm : m < 256) (hn : n < 256) (P : Program) (u : World) : (binOp .andNot t (.int .u8 (m : Int)) (.int .u8 (n : Int))).run P u = .ok (.int .u8 ((m &&& (255 - n) : Nat) : Int)) u := by
  rw [← u8_andNot_nat m n hm hn]; rfl
theorem bin_shr8 {m k : Nat} {kk : IntKind} (hm : m < 256) (hk : k < 8) (P : Program) (u : World) : (binOp .shr t (.int .u8 (m : Int)) (.int kk (k : Int))).run P u = .ok (.int .u8 ((m / 2 ^ k : Nat) : Int)) u := by
  have e : (m : Int).fdiv (2 ^ min ((k : Int)).toNat IntKind.u8.bits) = ((m / 2 ^ k : Nat) : Int) := by
    rw [show min ((k : Int)).toNat IntKind.u8.bits = k from by simp [IntKind.bits]; omega]
    rw [Int.fdiv_eq_ediv_of_nonneg _ (by exact_mod_cast Nat.zero_le (2 ^ k))]
    norm_cast
  simp only [binOp, Op.shift]
  rw [if_neg (by omega), e]; rfl
theorem bin_add64 {m n : Nat} (hm : m < 4294967296) (hn : n < 4294967296) (P : Program) (u : World) : (binOp .add t (.int .i64 (m : Int)) (.int .i64 (n : Int))).run P u = .ok (.int .i64 ((m + n : Nat) : Int)) u := by
  have e : IntKind.i64.wrap ((m : Int) + n) = ((m + n : Nat) : Int) := by rw [IntKind.wrap_i64]; omega
  rw [← e]; rfl
theorem bin_mul64 {m n : Nat} (hm : m < 65536) (hn : n < 65536) (P : Program) (u : World) : (binOp .mul t (.int .i64 (m : Int)) (.int .i64 (n : Int))).run P u = .ok (.int .i64 ((m * n : Nat) : Int)) u := by
  have h : m * n < 65536 * 65536 := Nat.mul_lt_mul'' hm hn
  have e : IntKind.i64.wrap ((m : Int) * n) = ((m * n : Nat) : Int) := by rw [IntKind.wrap_i64, ← Int.natCast_mul]; omega
  rw [← e]; rfl
theorem bin_eqN {k : IntKind} {m n : Nat} (P : Program) (u : World) : (binOp .eql t (.int k (m : Int)) (.int k (n : Int))).run P u = .ok (.bool (decide (m = n))) u := by
  have e : decide (m = n) = ((m : Int) == (n : Int)) := by
    rw [Bool.eq_iff_iff, decide_eq_true_iff, beq_iff_eq]; omega
  rw [e]
  simp [binOp, go_sem]
theorem bin_eqN1 {k : IntKind} {m n : Nat} (h : m = n) (P : Program) (u : World) : (binOp .eql t (.int k (m : Int)) (.int k (n : Int))).run P u = .ok (.bool true) u := by
  rw [bin_eqN]; simp [h]
theorem un_not {b : Bool} (P : Program) (u : World) : (Op.unary .not (.bool b)).run P u = .ok (.bool (!b)) u := rfl
end
theorem equal_bool (d : Nat) (p q : Bool) (w : World) : Sem.run Try.prog (Op.equalIn (d + 1) 4 (.bool p) (.bool q)) w = .ok (p == q) w := by
  simp [Op.equalIn, go_sem]
theorem bin_eqB {p q : Bool} (u : World) : (binOp .eql 4 (.bool p) (.bool q)).run Try.prog u = .ok (.bool (p == q)) u := by
  have h := equal_bool 9999 p q u
  simp [binOp, Op.equal, Op.maxDepth, h]
theorem bin_neB {p q : Bool} (u : World) : (binOp .neq 4 (.bool p) (.bool q)).run Try.prog u = .ok (.bool (!(p == q))) u := by
  have h := equal_bool 9999 p q u
  simp [binOp, Op.equal, Op.maxDepth, h]
theorem bin_eqB1 {p q : Bool} (h : p = q) (u : World) : (binOp .eql 4 (.bool p) (.bool q)).run Try.prog u = .ok (.bool true) u := by
  rw [bin_eqB, h]; simp
theorem exec_neT {a : Act} {u : World} {o : Oper} {x y : Operand} {F G : Tb.T} (hop : o.op = .binOp .neq 29 x y 29) (hx : a.eval x = Tb.tv F) (hy : a.eval y = Tb.tv G) :
    (execOp a.eval o).run Try.prog u = .ok (.value (.bool (decide (F ≠ G)))) u := by
  have heq := run_equal_max (F := F) (G := G) rfl
  unfold execOp
  simp only [hop, hx, hy]
  go_simp
theorem exec_conv {a : Act} {u : World} {o : Oper} {x : Operand} {m : Nat} (hop : o.op = .convert 5 3 x) (hx : a.eval x = .int .u8 (m : Int)) (hm : m < 256) :
    (execOp a.eval o).run Try.prog u = .ok (.value (.int .i64 (m : Int))) u := by
  have hw : IntKind.i64.wrap (m : Int) = (m : Int) := by rw [IntKind.wrap_i64]; omega
  unfold execOp
  simp only [hop, hx]
  go_simp
theorem exec_zero {a : Act} {u : World} {o : Oper} (hop : o.op = .build 29 #[]) :
    (execOp a.eval o).run Try.prog u = .ok (.value (Tb.tv 0#256)) u := by
  unfold Tb.tv
  rw [Tb.wd_zero, Tb.wd_zero, Tb.wd_zero, Tb.wd_zero]
  unfold execOp
  simp only [hop]
  go_simp
end Go.Proofs.Ytfgokhafiffbaaa

/-
  Formulas: tables, what it hands back.
-/
namespace Go.Proofs.Ytfgokhafiffbaaa
set_option linter.unusedVariables false
open Go.RowKit

set_option maxHeartbeats 4000000 in
theorem tables1_any (f g : Tb.T) (w : World) : Calls Try.prog 74 #[Tb.tv f, Tb.tv g] w fun e w' => e = .returned (Tb.tv ((~~~f) ||| g)) ∧ Below w.heap.size w w' := by
  have hK := (((Keep.nil w).new f).new g).new 0#256
  simp only [List.cons_append, List.nil_append, alloc_size] at hK
  have HK := Bx.mk hK
  clear hK
  go_enter Try.func74, Try.ntmps74
  go_wp2_with fail
  refine region_any 4 (fun u => Keep w u [(w.heap.size, f), (w.heap.size + 1, g), (w.heap.size + 1 + 1, 0#256)]) (by kernel_rfl) ?_
  rw [zeros_tab]
  generalize hu : World.drew _ = u0
  have hS0 : Keep w u0 [(w.heap.size, f), (w.heap.size + 1, g), (w.heap.size + 1 + 1, 0#256)] := by rw [← hu]; exact HK.out.drew
  clear hu HK
  refine any_take (i := 0) (Tb.tv f) rfl rfl (by kernel_rfl) (by kernel_rfl) (by kernel_rfl) (by kernel_rfl) (fun _ _ d _ _ h => by cases d <;> exact h) (fun u hS => exec_load rfl rfl (hS.at_ 0 _ _ rfl)) hS0 ?_
  (try simp only [Act.put]); (try simp only [List.getElem_toArray]); (try simp only [List.getElem_cons_succ]); (try simp only [List.getElem_cons_zero]); (try simp only [List.setIfInBounds_toArray]); (try simp only [List.set_cons_succ]); (try simp only [List.set_cons_zero])
  refine any_take (i := 2) (Tb.tv g) rfl rfl (by kernel_rfl) (by kernel_rfl) (by kernel_rfl) (by kernel_rfl) (fun _ _ d _ _ h => by cases d <;> exact h) (fun u hS => exec_load rfl rfl (hS.at_ 1 _ _ rfl)) hS0 ?_
  (try simp only [Act.put]); (try simp only [List.getElem_toArray]); (try simp only [List.getElem_cons_succ]); (try simp only [List.getElem_cons_zero]); (try simp only [List.setIfInBounds_toArray]); (try simp only [List.set_cons_succ]); (try simp only [List.set_cons_zero])
  refine any_branch [1] (by kernel_rfl) rfl fun ix hix => ?_
  simp only [List.mem_cons, List.not_mem_nil, or_false] at hix
  subst hix
  refine any_op rfl rfl fun K hK => ?_
  go_simp
  refine (not_any f _).mono ?_
  rintro e u1 ⟨rfl, hb1⟩
  have hS1 := hS0.step hb1
  refine hK _ _ (fun _ => hS1) ?_
  (try simp only [Act.put]); (try simp only [List.getElem_toArray]); (try simp only [List.getElem_cons_succ]); (try simp only [List.getElem_cons_zero]); (try simp only [List.setIfInBounds_toArray]); (try simp only [List.set_cons_succ]); (try simp only [List.set_cons_zero])
  clear hK
  refine any_branch [3] (by kernel_rfl) rfl fun ix hix => ?_
  simp only [List.mem_cons, List.not_mem_nil, or_false] at hix
  subst hix
  refine any_op rfl rfl fun K hK => ?_
  go_simp
  refine (or_any (~~~f) g _).mono ?_
  rintro e u2 ⟨rfl, hb2⟩
  have hS2 := hS1.step hb2
  refine hK _ _ (fun _ => hS2) ?_
  (try simp only [Act.put]); (try simp only [List.getElem_toArray]); (try simp only [List.getElem_cons_succ]); (try simp only [List.getElem_cons_zero]); (try simp only [List.setIfInBounds_toArray]); (try simp only [List.set_cons_succ]); (try simp only [List.set_cons_zero])
  clear hK
  refine any_branch [4] (by kernel_rfl) rfl fun ix hix => ?_
  simp only [List.mem_cons, List.not_mem_nil, or_false] at hix
  subst hix
  refine any_op rfl rfl fun K hK => ?_
  obtain ⟨⟨r0, r1, r2, r3⟩, g0, g1, g2, g3⟩ := tfacts (hS2.at_ 2 _ _ rfl)
  unfold Tb.tv
  go_simp
  refine hK _ _ (fun h => absurd rfl h) ?_
  (try simp only [Act.put]); (try simp only [List.getElem_toArray]); (try simp only [List.getElem_cons_succ]); (try simp only [List.getElem_cons_zero]); (try simp only [List.setIfInBounds_toArray]); (try simp only [List.set_cons_succ]); (try simp only [List.set_cons_zero])
  clear hK
  refine any_end (by kernel_rfl) ?_
  have HSf := Bx.mk (hS2.store 2 ((~~~f) ||| g) rfl (by omega))
  clear r0 r1 r2 r3 g0 g1 g2 g3 hS0 hS1 hS2 hb1 hb2
  go_wp2_with fail
  have hE := HSf.out.at_ 2 _ _ rfl
  obtain ⟨⟨r0, r1, r2, r3⟩, _, _, _, _⟩ := tfacts hE
  refine bodyPost_ret (v := Tb.tv ((~~~f) ||| g)) (by simp [results, Try.results74, go_sem, r0, r1, r2, r3] <;> rfl) rfl ⟨rfl, HSf.out.below⟩

set_option maxHeartbeats 4000000 in
theorem tables2_any (f g : Tb.T) (w : World) : Calls Try.prog 75 #[Tb.tv f, Tb.tv g] w fun e w' => e = .returned (Tb.tv (~~~(f ^^^ g))) ∧ Below w.heap.size w w' := by
  have hK := (((Keep.nil w).new f).new g).new 0#256
  simp only [List.cons_append, List.nil_append, alloc_size] at hK
  have HK := Bx.mk hK
  clear hK
  go_enter Try.func75, Try.ntmps75
  go_wp2_with fail
  rw [zeros_tab]
  refine (xor_any f g _).mono ?_
  rintro e u1 ⟨rfl, hb1⟩
  have HS1 := Bx.mk (HK.out.step hb1)
  clear hb1
  go_wp2_with fail
  refine (not_any (f ^^^ g) _).mono ?_
  rintro e u2 ⟨rfl, hb2⟩
  have hS2 := HS1.out.step hb2
  obtain ⟨⟨r0, r1, r2, r3⟩, g0, g1, g2, g3⟩ := tfacts (hS2.at_ 2 _ _ rfl)
  have HSf := Bx.mk (hS2.store 2 (~~~(f ^^^ g)) rfl (by omega))
  clear hb2 hS2
  unfold Tb.tv
  go_wp2_with fail
  clear r0 r1 r2 r3 g0 g1 g2 g3
  have hE := HSf.out.at_ 2 _ _ rfl
  obtain ⟨⟨r0, r1, r2, r3⟩, _, _, _, _⟩ := tfacts hE
  refine bodyPost_ret (v := Tb.tv (~~~(f ^^^ g))) (by simp [results, Try.results75, go_sem, r0, r1, r2, r3] <;> rfl) rfl ⟨rfl, HSf.out.below⟩

theorem tables_4 (w : World) : Calls Try.prog 51 #[.int .i64 4] w fun e w' => e = .returned (.func (.func 71) #[] #[]) ∧ w' = w := by
  go_enter Try.func51, Try.ntmps51
  go_wp2_with fail
  go_ret
  exact ⟨rfl, rfl⟩

theorem tables_5 (w : World) : Calls Try.prog 51 #[.int .i64 5] w fun e w' => e = .returned (.func (.func 70) #[] #[]) ∧ w' = w := by
  go_enter Try.func51, Try.ntmps51
  go_wp2_with fail
  go_ret
  exact ⟨rfl, rfl⟩

theorem tables_6 (w : World) : Calls Try.prog 51 #[.int .i64 6] w fun e w' => e = .returned (.func (.func 73) #[] #[]) ∧ w' = w := by
  go_enter Try.func51, Try.ntmps51
  go_wp2_with fail
  go_ret
  exact ⟨rfl, rfl⟩

theorem tables_7 (w : World) : Calls Try.prog 51 #[.int .i64 7] w fun e w' => e = .returned (.func (.func 74) #[] #[]) ∧ w' = w := by
  go_enter Try.func51, Try.ntmps51
  go_wp2_with fail
  go_ret
  exact ⟨rfl, rfl⟩

theorem tables_8 (w : World) : Calls Try.prog 51 #[.int .i64 8] w fun e w' => e = .returned (.func (.func 75) #[] #[]) ∧ w' = w := by
  go_enter Try.func51, Try.ntmps51
  go_wp2_with fail
  go_ret
  exact ⟨rfl, rfl⟩

end Go.Proofs.Ytfgokhafiffbaaa

/-
  Formulas: table.
-/
namespace Go.Proofs.Ytfgokhafiffbaaa
set_option linter.unusedVariables false
open Go.RowKit

/-- the cells of three tables -/
def lc (f g h : Tb.T) : Array Value := #[.int .u64 (Tb.wd f 0), .int .u64 (Tb.wd f 1), .int .u64 (Tb.wd f 2), .int .u64 (Tb.wd f 3), .int .u64 (Tb.wd g 0), .int .u64 (Tb.wd g 1), .int .u64 (Tb.wd g 2), .int .u64 (Tb.wd g 3), .int .u64 (Tb.wd h 0), .int .u64 (Tb.wd h 1), .int .u64 (Tb.wd h 2), .int .u64 (Tb.wd h 3)]
/-- the table of a node, of the tables of its kids -/
def Ex.tabk (k v : Int) (l : List Tb.T) : Tb.T :=
  if k = 1 then Tb.var v else if k = 2 then Tb.cst (decide (v = 1)) else if k = 3 then ~~~ (l.getD 0 0#256)
  else if k = 4 then l.getD 0 0#256 &&& l.getD 1 0#256 else if k = 5 then l.getD 0 0#256 ||| l.getD 1 0#256 else if k = 6 then l.getD 0 0#256 ^^^ l.getD 1 0#256
  else if k = 7 then (~~~ (l.getD 0 0#256)) ||| l.getD 1 0#256 else if k = 8 then ~~~ (l.getD 0 0#256 ^^^ l.getD 1 0#256)
  else if k = 9 then (l.getD 0 0#256 &&& l.getD 1 0#256) ||| (~~~ (l.getD 0 0#256) &&& l.getD 2 0#256)
  else if k = 10 then Tb.halves (fun F G => F &&& G) (l.getD 0 0#256) (2 ^ v.toNat) else Tb.halves (fun F G => F ||| G) (l.getD 0 0#256) (2 ^ v.toNat)
def Fo.tabs : Fo → List Tb.T
  | .nil => []
  | .cons k _ v kids rest => Ex.tabk k v kids.tabs :: rest.tabs
def Ex.table (t : Tr) : Tb.T := Ex.tabk t.k t.v t.kids.tabs
/-- where table stands -/
structure TS (w wr : World) (k a v : Int) (sl : Value) (f g h : Tb.T) : Prop where
  be : Below w.heap.size w wr
  e : Blk wr w.heap.size 36 #[.int .i64 k, .int .i64 a, .int .i64 v, sl]
  r : Blk wr (w.heap.size + 1) 29 (Tb.tcells 0#256)
  l : Blk wr (w.heap.size + 2) 67 (lc f g h)
theorem TS.size {w wr : World} {k a v : Int} {sl : Value} {f g h : Tb.T} (s : TS w wr k a v sl f g h) : w.heap.size + 3 ≤ wr.heap.size := s.l.lt
theorem TS.step {w wr u : World} {k a v : Int} {sl : Value} {f g h : Tb.T} (s : TS w wr k a v sl f g h) (hb : Below wr.heap.size wr u) : TS w u k a v sl f g h := by
  have hz := s.size
  exact ⟨s.be.trans (hb.mono s.be.size), s.e.below hb (by omega), s.r.below hb (by omega), s.l.below hb (by omega)⟩
theorem TS.alloc {w wr : World} {k a v : Int} {sl : Value} {f g h : Tb.T} (s : TS w wr k a v sl f g h) (o : Obj) : TS w (wr.alloc o) k a v sl f g h := s.step ((Below.refl _ _).alloc (Nat.le_refl _) o)
theorem lc_zero : (#[.int .u64 0, .int .u64 0, .int .u64 0, .int .u64 0, .int .u64 0, .int .u64 0, .int .u64 0, .int .u64 0, .int .u64 0, .int .u64 0, .int .u64 0, .int .u64 0] : Array Value) = lc 0#256 0#256 0#256 := by
  unfold lc
  rw [Tb.wd_zero 0, Tb.wd_zero 1, Tb.wd_zero 2, Tb.wd_zero 3]
theorem TS.start (w : World) (k a v : Int) (sl : Value) : TS w (((w.alloc (.cells #[.int .i64 k, .int .i64 a, .int .i64 v, sl] 36)).alloc (.cells (Tb.tcells 0#256) 29)).alloc (.cells (lc 0#256 0#256 0#256) 67)) k a v sl 0#256 0#256 0#256 := by
  have h1 := Blk.new w 36 #[.int .i64 k, .int .i64 a, .int .i64 v, sl]
  have h2 := Blk.new (w.alloc (.cells #[.int .i64 k, .int .i64 a, .int .i64 v, sl] 36)) 29 (Tb.tcells 0#256)
  have h3 := Blk.new ((w.alloc (.cells #[.int .i64 k, .int .i64 a, .int .i64 v, sl] 36)).alloc (.cells (Tb.tcells 0#256) 29)) 67 (lc 0#256 0#256 0#256)
  rw [alloc_size] at h2
  rw [alloc_size, alloc_size] at h3
  exact ⟨(((Below.refl _ _).alloc (Nat.le_refl _) _).alloc (by rw [alloc_size]; omega) _).alloc (by rw [alloc_size, alloc_size]; omega) _, (h1.alloc _).alloc _, h2.alloc _, h3⟩

theorem TS.put0 {w wr : World} {k a v : Int} {sl : Value} {f g h : Tb.T} (s : TS w wr k a v sl f g h) (F : Tb.T) : TS w ((((wr.setCell ⟨w.heap.size + 2, 0, none⟩ (.int .u64 (Tb.wd F 0))).setCell ⟨w.heap.size + 2, 1, none⟩ (.int .u64 (Tb.wd F 1))).setCell ⟨w.heap.size + 2, 2, none⟩ (.int .u64 (Tb.wd F 2))).setCell ⟨w.heap.size + 2, 3, none⟩ (.int .u64 (Tb.wd F 3))) k a v sl F g h :=
  ⟨((((s.be.setCell (p := ⟨w.heap.size + 2, 0, none⟩) (by show w.heap.size ≤ w.heap.size + 2; omega) _).setCell (p := ⟨w.heap.size + 2, 1, none⟩) (by show w.heap.size ≤ w.heap.size + 2; omega) _).setCell (p := ⟨w.heap.size + 2, 2, none⟩) (by show w.heap.size ≤ w.heap.size + 2; omega) _).setCell (p := ⟨w.heap.size + 2, 3, none⟩) (by show w.heap.size ≤ w.heap.size + 2; omega) _), ((((s.e.far (p := ⟨w.heap.size + 2, 0, none⟩) (by first | (show w.heap.size ≠ w.heap.size + 2; omega) | (show w.heap.size + 1 ≠ w.heap.size + 2; omega)) _).far (p := ⟨w.heap.size + 2, 1, none⟩) (by first | (show w.heap.size ≠ w.heap.size + 2; omega) | (show w.heap.size + 1 ≠ w.heap.size + 2; omega)) _).far (p := ⟨w.heap.size + 2, 2, none⟩) (by first | (show w.heap.size ≠ w.heap.size + 2; omega) | (show w.heap.size + 1 ≠ w.heap.size + 2; omega)) _).far (p := ⟨w.heap.size + 2, 3, none⟩) (by first | (show w.heap.size ≠ w.heap.size + 2; omega) | (show w.heap.size + 1 ≠ w.heap.size + 2; omega)) _), ((((s.r.far (p := ⟨w.heap.size + 2, 0, none⟩) (by first | (show w.heap.size ≠ w.heap.size + 2; omega) | (show w.heap.size + 1 ≠ w.heap.size + 2; omega)) _).far (p := ⟨w.heap.size + 2, 1, none⟩) (by first | (show w.heap.size ≠ w.heap.size + 2; omega) | (show w.heap.size + 1 ≠ w.heap.size + 2; omega)) _).far (p := ⟨w.heap.size + 2, 2, none⟩) (by first | (show w.heap.size ≠ w.heap.size + 2; omega) | (show w.heap.size + 1 ≠ w.heap.size + 2; omega)) _).far (p := ⟨w.heap.size + 2, 3, none⟩) (by first | (show w.heap.size ≠ w.heap.size + 2; omega) | (show w.heap.size + 1 ≠ w.heap.size + 2; omega)) _), ((((s.l.set_ 0 (.int .u64 (Tb.wd F 0))).set_ 1 (.int .u64 (Tb.wd F 1))).set_ 2 (.int .u64 (Tb.wd F 2))).set_ 3 (.int .u64 (Tb.wd F 3)))⟩
theorem TS.put1 {w wr : World} {k a v : Int} {sl : Value} {f g h : Tb.T} (s : TS w wr k a v sl f g h) (F : Tb.T) : TS w ((((wr.setCell ⟨w.heap.size + 2, 4, none⟩ (.int .u64 (Tb.wd F 0))).setCell ⟨w.heap.size + 2, 5, none⟩ (.int .u64 (Tb.wd F 1))).setCell ⟨w.heap.size + 2, 6, none⟩ (.int .u64 (Tb.wd F 2))).setCell ⟨w.heap.size + 2, 7, none⟩ (.int .u64 (Tb.wd F 3))) k a v sl f F h :=
  ⟨((((s.be.setCell (p := ⟨w.heap.size + 2, 4, none⟩) (by show w.heap.size ≤ w.heap.size + 2; omega) _).setCell (p := ⟨w.heap.size + 2, 5, none⟩) (by show w.heap.size ≤ w.heap.size + 2; omega) _).setCell (p := ⟨w.heap.size + 2, 6, none⟩) (by show w.heap.size ≤ w.heap.size + 2; omega) _).setCell (p := ⟨w.heap.size + 2, 7, none⟩) (by show w.heap.size ≤ w.heap.size + 2; omega) _), ((((s.e.far (p := ⟨w.heap.size + 2, 4, none⟩) (by first | (show w.heap.size ≠ w.heap.size + 2; omega) | (show w.heap.size + 1 ≠ w.heap.size + 2; omega)) _).far (p := ⟨w.heap.size + 2, 5, none⟩) (by first | (show w.heap.size ≠ w.heap.size + 2; omega) | (show w.heap.size + 1 ≠ w.heap.size + 2; omega)) _).far (p := ⟨w.heap.size + 2, 6, none⟩) (by first | (show w.heap.size ≠ w.heap.size + 2; omega) | (show w.heap.size + 1 ≠ w.heap.size + 2; omega)) _).far (p := ⟨w.heap.size + 2, 7, none⟩) (by first | (show w.heap.size ≠ w.heap.size + 2; omega) | (show w.heap.size + 1 ≠ w.heap.size + 2; omega)) _), ((((s.r.far (p := ⟨w.heap.size + 2, 4, none⟩) (by first | (show w.heap.size ≠ w.heap.size + 2; omega) | (show w.heap.size + 1 ≠ w.heap.size + 2; omega)) _).far (p := ⟨w.heap.size + 2, 5, none⟩) (by first | (show w.heap.size ≠ w.heap.size + 2; omega) | (show w.heap.size + 1 ≠ w.heap.size + 2; omega)) _).far (p := ⟨w.heap.size + 2, 6, none⟩) (by first | (show w.heap.size ≠ w.heap.size + 2; omega) | (show w.heap.size + 1 ≠ w.heap.size + 2; omega)) _).far (p := ⟨w.heap.size + 2, 7, none⟩) (by first | (show w.heap.size ≠ w.heap.size + 2; omega) | (show w.heap.size + 1 ≠ w.heap.size + 2; omega)) _), ((((s.l.set_ 4 (.int .u64 (Tb.wd F 0))).set_ 5 (.int .u64 (Tb.wd F 1))).set_ 6 (.int .u64 (Tb.wd F 2))).set_ 7 (.int .u64 (Tb.wd F 3)))⟩
theorem TS.put2 {w wr : World} {k a v : Int} {sl : Value} {f g h : Tb.T} (s : TS w wr k a v sl f g h) (F : Tb.T) : TS w ((((wr.setCell ⟨w.heap.size + 2, 8, none⟩ (.int .u64 (Tb.wd F 0))).setCell ⟨w.heap.size + 2, 9, none⟩ (.int .u64 (Tb.wd F 1))).setCell ⟨w.heap.size + 2, 10, none⟩ (.int .u64 (Tb.wd F 2))).setCell ⟨w.heap.size + 2, 11, none⟩ (.int .u64 (Tb.wd F 3))) k a v sl f g F :=
  ⟨((((s.be.setCell (p := ⟨w.heap.size + 2, 8, none⟩) (by show w.heap.size ≤ w.heap.size + 2; omega) _).setCell (p := ⟨w.heap.size + 2, 9, none⟩) (by show w.heap.size ≤ w.heap.size + 2; omega) _).setCell (p := ⟨w.heap.size + 2, 10, none⟩) (by show w.heap.size ≤ w.heap.size + 2; omega) _).setCell (p := ⟨w.heap.size + 2, 11, none⟩) (by show w.heap.size ≤ w.heap.size + 2; omega) _), ((((s.e.far (p := ⟨w.heap.size + 2, 8, none⟩) (by first | (show w.heap.size ≠ w.heap.size + 2; omega) | (show w.heap.size + 1 ≠ w.heap.size + 2; omega)) _).far (p := ⟨w.heap.size + 2, 9, none⟩) (by first | (show w.heap.size ≠ w.heap.size + 2; omega) | (show w.heap.size + 1 ≠ w.heap.size + 2; omega)) _).far (p := ⟨w.heap.size + 2, 10, none⟩) (by first | (show w.heap.size ≠ w.heap.size + 2; omega) | (show w.heap.size + 1 ≠ w.heap.size + 2; omega)) _).far (p := ⟨w.heap.size + 2, 11, none⟩) (by first | (show w.heap.size ≠ w.heap.size + 2; omega) | (show w.heap.size + 1 ≠ w.heap.size + 2; omega)) _), ((((s.r.far (p := ⟨w.heap.size + 2, 8, none⟩) (by first | (show w.heap.size ≠ w.heap.size + 2; omega) | (show w.heap.size + 1 ≠ w.heap.size + 2; omega)) _).far (p := ⟨w.heap.size + 2, 9, none⟩) (by first | (show w.heap.size ≠ w.heap.size + 2; omega) | (show w.heap.size + 1 ≠ w.heap.size + 2; omega)) _).far (p := ⟨w.heap.size + 2, 10, none⟩) (by first | (show w.heap.size ≠ w.heap.size + 2; omega) | (show w.heap.size + 1 ≠ w.heap.size + 2; omega)) _).far (p := ⟨w.heap.size + 2, 11, none⟩) (by first | (show w.heap.size ≠ w.heap.size + 2; omega) | (show w.heap.size + 1 ≠ w.heap.size + 2; omega)) _), ((((s.l.set_ 8 (.int .u64 (Tb.wd F 0))).set_ 9 (.int .u64 (Tb.wd F 1))).set_ 10 (.int .u64 (Tb.wd F 2))).set_ 11 (.int .u64 (Tb.wd F 3)))⟩
theorem TS.cells {w wr : World} {k a v : Int} {sl : Value} {f g h : Tb.T} (s : TS w wr k a v sl f g h) :
    (wr.cell? ⟨w.heap.size, 0, none⟩ = some (.int .i64 k) ∧ wr.cell? ⟨w.heap.size, 2, none⟩ = some (.int .i64 v) ∧ wr.cell? ⟨w.heap.size, 3, none⟩ = some sl) ∧
    (wr.cell? ⟨w.heap.size + 2, 0, none⟩ = some (.int .u64 (Tb.wd f 0)) ∧ wr.cell? ⟨w.heap.size + 2, 1, none⟩ = some (.int .u64 (Tb.wd f 1)) ∧ wr.cell? ⟨w.heap.size + 2, 2, none⟩ = some (.int .u64 (Tb.wd f 2)) ∧ wr.cell? ⟨w.heap.size + 2, 3, none⟩ = some (.int .u64 (Tb.wd f 3)) ∧ wr.cell? ⟨w.heap.size + 2, 4, none⟩ = some (.int .u64 (Tb.wd g 0)) ∧ wr.cell? ⟨w.heap.size + 2, 5, none⟩ = some (.int .u64 (Tb.wd g 1)) ∧ wr.cell? ⟨w.heap.size + 2, 6, none⟩ = some (.int .u64 (Tb.wd g 2)) ∧ wr.cell? ⟨w.heap.size + 2, 7, none⟩ = some (.int .u64 (Tb.wd g 3)) ∧ wr.cell? ⟨w.heap.size + 2, 8, none⟩ = some (.int .u64 (Tb.wd h 0)) ∧ wr.cell? ⟨w.heap.size + 2, 9, none⟩ = some (.int .u64 (Tb.wd h 1)) ∧ wr.cell? ⟨w.heap.size + 2, 10, none⟩ = some (.int .u64 (Tb.wd h 2)) ∧ wr.cell? ⟨w.heap.size + 2, 11, none⟩ = some (.int .u64 (Tb.wd h 3))) ∧
    (wr.frozen? ⟨w.heap.size + 2, 0, none⟩ = false ∧ wr.frozen? ⟨w.heap.size + 2, 1, none⟩ = false ∧ wr.frozen? ⟨w.heap.size + 2, 2, none⟩ = false ∧ wr.frozen? ⟨w.heap.size + 2, 3, none⟩ = false ∧ wr.frozen? ⟨w.heap.size + 2, 4, none⟩ = false ∧ wr.frozen? ⟨w.heap.size + 2, 5, none⟩ = false ∧ wr.frozen? ⟨w.heap.size + 2, 6, none⟩ = false ∧ wr.frozen? ⟨w.heap.size + 2, 7, none⟩ = false ∧ wr.frozen? ⟨w.heap.size + 2, 8, none⟩ = false ∧ wr.frozen? ⟨w.heap.size + 2, 9, none⟩ = false ∧ wr.frozen? ⟨w.heap.size + 2, 10, none⟩ = false ∧ wr.frozen? ⟨w.heap.size + 2, 11, none⟩ = false) :=
  ⟨⟨s.e.cell 0, s.e.cell 2, s.e.cell 3⟩, ⟨s.l.cell 0, s.l.cell 1, s.l.cell 2, s.l.cell 3, s.l.cell 4, s.l.cell 5, s.l.cell 6, s.l.cell 7, s.l.cell 8, s.l.cell 9, s.l.cell 10, s.l.cell 11⟩, s.l.frozen 0, s.l.frozen 1, s.l.frozen 2, s.l.frozen 3, s.l.frozen 4, s.l.frozen 5, s.l.frozen 6, s.l.frozen 7, s.l.frozen 8, s.l.frozen 9, s.l.frozen 10, s.l.frozen 11⟩
/-- one kid, where it lies -/
structure Kid (w : World) (b o : Nat) (x : Tr) (sx : Value) : Prop where
  lt : b < w.heap.size
  c0 : w.cell? ⟨b, o, none⟩ = some (.int .i64 x.k)
  c1 : w.cell? ⟨b, o + 1, none⟩ = some (.int .i64 x.a)
  c2 : w.cell? ⟨b, o + 2, none⟩ = some (.int .i64 x.v)
  c3 : w.cell? ⟨b, o + 3, none⟩ = some sx
  sl : SlF w (fun g => g < w.heap.size) sx x.kids
theorem Kid.below {w u : World} {b o : Nat} {x : Tr} {sx : Value} (h : Kid w b o x sx) (hb : Below w.heap.size w u) :
    u.cell? ⟨b, o, none⟩ = some (.int .i64 x.k) ∧ u.cell? ⟨b, o + 1, none⟩ = some (.int .i64 x.a) ∧ u.cell? ⟨b, o + 2, none⟩ = some (.int .i64 x.v) ∧ u.cell? ⟨b, o + 3, none⟩ = some sx ∧ SlF u (fun g => g < w.heap.size) sx x.kids :=
  ⟨(hb.cell (p := ⟨b, o, none⟩) h.lt).trans h.c0, (hb.cell (p := ⟨b, o + 1, none⟩) h.lt).trans h.c1, (hb.cell (p := ⟨b, o + 2, none⟩) h.lt).trans h.c2, (hb.cell (p := ⟨b, o + 3, none⟩) h.lt).trans h.c3, h.sl.kept fun g _ hl => hb.block g hl⟩
theorem pow_lt8 {m : Nat} (hm : m < 8) : 2 ^ m < 256 := by
  have : ∀ m : Nat, m < 8 → 2 ^ m < 256 := by decide
  exact this m hm
section
variable {a : Act} {u : World} {o : Oper} {x y : Operand}
theorem exec_loadL {p off : Nat} {F : Tb.T} (hop : o.op = .load 29 x) (hx : a.eval x = .pointer (some ⟨p, off, none⟩)) (h0 : u.cell? ⟨p, off, none⟩ = some (.int .u64 (Tb.wd F 0))) (h1 : u.cell? ⟨p, off + 1, none⟩ = some (.int .u64 (Tb.wd F 1)))
    (h2 : u.cell? ⟨p, off + 2, none⟩ = some (.int .u64 (Tb.wd F 2))) (h3 : u.cell? ⟨p, off + 3, none⟩ = some (.int .u64 (Tb.wd F 3))) :
    (execOp a.eval o).run Try.prog u = .ok (.value (Tb.tv F)) u := by
  unfold execOp
  simp only [hop, hx]
  go_simp
theorem exec_loadI {p off : Nat} {v : Int} (hop : o.op = .load 3 x) (hx : a.eval x = .pointer (some ⟨p, off, none⟩)) (hc : u.cell? ⟨p, off, none⟩ = some (.int .i64 v)) :
    (execOp a.eval o).run Try.prog u = .ok (.value (.int .i64 v)) u := by
  unfold execOp
  simp only [hop, hx]
  go_simp
theorem exec_shl8 {m : Nat} (hop : o.op = .binOp .shl 5 x y 3) (hx : a.eval x = .int .u8 1) (hy : a.eval y = .int .i64 (m : Int)) (h : m < 8) :
    (execOp a.eval o).run Try.prog u = .ok (.value (.int .u8 ((2 ^ m : Nat) : Int))) u := by
  have hc : m = 0 ∨ m = 1 ∨ m = 2 ∨ m = 3 ∨ m = 4 ∨ m = 5 ∨ m = 6 ∨ m = 7 := by omega
  rcases hc with rfl | rfl | rfl | rfl | rfl | rfl | rfl | rfl
  all_goals
    unfold execOp
    simp only [hop, hx, hy]
    rfl
end
/-- what is known of table for what has so few nodes -/
def Tz (n : Nat) : Prop := ∀ (t : Tr) (sl : Value) (B : Nat → Prop) (u : World), (t.on .nil).nodes ≤ n → (t.on .nil).allPlain = true → SlF u B sl t.kids →
  Calls Try.prog 33 #[Ev t sl] u fun e w' => e = .returned (Tb.tv (Ex.table t)) ∧ Below u.heap.size u w'

set_option maxHeartbeats 8000000 in
theorem table_3 (n : Nat) (ih : Tz n) (a : Int) (v : Int) (b o cap : Nat) (w : World) (x : Tr) (sx : Value) (Kx : Kid w b o x sx) (Nx : (x.on .nil).nodes ≤ n) (Px : (x.on .nil).allPlain = true) :
    Calls Try.prog 33 #[.agg #[.int .i64 3, .int .i64 a, .int .i64 v, .slice (some ⟨b, o, none⟩) 1 cap]] w fun e w' => e = .returned (Tb.tv (Ex.tabk 3 v [Ex.table x])) ∧ Below w.heap.size w w' := by
  have H0 := Bx.mk (TS.start w 3 a v (.slice (some ⟨b, o, none⟩) 1 cap))
  have BKx := Bx.mk Kx
  have BNx := Bx.mk Nx
  have BPx := Bx.mk Px
  have IH := Bx.mk ih
  clear ih Kx Nx Px
  go_enter Try.func33, Try.ntmps33
  go_wp2_with fail
  try rw [zeros_tab]
  try rw [lc_zero]
  generalize hW : World.alloc (World.alloc (World.alloc _ _) _) _ = W0
  have H1 : Bx (TS w W0 3 a v (.slice (some ⟨b, o, none⟩) 1 cap) 0#256 0#256 0#256) := ⟨by rw [← hW]; exact H0.out⟩
  clear hW H0
  refine wp_loop_rounds 2 ?_
  rw [rounds_succ]
  have hk0 := BKx.out.below H1.out.be
  obtain ⟨k0, k1, k2, k3, kS⟩ := hk0
  obtain ⟨px, cx, rfl⟩ := kS.is
  have hA := H1.out.alloc (.cells #[.int .i64 x.k, .int .i64 x.a, .int .i64 x.v, .slice px x.kids.len cx] 36)
  have hI := IH.out x _ _ _ BNx.out BPx.out (kS.alloc (.cells #[.int .i64 x.k, .int .i64 x.a, .int .i64 x.v, .slice px x.kids.len cx] 36))
  have HA := Bx.mk hA
  have HI := Bx.mk hI
  clear hA hI kS
  unfold Ev at HI
  go_wp2_with fail
  refine HI.out.mono ?_
  rintro e u0 ⟨rfl, hb0⟩
  have hT := HA.out.step hb0
  clear k0 k1 k2 k3 HI
  obtain ⟨_, ⟨q0, q1, q2, q3, q4, q5, q6, q7, q8, q9, qa, qb⟩, f0, f1, f2, f3, f4, f5, f6, f7, f8, f9, fa, fb⟩ := hT.cells
  have HT := Bx.mk hT
  clear hT hb0 HA
  generalize hF0 : Ex.table x = F0
  have HF0 := Bx.mk hF0
  clear hF0
  unfold Tb.tv
  go_wp2_with fail
  clear q0 q1 q2 q3 q4 q5 q6 q7 q8 q9 qa qb f0 f1 f2 f3 f4 f5 f6 f7 f8 f9 fa fb
  have H2 := Bx.mk (HT.out.put0 F0)
  obtain ⟨⟨e0, e2, e3⟩, ⟨q0, q1, q2, q3, q4, q5, q6, q7, q8, q9, qa, qb⟩, f0, f1, f2, f3, f4, f5, f6, f7, f8, f9, fa, fb⟩ := H2.out.cells
  rw [rounds_succ]
  go_wp2_with fail
  clear e0 e2 e3 q0 q1 q2 q3 q4 q5 q6 q7 q8 q9 qa qb f0 f1 f2 f3 f4 f5 f6 f7 f8 f9 fa fb
  refine (not_any F0 _).mono ?_
  rintro e u9 ⟨rfl, hb9⟩
  have h9 := H2.out.step hb9
  obtain ⟨⟨r0, r1, r2, r3⟩, g0, g1, g2, g3⟩ := tfacts h9.r
  have HSf := Bx.mk (store4 (F := ~~~F0) h9.r)
  have HBf := Bx.mk (below4 (F := ~~~F0) (p := w.heap.size + 1) h9.be (by omega))
  clear h9 hb9
  generalize hR : ~~~F0 = R at HSf HBf ⊢
  have HR := Bx.mk hR
  clear hR
  unfold Tb.tv
  go_wp2_with fail
  clear r0 r1 r2 r3 g0 g1 g2 g3
  obtain ⟨⟨r0, r1, r2, r3⟩, _, _, _, _⟩ := tfacts HSf.out
  refine bodyPost_ret (v := Tb.tv R) (by simp [results, Try.results33, go_sem, r0, r1, r2, r3] <;> rfl) rfl ⟨?_, HBf.out⟩
  rw [← HR.out, ← HF0.out]
  unfold Ex.tabk
  simp
set_option maxHeartbeats 8000000 in
theorem table_1 (n : Nat) (ih : Tz n) (a : Int) (v : Int) (pp : Option Addr) (cap : Nat) (w : World)  :
    Calls Try.prog 33 #[.agg #[.int .i64 1, .int .i64 a, .int .i64 v, .slice pp 0 cap]] w fun e w' => e = .returned (Tb.tv (Ex.tabk 1 v [])) ∧ Below w.heap.size w w' := by
  have H0 := Bx.mk (TS.start w 1 a v (.slice pp 0 cap))
  have IH := Bx.mk ih
  clear ih
  go_enter Try.func33, Try.ntmps33
  go_wp2_with fail
  try rw [zeros_tab]
  try rw [lc_zero]
  generalize hW : World.alloc (World.alloc (World.alloc _ _) _) _ = W0
  have H1 : Bx (TS w W0 1 a v (.slice pp 0 cap) 0#256 0#256 0#256) := ⟨by rw [← hW]; exact H0.out⟩
  clear hW H0
  refine wp_loop_rounds 1 ?_
  obtain ⟨⟨e0, e2, e3⟩, ⟨q0, q1, q2, q3, q4, q5, q6, q7, q8, q9, qa, qb⟩, f0, f1, f2, f3, f4, f5, f6, f7, f8, f9, fa, fb⟩ := H1.out.cells
  rw [rounds_succ]
  go_wp2_with fail
  clear e0 e2 e3 q0 q1 q2 q3 q4 q5 q6 q7 q8 q9 qa qb f0 f1 f2 f3 f4 f5 f6 f7 f8 f9 fa fb
  refine (var_any v _).mono ?_
  rintro e u9 ⟨rfl, hb9⟩
  have h9 := H1.out.step hb9
  obtain ⟨⟨r0, r1, r2, r3⟩, g0, g1, g2, g3⟩ := tfacts h9.r
  have HSf := Bx.mk (store4 (F := Tb.var v) h9.r)
  have HBf := Bx.mk (below4 (F := Tb.var v) (p := w.heap.size + 1) h9.be (by omega))
  clear h9 hb9
  generalize hR : Tb.var v = R at HSf HBf ⊢
  have HR := Bx.mk hR
  clear hR
  unfold Tb.tv
  go_wp2_with fail
  clear r0 r1 r2 r3 g0 g1 g2 g3
  obtain ⟨⟨r0, r1, r2, r3⟩, _, _, _, _⟩ := tfacts HSf.out
  refine bodyPost_ret (v := Tb.tv R) (by simp [results, Try.results33, go_sem, r0, r1, r2, r3] <;> rfl) rfl ⟨?_, HBf.out⟩
  rw [← HR.out]
  unfold Ex.tabk
  simp
set_option maxHeartbeats 8000000 in
theorem table_2 (n : Nat) (ih : Tz n) (a : Int) (v : Int) (pp : Option Addr) (cap : Nat) (w : World)  :
    Calls Try.prog 33 #[.agg #[.int .i64 2, .int .i64 a, .int .i64 v, .slice pp 0 cap]] w fun e w' => e = .returned (Tb.tv (Ex.tabk 2 v [])) ∧ Below w.heap.size w w' := by
  have H0 := Bx.mk (TS.start w 2 a v (.slice pp 0 cap))
  have IH := Bx.mk ih
  clear ih
  go_enter Try.func33, Try.ntmps33
  go_wp2_with fail
  try rw [zeros_tab]
  try rw [lc_zero]
  generalize hW : World.alloc (World.alloc (World.alloc _ _) _) _ = W0
  have H1 : Bx (TS w W0 2 a v (.slice pp 0 cap) 0#256 0#256 0#256) := ⟨by rw [← hW]; exact H0.out⟩
  clear hW H0
  refine wp_loop_rounds 1 ?_
  obtain ⟨⟨e0, e2, e3⟩, ⟨q0, q1, q2, q3, q4, q5, q6, q7, q8, q9, qa, qb⟩, f0, f1, f2, f3, f4, f5, f6, f7, f8, f9, fa, fb⟩ := H1.out.cells
  rw [rounds_succ]
  go_wp2_with fail
  clear e0 e2 e3 q0 q1 q2 q3 q4 q5 q6 q7 q8 q9 qa qb f0 f1 f2 f3 f4 f5 f6 f7 f8 f9 fa fb
  refine (const_any (decide (v = 1)) _).mono ?_
  rintro e u9 ⟨rfl, hb9⟩
  have h9 := H1.out.step hb9
  obtain ⟨⟨r0, r1, r2, r3⟩, g0, g1, g2, g3⟩ := tfacts h9.r
  have HSf := Bx.mk (store4 (F := Tb.cst (decide (v = 1))) h9.r)
  have HBf := Bx.mk (below4 (F := Tb.cst (decide (v = 1))) (p := w.heap.size + 1) h9.be (by omega))
  clear h9 hb9
  generalize hR : Tb.cst (decide (v = 1)) = R at HSf HBf ⊢
  have HR := Bx.mk hR
  clear hR
  unfold Tb.tv
  go_wp2_with fail
  clear r0 r1 r2 r3 g0 g1 g2 g3
  obtain ⟨⟨r0, r1, r2, r3⟩, _, _, _, _⟩ := tfacts HSf.out
  refine bodyPost_ret (v := Tb.tv R) (by simp [results, Try.results33, go_sem, r0, r1, r2, r3] <;> rfl) rfl ⟨?_, HBf.out⟩
  rw [← HR.out]
  unfold Ex.tabk
  simp
set_option maxHeartbeats 8000000 in
theorem table_9 (n : Nat) (ih : Tz n) (a : Int) (v : Int) (b o cap : Nat) (w : World) (x : Tr) (sx : Value) (Kx : Kid w b o x sx) (Nx : (x.on .nil).nodes ≤ n) (Px : (x.on .nil).allPlain = true) (y : Tr) (sy : Value) (Ky : Kid w b (o + 4) y sy) (Ny : (y.on .nil).nodes ≤ n) (Py : (y.on .nil).allPlain = true) (z : Tr) (sz : Value) (Kz : Kid w b (o + 8) z sz) (Nz : (z.on .nil).nodes ≤ n) (Pz : (z.on .nil).allPlain = true) :
    Calls Try.prog 33 #[.agg #[.int .i64 9, .int .i64 a, .int .i64 v, .slice (some ⟨b, o, none⟩) 3 cap]] w fun e w' => e = .returned (Tb.tv (Ex.tabk 9 v [Ex.table x, Ex.table y, Ex.table z])) ∧ Below w.heap.size w w' := by
  have H0 := Bx.mk (TS.start w 9 a v (.slice (some ⟨b, o, none⟩) 3 cap))
  have BKx := Bx.mk Kx
  have BNx := Bx.mk Nx
  have BPx := Bx.mk Px
  have BKy := Bx.mk Ky
  have BNy := Bx.mk Ny
  have BPy := Bx.mk Py
  have BKz := Bx.mk Kz
  have BNz := Bx.mk Nz
  have BPz := Bx.mk Pz
  have IH := Bx.mk ih
  clear ih Kx Nx Px Ky Ny Py Kz Nz Pz
  go_enter Try.func33, Try.ntmps33
  go_wp2_with fail
  try rw [zeros_tab]
  try rw [lc_zero]
  generalize hW : World.alloc (World.alloc (World.alloc _ _) _) _ = W0
  have H1 : Bx (TS w W0 9 a v (.slice (some ⟨b, o, none⟩) 3 cap) 0#256 0#256 0#256) := ⟨by rw [← hW]; exact H0.out⟩
  clear hW H0
  refine wp_loop_rounds 4 ?_
  rw [rounds_succ]
  have hk0 := BKx.out.below H1.out.be
  obtain ⟨k0, k1, k2, k3, kS⟩ := hk0
  obtain ⟨px, cx, rfl⟩ := kS.is
  have hA := H1.out.alloc (.cells #[.int .i64 x.k, .int .i64 x.a, .int .i64 x.v, .slice px x.kids.len cx] 36)
  have hI := IH.out x _ _ _ BNx.out BPx.out (kS.alloc (.cells #[.int .i64 x.k, .int .i64 x.a, .int .i64 x.v, .slice px x.kids.len cx] 36))
  have HA := Bx.mk hA
  have HI := Bx.mk hI
  clear hA hI kS
  unfold Ev at HI
  go_wp2_with fail
  refine HI.out.mono ?_
  rintro e u0 ⟨rfl, hb0⟩
  have hT := HA.out.step hb0
  clear k0 k1 k2 k3 HI
  obtain ⟨_, ⟨q0, q1, q2, q3, q4, q5, q6, q7, q8, q9, qa, qb⟩, f0, f1, f2, f3, f4, f5, f6, f7, f8, f9, fa, fb⟩ := hT.cells
  have HT := Bx.mk hT
  clear hT hb0 HA
  generalize hF0 : Ex.table x = F0
  have HF0 := Bx.mk hF0
  clear hF0
  unfold Tb.tv
  go_wp2_with fail
  clear q0 q1 q2 q3 q4 q5 q6 q7 q8 q9 qa qb f0 f1 f2 f3 f4 f5 f6 f7 f8 f9 fa fb
  have H2 := Bx.mk (HT.out.put0 F0)
  rw [rounds_succ]
  have hk1 := BKy.out.below H2.out.be
  obtain ⟨k0, k1, k2, k3, kS⟩ := hk1
  obtain ⟨py, cy, rfl⟩ := kS.is
  have hA := H2.out.alloc (.cells #[.int .i64 y.k, .int .i64 y.a, .int .i64 y.v, .slice py y.kids.len cy] 36)
  have hI := IH.out y _ _ _ BNy.out BPy.out (kS.alloc (.cells #[.int .i64 y.k, .int .i64 y.a, .int .i64 y.v, .slice py y.kids.len cy] 36))
  have HA := Bx.mk hA
  have HI := Bx.mk hI
  clear hA hI kS
  unfold Ev at HI
  go_wp2_with fail
  refine HI.out.mono ?_
  rintro e u1 ⟨rfl, hb1⟩
  have hT := HA.out.step hb1
  clear k0 k1 k2 k3 HI
  obtain ⟨_, ⟨q0, q1, q2, q3, q4, q5, q6, q7, q8, q9, qa, qb⟩, f0, f1, f2, f3, f4, f5, f6, f7, f8, f9, fa, fb⟩ := hT.cells
  have HT := Bx.mk hT
  clear hT hb1 HA
  generalize hF1 : Ex.table y = F1
  have HF1 := Bx.mk hF1
  clear hF1
  unfold Tb.tv
  go_wp2_with fail
  clear q0 q1 q2 q3 q4 q5 q6 q7 q8 q9 qa qb f0 f1 f2 f3 f4 f5 f6 f7 f8 f9 fa fb
  have H3 := Bx.mk (HT.out.put1 F1)
  rw [rounds_succ]
  have hk2 := BKz.out.below H3.out.be
  obtain ⟨k0, k1, k2, k3, kS⟩ := hk2
  obtain ⟨pz, cz, rfl⟩ := kS.is
  have hA := H3.out.alloc (.cells #[.int .i64 z.k, .int .i64 z.a, .int .i64 z.v, .slice pz z.kids.len cz] 36)
  have hI := IH.out z _ _ _ BNz.out BPz.out (kS.alloc (.cells #[.int .i64 z.k, .int .i64 z.a, .int .i64 z.v, .slice pz z.kids.len cz] 36))
  have HA := Bx.mk hA
  have HI := Bx.mk hI
  clear hA hI kS
  unfold Ev at HI
  go_wp2_with fail
  refine HI.out.mono ?_
  rintro e u2 ⟨rfl, hb2⟩
  have hT := HA.out.step hb2
  clear k0 k1 k2 k3 HI
  obtain ⟨_, ⟨q0, q1, q2, q3, q4, q5, q6, q7, q8, q9, qa, qb⟩, f0, f1, f2, f3, f4, f5, f6, f7, f8, f9, fa, fb⟩ := hT.cells
  have HT := Bx.mk hT
  clear hT hb2 HA
  generalize hF2 : Ex.table z = F2
  have HF2 := Bx.mk hF2
  clear hF2
  unfold Tb.tv
  go_wp2_with fail
  clear q0 q1 q2 q3 q4 q5 q6 q7 q8 q9 qa qb f0 f1 f2 f3 f4 f5 f6 f7 f8 f9 fa fb
  have H4 := Bx.mk (HT.out.put2 F2)
  obtain ⟨⟨e0, e2, e3⟩, ⟨q0, q1, q2, q3, q4, q5, q6, q7, q8, q9, qa, qb⟩, f0, f1, f2, f3, f4, f5, f6, f7, f8, f9, fa, fb⟩ := H4.out.cells
  rw [rounds_succ]
  go_wp2_with fail
  clear e0 e2 e3 q0 q1 q2 q3 q4 q5 q6 q7 q8 q9 qa qb f0 f1 f2 f3 f4 f5 f6 f7 f8 f9 fa fb
  refine (ite_any F0 F1 F2 _).mono ?_
  rintro e u9 ⟨rfl, hb9⟩
  have h9 := H4.out.step hb9
  obtain ⟨⟨r0, r1, r2, r3⟩, g0, g1, g2, g3⟩ := tfacts h9.r
  have HSf := Bx.mk (store4 (F := (F0 &&& F1) ||| (~~~F0 &&& F2)) h9.r)
  have HBf := Bx.mk (below4 (F := (F0 &&& F1) ||| (~~~F0 &&& F2)) (p := w.heap.size + 1) h9.be (by omega))
  clear h9 hb9
  generalize hR : (F0 &&& F1) ||| (~~~F0 &&& F2) = R at HSf HBf ⊢
  have HR := Bx.mk hR
  clear hR
  unfold Tb.tv
  go_wp2_with fail
  clear r0 r1 r2 r3 g0 g1 g2 g3
  obtain ⟨⟨r0, r1, r2, r3⟩, _, _, _, _⟩ := tfacts HSf.out
  refine bodyPost_ret (v := Tb.tv R) (by simp [results, Try.results33, go_sem, r0, r1, r2, r3] <;> rfl) rfl ⟨?_, HBf.out⟩
  rw [← HR.out, ← HF0.out, ← HF1.out, ← HF2.out]
  unfold Ex.tabk
  simp
set_option maxHeartbeats 8000000 in
theorem table_4 (n : Nat) (ih : Tz n) (a : Int) (v : Int) (b o cap : Nat) (w : World) (x : Tr) (sx : Value) (Kx : Kid w b o x sx) (Nx : (x.on .nil).nodes ≤ n) (Px : (x.on .nil).allPlain = true) (y : Tr) (sy : Value) (Ky : Kid w b (o + 4) y sy) (Ny : (y.on .nil).nodes ≤ n) (Py : (y.on .nil).allPlain = true) :
    Calls Try.prog 33 #[.agg #[.int .i64 4, .int .i64 a, .int .i64 v, .slice (some ⟨b, o, none⟩) 2 cap]] w fun e w' => e = .returned (Tb.tv (Ex.tabk 4 v [Ex.table x, Ex.table y])) ∧ Below w.heap.size w w' := by
  have H0 := Bx.mk (TS.start w 4 a v (.slice (some ⟨b, o, none⟩) 2 cap))
  have BKx := Bx.mk Kx
  have BNx := Bx.mk Nx
  have BPx := Bx.mk Px
  have BKy := Bx.mk Ky
  have BNy := Bx.mk Ny
  have BPy := Bx.mk Py
  have IH := Bx.mk ih
  clear ih Kx Nx Px Ky Ny Py
  go_enter Try.func33, Try.ntmps33
  go_wp2_with fail
  try rw [zeros_tab]
  try rw [lc_zero]
  generalize hW : World.alloc (World.alloc (World.alloc _ _) _) _ = W0
  have H1 : Bx (TS w W0 4 a v (.slice (some ⟨b, o, none⟩) 2 cap) 0#256 0#256 0#256) := ⟨by rw [← hW]; exact H0.out⟩
  clear hW H0
  refine wp_loop_rounds 3 ?_
  rw [rounds_succ]
  have hk0 := BKx.out.below H1.out.be
  obtain ⟨k0, k1, k2, k3, kS⟩ := hk0
  obtain ⟨px, cx, rfl⟩ := kS.is
  have hA := H1.out.alloc (.cells #[.int .i64 x.k, .int .i64 x.a, .int .i64 x.v, .slice px x.kids.len cx] 36)
  have hI := IH.out x _ _ _ BNx.out BPx.out (kS.alloc (.cells #[.int .i64 x.k, .int .i64 x.a, .int .i64 x.v, .slice px x.kids.len cx] 36))
  have HA := Bx.mk hA
  have HI := Bx.mk hI
  clear hA hI kS
  unfold Ev at HI
  go_wp2_with fail
  refine HI.out.mono ?_
  rintro e u0 ⟨rfl, hb0⟩
  have hT := HA.out.step hb0
  clear k0 k1 k2 k3 HI
  obtain ⟨_, ⟨q0, q1, q2, q3, q4, q5, q6, q7, q8, q9, qa, qb⟩, f0, f1, f2, f3, f4, f5, f6, f7, f8, f9, fa, fb⟩ := hT.cells
  have HT := Bx.mk hT
  clear hT hb0 HA
  generalize hF0 : Ex.table x = F0
  have HF0 := Bx.mk hF0
  clear hF0
  unfold Tb.tv
  go_wp2_with fail
  clear q0 q1 q2 q3 q4 q5 q6 q7 q8 q9 qa qb f0 f1 f2 f3 f4 f5 f6 f7 f8 f9 fa fb
  have H2 := Bx.mk (HT.out.put0 F0)
  rw [rounds_succ]
  have hk1 := BKy.out.below H2.out.be
  obtain ⟨k0, k1, k2, k3, kS⟩ := hk1
  obtain ⟨py, cy, rfl⟩ := kS.is
  have hA := H2.out.alloc (.cells #[.int .i64 y.k, .int .i64 y.a, .int .i64 y.v, .slice py y.kids.len cy] 36)
  have hI := IH.out y _ _ _ BNy.out BPy.out (kS.alloc (.cells #[.int .i64 y.k, .int .i64 y.a, .int .i64 y.v, .slice py y.kids.len cy] 36))
  have HA := Bx.mk hA
  have HI := Bx.mk hI
  clear hA hI kS
  unfold Ev at HI
  go_wp2_with fail
  refine HI.out.mono ?_
  rintro e u1 ⟨rfl, hb1⟩
  have hT := HA.out.step hb1
  clear k0 k1 k2 k3 HI
  obtain ⟨_, ⟨q0, q1, q2, q3, q4, q5, q6, q7, q8, q9, qa, qb⟩, f0, f1, f2, f3, f4, f5, f6, f7, f8, f9, fa, fb⟩ := hT.cells
  have HT := Bx.mk hT
  clear hT hb1 HA
  generalize hF1 : Ex.table y = F1
  have HF1 := Bx.mk hF1
  clear hF1
  unfold Tb.tv
  go_wp2_with fail
  clear q0 q1 q2 q3 q4 q5 q6 q7 q8 q9 qa qb f0 f1 f2 f3 f4 f5 f6 f7 f8 f9 fa fb
  have H3 := Bx.mk (HT.out.put1 F1)
  obtain ⟨⟨e0, e2, e3⟩, ⟨q0, q1, q2, q3, q4, q5, q6, q7, q8, q9, qa, qb⟩, f0, f1, f2, f3, f4, f5, f6, f7, f8, f9, fa, fb⟩ := H3.out.cells
  rw [rounds_succ]
  go_wp2_with fail
  clear e0 e2 e3 q0 q1 q2 q3 q4 q5 q6 q7 q8 q9 qa qb f0 f1 f2 f3 f4 f5 f6 f7 f8 f9 fa fb
  refine region_any 8 (fun u => TS w u 4 a v (.slice (some ⟨b, o, none⟩) 2 cap) F0 F1 0#256) (by kernel_rfl) ?_
  generalize hu : World.drew _ = u0
  have hS0 : TS w u0 4 a v (.slice (some ⟨b, o, none⟩) 2 cap) F0 F1 0#256 := by rw [← hu]; exact H3.out.step ((Below.refl _ _).drew)
  clear hu
  refine any_take (i := 0) (.pointer (some ⟨w.heap.size, 0, none⟩)) rfl rfl (by kernel_rfl) (by kernel_rfl) (by kernel_rfl) (by kernel_rfl) (fun _ _ d _ _ h => by cases d <;> exact h) (fun u hS => rfl) hS0 ?_
  (try simp only [Act.put]); (try simp only [List.getElem_toArray]); (try simp only [List.getElem_cons_succ]); (try simp only [List.getElem_cons_zero]); (try simp only [List.setIfInBounds_toArray]); (try simp only [List.set_cons_succ]); (try simp only [List.set_cons_zero])
  refine any_take (i := 1) (.int .i64 4) rfl rfl (by kernel_rfl) (by kernel_rfl) (by kernel_rfl) (by kernel_rfl) (fun _ _ d _ _ h => by cases d <;> exact h) (fun u hS => exec_loadI rfl rfl hS.cells.1.1) hS0 ?_
  (try simp only [Act.put]); (try simp only [List.getElem_toArray]); (try simp only [List.getElem_cons_succ]); (try simp only [List.getElem_cons_zero]); (try simp only [List.setIfInBounds_toArray]); (try simp only [List.set_cons_succ]); (try simp only [List.set_cons_zero])
  refine any_take (i := 3) (.pointer (some ⟨w.heap.size + 2, 0, none⟩)) rfl rfl (by kernel_rfl) (by kernel_rfl) (by kernel_rfl) (by kernel_rfl) (fun _ _ d _ _ h => by cases d <;> exact h) (fun u hS => rfl) hS0 ?_
  (try simp only [Act.put]); (try simp only [List.getElem_toArray]); (try simp only [List.getElem_cons_succ]); (try simp only [List.getElem_cons_zero]); (try simp only [List.setIfInBounds_toArray]); (try simp only [List.set_cons_succ]); (try simp only [List.set_cons_zero])
  refine any_take (i := 4) (Tb.tv F0) rfl rfl (by kernel_rfl) (by kernel_rfl) (by kernel_rfl) (by kernel_rfl) (fun _ _ d _ _ h => by cases d <;> exact h) (fun u hS => exec_loadL rfl rfl hS.cells.2.1.1 hS.cells.2.1.2.1 hS.cells.2.1.2.2.1 hS.cells.2.1.2.2.2.1) hS0 ?_
  (try simp only [Act.put]); (try simp only [List.getElem_toArray]); (try simp only [List.getElem_cons_succ]); (try simp only [List.getElem_cons_zero]); (try simp only [List.setIfInBounds_toArray]); (try simp only [List.set_cons_succ]); (try simp only [List.set_cons_zero])
  refine any_take (i := 5) (.pointer (some ⟨w.heap.size + 2, 4, none⟩)) rfl rfl (by kernel_rfl) (by kernel_rfl) (by kernel_rfl) (by kernel_rfl) (fun _ _ d _ _ h => by cases d <;> exact h) (fun u hS => rfl) hS0 ?_
  (try simp only [Act.put]); (try simp only [List.getElem_toArray]); (try simp only [List.getElem_cons_succ]); (try simp only [List.getElem_cons_zero]); (try simp only [List.setIfInBounds_toArray]); (try simp only [List.set_cons_succ]); (try simp only [List.set_cons_zero])
  refine any_take (i := 6) (Tb.tv F1) rfl rfl (by kernel_rfl) (by kernel_rfl) (by kernel_rfl) (by kernel_rfl) (fun _ _ d _ _ h => by cases d <;> exact h) (fun u hS => exec_loadL rfl rfl hS.cells.2.1.2.2.2.2.1 hS.cells.2.1.2.2.2.2.2.1 hS.cells.2.1.2.2.2.2.2.2.1 hS.cells.2.1.2.2.2.2.2.2.2.1) hS0 ?_
  (try simp only [Act.put]); (try simp only [List.getElem_toArray]); (try simp only [List.getElem_cons_succ]); (try simp only [List.getElem_cons_zero]); (try simp only [List.setIfInBounds_toArray]); (try simp only [List.set_cons_succ]); (try simp only [List.set_cons_zero])
  refine any_branch [2] (by kernel_rfl) rfl fun ix hix => ?_
  simp only [List.mem_cons, List.not_mem_nil, or_false] at hix
  subst hix
  refine any_op rfl rfl fun K hK => ?_
  go_simp
  refine (tables_4 _).mono ?_
  rintro e ut ⟨rfl, rfl⟩
  refine hK _ _ (fun _ => hS0) ?_
  (try simp only [Act.put]); (try simp only [List.getElem_toArray]); (try simp only [List.getElem_cons_succ]); (try simp only [List.getElem_cons_zero]); (try simp only [List.setIfInBounds_toArray]); (try simp only [List.set_cons_succ]); (try simp only [List.set_cons_zero])
  clear hK
  refine any_branch [7] (by kernel_rfl) rfl fun ix hix => ?_
  simp only [List.mem_cons, List.not_mem_nil, or_false] at hix
  subst hix
  refine any_op rfl rfl fun K hK => ?_
  go_simp
  refine (and_any F0 F1 _).mono ?_
  rintro e u9 ⟨rfl, hb9⟩
  have h9 := hS0.step hb9
  refine hK _ _ (fun _ => h9) ?_
  (try simp only [Act.put]); (try simp only [List.getElem_toArray]); (try simp only [List.getElem_cons_succ]); (try simp only [List.getElem_cons_zero]); (try simp only [List.setIfInBounds_toArray]); (try simp only [List.set_cons_succ]); (try simp only [List.set_cons_zero])
  clear hK
  refine any_branch [8] (by kernel_rfl) rfl fun ix hix => ?_
  simp only [List.mem_cons, List.not_mem_nil, or_false] at hix
  subst hix
  refine any_op rfl rfl fun K hK => ?_
  obtain ⟨⟨r0, r1, r2, r3⟩, g0, g1, g2, g3⟩ := tfacts h9.r
  have HSf := Bx.mk (store4 (F := F0 &&& F1) h9.r)
  have HBf := Bx.mk (below4 (F := F0 &&& F1) (p := w.heap.size + 1) h9.be (by omega))
  clear hS0
  generalize hR : F0 &&& F1 = R at HSf HBf ⊢
  have HR := Bx.mk hR
  clear hR
  unfold Tb.tv
  go_simp
  refine hK _ _ (fun h => absurd rfl h) ?_
  (try simp only [Act.put]); (try simp only [List.getElem_toArray]); (try simp only [List.getElem_cons_succ]); (try simp only [List.getElem_cons_zero]); (try simp only [List.setIfInBounds_toArray]); (try simp only [List.set_cons_succ]); (try simp only [List.set_cons_zero])
  clear hK
  refine any_end (by kernel_rfl) ?_
  clear h9 hb9
  go_wp2_with fail
  clear r0 r1 r2 r3 g0 g1 g2 g3
  obtain ⟨⟨r0, r1, r2, r3⟩, _, _, _, _⟩ := tfacts HSf.out
  refine bodyPost_ret (v := Tb.tv R) (by simp [results, Try.results33, go_sem, r0, r1, r2, r3] <;> rfl) rfl ⟨?_, HBf.out⟩
  rw [← HR.out, ← HF0.out, ← HF1.out]
  unfold Ex.tabk
  simp
set_option maxHeartbeats 8000000 in
theorem table_5 (n : Nat) (ih : Tz n) (a : Int) (v : Int) (b o cap : Nat) (w : World) (x : Tr) (sx : Value) (Kx : Kid w b o x sx) (Nx : (x.on .nil).nodes ≤ n) (Px : (x.on .nil).allPlain = true) (y : Tr) (sy : Value) (Ky : Kid w b (o + 4) y sy) (Ny : (y.on .nil).nodes ≤ n) (Py : (y.on .nil).allPlain = true) :
    Calls Try.prog 33 #[.agg #[.int .i64 5, .int .i64 a, .int .i64 v, .slice (some ⟨b, o, none⟩) 2 cap]] w fun e w' => e = .returned (Tb.tv (Ex.tabk 5 v [Ex.table x, Ex.table y])) ∧ Below w.heap.size w w' := by
  have H0 := Bx.mk (TS.start w 5 a v (.slice (some ⟨b, o, none⟩) 2 cap))
  have BKx := Bx.mk Kx
  have BNx := Bx.mk Nx
  have BPx := Bx.mk Px
  have BKy := Bx.mk Ky
  have BNy := Bx.mk Ny
  have BPy := Bx.mk Py
  have IH := Bx.mk ih
  clear ih Kx Nx Px Ky Ny Py
  go_enter Try.func33, Try.ntmps33
  go_wp2_with fail
  try rw [zeros_tab]
  try rw [lc_zero]
  generalize hW : World.alloc (World.alloc (World.alloc _ _) _) _ = W0
  have H1 : Bx (TS w W0 5 a v (.slice (some ⟨b, o, none⟩) 2 cap) 0#256 0#256 0#256) := ⟨by rw [← hW]; exact H0.out⟩
  clear hW H0
  refine wp_loop_rounds 3 ?_
  rw [rounds_succ]
  have hk0 := BKx.out.below H1.out.be
  obtain ⟨k0, k1, k2, k3, kS⟩ := hk0
  obtain ⟨px, cx, rfl⟩ := kS.is
  have hA := H1.out.alloc (.cells #[.int .i64 x.k, .int .i64 x.a, .int .i64 x.v, .slice px x.kids.len cx] 36)
  have hI := IH.out x _ _ _ BNx.out BPx.out (kS.alloc (.cells #[.int .i64 x.k, .int .i64 x.a, .int .i64 x.v, .slice px x.kids.len cx] 36))
  have HA := Bx.mk hA
  have HI := Bx.mk hI
  clear hA hI kS
  unfold Ev at HI
  go_wp2_with fail
  refine HI.out.mono ?_
  rintro e u0 ⟨rfl, hb0⟩
  have hT := HA.out.step hb0
  clear k0 k1 k2 k3 HI
  obtain ⟨_, ⟨q0, q1, q2, q3, q4, q5, q6, q7, q8, q9, qa, qb⟩, f0, f1, f2, f3, f4, f5, f6, f7, f8, f9, fa, fb⟩ := hT.cells
  have HT := Bx.mk hT
  clear hT hb0 HA
  generalize hF0 : Ex.table x = F0
  have HF0 := Bx.mk hF0
  clear hF0
  unfold Tb.tv
  go_wp2_with fail
  clear q0 q1 q2 q3 q4 q5 q6 q7 q8 q9 qa qb f0 f1 f2 f3 f4 f5 f6 f7 f8 f9 fa fb
  have H2 := Bx.mk (HT.out.put0 F0)
  rw [rounds_succ]
  have hk1 := BKy.out.below H2.out.be
  obtain ⟨k0, k1, k2, k3, kS⟩ := hk1
  obtain ⟨py, cy, rfl⟩ := kS.is
  have hA := H2.out.alloc (.cells #[.int .i64 y.k, .int .i64 y.a, .int .i64 y.v, .slice py y.kids.len cy] 36)
  have hI := IH.out y _ _ _ BNy.out BPy.out (kS.alloc (.cells #[.int .i64 y.k, .int .i64 y.a, .int .i64 y.v, .slice py y.kids.len cy] 36))
  have HA := Bx.mk hA
  have HI := Bx.mk hI
  clear hA hI kS
  unfold Ev at HI
  go_wp2_with fail
  refine HI.out.mono ?_
  rintro e u1 ⟨rfl, hb1⟩
  have hT := HA.out.step hb1
  clear k0 k1 k2 k3 HI
  obtain ⟨_, ⟨q0, q1, q2, q3, q4, q5, q6, q7, q8, q9, qa, qb⟩, f0, f1, f2, f3, f4, f5, f6, f7, f8, f9, fa, fb⟩ := hT.cells
  have HT := Bx.mk hT
  clear hT hb1 HA
  generalize hF1 : Ex.table y = F1
  have HF1 := Bx.mk hF1
  clear hF1
  unfold Tb.tv
  go_wp2_with fail
  clear q0 q1 q2 q3 q4 q5 q6 q7 q8 q9 qa qb f0 f1 f2 f3 f4 f5 f6 f7 f8 f9 fa fb
  have H3 := Bx.mk (HT.out.put1 F1)
  obtain ⟨⟨e0, e2, e3⟩, ⟨q0, q1, q2, q3, q4, q5, q6, q7, q8, q9, qa, qb⟩, f0, f1, f2, f3, f4, f5, f6, f7, f8, f9, fa, fb⟩ := H3.out.cells
  rw [rounds_succ]
  go_wp2_with fail
  clear e0 e2 e3 q0 q1 q2 q3 q4 q5 q6 q7 q8 q9 qa qb f0 f1 f2 f3 f4 f5 f6 f7 f8 f9 fa fb
  refine region_any 8 (fun u => TS w u 5 a v (.slice (some ⟨b, o, none⟩) 2 cap) F0 F1 0#256) (by kernel_rfl) ?_
  generalize hu : World.drew _ = u0
  have hS0 : TS w u0 5 a v (.slice (some ⟨b, o, none⟩) 2 cap) F0 F1 0#256 := by rw [← hu]; exact H3.out.step ((Below.refl _ _).drew)
  clear hu
  refine any_take (i := 0) (.pointer (some ⟨w.heap.size, 0, none⟩)) rfl rfl (by kernel_rfl) (by kernel_rfl) (by kernel_rfl) (by kernel_rfl) (fun _ _ d _ _ h => by cases d <;> exact h) (fun u hS => rfl) hS0 ?_
  (try simp only [Act.put]); (try simp only [List.getElem_toArray]); (try simp only [List.getElem_cons_succ]); (try simp only [List.getElem_cons_zero]); (try simp only [List.setIfInBounds_toArray]); (try simp only [List.set_cons_succ]); (try simp only [List.set_cons_zero])
  refine any_take (i := 1) (.int .i64 5) rfl rfl (by kernel_rfl) (by kernel_rfl) (by kernel_rfl) (by kernel_rfl) (fun _ _ d _ _ h => by cases d <;> exact h) (fun u hS => exec_loadI rfl rfl hS.cells.1.1) hS0 ?_
  (try simp only [Act.put]); (try simp only [List.getElem_toArray]); (try simp only [List.getElem_cons_succ]); (try simp only [List.getElem_cons_zero]); (try simp only [List.setIfInBounds_toArray]); (try simp only [List.set_cons_succ]); (try simp only [List.set_cons_zero])
  refine any_take (i := 3) (.pointer (some ⟨w.heap.size + 2, 0, none⟩)) rfl rfl (by kernel_rfl) (by kernel_rfl) (by kernel_rfl) (by kernel_rfl) (fun _ _ d _ _ h => by cases d <;> exact h) (fun u hS => rfl) hS0 ?_
  (try simp only [Act.put]); (try simp only [List.getElem_toArray]); (try simp only [List.getElem_cons_succ]); (try simp only [List.getElem_cons_zero]); (try simp only [List.setIfInBounds_toArray]); (try simp only [List.set_cons_succ]); (try simp only [List.set_cons_zero])
  refine any_take (i := 4) (Tb.tv F0) rfl rfl (by kernel_rfl) (by kernel_rfl) (by kernel_rfl) (by kernel_rfl) (fun _ _ d _ _ h => by cases d <;> exact h) (fun u hS => exec_loadL rfl rfl hS.cells.2.1.1 hS.cells.2.1.2.1 hS.cells.2.1.2.2.1 hS.cells.2.1.2.2.2.1) hS0 ?_
  (try simp only [Act.put]); (try simp only [List.getElem_toArray]); (try simp only [List.getElem_cons_succ]); (try simp only [List.getElem_cons_zero]); (try simp only [List.setIfInBounds_toArray]); (try simp only [List.set_cons_succ]); (try simp only [List.set_cons_zero])
  refine any_take (i := 5) (.pointer (some ⟨w.heap.size + 2, 4, none⟩)) rfl rfl (by kernel_rfl) (by kernel_rfl) (by kernel_rfl) (by kernel_rfl) (fun _ _ d _ _ h => by cases d <;> exact h) (fun u hS => rfl) hS0 ?_
  (try simp only [Act.put]); (try simp only [List.getElem_toArray]); (try simp only [List.getElem_cons_succ]); (try simp only [List.getElem_cons_zero]); (try simp only [List.setIfInBounds_toArray]); (try simp only [List.set_cons_succ]); (try simp only [List.set_cons_zero])
  refine any_take (i := 6) (Tb.tv F1) rfl rfl (by kernel_rfl) (by kernel_rfl) (by kernel_rfl) (by kernel_rfl) (fun _ _ d _ _ h => by cases d <;> exact h) (fun u hS => exec_loadL rfl rfl hS.cells.2.1.2.2.2.2.1 hS.cells.2.1.2.2.2.2.2.1 hS.cells.2.1.2.2.2.2.2.2.1 hS.cells.2.1.2.2.2.2.2.2.2.1) hS0 ?_
  (try simp only [Act.put]); (try simp only [List.getElem_toArray]); (try simp only [List.getElem_cons_succ]); (try simp only [List.getElem_cons_zero]); (try simp only [List.setIfInBounds_toArray]); (try simp only [List.set_cons_succ]); (try simp only [List.set_cons_zero])
  refine any_branch [2] (by kernel_rfl) rfl fun ix hix => ?_
  simp only [List.mem_cons, List.not_mem_nil, or_false] at hix
  subst hix
  refine any_op rfl rfl fun K hK => ?_
  go_simp
  refine (tables_5 _).mono ?_
  rintro e ut ⟨rfl, rfl⟩
  refine hK _ _ (fun _ => hS0) ?_
  (try simp only [Act.put]); (try simp only [List.getElem_toArray]); (try simp only [List.getElem_cons_succ]); (try simp only [List.getElem_cons_zero]); (try simp only [List.setIfInBounds_toArray]); (try simp only [List.set_cons_succ]); (try simp only [List.set_cons_zero])
  clear hK
  refine any_branch [7] (by kernel_rfl) rfl fun ix hix => ?_
  simp only [List.mem_cons, List.not_mem_nil, or_false] at hix
  subst hix
  refine any_op rfl rfl fun K hK => ?_
  go_simp
  refine (or_any F0 F1 _).mono ?_
  rintro e u9 ⟨rfl, hb9⟩
  have h9 := hS0.step hb9
  refine hK _ _ (fun _ => h9) ?_
  (try simp only [Act.put]); (try simp only [List.getElem_toArray]); (try simp only [List.getElem_cons_succ]); (try simp only [List.getElem_cons_zero]); (try simp only [List.setIfInBounds_toArray]); (try simp only [List.set_cons_succ]); (try simp only [List.set_cons_zero])
  clear hK
  refine any_branch [8] (by kernel_rfl) rfl fun ix hix => ?_
  simp only [List.mem_cons, List.not_mem_nil, or_false] at hix
  subst hix
  refine any_op rfl rfl fun K hK => ?_
  obtain ⟨⟨r0, r1, r2, r3⟩, g0, g1, g2, g3⟩ := tfacts h9.r
  have HSf := Bx.mk (store4 (F := F0 ||| F1) h9.r)
  have HBf := Bx.mk (below4 (F := F0 ||| F1) (p := w.heap.size + 1) h9.be (by omega))
  clear hS0
  generalize hR : F0 ||| F1 = R at HSf HBf ⊢
  have HR := Bx.mk hR
  clear hR
  unfold Tb.tv
  go_simp
  refine hK _ _ (fun h => absurd rfl h) ?_
  (try simp only [Act.put]); (try simp only [List.getElem_toArray]); (try simp only [List.getElem_cons_succ]); (try simp only [List.getElem_cons_zero]); (try simp only [List.setIfInBounds_toArray]); (try simp only [List.set_cons_succ]); (try simp only [List.set_cons_zero])
  clear hK
  refine any_end (by kernel_rfl) ?_
  clear h9 hb9
  go_wp2_with fail
  clear r0 r1 r2 r3 g0 g1 g2 g3
  obtain ⟨⟨r0, r1, r2, r3⟩, _, _, _, _⟩ := tfacts HSf.out
  refine bodyPost_ret (v := Tb.tv R) (by simp [results, Try.results33, go_sem, r0, r1, r2, r3] <;> rfl) rfl ⟨?_, HBf.out⟩
  rw [← HR.out, ← HF0.out, ← HF1.out]
  unfold Ex.tabk
  simp
set_option maxHeartbeats 8000000 in
theorem table_6 (n : Nat) (ih : Tz n) (a : Int) (v : Int) (b o cap : Nat) (w : World) (x : Tr) (sx : Value) (Kx : Kid w b o x sx) (Nx : (x.on .nil).nodes ≤ n) (Px : (x.on .nil).allPlain = true) (y : Tr) (sy : Value) (Ky : Kid w b (o + 4) y sy) (Ny : (y.on .nil).nodes ≤ n) (Py : (y.on .nil).allPlain = true) :
    Calls Try.prog 33 #[.agg #[.int .i64 6, .int .i64 a, .int .i64 v, .slice (some ⟨b, o, none⟩) 2 cap]] w fun e w' => e = .returned (Tb.tv (Ex.tabk 6 v [Ex.table x, Ex.table y])) ∧ Below w.heap.size w w' := by
  have H0 := Bx.mk (TS.start w 6 a v (.slice (some ⟨b, o, none⟩) 2 cap))
  have BKx := Bx.mk Kx
  have BNx := Bx.mk Nx
  have BPx := Bx.mk Px
  have BKy := Bx.mk Ky
  have BNy := Bx.mk Ny
  have BPy := Bx.mk Py
  have IH := Bx.mk ih
  clear ih Kx Nx Px Ky Ny Py
  go_enter Try.func33, Try.ntmps33
  go_wp2_with fail
  try rw [zeros_tab]
  try rw [lc_zero]
  generalize hW : World.alloc (World.alloc (World.alloc _ _) _) _ = W0
  have H1 : Bx (TS w W0 6 a v (.slice (some ⟨b, o, none⟩) 2 cap) 0#256 0#256 0#256) := ⟨by rw [← hW]; exact H0.out⟩
  clear hW H0
  refine wp_loop_rounds 3 ?_
  rw [rounds_succ]
  have hk0 := BKx.out.below H1.out.be
  obtain ⟨k0, k1, k2, k3, kS⟩ := hk0
  obtain ⟨px, cx, rfl⟩ := kS.is
  have hA := H1.out.alloc (.cells #[.int .i64 x.k, .int .i64 x.a, .int .i64 x.v, .slice px x.kids.len cx] 36)
  have hI := IH.out x _ _ _ BNx.out BPx.out (kS.alloc (.cells #[.int .i64 x.k, .int .i64 x.a, .int .i64 x.v, .slice px x.kids.len cx] 36))
  have HA := Bx.mk hA
  have HI := Bx.mk hI
  clear hA hI kS
  unfold Ev at HI
  go_wp2_with fail
  refine HI.out.mono ?_
  rintro e u0 ⟨rfl, hb0⟩
  have hT := HA.out.step hb0
  clear k0 k1 k2 k3 HI
  obtain ⟨_, ⟨q0, q1, q2, q3, q4, q5, q6, q7, q8, q9, qa, qb⟩, f0, f1, f2, f3, f4, f5, f6, f7, f8, f9, fa, fb⟩ := hT.cells
  have HT := Bx.mk hT
  clear hT hb0 HA
  generalize hF0 : Ex.table x = F0
  have HF0 := Bx.mk hF0
  clear hF0
  unfold Tb.tv
  go_wp2_with fail
  clear q0 q1 q2 q3 q4 q5 q6 q7 q8 q9 qa qb f0 f1 f2 f3 f4 f5 f6 f7 f8 f9 fa fb
  have H2 := Bx.mk (HT.out.put0 F0)
  rw [rounds_succ]
  have hk1 := BKy.out.below H2.out.be
  obtain ⟨k0, k1, k2, k3, kS⟩ := hk1
  obtain ⟨py, cy, rfl⟩ := kS.is
  have hA := H2.out.alloc (.cells #[.int .i64 y.k, .int .i64 y.a, .int .i64 y.v, .slice py y.kids.len cy] 36)
  have hI := IH.out y _ _ _ BNy.out BPy.out (kS.alloc (.cells #[.int .i64 y.k, .int .i64 y.a, .int .i64 y.v, .slice py y.kids.len cy] 36))
  have HA := Bx.mk hA
  have HI := Bx.mk hI
  clear hA hI kS
  unfold Ev at HI
  go_wp2_with fail
  refine HI.out.mono ?_
  rintro e u1 ⟨rfl, hb1⟩
  have hT := HA.out.step hb1
  clear k0 k1 k2 k3 HI
  obtain ⟨_, ⟨q0, q1, q2, q3, q4, q5, q6, q7, q8, q9, qa, qb⟩, f0, f1, f2, f3, f4, f5, f6, f7, f8, f9, fa, fb⟩ := hT.cells
  have HT := Bx.mk hT
  clear hT hb1 HA
  generalize hF1 : Ex.table y = F1
  have HF1 := Bx.mk hF1
  clear hF1
  unfold Tb.tv
  go_wp2_with fail
  clear q0 q1 q2 q3 q4 q5 q6 q7 q8 q9 qa qb f0 f1 f2 f3 f4 f5 f6 f7 f8 f9 fa fb
  have H3 := Bx.mk (HT.out.put1 F1)
  obtain ⟨⟨e0, e2, e3⟩, ⟨q0, q1, q2, q3, q4, q5, q6, q7, q8, q9, qa, qb⟩, f0, f1, f2, f3, f4, f5, f6, f7, f8, f9, fa, fb⟩ := H3.out.cells
  rw [rounds_succ]
  go_wp2_with fail
  clear e0 e2 e3 q0 q1 q2 q3 q4 q5 q6 q7 q8 q9 qa qb f0 f1 f2 f3 f4 f5 f6 f7 f8 f9 fa fb
  refine region_any 8 (fun u => TS w u 6 a v (.slice (some ⟨b, o, none⟩) 2 cap) F0 F1 0#256) (by kernel_rfl) ?_
  generalize hu : World.drew _ = u0
  have hS0 : TS w u0 6 a v (.slice (some ⟨b, o, none⟩) 2 cap) F0 F1 0#256 := by rw [← hu]; exact H3.out.step ((Below.refl _ _).drew)
  clear hu
  refine any_take (i := 0) (.pointer (some ⟨w.heap.size, 0, none⟩)) rfl rfl (by kernel_rfl) (by kernel_rfl) (by kernel_rfl) (by kernel_rfl) (fun _ _ d _ _ h => by cases d <;> exact h) (fun u hS => rfl) hS0 ?_
  (try simp only [Act.put]); (try simp only [List.getElem_toArray]); (try simp only [List.getElem_cons_succ]); (try simp only [List.getElem_cons_zero]); (try simp only [List.setIfInBounds_toArray]); (try simp only [List.set_cons_succ]); (try simp only [List.set_cons_zero])
  refine any_take (i := 1) (.int .i64 6) rfl rfl (by kernel_rfl) (by kernel_rfl) (by kernel_rfl) (by kernel_rfl) (fun _ _ d _ _ h => by cases d <;> exact h) (fun u hS => exec_loadI rfl rfl hS.cells.1.1) hS0 ?_
  (try simp only [Act.put]); (try simp only [List.getElem_toArray]); (try simp only [List.getElem_cons_succ]); (try simp only [List.getElem_cons_zero]); (try simp only [List.setIfInBounds_toArray]); (try simp only [List.set_cons_succ]); (try simp only [List.set_cons_zero])
  refine any_take (i := 3) (.pointer (some ⟨w.heap.size + 2, 0, none⟩)) rfl rfl (by kernel_rfl) (by kernel_rfl) (by kernel_rfl) (by kernel_rfl) (fun _ _ d _ _ h => by cases d <;> exact h) (fun u hS => rfl) hS0 ?_
  (try simp only [Act.put]); (try simp only [List.getElem_toArray]); (try simp only [List.getElem_cons_succ]); (try simp only [List.getElem_cons_zero]); (try simp only [List.setIfInBounds_toArray]); (try simp only [List.set_cons_succ]); (try simp only [List.set_cons_zero])
  refine any_take (i := 4) (Tb.tv F0) rfl rfl (by kernel_rfl) (by kernel_rfl) (by kernel_rfl) (by kernel_rfl) (fun _ _ d _ _ h => by cases d <;> exact h) (fun u hS => exec_loadL rfl rfl hS.cells.2.1.1 hS.cells.2.1.2.1 hS.cells.2.1.2.2.1 hS.cells.2.1.2.2.2.1) hS0 ?_
  (try simp only [Act.put]); (try simp only [List.getElem_toArray]); (try simp only [List.getElem_cons_succ]); (try simp only [List.getElem_cons_zero]); (try simp only [List.setIfInBounds_toArray]); (try simp only [List.set_cons_succ]); (try simp only [List.set_cons_zero])
  refine any_take (i := 5) (.pointer (some ⟨w.heap.size + 2, 4, none⟩)) rfl rfl (by kernel_rfl) (by kernel_rfl) (by kernel_rfl) (by kernel_rfl) (fun _ _ d _ _ h => by cases d <;> exact h) (fun u hS => rfl) hS0 ?_
  (try simp only [Act.put]); (try simp only [List.getElem_toArray]); (try simp only [List.getElem_cons_succ]); (try simp only [List.getElem_cons_zero]); (try simp only [List.setIfInBounds_toArray]); (try simp only [List.set_cons_succ]); (try simp only [List.set_cons_zero])
  refine any_take (i := 6) (Tb.tv F1) rfl rfl (by kernel_rfl) (by kernel_rfl) (by kernel_rfl) (by kernel_rfl) (fun _ _ d _ _ h => by cases d <;> exact h) (fun u hS => exec_loadL rfl rfl hS.cells.2.1.2.2.2.2.1 hS.cells.2.1.2.2.2.2.2.1 hS.cells.2.1.2.2.2.2.2.2.1 hS.cells.2.1.2.2.2.2.2.2.2.1) hS0 ?_
  (try simp only [Act.put]); (try simp only [List.getElem_toArray]); (try simp only [List.getElem_cons_succ]); (try simp only [List.getElem_cons_zero]); (try simp only [List.setIfInBounds_toArray]); (try simp only [List.set_cons_succ]); (try simp only [List.set_cons_zero])
  refine any_branch [2] (by kernel_rfl) rfl fun ix hix => ?_
  simp only [List.mem_cons, List.not_mem_nil, or_false] at hix
  subst hix
  refine any_op rfl rfl fun K hK => ?_
  go_simp
  refine (tables_6 _).mono ?_
  rintro e ut ⟨rfl, rfl⟩
  refine hK _ _ (fun _ => hS0) ?_
  (try simp only [Act.put]); (try simp only [List.getElem_toArray]); (try simp only [List.getElem_cons_succ]); (try simp only [List.getElem_cons_zero]); (try simp only [List.setIfInBounds_toArray]); (try simp only [List.set_cons_succ]); (try simp only [List.set_cons_zero])
  clear hK
  refine any_branch [7] (by kernel_rfl) rfl fun ix hix => ?_
  simp only [List.mem_cons, List.not_mem_nil, or_false] at hix
  subst hix
  refine any_op rfl rfl fun K hK => ?_
  go_simp
  refine (xor_any F0 F1 _).mono ?_
  rintro e u9 ⟨rfl, hb9⟩
  have h9 := hS0.step hb9
  refine hK _ _ (fun _ => h9) ?_
  (try simp only [Act.put]); (try simp only [List.getElem_toArray]); (try simp only [List.getElem_cons_succ]); (try simp only [List.getElem_cons_zero]); (try simp only [List.setIfInBounds_toArray]); (try simp only [List.set_cons_succ]); (try simp only [List.set_cons_zero])
  clear hK
  refine any_branch [8] (by kernel_rfl) rfl fun ix hix => ?_
  simp only [List.mem_cons, List.not_mem_nil, or_false] at hix
  subst hix
  refine any_op rfl rfl fun K hK => ?_
  obtain ⟨⟨r0, r1, r2, r3⟩, g0, g1, g2, g3⟩ := tfacts h9.r
  have HSf := Bx.mk (store4 (F := F0 ^^^ F1) h9.r)
  have HBf := Bx.mk (below4 (F := F0 ^^^ F1) (p := w.heap.size + 1) h9.be (by omega))
  clear hS0
  generalize hR : F0 ^^^ F1 = R at HSf HBf ⊢
  have HR := Bx.mk hR
  clear hR
  unfold Tb.tv
  go_simp
  refine hK _ _ (fun h => absurd rfl h) ?_
  (try simp only [Act.put]); (try simp only [List.getElem_toArray]); (try simp only [List.getElem_cons_succ]); (try simp only [List.getElem_cons_zero]); (try simp only [List.setIfInBounds_toArray]); (try simp only [List.set_cons_succ]); (try simp only [List.set_cons_zero])
  clear hK
  refine any_end (by kernel_rfl) ?_
  clear h9 hb9
  go_wp2_with fail
  clear r0 r1 r2 r3 g0 g1 g2 g3
  obtain ⟨⟨r0, r1, r2, r3⟩, _, _, _, _⟩ := tfacts HSf.out
  refine bodyPost_ret (v := Tb.tv R) (by simp [results, Try.results33, go_sem, r0, r1, r2, r3] <;> rfl) rfl ⟨?_, HBf.out⟩
  rw [← HR.out, ← HF0.out, ← HF1.out]
  unfold Ex.tabk
  simp
set_option maxHeartbeats 8000000 in
theorem table_7 (n : Nat) (ih : Tz n) (a : Int) (v : Int) (b o cap : Nat) (w : World) (x : Tr) (sx : Value) (Kx : Kid w b o x sx) (Nx : (x.on .nil).nodes ≤ n) (Px : (x.on .nil).allPlain = true) (y : Tr) (sy : Value) (Ky : Kid w b (o + 4) y sy) (Ny : (y.on .nil).nodes ≤ n) (Py : (y.on .nil).allPlain = true) :
    Calls Try.prog 33 #[.agg #[.int .i64 7, .int .i64 a, .int .i64 v, .slice (some ⟨b, o, none⟩) 2 cap]] w fun e w' => e = .returned (Tb.tv (Ex.tabk 7 v [Ex.table x, Ex.table y])) ∧ Below w.heap.size w w' := by
  have H0 := Bx.mk (TS.start w 7 a v (.slice (some ⟨b, o, none⟩) 2 cap))
  have BKx := Bx.mk Kx
  have BNx := Bx.mk Nx
  have BPx := Bx.mk Px
  have BKy := Bx.mk Ky
  have BNy := Bx.mk Ny
  have BPy := Bx.mk Py
  have IH := Bx.mk ih
  clear ih Kx Nx Px Ky Ny Py
  go_enter Try.func33, Try.ntmps33
  go_wp2_with fail
  try rw [zeros_tab]
  try rw [lc_zero]
  generalize hW : World.alloc (World.alloc (World.alloc _ _) _) _ = W0
  have H1 : Bx (TS w W0 7 a v (.slice (some ⟨b, o, none⟩) 2 cap) 0#256 0#256 0#256) := ⟨by rw [← hW]; exact H0.out⟩
  clear hW H0
  refine wp_loop_rounds 3 ?_
  rw [rounds_succ]
  have hk0 := BKx.out.below H1.out.be
  obtain ⟨k0, k1, k2, k3, kS⟩ := hk0
  obtain ⟨px, cx, rfl⟩ := kS.is
  have hA := H1.out.alloc (.cells #[.int .i64 x.k, .int .i64 x.a, .int .i64 x.v, .slice px x.kids.len cx] 36)
  have hI := IH.out x _ _ _ BNx.out BPx.out (kS.alloc (.cells #[.int .i64 x.k, .int .i64 x.a, .int .i64 x.v, .slice px x.kids.len cx] 36))
  have HA := Bx.mk hA
  have HI := Bx.mk hI
  clear hA hI kS
  unfold Ev at HI
  go_wp2_with fail
  refine HI.out.mono ?_
  rintro e u0 ⟨rfl, hb0⟩
  have hT := HA.out.step hb0
  clear k0 k1 k2 k3 HI
  obtain ⟨_, ⟨q0, q1, q2, q3, q4, q5, q6, q7, q8, q9, qa, qb⟩, f0, f1, f2, f3, f4, f5, f6, f7, f8, f9, fa, fb⟩ := hT.cells
  have HT := Bx.mk hT
  clear hT hb0 HA
  generalize hF0 : Ex.table x = F0
  have HF0 := Bx.mk hF0
  clear hF0
  unfold Tb.tv
  go_wp2_with fail
  clear q0 q1 q2 q3 q4 q5 q6 q7 q8 q9 qa qb f0 f1 f2 f3 f4 f5 f6 f7 f8 f9 fa fb
  have H2 := Bx.mk (HT.out.put0 F0)
  rw [rounds_succ]
  have hk1 := BKy.out.below H2.out.be
  obtain ⟨k0, k1, k2, k3, kS⟩ := hk1
  obtain ⟨py, cy, rfl⟩ := kS.is
  have hA := H2.out.alloc (.cells #[.int .i64 y.k, .int .i64 y.a, .int .i64 y.v, .slice py y.kids.len cy] 36)
  have hI := IH.out y _ _ _ BNy.out BPy.out (kS.alloc (.cells #[.int .i64 y.k, .int .i64 y.a, .int .i64 y.v, .slice py y.kids.len cy] 36))
  have HA := Bx.mk hA
  have HI := Bx.mk hI
  clear hA hI kS
  unfold Ev at HI
  go_wp2_with fail
  refine HI.out.mono ?_
  rintro e u1 ⟨rfl, hb1⟩
  have hT := HA.out.step hb1
  clear k0 k1 k2 k3 HI
  obtain ⟨_, ⟨q0, q1, q2, q3, q4, q5, q6, q7, q8, q9, qa, qb⟩, f0, f1, f2, f3, f4, f5, f6, f7, f8, f9, fa, fb⟩ := hT.cells
  have HT := Bx.mk hT
  clear hT hb1 HA
  generalize hF1 : Ex.table y = F1
  have HF1 := Bx.mk hF1
  clear hF1
  unfold Tb.tv
  go_wp2_with fail
  clear q0 q1 q2 q3 q4 q5 q6 q7 q8 q9 qa qb f0 f1 f2 f3 f4 f5 f6 f7 f8 f9 fa fb
  have H3 := Bx.mk (HT.out.put1 F1)
  obtain ⟨⟨e0, e2, e3⟩, ⟨q0, q1, q2, q3, q4, q5, q6, q7, q8, q9, qa, qb⟩, f0, f1, f2, f3, f4, f5, f6, f7, f8, f9, fa, fb⟩ := H3.out.cells
  rw [rounds_succ]
  go_wp2_with fail
  clear e0 e2 e3 q0 q1 q2 q3 q4 q5 q6 q7 q8 q9 qa qb f0 f1 f2 f3 f4 f5 f6 f7 f8 f9 fa fb
  refine region_any 8 (fun u => TS w u 7 a v (.slice (some ⟨b, o, none⟩) 2 cap) F0 F1 0#256) (by kernel_rfl) ?_
  generalize hu : World.drew _ = u0
  have hS0 : TS w u0 7 a v (.slice (some ⟨b, o, none⟩) 2 cap) F0 F1 0#256 := by rw [← hu]; exact H3.out.step ((Below.refl _ _).drew)
  clear hu
  refine any_take (i := 0) (.pointer (some ⟨w.heap.size, 0, none⟩)) rfl rfl (by kernel_rfl) (by kernel_rfl) (by kernel_rfl) (by kernel_rfl) (fun _ _ d _ _ h => by cases d <;> exact h) (fun u hS => rfl) hS0 ?_
  (try simp only [Act.put]); (try simp only [List.getElem_toArray]); (try simp only [List.getElem_cons_succ]); (try simp only [List.getElem_cons_zero]); (try simp only [List.setIfInBounds_toArray]); (try simp only [List.set_cons_succ]); (try simp only [List.set_cons_zero])
  refine any_take (i := 1) (.int .i64 7) rfl rfl (by kernel_rfl) (by kernel_rfl) (by kernel_rfl) (by kernel_rfl) (fun _ _ d _ _ h => by cases d <;> exact h) (fun u hS => exec_loadI rfl rfl hS.cells.1.1) hS0 ?_
  (try simp only [Act.put]); (try simp only [List.getElem_toArray]); (try simp only [List.getElem_cons_succ]); (try simp only [List.getElem_cons_zero]); (try simp only [List.setIfInBounds_toArray]); (try simp only [List.set_cons_succ]); (try simp only [List.set_cons_zero])
  refine any_take (i := 3) (.pointer (some ⟨w.heap.size + 2, 0, none⟩)) rfl rfl (by kernel_rfl) (by kernel_rfl) (by kernel_rfl) (by kernel_rfl) (fun _ _ d _ _ h => by cases d <;> exact h) (fun u hS => rfl) hS0 ?_
  (try simp only [Act.put]); (try simp only [List.getElem_toArray]); (try simp only [List.getElem_cons_succ]); (try simp only [List.getElem_cons_zero]); (try simp only [List.setIfInBounds_toArray]); (try simp only [List.set_cons_succ]); (try simp only [List.set_cons_zero])
  refine any_take (i := 4) (Tb.tv F0) rfl rfl (by kernel_rfl) (by kernel_rfl) (by kernel_rfl) (by kernel_rfl) (fun _ _ d _ _ h => by cases d <;> exact h) (fun u hS => exec_loadL rfl rfl hS.cells.2.1.1 hS.cells.2.1.2.1 hS.cells.2.1.2.2.1 hS.cells.2.1.2.2.2.1) hS0 ?_
  (try simp only [Act.put]); (try simp only [List.getElem_toArray]); (try simp only [List.getElem_cons_succ]); (try simp only [List.getElem_cons_zero]); (try simp only [List.setIfInBounds_toArray]); (try simp only [List.set_cons_succ]); (try simp only [List.set_cons_zero])
  refine any_take (i := 5) (.pointer (some ⟨w.heap.size + 2, 4, none⟩)) rfl rfl (by kernel_rfl) (by kernel_rfl) (by kernel_rfl) (by kernel_rfl) (fun _ _ d _ _ h => by cases d <;> exact h) (fun u hS => rfl) hS0 ?_
  (try simp only [Act.put]); (try simp only [List.getElem_toArray]); (try simp only [List.getElem_cons_succ]); (try simp only [List.getElem_cons_zero]); (try simp only [List.setIfInBounds_toArray]); (try simp only [List.set_cons_succ]); (try simp only [List.set_cons_zero])
  refine any_take (i := 6) (Tb.tv F1) rfl rfl (by kernel_rfl) (by kernel_rfl) (by kernel_rfl) (by kernel_rfl) (fun _ _ d _ _ h => by cases d <;> exact h) (fun u hS => exec_loadL rfl rfl hS.cells.2.1.2.2.2.2.1 hS.cells.2.1.2.2.2.2.2.1 hS.cells.2.1.2.2.2.2.2.2.1 hS.cells.2.1.2.2.2.2.2.2.2.1) hS0 ?_
  (try simp only [Act.put]); (try simp only [List.getElem_toArray]); (try simp only [List.getElem_cons_succ]); (try simp only [List.getElem_cons_zero]); (try simp only [List.setIfInBounds_toArray]); (try simp only [List.set_cons_succ]); (try simp only [List.set_cons_zero])
  refine any_branch [2] (by kernel_rfl) rfl fun ix hix => ?_
  simp only [List.mem_cons, List.not_mem_nil, or_false] at hix
  subst hix
  refine any_op rfl rfl fun K hK => ?_
  go_simp
  refine (tables_7 _).mono ?_
  rintro e ut ⟨rfl, rfl⟩
  refine hK _ _ (fun _ => hS0) ?_
  (try simp only [Act.put]); (try simp only [List.getElem_toArray]); (try simp only [List.getElem_cons_succ]); (try simp only [List.getElem_cons_zero]); (try simp only [List.setIfInBounds_toArray]); (try simp only [List.set_cons_succ]); (try simp only [List.set_cons_zero])
  clear hK
  refine any_branch [7] (by kernel_rfl) rfl fun ix hix => ?_
  simp only [List.mem_cons, List.not_mem_nil, or_false] at hix
  subst hix
  refine any_op rfl rfl fun K hK => ?_
  go_simp
  refine (tables1_any F0 F1 _).mono ?_
  rintro e u9 ⟨rfl, hb9⟩
  have h9 := hS0.step hb9
  refine hK _ _ (fun _ => h9) ?_
  (try simp only [Act.put]); (try simp only [List.getElem_toArray]); (try simp only [List.getElem_cons_succ]); (try simp only [List.getElem_cons_zero]); (try simp only [List.setIfInBounds_toArray]); (try simp only [List.set_cons_succ]); (try simp only [List.set_cons_zero])
  clear hK
  refine any_branch [8] (by kernel_rfl) rfl fun ix hix => ?_
  simp only [List.mem_cons, List.not_mem_nil, or_false] at hix
  subst hix
  refine any_op rfl rfl fun K hK => ?_
  obtain ⟨⟨r0, r1, r2, r3⟩, g0, g1, g2, g3⟩ := tfacts h9.r
  have HSf := Bx.mk (store4 (F := (~~~F0) ||| F1) h9.r)
  have HBf := Bx.mk (below4 (F := (~~~F0) ||| F1) (p := w.heap.size + 1) h9.be (by omega))
  clear hS0
  generalize hR : (~~~F0) ||| F1 = R at HSf HBf ⊢
  have HR := Bx.mk hR
  clear hR
  unfold Tb.tv
  go_simp
  refine hK _ _ (fun h => absurd rfl h) ?_
  (try simp only [Act.put]); (try simp only [List.getElem_toArray]); (try simp only [List.getElem_cons_succ]); (try simp only [List.getElem_cons_zero]); (try simp only [List.setIfInBounds_toArray]); (try simp only [List.set_cons_succ]); (try simp only [List.set_cons_zero])
  clear hK
  refine any_end (by kernel_rfl) ?_
  clear h9 hb9
  go_wp2_with fail
  clear r0 r1 r2 r3 g0 g1 g2 g3
  obtain ⟨⟨r0, r1, r2, r3⟩, _, _, _, _⟩ := tfacts HSf.out
  refine bodyPost_ret (v := Tb.tv R) (by simp [results, Try.results33, go_sem, r0, r1, r2, r3] <;> rfl) rfl ⟨?_, HBf.out⟩
  rw [← HR.out, ← HF0.out, ← HF1.out]
  unfold Ex.tabk
  simp
set_option maxHeartbeats 8000000 in
theorem table_8 (n : Nat) (ih : Tz n) (a : Int) (v : Int) (b o cap : Nat) (w : World) (x : Tr) (sx : Value) (Kx : Kid w b o x sx) (Nx : (x.on .nil).nodes ≤ n) (Px : (x.on .nil).allPlain = true) (y : Tr) (sy : Value) (Ky : Kid w b (o + 4) y sy) (Ny : (y.on .nil).nodes ≤ n) (Py : (y.on .nil).allPlain = true) :
    Calls Try.prog 33 #[.agg #[.int .i64 8, .int .i64 a, .int .i64 v, .slice (some ⟨b, o, none⟩) 2 cap]] w fun e w' => e = .returned (Tb.tv (Ex.tabk 8 v [Ex.table x, Ex.table y])) ∧ Below w.heap.size w w' := by
  have H0 := Bx.mk (TS.start w 8 a v (.slice (some ⟨b, o, none⟩) 2 cap))
  have BKx := Bx.mk Kx
  have BNx := Bx.mk Nx
  have BPx := Bx.mk Px
  have BKy := Bx.mk Ky
  have BNy := Bx.mk Ny
  have BPy := Bx.mk Py
  have IH := Bx.mk ih
  clear ih Kx Nx Px Ky Ny Py
  go_enter Try.func33, Try.ntmps33
  go_wp2_with fail
  try rw [zeros_tab]
  try rw [lc_zero]
  generalize hW : World.alloc (World.alloc (World.alloc _ _) _) _ = W0
  have H1 : Bx (TS w W0 8 a v (.slice (some ⟨b, o, none⟩) 2 cap) 0#256 0#256 0#256) := ⟨by rw [← hW]; exact H0.out⟩
  clear hW H0
  refine wp_loop_rounds 3 ?_
  rw [rounds_succ]
  have hk0 := BKx.out.below H1.out.be
  obtain ⟨k0, k1, k2, k3, kS⟩ := hk0
  obtain ⟨px, cx, rfl⟩ := kS.is
  have hA := H1.out.alloc (.cells #[.int .i64 x.k, .int .i64 x.a, .int .i64 x.v, .slice px x.kids.len cx] 36)
  have hI := IH.out x _ _ _ BNx.out BPx.out (kS.alloc (.cells #[.int .i64 x.k, .int .i64 x.a, .int .i64 x.v, .slice px x.kids.len cx] 36))
  have HA := Bx.mk hA
  have HI := Bx.mk hI
  clear hA hI kS
  unfold Ev at HI
  go_wp2_with fail
  refine HI.out.mono ?_
  rintro e u0 ⟨rfl, hb0⟩
  have hT := HA.out.step hb0
  clear k0 k1 k2 k3 HI
  obtain ⟨_, ⟨q0, q1, q2, q3, q4, q5, q6, q7, q8, q9, qa, qb⟩, f0, f1, f2, f3, f4, f5, f6, f7, f8, f9, fa, fb⟩ := hT.cells
  have HT := Bx.mk hT
  clear hT hb0 HA
  generalize hF0 : Ex.table x = F0
  have HF0 := Bx.mk hF0
  clear hF0
  unfold Tb.tv
  go_wp2_with fail
  clear q0 q1 q2 q3 q4 q5 q6 q7 q8 q9 qa qb f0 f1 f2 f3 f4 f5 f6 f7 f8 f9 fa fb
  have H2 := Bx.mk (HT.out.put0 F0)
  rw [rounds_succ]
  have hk1 := BKy.out.below H2.out.be
  obtain ⟨k0, k1, k2, k3, kS⟩ := hk1
  obtain ⟨py, cy, rfl⟩ := kS.is
  have hA := H2.out.alloc (.cells #[.int .i64 y.k, .int .i64 y.a, .int .i64 y.v, .slice py y.kids.len cy] 36)
  have hI := IH.out y _ _ _ BNy.out BPy.out (kS.alloc (.cells #[.int .i64 y.k, .int .i64 y.a, .int .i64 y.v, .slice py y.kids.len cy] 36))
  have HA := Bx.mk hA
  have HI := Bx.mk hI
  clear hA hI kS
  unfold Ev at HI
  go_wp2_with fail
  refine HI.out.mono ?_
  rintro e u1 ⟨rfl, hb1⟩
  have hT := HA.out.step hb1
  clear k0 k1 k2 k3 HI
  obtain ⟨_, ⟨q0, q1, q2, q3, q4, q5, q6, q7, q8, q9, qa, qb⟩, f0, f1, f2, f3, f4, f5, f6, f7, f8, f9, fa, fb⟩ := hT.cells
  have HT := Bx.mk hT
  clear hT hb1 HA
  generalize hF1 : Ex.table y = F1
  have HF1 := Bx.mk hF1
  clear hF1
  unfold Tb.tv
  go_wp2_with fail
  clear q0 q1 q2 q3 q4 q5 q6 q7 q8 q9 qa qb f0 f1 f2 f3 f4 f5 f6 f7 f8 f9 fa fb
  have H3 := Bx.mk (HT.out.put1 F1)
  obtain ⟨⟨e0, e2, e3⟩, ⟨q0, q1, q2, q3, q4, q5, q6, q7, q8, q9, qa, qb⟩, f0, f1, f2, f3, f4, f5, f6, f7, f8, f9, fa, fb⟩ := H3.out.cells
  rw [rounds_succ]
  go_wp2_with fail
  clear e0 e2 e3 q0 q1 q2 q3 q4 q5 q6 q7 q8 q9 qa qb f0 f1 f2 f3 f4 f5 f6 f7 f8 f9 fa fb
  refine region_any 8 (fun u => TS w u 8 a v (.slice (some ⟨b, o, none⟩) 2 cap) F0 F1 0#256) (by kernel_rfl) ?_
  generalize hu : World.drew _ = u0
  have hS0 : TS w u0 8 a v (.slice (some ⟨b, o, none⟩) 2 cap) F0 F1 0#256 := by rw [← hu]; exact H3.out.step ((Below.refl _ _).drew)
  clear hu
  refine any_take (i := 0) (.pointer (some ⟨w.heap.size, 0, none⟩)) rfl rfl (by kernel_rfl) (by kernel_rfl) (by kernel_rfl) (by kernel_rfl) (fun _ _ d _ _ h => by cases d <;> exact h) (fun u hS => rfl) hS0 ?_
  (try simp only [Act.put]); (try simp only [List.getElem_toArray]); (try simp only [List.getElem_cons_succ]); (try simp only [List.getElem_cons_zero]); (try simp only [List.setIfInBounds_toArray]); (try simp only [List.set_cons_succ]); (try simp only [List.set_cons_zero])
  refine any_take (i := 1) (.int .i64 8) rfl rfl (by kernel_rfl) (by kernel_rfl) (by kernel_rfl) (by kernel_rfl) (fun _ _ d _ _ h => by cases d <;> exact h) (fun u hS => exec_loadI rfl rfl hS.cells.1.1) hS0 ?_
  (try simp only [Act.put]); (try simp only [List.getElem_toArray]); (try simp only [List.getElem_cons_succ]); (try simp only [List.getElem_cons_zero]); (try simp only [List.setIfInBounds_toArray]); (try simp only [List.set_cons_succ]); (try simp only [List.set_cons_zero])
  refine any_take (i := 3) (.pointer (some ⟨w.heap.size + 2, 0, none⟩)) rfl rfl (by kernel_rfl) (by kernel_rfl) (by kernel_rfl) (by kernel_rfl) (fun _ _ d _ _ h => by cases d <;> exact h) (fun u hS => rfl) hS0 ?_
  (try simp only [Act.put]); (try simp only [List.getElem_toArray]); (try simp only [List.getElem_cons_succ]); (try simp only [List.getElem_cons_zero]); (try simp only [List.setIfInBounds_toArray]); (try simp only [List.set_cons_succ]); (try simp only [List.set_cons_zero])
  refine any_take (i := 4) (Tb.tv F0) rfl rfl (by kernel_rfl) (by kernel_rfl) (by kernel_rfl) (by kernel_rfl) (fun _ _ d _ _ h => by cases d <;> exact h) (fun u hS => exec_loadL rfl rfl hS.cells.2.1.1 hS.cells.2.1.2.1 hS.cells.2.1.2.2.1 hS.cells.2.1.2.2.2.1) hS0 ?_
  (try simp only [Act.put]); (try simp only [List.getElem_toArray]); (try simp only [List.getElem_cons_succ]); (try simp only [List.getElem_cons_zero]); (try simp only [List.setIfInBounds_toArray]); (try simp only [List.set_cons_succ]); (try simp only [List.set_cons_zero])
  refine any_take (i := 5) (.pointer (some ⟨w.heap.size + 2, 4, none⟩)) rfl rfl (by kernel_rfl) (by kernel_rfl) (by kernel_rfl) (by kernel_rfl) (fun _ _ d _ _ h => by cases d <;> exact h) (fun u hS => rfl) hS0 ?_
  (try simp only [Act.put]); (try simp only [List.getElem_toArray]); (try simp only [List.getElem_cons_succ]); (try simp only [List.getElem_cons_zero]); (try simp only [List.setIfInBounds_toArray]); (try simp only [List.set_cons_succ]); (try simp only [List.set_cons_zero])
  refine any_take (i := 6) (Tb.tv F1) rfl rfl (by kernel_rfl) (by kernel_rfl) (by kernel_rfl) (by kernel_rfl) (fun _ _ d _ _ h => by cases d <;> exact h) (fun u hS => exec_loadL rfl rfl hS.cells.2.1.2.2.2.2.1 hS.cells.2.1.2.2.2.2.2.1 hS.cells.2.1.2.2.2.2.2.2.1 hS.cells.2.1.2.2.2.2.2.2.2.1) hS0 ?_
  (try simp only [Act.put]); (try simp only [List.getElem_toArray]); (try simp only [List.getElem_cons_succ]); (try simp only [List.getElem_cons_zero]); (try simp only [List.setIfInBounds_toArray]); (try simp only [List.set_cons_succ]); (try simp only [List.set_cons_zero])
  refine any_branch [2] (by kernel_rfl) rfl fun ix hix => ?_
  simp only [List.mem_cons, List.not_mem_nil, or_false] at hix
  subst hix
  refine any_op rfl rfl fun K hK => ?_
  go_simp
  refine (tables_8 _).mono ?_
  rintro e ut ⟨rfl, rfl⟩
  refine hK _ _ (fun _ => hS0) ?_
  (try simp only [Act.put]); (try simp only [List.getElem_toArray]); (try simp only [List.getElem_cons_succ]); (try simp only [List.getElem_cons_zero]); (try simp only [List.setIfInBounds_toArray]); (try simp only [List.set_cons_succ]); (try simp only [List.set_cons_zero])
  clear hK
  refine any_branch [7] (by kernel_rfl) rfl fun ix hix => ?_
  simp only [List.mem_cons, List.not_mem_nil, or_false] at hix
  subst hix
  refine any_op rfl rfl fun K hK => ?_
  go_simp
  refine (tables2_any F0 F1 _).mono ?_
  rintro e u9 ⟨rfl, hb9⟩
  have h9 := hS0.step hb9
  refine hK _ _ (fun _ => h9) ?_
  (try simp only [Act.put]); (try simp only [List.getElem_toArray]); (try simp only [List.getElem_cons_succ]); (try simp only [List.getElem_cons_zero]); (try simp only [List.setIfInBounds_toArray]); (try simp only [List.set_cons_succ]); (try simp only [List.set_cons_zero])
  clear hK
  refine any_branch [8] (by kernel_rfl) rfl fun ix hix => ?_
  simp only [List.mem_cons, List.not_mem_nil, or_false] at hix
  subst hix
  refine any_op rfl rfl fun K hK => ?_
  obtain ⟨⟨r0, r1, r2, r3⟩, g0, g1, g2, g3⟩ := tfacts h9.r
  have HSf := Bx.mk (store4 (F := ~~~(F0 ^^^ F1)) h9.r)
  have HBf := Bx.mk (below4 (F := ~~~(F0 ^^^ F1)) (p := w.heap.size + 1) h9.be (by omega))
  clear hS0
  generalize hR : ~~~(F0 ^^^ F1) = R at HSf HBf ⊢
  have HR := Bx.mk hR
  clear hR
  unfold Tb.tv
  go_simp
  refine hK _ _ (fun h => absurd rfl h) ?_
  (try simp only [Act.put]); (try simp only [List.getElem_toArray]); (try simp only [List.getElem_cons_succ]); (try simp only [List.getElem_cons_zero]); (try simp only [List.setIfInBounds_toArray]); (try simp only [List.set_cons_succ]); (try simp only [List.set_cons_zero])
  clear hK
  refine any_end (by kernel_rfl) ?_
  clear h9 hb9
  go_wp2_with fail
  clear r0 r1 r2 r3 g0 g1 g2 g3
  obtain ⟨⟨r0, r1, r2, r3⟩, _, _, _, _⟩ := tfacts HSf.out
  refine bodyPost_ret (v := Tb.tv R) (by simp [results, Try.results33, go_sem, r0, r1, r2, r3] <;> rfl) rfl ⟨?_, HBf.out⟩
  rw [← HR.out, ← HF0.out, ← HF1.out]
  unfold Ex.tabk
  simp
set_option maxHeartbeats 8000000 in
theorem table_10 (n : Nat) (ih : Tz n) (a : Int) (m : Nat) (hm : m < 8) (b o cap : Nat) (w : World) (x : Tr) (sx : Value) (Kx : Kid w b o x sx) (Nx : (x.on .nil).nodes ≤ n) (Px : (x.on .nil).allPlain = true) :
    Calls Try.prog 33 #[.agg #[.int .i64 10, .int .i64 a, .int .i64 (m : Int), .slice (some ⟨b, o, none⟩) 1 cap]] w fun e w' => e = .returned (Tb.tv (Ex.tabk 10 (m : Int) [Ex.table x])) ∧ Below w.heap.size w w' := by
  have H0 := Bx.mk (TS.start w 10 a (m : Int) (.slice (some ⟨b, o, none⟩) 1 cap))
  have BKx := Bx.mk Kx
  have BNx := Bx.mk Nx
  have BPx := Bx.mk Px
  have IH := Bx.mk ih
  clear ih Kx Nx Px
  go_enter Try.func33, Try.ntmps33
  go_wp2_with fail
  try rw [zeros_tab]
  try rw [lc_zero]
  generalize hW : World.alloc (World.alloc (World.alloc _ _) _) _ = W0
  have H1 : Bx (TS w W0 10 a (m : Int) (.slice (some ⟨b, o, none⟩) 1 cap) 0#256 0#256 0#256) := ⟨by rw [← hW]; exact H0.out⟩
  clear hW H0
  refine wp_loop_rounds 2 ?_
  rw [rounds_succ]
  have hk0 := BKx.out.below H1.out.be
  obtain ⟨k0, k1, k2, k3, kS⟩ := hk0
  obtain ⟨px, cx, rfl⟩ := kS.is
  have hA := H1.out.alloc (.cells #[.int .i64 x.k, .int .i64 x.a, .int .i64 x.v, .slice px x.kids.len cx] 36)
  have hI := IH.out x _ _ _ BNx.out BPx.out (kS.alloc (.cells #[.int .i64 x.k, .int .i64 x.a, .int .i64 x.v, .slice px x.kids.len cx] 36))
  have HA := Bx.mk hA
  have HI := Bx.mk hI
  clear hA hI kS
  unfold Ev at HI
  go_wp2_with fail
  refine HI.out.mono ?_
  rintro e u0 ⟨rfl, hb0⟩
  have hT := HA.out.step hb0
  clear k0 k1 k2 k3 HI
  obtain ⟨_, ⟨q0, q1, q2, q3, q4, q5, q6, q7, q8, q9, qa, qb⟩, f0, f1, f2, f3, f4, f5, f6, f7, f8, f9, fa, fb⟩ := hT.cells
  have HT := Bx.mk hT
  clear hT hb0 HA
  generalize hF0 : Ex.table x = F0
  have HF0 := Bx.mk hF0
  clear hF0
  unfold Tb.tv
  go_wp2_with fail
  clear q0 q1 q2 q3 q4 q5 q6 q7 q8 q9 qa qb f0 f1 f2 f3 f4 f5 f6 f7 f8 f9 fa fb
  have H2 := Bx.mk (HT.out.put0 F0)
  obtain ⟨⟨e0, e2, e3⟩, ⟨q0, q1, q2, q3, q4, q5, q6, q7, q8, q9, qa, qb⟩, f0, f1, f2, f3, f4, f5, f6, f7, f8, f9, fa, fb⟩ := H2.out.cells
  rw [rounds_succ]
  go_wp2_with fail
  clear e0 e2 e3 q0 q1 q2 q3 q4 q5 q6 q7 q8 q9 qa qb f0 f1 f2 f3 f4 f5 f6 f7 f8 f9 fa fb
  refine region_any 6 (fun u => TS w u 10 a (m : Int) (.slice (some ⟨b, o, none⟩) 1 cap) F0 0#256 0#256) (by kernel_rfl) ?_
  generalize hu : World.drew _ = u0
  have hS0 : TS w u0 10 a (m : Int) (.slice (some ⟨b, o, none⟩) 1 cap) F0 0#256 0#256 := by rw [← hu]; exact H2.out.step ((Below.refl _ _).drew)
  clear hu
  refine any_take (i := 0) (.pointer (some ⟨w.heap.size + 2, 0, none⟩)) rfl rfl (by kernel_rfl) (by kernel_rfl) (by kernel_rfl) (by kernel_rfl) (fun _ _ d _ _ h => by cases d <;> exact h) (fun u hS => rfl) hS0 ?_
  (try simp only [Act.put]); (try simp only [List.getElem_toArray]); (try simp only [List.getElem_cons_succ]); (try simp only [List.getElem_cons_zero]); (try simp only [List.setIfInBounds_toArray]); (try simp only [List.set_cons_succ]); (try simp only [List.set_cons_zero])
  refine any_take (i := 1) (Tb.tv F0) rfl rfl (by kernel_rfl) (by kernel_rfl) (by kernel_rfl) (by kernel_rfl) (fun _ _ d _ _ h => by cases d <;> exact h) (fun u hS => exec_loadL rfl rfl hS.cells.2.1.1 hS.cells.2.1.2.1 hS.cells.2.1.2.2.1 hS.cells.2.1.2.2.2.1) hS0 ?_
  (try simp only [Act.put]); (try simp only [List.getElem_toArray]); (try simp only [List.getElem_cons_succ]); (try simp only [List.getElem_cons_zero]); (try simp only [List.setIfInBounds_toArray]); (try simp only [List.set_cons_succ]); (try simp only [List.set_cons_zero])
  refine any_take (i := 2) (.pointer (some ⟨w.heap.size, 2, none⟩)) rfl rfl (by kernel_rfl) (by kernel_rfl) (by kernel_rfl) (by kernel_rfl) (fun _ _ d _ _ h => by cases d <;> exact h) (fun u hS => rfl) hS0 ?_
  (try simp only [Act.put]); (try simp only [List.getElem_toArray]); (try simp only [List.getElem_cons_succ]); (try simp only [List.getElem_cons_zero]); (try simp only [List.setIfInBounds_toArray]); (try simp only [List.set_cons_succ]); (try simp only [List.set_cons_zero])
  refine any_take (i := 3) (.int .i64 (m : Int)) rfl rfl (by kernel_rfl) (by kernel_rfl) (by kernel_rfl) (by kernel_rfl) (fun _ _ d _ _ h => by cases d <;> exact h) (fun u hS => exec_loadI rfl rfl hS.cells.1.2.1) hS0 ?_
  (try simp only [Act.put]); (try simp only [List.getElem_toArray]); (try simp only [List.getElem_cons_succ]); (try simp only [List.getElem_cons_zero]); (try simp only [List.setIfInBounds_toArray]); (try simp only [List.set_cons_succ]); (try simp only [List.set_cons_zero])
  refine any_take (i := 4) (.int .u8 ((2 ^ m : Nat) : Int)) rfl rfl (by kernel_rfl) (by kernel_rfl) (by kernel_rfl) (by kernel_rfl) (fun _ _ d _ _ h => by cases d <;> exact h) (fun u hS => exec_shl8 rfl rfl rfl hm) hS0 ?_
  (try simp only [Act.put]); (try simp only [List.getElem_toArray]); (try simp only [List.getElem_cons_succ]); (try simp only [List.getElem_cons_zero]); (try simp only [List.setIfInBounds_toArray]); (try simp only [List.set_cons_succ]); (try simp only [List.set_cons_zero])
  refine any_branch [5] (by kernel_rfl) rfl fun ix hix => ?_
  simp only [List.mem_cons, List.not_mem_nil, or_false] at hix
  subst hix
  refine any_op rfl rfl fun K hK => ?_
  go_simp
  refine (forall_any F0 (2 ^ m) _ (pow_lt8 hm)).mono ?_
  rintro e u9 ⟨rfl, hb9⟩
  have h9 := hS0.step hb9
  refine hK _ _ (fun _ => h9) ?_
  (try simp only [Act.put]); (try simp only [List.getElem_toArray]); (try simp only [List.getElem_cons_succ]); (try simp only [List.getElem_cons_zero]); (try simp only [List.setIfInBounds_toArray]); (try simp only [List.set_cons_succ]); (try simp only [List.set_cons_zero])
  clear hK
  refine any_branch [6] (by kernel_rfl) rfl fun ix hix => ?_
  simp only [List.mem_cons, List.not_mem_nil, or_false] at hix
  subst hix
  refine any_op rfl rfl fun K hK => ?_
  obtain ⟨⟨r0, r1, r2, r3⟩, g0, g1, g2, g3⟩ := tfacts h9.r
  have HSf := Bx.mk (store4 (F := Tb.halves (fun F G => F &&& G) F0 (2 ^ m)) h9.r)
  have HBf := Bx.mk (below4 (F := Tb.halves (fun F G => F &&& G) F0 (2 ^ m)) (p := w.heap.size + 1) h9.be (by omega))
  clear hS0
  generalize hR : Tb.halves (fun F G => F &&& G) F0 (2 ^ m) = R at HSf HBf ⊢
  have HR := Bx.mk hR
  clear hR
  unfold Tb.tv
  go_simp
  refine hK _ _ (fun h => absurd rfl h) ?_
  (try simp only [Act.put]); (try simp only [List.getElem_toArray]); (try simp only [List.getElem_cons_succ]); (try simp only [List.getElem_cons_zero]); (try simp only [List.setIfInBounds_toArray]); (try simp only [List.set_cons_succ]); (try simp only [List.set_cons_zero])
  clear hK
  refine any_end (by kernel_rfl) ?_
  clear h9 hb9
  go_wp2_with fail
  clear r0 r1 r2 r3 g0 g1 g2 g3
  obtain ⟨⟨r0, r1, r2, r3⟩, _, _, _, _⟩ := tfacts HSf.out
  refine bodyPost_ret (v := Tb.tv R) (by simp [results, Try.results33, go_sem, r0, r1, r2, r3] <;> rfl) rfl ⟨?_, HBf.out⟩
  rw [← HR.out, ← HF0.out]
  unfold Ex.tabk
  simp
set_option maxHeartbeats 8000000 in
theorem table_11 (n : Nat) (ih : Tz n) (a : Int) (m : Nat) (hm : m < 8) (b o cap : Nat) (w : World) (x : Tr) (sx : Value) (Kx : Kid w b o x sx) (Nx : (x.on .nil).nodes ≤ n) (Px : (x.on .nil).allPlain = true) :
    Calls Try.prog 33 #[.agg #[.int .i64 11, .int .i64 a, .int .i64 (m : Int), .slice (some ⟨b, o, none⟩) 1 cap]] w fun e w' => e = .returned (Tb.tv (Ex.tabk 11 (m : Int) [Ex.table x])) ∧ Below w.heap.size w w' := by
  have H0 := Bx.mk (TS.start w 11 a (m : Int) (.slice (some ⟨b, o, none⟩) 1 cap))
  have BKx := Bx.mk Kx
  have BNx := Bx.mk Nx
  have BPx := Bx.mk Px
  have IH := Bx.mk ih
  clear ih Kx Nx Px
  go_enter Try.func33, Try.ntmps33
  go_wp2_with fail
  try rw [zeros_tab]
  try rw [lc_zero]
  generalize hW : World.alloc (World.alloc (World.alloc _ _) _) _ = W0
  have H1 : Bx (TS w W0 11 a (m : Int) (.slice (some ⟨b, o, none⟩) 1 cap) 0#256 0#256 0#256) := ⟨by rw [← hW]; exact H0.out⟩
  clear hW H0
  refine wp_loop_rounds 2 ?_
  rw [rounds_succ]
  have hk0 := BKx.out.below H1.out.be
  obtain ⟨k0, k1, k2, k3, kS⟩ := hk0
  obtain ⟨px, cx, rfl⟩ := kS.is
  have hA := H1.out.alloc (.cells #[.int .i64 x.k, .int .i64 x.a, .int .i64 x.v, .slice px x.kids.len cx] 36)
  have hI := IH.out x _ _ _ BNx.out BPx.out (kS.alloc (.cells #[.int .i64 x.k, .int .i64 x.a, .int .i64 x.v, .slice px x.kids.len cx] 36))
  have HA := Bx.mk hA
  have HI := Bx.mk hI
  clear hA hI kS
  unfold Ev at HI
  go_wp2_with fail
  refine HI.out.mono ?_
  rintro e u0 ⟨rfl, hb0⟩
  have hT := HA.out.step hb0
  clear k0 k1 k2 k3 HI
  obtain ⟨_, ⟨q0, q1, q2, q3, q4, q5, q6, q7, q8, q9, qa, qb⟩, f0, f1, f2, f3, f4, f5, f6, f7, f8, f9, fa, fb⟩ := hT.cells
  have HT := Bx.mk hT
  clear hT hb0 HA
  generalize hF0 : Ex.table x = F0
  have HF0 := Bx.mk hF0
  clear hF0
  unfold Tb.tv
  go_wp2_with fail
  clear q0 q1 q2 q3 q4 q5 q6 q7 q8 q9 qa qb f0 f1 f2 f3 f4 f5 f6 f7 f8 f9 fa fb
  have H2 := Bx.mk (HT.out.put0 F0)
  obtain ⟨⟨e0, e2, e3⟩, ⟨q0, q1, q2, q3, q4, q5, q6, q7, q8, q9, qa, qb⟩, f0, f1, f2, f3, f4, f5, f6, f7, f8, f9, fa, fb⟩ := H2.out.cells
  rw [rounds_succ]
  go_wp2_with fail
  clear e0 e2 e3 q0 q1 q2 q3 q4 q5 q6 q7 q8 q9 qa qb f0 f1 f2 f3 f4 f5 f6 f7 f8 f9 fa fb
  refine region_any 6 (fun u => TS w u 11 a (m : Int) (.slice (some ⟨b, o, none⟩) 1 cap) F0 0#256 0#256) (by kernel_rfl) ?_
  generalize hu : World.drew _ = u0
  have hS0 : TS w u0 11 a (m : Int) (.slice (some ⟨b, o, none⟩) 1 cap) F0 0#256 0#256 := by rw [← hu]; exact H2.out.step ((Below.refl _ _).drew)
  clear hu
  refine any_take (i := 0) (.pointer (some ⟨w.heap.size + 2, 0, none⟩)) rfl rfl (by kernel_rfl) (by kernel_rfl) (by kernel_rfl) (by kernel_rfl) (fun _ _ d _ _ h => by cases d <;> exact h) (fun u hS => rfl) hS0 ?_
  (try simp only [Act.put]); (try simp only [List.getElem_toArray]); (try simp only [List.getElem_cons_succ]); (try simp only [List.getElem_cons_zero]); (try simp only [List.setIfInBounds_toArray]); (try simp only [List.set_cons_succ]); (try simp only [List.set_cons_zero])
  refine any_take (i := 1) (Tb.tv F0) rfl rfl (by kernel_rfl) (by kernel_rfl) (by kernel_rfl) (by kernel_rfl) (fun _ _ d _ _ h => by cases d <;> exact h) (fun u hS => exec_loadL rfl rfl hS.cells.2.1.1 hS.cells.2.1.2.1 hS.cells.2.1.2.2.1 hS.cells.2.1.2.2.2.1) hS0 ?_
  (try simp only [Act.put]); (try simp only [List.getElem_toArray]); (try simp only [List.getElem_cons_succ]); (try simp only [List.getElem_cons_zero]); (try simp only [List.setIfInBounds_toArray]); (try simp only [List.set_cons_succ]); (try simp only [List.set_cons_zero])
  refine any_take (i := 2) (.pointer (some ⟨w.heap.size, 2, none⟩)) rfl rfl (by kernel_rfl) (by kernel_rfl) (by kernel_rfl) (by kernel_rfl) (fun _ _ d _ _ h => by cases d <;> exact h) (fun u hS => rfl) hS0 ?_
  (try simp only [Act.put]); (try simp only [List.getElem_toArray]); (try simp only [List.getElem_cons_succ]); (try simp only [List.getElem_cons_zero]); (try simp only [List.setIfInBounds_toArray]); (try simp only [List.set_cons_succ]); (try simp only [List.set_cons_zero])
  refine any_take (i := 3) (.int .i64 (m : Int)) rfl rfl (by kernel_rfl) (by kernel_rfl) (by kernel_rfl) (by kernel_rfl) (fun _ _ d _ _ h => by cases d <;> exact h) (fun u hS => exec_loadI rfl rfl hS.cells.1.2.1) hS0 ?_
  (try simp only [Act.put]); (try simp only [List.getElem_toArray]); (try simp only [List.getElem_cons_succ]); (try simp only [List.getElem_cons_zero]); (try simp only [List.setIfInBounds_toArray]); (try simp only [List.set_cons_succ]); (try simp only [List.set_cons_zero])
  refine any_take (i := 4) (.int .u8 ((2 ^ m : Nat) : Int)) rfl rfl (by kernel_rfl) (by kernel_rfl) (by kernel_rfl) (by kernel_rfl) (fun _ _ d _ _ h => by cases d <;> exact h) (fun u hS => exec_shl8 rfl rfl rfl hm) hS0 ?_
  (try simp only [Act.put]); (try simp only [List.getElem_toArray]); (try simp only [List.getElem_cons_succ]); (try simp only [List.getElem_cons_zero]); (try simp only [List.setIfInBounds_toArray]); (try simp only [List.set_cons_succ]); (try simp only [List.set_cons_zero])
  refine any_branch [5] (by kernel_rfl) rfl fun ix hix => ?_
  simp only [List.mem_cons, List.not_mem_nil, or_false] at hix
  subst hix
  refine any_op rfl rfl fun K hK => ?_
  go_simp
  refine (exists_any F0 (2 ^ m) _ (pow_lt8 hm)).mono ?_
  rintro e u9 ⟨rfl, hb9⟩
  have h9 := hS0.step hb9
  refine hK _ _ (fun _ => h9) ?_
  (try simp only [Act.put]); (try simp only [List.getElem_toArray]); (try simp only [List.getElem_cons_succ]); (try simp only [List.getElem_cons_zero]); (try simp only [List.setIfInBounds_toArray]); (try simp only [List.set_cons_succ]); (try simp only [List.set_cons_zero])
  clear hK
  refine any_branch [6] (by kernel_rfl) rfl fun ix hix => ?_
  simp only [List.mem_cons, List.not_mem_nil, or_false] at hix
  subst hix
  refine any_op rfl rfl fun K hK => ?_
  obtain ⟨⟨r0, r1, r2, r3⟩, g0, g1, g2, g3⟩ := tfacts h9.r
  have HSf := Bx.mk (store4 (F := Tb.halves (fun F G => F ||| G) F0 (2 ^ m)) h9.r)
  have HBf := Bx.mk (below4 (F := Tb.halves (fun F G => F ||| G) F0 (2 ^ m)) (p := w.heap.size + 1) h9.be (by omega))
  clear hS0
  generalize hR : Tb.halves (fun F G => F ||| G) F0 (2 ^ m) = R at HSf HBf ⊢
  have HR := Bx.mk hR
  clear hR
  unfold Tb.tv
  go_simp
  refine hK _ _ (fun h => absurd rfl h) ?_
  (try simp only [Act.put]); (try simp only [List.getElem_toArray]); (try simp only [List.getElem_cons_succ]); (try simp only [List.getElem_cons_zero]); (try simp only [List.setIfInBounds_toArray]); (try simp only [List.set_cons_succ]); (try simp only [List.set_cons_zero])
  clear hK
  refine any_end (by kernel_rfl) ?_
  clear h9 hb9
  go_wp2_with fail
  clear r0 r1 r2 r3 g0 g1 g2 g3
  obtain ⟨⟨r0, r1, r2, r3⟩, _, _, _, _⟩ := tfacts HSf.out
  refine bodyPost_ret (v := Tb.tv R) (by simp [results, Try.results33, go_sem, r0, r1, r2, r3] <;> rfl) rfl ⟨?_, HBf.out⟩
  rw [← HR.out, ← HF0.out]
  unfold Ex.tabk
  simp
end Go.Proofs.Ytfgokhafiffbaaa

/-
  Formulas: table whole, Func.
-/
namespace Go.Proofs.Ytfgokhafiffbaaa
set_option linter.unusedVariables false
open Go.RowKit

theorem kid_of {w : World} {B : Nat → Prop} {k a v : Int} {kk rest : Fo} {b o : Nat} (h : RdF w B (.cons k a v kk rest) b o) : ∃ sx, Kid w b o ⟨k, a, v, kk⟩ sx ∧ RdF w B rest b (o + 4) := by
  obtain ⟨hb, h0, h1, h2, ⟨p, cap, b', o', h3, hp, hc, hk⟩, hr⟩ := h
  refine ⟨_, ⟨World.block_lt_of_cell? w _ h0, h0, h1, h2, h3, ?_⟩, hr⟩
  exact SlF.mono' (B := B) ⟨p, cap, b', o', rfl, hp, hc, hk⟩ fun g hg _ => hg
theorem Fo.nodes_on (t : Tr) (r : Fo) : (t.on r).nodes = 1 + t.kids.nodes + r.nodes := rfl
theorem Fo.allPlain_on (t : Tr) (r : Fo) : (t.on r).allPlain = (Ex.plain t && t.kids.allPlain && r.allPlain) := rfl
/-- the kinds of a right node, and its kids -/
theorem plain_shape {t : Tr} (h : Ex.plain t = true) : 1 ≤ t.k ∧ t.k ≤ 11 ∧ t.kids.len = Ex.kids t.k ∧ 0 ≤ t.v ∧ t.v ≤ Ex.top t.k := by
  unfold Ex.plain at h
  simp at h
  exact ⟨h.1.1.1, h.1.1.2, h.1.2, h.2.1, h.2.2⟩
theorem Fo.len0 {F : Fo} (h : F.len = 0) : F = .nil := by cases F with | nil => rfl | cons => simp [Fo.len] at h
theorem Fo.len1 {F : Fo} (h : F.len = 1) : ∃ x : Tr, F = x.on .nil := by
  cases F with
  | nil => simp [Fo.len] at h
  | cons k a v kids rest => exact ⟨⟨k, a, v, kids⟩, by rw [Fo.len0 (F := rest) (by simpa [Fo.len] using h)]; rfl⟩
theorem Fo.len2 {F : Fo} (h : F.len = 2) : ∃ x y : Tr, F = x.on (y.on .nil) := by
  cases F with
  | nil => simp [Fo.len] at h
  | cons k a v kids rest =>
    obtain ⟨y, rfl⟩ := Fo.len1 (F := rest) (by simpa [Fo.len] using h)
    exact ⟨⟨k, a, v, kids⟩, y, rfl⟩
theorem Fo.len3 {F : Fo} (h : F.len = 3) : ∃ x y z : Tr, F = x.on (y.on (z.on .nil)) := by
  cases F with
  | nil => simp [Fo.len] at h
  | cons k a v kids rest =>
    obtain ⟨y, z, rfl⟩ := Fo.len2 (F := rest) (by simpa [Fo.len] using h)
    exact ⟨⟨k, a, v, kids⟩, y, z, rfl⟩
theorem Tz.succ (n : Nat) (ih : Tz n) : Tz (n + 1) := by
  intro t sl B u hn hp hs
  rw [Fo.nodes_on] at hn
  rw [Fo.allPlain_on, Bool.and_eq_true, Bool.and_eq_true] at hp
  obtain ⟨⟨hpl, hka⟩, _⟩ := hp
  obtain ⟨h1, h2, h3, h4, h5⟩ := plain_shape hpl
  obtain ⟨k, a, v, kids⟩ := t
  simp only [] at h1 h2 h3 h4 h5 hn hka hs
  have hnil : (Fo.nil).nodes = 0 := rfl
  rw [hnil] at hn
  obtain ⟨p, cap, b, o, rfl, hpn, hcap, hr⟩ := hs
  unfold Ev Ex.table
  simp only []
  have hc : k = 1 ∨ k = 2 ∨ k = 3 ∨ k = 4 ∨ k = 5 ∨ k = 6 ∨ k = 7 ∨ k = 8 ∨ k = 9 ∨ k = 10 ∨ k = 11 := by omega
  have a0 : (k = 1 ∨ k = 2) → kids = .nil := fun h => Fo.len0 (by rw [h3, Ex.kids0 (by omega)])
  have hone : ∀ (x : Tr), kids = x.on .nil → ∃ sx, p = some ⟨b, o, none⟩ ∧ Kid u b o x sx ∧ (x.on .nil).nodes ≤ n ∧ (x.on .nil).allPlain = true := fun x e => by
    subst e
    obtain ⟨sx, K, _⟩ := kid_of hr
    rw [Fo.nodes_on] at hn
    refine ⟨sx, ?_, K, by rw [Fo.nodes_on]; omega, hka⟩
    rcases hpn with ⟨e, _⟩ | e
    · cases e
    · exact e
  have htwo : ∀ (x y : Tr), kids = x.on (y.on .nil) → ∃ sx sy, p = some ⟨b, o, none⟩ ∧ (Kid u b o x sx ∧ (x.on .nil).nodes ≤ n ∧ (x.on .nil).allPlain = true) ∧ (Kid u b (o + 4) y sy ∧ (y.on .nil).nodes ≤ n ∧ (y.on .nil).allPlain = true) := fun x y e => by
    subst e
    obtain ⟨sx, K, hr2⟩ := kid_of hr
    obtain ⟨sy, K2, _⟩ := kid_of hr2
    rw [Fo.nodes_on, Fo.nodes_on] at hn
    rw [Fo.allPlain_on, Bool.and_eq_true] at hka
    refine ⟨sx, sy, ?_, ⟨K, by rw [Fo.nodes_on]; omega, by rw [Fo.allPlain_on, hka.1]; rfl⟩, ⟨K2, by rw [Fo.nodes_on]; omega, hka.2⟩⟩
    rcases hpn with ⟨e, _⟩ | e
    · cases e
    · exact e
  have hthree : ∀ (x y z : Tr), kids = x.on (y.on (z.on .nil)) → ∃ sx sy sz, p = some ⟨b, o, none⟩ ∧ (Kid u b o x sx ∧ (x.on .nil).nodes ≤ n ∧ (x.on .nil).allPlain = true) ∧ (Kid u b (o + 4) y sy ∧ (y.on .nil).nodes ≤ n ∧ (y.on .nil).allPlain = true) ∧ (Kid u b (o + 4 + 4) z sz ∧ (z.on .nil).nodes ≤ n ∧ (z.on .nil).allPlain = true) := fun x y z e => by
    subst e
    obtain ⟨sx, K, hr2⟩ := kid_of hr
    obtain ⟨sy, K2, hr3⟩ := kid_of hr2
    obtain ⟨sz, K3, _⟩ := kid_of hr3
    rw [Fo.nodes_on, Fo.nodes_on, Fo.nodes_on] at hn
    rw [Fo.allPlain_on, Bool.and_eq_true, Fo.allPlain_on y, Bool.and_eq_true (Ex.plain y && y.kids.allPlain)] at hka
    refine ⟨sx, sy, sz, ?_, ⟨K, by rw [Fo.nodes_on]; omega, by rw [Fo.allPlain_on, hka.1]; rfl⟩, ⟨K2, by rw [Fo.nodes_on]; omega, by rw [Fo.allPlain_on, hka.2.1]; rfl⟩, ⟨K3, by rw [Fo.nodes_on]; omega, hka.2.2⟩⟩
    rcases hpn with ⟨e, _⟩ | e
    · cases e
    · exact e
  have k1 : (k = 3 ∨ k = 10 ∨ k = 11) → kids.len = 1 := fun h => by rw [h3, Ex.kids1 h]
  have k2 : (4 ≤ k ∧ k ≤ 8) → kids.len = 2 := fun h => by rw [h3, Ex.kids2 h]
  have k3 : k = 9 → kids.len = 3 := fun h => by rw [h3, Ex.kids3 h]
  have hv8 : (k = 10 ∨ k = 11) → ∃ m : Nat, v = (m : Int) ∧ m < 8 := fun h => by
    have ht : Ex.top k = 7 := by unfold Ex.top; rw [if_pos (by omega)]
    rw [ht] at h5
    exact ⟨v.toNat, by omega, by omega⟩
  rcases hc with rfl | rfl | rfl | rfl | rfl | rfl | rfl | rfl | rfl | rfl | rfl
  · have e := a0 (.inl rfl); subst e
    exact table_1 n ih a v p cap u
  · have e := a0 (.inr rfl); subst e
    exact table_2 n ih a v p cap u
  · obtain ⟨x, e⟩ := Fo.len1 (k1 (by omega))
    obtain ⟨sx, rfl, K, hx, px⟩ := hone x e
    subst e
    exact table_3 n ih a v b o cap u x sx K hx px
  · obtain ⟨x, y, e⟩ := Fo.len2 (k2 (by omega))
    obtain ⟨sx, sy, rfl, ⟨K, hx, px⟩, K2, hy, py⟩ := htwo x y e
    subst e
    exact table_4 n ih a v b o cap u x sx K hx px y sy K2 hy py
  · obtain ⟨x, y, e⟩ := Fo.len2 (k2 (by omega))
    obtain ⟨sx, sy, rfl, ⟨K, hx, px⟩, K2, hy, py⟩ := htwo x y e
    subst e
    exact table_5 n ih a v b o cap u x sx K hx px y sy K2 hy py
  · obtain ⟨x, y, e⟩ := Fo.len2 (k2 (by omega))
    obtain ⟨sx, sy, rfl, ⟨K, hx, px⟩, K2, hy, py⟩ := htwo x y e
    subst e
    exact table_6 n ih a v b o cap u x sx K hx px y sy K2 hy py
  · obtain ⟨x, y, e⟩ := Fo.len2 (k2 (by omega))
    obtain ⟨sx, sy, rfl, ⟨K, hx, px⟩, K2, hy, py⟩ := htwo x y e
    subst e
    exact table_7 n ih a v b o cap u x sx K hx px y sy K2 hy py
  · obtain ⟨x, y, e⟩ := Fo.len2 (k2 (by omega))
    obtain ⟨sx, sy, rfl, ⟨K, hx, px⟩, K2, hy, py⟩ := htwo x y e
    subst e
    exact table_8 n ih a v b o cap u x sx K hx px y sy K2 hy py
  · obtain ⟨x, y, z, e⟩ := Fo.len3 (k3 rfl)
    obtain ⟨sx, sy, sz, rfl, ⟨K, hx, px⟩, ⟨K2, hy, py⟩, K3, hz, pz⟩ := hthree x y z e
    subst e
    exact table_9 n ih a v b o cap u x sx K hx px y sy K2 hy py z sz K3 hz pz
  · obtain ⟨x, e⟩ := Fo.len1 (k1 (by omega))
    obtain ⟨sx, rfl, K, hx, px⟩ := hone x e
    obtain ⟨m, rfl, hm⟩ := hv8 (.inl rfl)
    subst e
    exact table_10 n ih a m hm b o cap u x sx K hx px
  · obtain ⟨x, e⟩ := Fo.len1 (k1 (by omega))
    obtain ⟨sx, rfl, K, hx, px⟩ := hone x e
    obtain ⟨m, rfl, hm⟩ := hv8 (.inr rfl)
    subst e
    exact table_11 n ih a m hm b o cap u x sx K hx px
theorem Tz.all : ∀ n, Tz n
  | 0 => fun t sl B u h => by rw [Fo.nodes_on] at h; omega
  | n + 1 => Tz.succ n (Tz.all n)
theorem table_any (t : Tr) (sl : Value) (B : Nat → Prop) (u : World) (hp : (t.on .nil).allPlain = true) (hs : SlF u B sl t.kids) :
    Calls Try.prog 33 #[Ev t sl] u fun e w' => e = .returned (Tb.tv (Ex.table t)) ∧ Below u.heap.size u w' := Tz.all _ t sl B u (Nat.le_refl _) hp hs
/-- a formula's function; nought where it is none -/
def Ex.func (t : Tr) : Tb.T := if Ex.is t then Ex.table t else 0#256
set_option maxHeartbeats 4000000 in
theorem func_any (t : Tr) (sl : Value) (B : Nat → Prop) (w : World) (hs : SlF w B sl t.kids) :
    Calls Try.prog 14 #[Ev t sl] w fun e w' => e = .returned (Tb.tv (Ex.func t)) ∧ Below w.heap.size w w' := by
  obtain ⟨pp, cap, rfl⟩ := hs.is
  have hb1 := boxE w t.k t.a t.v (.slice pp t.kids.len cap)
  have hb2 := Blk.new (w.alloc (.cells #[.int .i64 t.k, .int .i64 t.a, .int .i64 t.v, .slice pp t.kids.len cap] 36)) 29 (Tb.tcells 0#256)
  have hs2 := (hs.alloc (.cells #[.int .i64 t.k, .int .i64 t.a, .int .i64 t.v, .slice pp t.kids.len cap] 36)).alloc (.cells (Tb.tcells 0#256) 29)
  have hbe := ((Below.refl w.heap.size w).alloc (Nat.le_refl _) (.cells #[.int .i64 t.k, .int .i64 t.a, .int .i64 t.v, .slice pp t.kids.len cap] 36)).alloc (by rw [alloc_size]; omega) (.cells (Tb.tcells 0#256) 29)
  have hb1' := hb1.alloc (.cells (Tb.tcells 0#256) 29)
  rw [alloc_size] at hb2
  have hI := Bx.mk (is_any t _ B _ hs2)
  have HB1 := Bx.mk hb1'
  have HB2 := Bx.mk hb2
  have HS := Bx.mk hs2
  have HBE := Bx.mk hbe
  clear hb1 hb1' hb2 hs2 hbe hs
  unfold Ev at hI ⊢
  go_enter Try.func14, Try.ntmps14
  go_wp2_with fail
  rw [zeros_tab]
  refine hI.out.mono ?_
  rintro e w1 ⟨rfl, hb⟩
  have h1 := HB1.out.below hb (by rw [alloc_size, alloc_size]; omega)
  have h2 := HB2.out.below hb (by rw [alloc_size, alloc_size]; omega)
  have h3 := HS.out.below hb
  have h4 := HBE.out.trans (hb.mono (by rw [alloc_size, alloc_size]; omega))
  obtain ⟨c0, c1, c2, c3, _, _, _, _⟩ := cells4 h1
  obtain ⟨⟨r0, r1, r2, r3⟩, g0, g1, g2, g3⟩ := tfacts h2
  have H2 := Bx.mk h2
  have H4 := Bx.mk h4
  have z0 := Tb.wd_zero 0
  have z1 := Tb.wd_zero 1
  have z2 := Tb.wd_zero 2
  have z3 := Tb.wd_zero 3
  cases hi : Ex.is t with
  | false =>
    have hF : Ex.func t = 0#256 := by unfold Ex.func; rw [hi]; rfl
    have HF := Bx.mk hF
    have HSf := Bx.mk (store4 (F := 0#256) h2)
    have HBf := Bx.mk (below4 (F := 0#256) (p := w.heap.size + 1) h4 (by omega))
    rw [z0, z1, z2, z3] at HSf HBf
    clear hF h1 h2 h3 h4 hb hi z0 z1 z2 z3
    go_wp2_with fail
    clear r0 r1 r2 r3 g0 g1 g2 g3
    obtain ⟨⟨r0, r1, r2, r3⟩, _, _, _, _⟩ := tfacts HSf.out
    refine bodyPost_ret (v := Tb.tv 0#256) (by simp [results, Try.results14, go_sem, r0, r1, r2, r3] <;> rfl) rfl ⟨by rw [HF.out], HBf.out⟩
  | true =>
    have hF : Ex.func t = Ex.table t := by unfold Ex.func; rw [hi]; rfl
    have HF := Bx.mk hF
    have hp : (t.on .nil).allPlain = true := by unfold Ex.is at hi; rw [Bool.and_eq_true] at hi; exact hi.2
    have HT := Bx.mk (table_any t _ B w1 hp h3)
    unfold Ev at HT
    clear hF h1 h2 h3 h4 hb hi hp z0 z1 z2 z3
    go_wp2_with fail
    refine HT.out.mono ?_
    rintro e w2 ⟨rfl, hb2⟩
    have h5 := H2.out.below hb2 H2.out.lt
    have h6 := H4.out.trans (hb2.mono H4.out.size)
    clear r0 r1 r2 r3 g0 g1 g2 g3
    obtain ⟨⟨r0, r1, r2, r3⟩, g0, g1, g2, g3⟩ := tfacts h5
    generalize Ex.table t = R at HF ⊢
    have HSf := Bx.mk (store4 (F := R) h5)
    have HBf := Bx.mk (below4 (F := R) (p := w.heap.size + 1) h6 (by omega))
    clear h5 h6 hb2
    unfold Tb.tv
    go_wp2_with fail
    clear r0 r1 r2 r3 g0 g1 g2 g3
    obtain ⟨⟨r0, r1, r2, r3⟩, _, _, _, _⟩ := tfacts HSf.out
    refine bodyPost_ret (v := Tb.tv R) (by simp [results, Try.results14, go_sem, r0, r1, r2, r3] <;> rfl) rfl ⟨by rw [HF.out], HBf.out⟩
end Go.Proofs.Ytfgokhafiffbaaa

/-
  Formulas: Same.
-/
namespace Go.Proofs.Ytfgokhafiffbaaa
set_option linter.unusedVariables false
open Go.RowKit

/-- the same but for their places -/
def Fo.same : Fo → Fo → Bool
  | .nil, .nil => true
  | .cons k _ v kids rest, .cons k' _ v' kids' rest' => (decide (k = k') && decide (v = v') && Fo.same kids kids') && Fo.same rest rest'
  | _, _ => false
def Ex.same (a b : Tr) : Bool := decide (a.k = b.k) && decide (a.v = b.v) && Fo.same a.kids b.kids
theorem Fo.same_on (x y : Tr) (r s : Fo) : Fo.same (x.on r) (y.on s) = (Ex.same x y && Fo.same r s) := by unfold Tr.on Ex.same; simp [Fo.same]
theorem Fo.same_len : ∀ (F G : Fo), F.len ≠ G.len → Fo.same F G = false
  | .nil, .nil, h => absurd rfl h
  | .cons .., .nil, _ => by simp [Fo.same]
  | .nil, .cons .., _ => by simp [Fo.same]
  | .cons k a v kids rest, .cons k' a' v' kids' rest', h => by
    have := Fo.same_len rest rest' (fun e => h (by simp [Fo.len, e]))
    simp [Fo.same, this]
theorem Fo.len_nodes : ∀ F : Fo, F.len ≤ F.nodes
  | .nil => Nat.le_refl _
  | .cons k a v kids rest => by have := Fo.len_nodes rest; simp [Fo.len, Fo.nodes]; omega
theorem intOf_i (k : IntKind) (n : Int) : intOf (.int k n) = n := rfl
/-- what is known of Same for what has so few nodes -/
def Sz (n : Nat) : Prop := ∀ (a b : Tr) (sa sb : Value) (Ba Bb : Nat → Prop) (u : World), (a.on .nil).nodes ≤ n → SlF u Ba sa a.kids → SlF u Bb sb b.kids →
  Calls Try.prog 17 #[Ev a sa, Ev b sb] u fun e w' => e = .returned (.bool (Ex.same a b)) ∧ Below u.heap.size u w'
/-- where EqualFunc's loop stands -/
structure EQ (w wr : World) (b o b' o' i : Nat) (F G F2 G2 : Fo) : Prop where
  be : Below w.heap.size w wr
  f : RdF w (fun _ => True) F2 b (o + i * 4)
  g : RdF w (fun _ => True) G2 b' (o' + i * 4)
  lf : F.len = i + F2.len
  lg : G.len = i + G2.len
  nd : F2.nodes ≤ F.nodes
  val : Fo.same F G = Fo.same F2 G2
theorem RdF.top {w : World} {B : Nat → Prop} {F : Fo} {b o : Nat} (h : RdF w B F b o) : RdF w (fun _ => True) F b o := RdF.mono (fun _ _ _ => True.intro) F b o h

set_option maxHeartbeats 8000000 in
theorem eqf_any (n : Nat) (hn1 : n ≤ 1000000) (ih : Sz n) (F G : Fo) (sF sG : Value) (Bf Bg : Nat → Prop) (w : World) (hF : SlF w Bf sF F) (hG : SlF w Bg sG G) (hn : F.nodes ≤ n) :
    Calls Try.prog 36 #[sF, sG, .func (.func 17) #[] #[]] w fun e w' => e = .returned (.bool (Fo.same F G)) ∧ Below w.heap.size w w' := by
  obtain ⟨p, c, b, o, rfl, hp, hc, hr⟩ := hF
  obtain ⟨p', c', b', o', rfl, hp', hc', hr'⟩ := hG
  by_cases hl : F.len = G.len
  · have q : (F.len : Int) = (G.len : Int) := by omega
    have q2 : ((F.len : Int) == (G.len : Int)) = true := by rw [beq_iff_eq]; exact q
    have hlb := Fo.len_nodes F
    have H0 : Bx (EQ w w b o b' o' 0 F G F G) := ⟨⟨Below.refl _ _, by rw [Nat.zero_mul, Nat.add_zero]; exact hr.top, by rw [Nat.zero_mul, Nat.add_zero]; exact hr'.top, by omega, by omega, Nat.le_refl _, rfl⟩⟩
    have HP : Bx ((F.len ≠ 0 → p = some ⟨b, o, none⟩) ∧ (G.len ≠ 0 → p' = some ⟨b', o', none⟩)) := ⟨by
      constructor
      · intro h
        rcases hp with ⟨rfl, _⟩ | e
        · exact absurd rfl h
        · exact e
      · intro h
        rcases hp' with ⟨rfl, _⟩ | e
        · exact absurd rfl h
        · exact e⟩
    have HL := Bx.mk hl
    have HB := Bx.mk (show F.len ≤ 1000000 from by omega)
    have HN := Bx.mk hn
    have IH := Bx.mk ih
    clear hp hp' hr hr' hlb hn ih hl hc hc'
    have hcf : ∀ args w, (callFunc 17 args).run Try.prog w = .ok (.enter 17 args) w := fun _ _ => rfl
    go_enter Try.func36, Try.ntmps36
    go_wp2_with fail
    go_loopw [17] (fun j wr => ∃ (i : Nat) (F2 G2 : Fo), j = .int .i64 (i : Int) ∧ EQ w wr b o b' o' i F G F2 G2) (fun j _ => F.len - (intOf j).toNat)
    case atStart => exact ⟨0, F, G, rfl, H0.out⟩
    case round =>
      obtain ⟨i, F2, G2, rfl, HQ⟩ := hrel
      have HQ := Bx.mk HQ
      cases F2 with
      | nil =>
        have hv : Bx (Fo.same F G = true) := ⟨by
          have h1 := HQ.out.lf
          have h2 := HQ.out.lg
          have h3 := HL.out
          have hG2 : G2 = .nil := Fo.len0 (by rw [show Fo.nil.len = 0 from rfl] at h1; omega)
          rw [HQ.out.val, hG2]; rfl⟩
        have q3 : ¬ (i : Int) < (F.len : Int) := by have h1 := HQ.out.lf; rw [show Fo.nil.len = 0 from rfl] at h1; omega
        have q4 : ¬ (i : Int) < (G.len : Int) := by have h1 := HQ.out.lf; have h3 := HL.out; rw [show Fo.nil.len = 0 from rfl] at h1; omega
        go_wp2_with fail
        go_ret
        exact ⟨by rw [hv.out]; rfl, HQ.out.be⟩
      | cons k a v kids rest =>
        cases G2 with
        | nil => exact absurd HL.out (by have h1 := HQ.out.lf; have h2 := HQ.out.lg; simp [Fo.len] at h1 h2; omega)
        | cons k' a' v' kids' rest' =>
          have h1 := HQ.out.lf
          have h2 := HQ.out.lg
          rw [show (Fo.cons k a v kids rest).len = rest.len + 1 from rfl] at h1
          rw [show (Fo.cons k' a' v' kids' rest').len = rest'.len + 1 from rfl] at h2
          have q3 : (i : Int) < (F.len : Int) := by omega
          have q4 : (i : Int) < (G.len : Int) := by omega
          obtain rfl := HP.out.1 (by omega)
          obtain rfl := HP.out.2 (by omega)
          have hib : i < 1000000 := by have := HB.out; omega
          obtain ⟨sx, Kx, hr1⟩ := kid_of HQ.out.f
          obtain ⟨sy, Ky, hr2⟩ := kid_of HQ.out.g
          obtain ⟨px, cx, hsx⟩ := Kx.sl.is
          obtain ⟨py, cy, hsy⟩ := Ky.sl.is
          subst hsx hsy
          have hba := HQ.out.be.alloc HQ.out.be.size (.cells #[.int .i64 k, .int .i64 a, .int .i64 v, .slice px kids.len cx] 36)
          have hbb := hba.alloc (by rw [alloc_size]; have := HQ.out.be.size; omega) (.cells #[.int .i64 k', .int .i64 a', .int .i64 v', .slice py kids'.len cy] 36)
          obtain ⟨y0, y1, y2, y3, _⟩ := Ky.below hba
          obtain ⟨x0, x1, x2, x3, _⟩ := Kx.below HQ.out.be
          obtain ⟨_, _, _, _, xS⟩ := Kx.below hbb
          obtain ⟨_, _, _, _, yS2⟩ := Ky.below hbb
          have hnd := HQ.out.nd
          have HI := Bx.mk (IH.out ⟨k, a, v, kids⟩ ⟨k', a', v', kids'⟩ _ _ _ _ _ (by have := HN.out; rw [Fo.nodes_on]; simp only [Fo.nodes] at hnd ⊢; omega) xS yS2)
          have HBA := Bx.mk hbb
          have HR1 := Bx.mk hr1
          have HR2 := Bx.mk hr2
          have H12 := Bx.mk (show F.len = i + (rest.len + 1) ∧ G.len = i + (rest'.len + 1) from ⟨h1, h2⟩)
          have HIB := Bx.mk hib
          simp only [] at x0 x1 x2 x3 y0 y1 y2 y3
          have hw : wrap64 ((i : Int) + 1) = (i : Int) + 1 := w64 _ (by omega)
          clear hba hbb Kx Ky hr1 hr2 xS yS2 hnd h1 h2 hib
          unfold Ev at HI
          go_wp2_with fail
          refine HI.out.mono ?_
          rintro e u ⟨rfl, hb⟩
          have HU := Bx.mk (HBA.out.trans (hb.mono HBA.out.size))
          clear hb
          have hvv : Bx (Fo.same F G = (Ex.same ⟨k, a, v, kids⟩ ⟨k', a', v', kids'⟩ && Fo.same rest rest')) := ⟨by rw [HQ.out.val]; exact Fo.same_on ⟨k, a, v, kids⟩ ⟨k', a', v', kids'⟩ rest rest'⟩
          cases hs : Ex.same ⟨k, a, v, kids⟩ ⟨k', a', v', kids'⟩ with
          | false =>
            have hv : Bx (Fo.same F G = false) := ⟨by rw [hvv.out, hs]; rfl⟩
            clear hs
            go_wp2_with fail
            go_ret
            exact ⟨by rw [hv.out]; rfl, HU.out⟩
          | true =>
            have hv : Bx (Fo.same F G = Fo.same rest rest') := ⟨by rw [hvv.out, hs]; rfl⟩
            clear hs
            go_wp2_with fail
            have h12 := H12.out
            have hib := HIB.out
            have hndq := HQ.out.nd
            refine ⟨⟨i + 1, rest, rest', by go_num, HU.out, ?_, ?_, by omega, by omega, by simp only [Fo.nodes] at hndq; omega, hv.out⟩, ?_⟩
            · have := HR1.out
              rw [show o + (i + 1) * 4 = o + i * 4 + 4 from by omega]
              exact this
            · have := HR2.out
              rw [show o' + (i + 1) * 4 = o' + i * 4 + 4 from by omega]
              exact this
            · rw [intOf_i, intOf_i, hw]
              clear hw hndq
              omega
  · have q : ¬ (F.len : Int) = (G.len : Int) := by omega
    have q2 : ((F.len : Int) == (G.len : Int)) = false := by rw [beq_eq_false_iff_ne]; exact q
    have hv := Bx.mk (Fo.same_len F G hl)
    clear hl hp hp' hr hr' hn ih hc hc'
    go_enter Try.func36, Try.ntmps36
    go_wp2_with fail
    go_ret
    exact ⟨by rw [hv.out]; rfl, Below.refl _ _⟩
set_option maxHeartbeats 8000000 in
theorem Sz.succ (n : Nat) (hn1 : n ≤ 1000000) (ih : Sz n) : Sz (n + 1) := by
  intro a b sa sb Ba Bb w hn ha hb
  obtain ⟨pa, ca, rfl⟩ := ha.is
  obtain ⟨pb, cb, rfl⟩ := hb.is
  rw [Fo.nodes_on] at hn
  have hb1 := boxE w a.k a.a a.v (.slice pa a.kids.len ca)
  have hb2 := boxE (w.alloc (.cells #[.int .i64 a.k, .int .i64 a.a, .int .i64 a.v, .slice pa a.kids.len ca] 36)) b.k b.a b.v (.slice pb b.kids.len cb)
  have hb1' := hb1.alloc (.cells #[.int .i64 b.k, .int .i64 b.a, .int .i64 b.v, .slice pb b.kids.len cb] 36)
  rw [alloc_size] at hb2
  have hE := eqf_any n hn1 ih a.kids b.kids _ _ _ _ _ ((ha.alloc (.cells #[.int .i64 a.k, .int .i64 a.a, .int .i64 a.v, .slice pa a.kids.len ca] 36)).alloc (.cells #[.int .i64 b.k, .int .i64 b.a, .int .i64 b.v, .slice pb b.kids.len cb] 36))
    ((hb.alloc (.cells #[.int .i64 a.k, .int .i64 a.a, .int .i64 a.v, .slice pa a.kids.len ca] 36)).alloc (.cells #[.int .i64 b.k, .int .i64 b.a, .int .i64 b.v, .slice pb b.kids.len cb] 36)) (by rw [show Fo.nil.nodes = 0 from rfl] at hn; omega)
  have hbe := ((Below.refl w.heap.size w).alloc (Nat.le_refl _) (.cells #[.int .i64 a.k, .int .i64 a.a, .int .i64 a.v, .slice pa a.kids.len ca] 36)).alloc (by rw [alloc_size]; omega) (.cells #[.int .i64 b.k, .int .i64 b.a, .int .i64 b.v, .slice pb b.kids.len cb] 36)
  have HE := Bx.mk hE
  have HBE := Bx.mk hbe
  obtain ⟨c0, c1, c2, c3, _, _, _, _⟩ := cells4 hb1'
  obtain ⟨d0, d1, d2, d3, _, _, _, _⟩ := cells4 hb2
  clear hb1 hb2 hb1' hE hbe ha hb hn ih hn1
  unfold Ev
  by_cases hk : a.k = b.k
  · have q1 : (a.k == b.k) = true := by rw [beq_iff_eq]; exact hk
    by_cases hv : a.v = b.v
    · have q2 : (a.v == b.v) = true := by rw [beq_iff_eq]; exact hv
      have hS := Bx.mk (show Ex.same a b = Fo.same a.kids b.kids from by unfold Ex.same; rw [decide_eq_true hk, decide_eq_true hv]; rfl)
      clear hk hv
      go_enter Try.func17, Try.ntmps17
      go_wp2_with fail
      refine HE.out.mono ?_
      rintro e u ⟨rfl, hbu⟩
      have HU := Bx.mk (HBE.out.trans (hbu.mono HBE.out.size))
      clear hbu
      go_wp2_with fail
      go_ret
      exact ⟨by rw [hS.out]; rfl, HU.out⟩
    · have q2 : (a.v == b.v) = false := by rw [beq_eq_false_iff_ne]; exact hv
      have hS := Bx.mk (show Ex.same a b = false from by unfold Ex.same; rw [decide_eq_false hv]; simp)
      clear hk hv
      go_enter Try.func17, Try.ntmps17
      go_wp2_with fail
      go_ret
      exact ⟨by rw [hS.out]; rfl, HBE.out⟩
  · have q1 : (a.k == b.k) = false := by rw [beq_eq_false_iff_ne]; exact hk
    have hS := Bx.mk (show Ex.same a b = false from by unfold Ex.same; rw [decide_eq_false hk]; simp)
    clear hk
    go_enter Try.func17, Try.ntmps17
    go_wp2_with fail
    go_ret
    exact ⟨by rw [hS.out]; rfl, HBE.out⟩
theorem Sz.all : ∀ n, n ≤ 1000000 → Sz n
  | 0, _ => fun a b sa sb Ba Bb u h => by rw [Fo.nodes_on] at h; omega
  | n + 1, h => Sz.succ n (by omega) (Sz.all n (by omega))
theorem same_any (a b : Tr) (sa sb : Value) (Ba Bb : Nat → Prop) (u : World) (hn : (a.on .nil).nodes ≤ 1000000) (ha : SlF u Ba sa a.kids) (hb : SlF u Bb sb b.kids) :
    Calls Try.prog 17 #[Ev a sa, Ev b sb] u fun e w' => e = .returned (.bool (Ex.same a b)) ∧ Below u.heap.size u w' := Sz.all _ (Nat.le_refl _) a b sa sb Ba Bb u hn ha hb
end Go.Proofs.Ytfgokhafiffbaaa

/-
  Formulas of the document: Count.
-/
namespace Go.Proofs.Ytfgokhafiffbaaa
set_option linter.unusedVariables false
open Go.RowKit

/-- a list's formulas counted on, from n, up to one above m -/
def Fo.cl : Fo → Nat → Nat → Nat
  | .nil, _, n => n
  | .cons _ _ _ kids rest, m, n => if n ≤ m then rest.cl m (n + kids.cl (m - n) 1) else n
theorem Fo.cl_on (x : Tr) (r : Fo) (m n : Nat) : (x.on r).cl m n = if n ≤ m then r.cl m (n + x.kids.cl (m - n) 1) else n := rfl
theorem Fo.cl_over : ∀ (F : Fo) {m n : Nat}, m < n → F.cl m n = n
  | .nil, _, _, _ => rfl
  | .cons k a v kids rest, m, n, h => by rw [Fo.cl, if_neg (by omega)]
theorem Fo.cl_le : ∀ (F : Fo) {m n : Nat}, n ≤ m + 1 → F.cl m n ≤ m + 1
  | .nil, _, _, h => h
  | .cons k a v kids rest, m, n, h => by
    rw [Fo.cl]
    split
    · have := Fo.cl_le kids (m := m - n) (n := 1) (by omega)
      exact Fo.cl_le rest (by omega)
    · omega
theorem Fo.cl_ge : ∀ (F : Fo) {m n : Nat}, n ≤ F.cl m n
  | .nil, _, n => Nat.le_refl n
  | .cons k a v kids rest, m, n => by
    rw [Fo.cl]
    split
    · have := Fo.cl_ge rest (m := m) (n := n + kids.cl (m - n) 1)
      omega
    · exact Nat.le_refl n
theorem Fo.cl_all : ∀ (F : Fo) {m n : Nat}, n + F.nodes ≤ m → F.cl m n = n + F.nodes
  | .nil, _, _, _ => rfl
  | .cons k a v kids rest, m, n, h => by
    simp only [Fo.nodes] at h ⊢
    rw [Fo.cl, if_pos (by omega), Fo.cl_all kids (m := m - n) (n := 1) (by omega), Fo.cl_all rest (by omega)]
    omega
theorem Fo.cl_more : ∀ (F : Fo) {m n : Nat}, m < n + F.nodes → m < F.cl m n
  | .nil, m, n, h => by simp only [Fo.nodes] at h; exact h
  | .cons k a v kids rest, m, n, h => by
    simp only [Fo.nodes] at h
    rw [Fo.cl]
    by_cases hn : n ≤ m
    · rw [if_pos hn]
      by_cases hk : 1 + kids.nodes ≤ m - n
      · rw [Fo.cl_all kids hk]
        exact Fo.cl_more rest (by omega)
      · have := Fo.cl_more kids (m := m - n) (n := 1) (by omega)
        have h2 := Fo.cl_ge rest (m := m) (n := n + kids.cl (m - n) 1)
        omega
    · rw [if_neg hn]; omega
/-- where a loop over kids stands -/
structure KL (w wr : World) (b o i : Nat) (F F2 : Fo) : Prop where
  be : Below w.heap.size w wr
  f : RdF w (fun g => g < w.heap.size) F2 b (o + i * 4)
  lf : F.len = i + F2.len
  nd : F2.nodes ≤ F.nodes
theorem KL.start {w wr : World} {b o : Nat} {F : Fo} (hb : Below w.heap.size w wr) (h : RdF w (fun g => g < w.heap.size) F b o) : KL w wr b o 0 F F := ⟨hb, by rw [Nat.zero_mul, Nat.add_zero]; exact h, by omega, Nat.le_refl _⟩
theorem KL.step {w wr wu : World} {b o i : Nat} {F F2 : Fo} (h : KL w wr b o i F F2) (hb : Below wr.heap.size wr wu) : KL w wu b o i F F2 := ⟨h.be.trans (hb.mono h.be.size), h.f, h.lf, h.nd⟩
theorem RdF.lows {w : World} {B : Nat → Prop} {F : Fo} {b o : Nat} (h : RdF w B F b o) : RdF w (fun g => g < w.heap.size) F b o := RdF.mono (fun g hg _ => hg) F b o h
/-- the kid that stands next -/
theorem KL.next {w wr : World} {b o i : Nat} {F : Fo} {k a v : Int} {kids rest : Fo} (h : KL w wr b o i F (.cons k a v kids rest)) :
    ∃ sx, Kid w b (o + i * 4) ⟨k, a, v, kids⟩ sx ∧ 1 + kids.nodes + rest.nodes ≤ F.nodes ∧ i < F.len ∧ (∀ wu, Below wr.heap.size wr wu → KL w wu b o (i + 1) F rest) := by
  obtain ⟨sx, K, hr⟩ := kid_of h.f
  have h1 := h.lf
  have h2 := h.nd
  simp only [Fo.len, Fo.nodes] at h1 h2
  refine ⟨sx, K, h2, by omega, fun wu hb => ⟨h.be.trans (hb.mono h.be.size), ?_, by omega, by omega⟩⟩
  rw [show o + (i + 1) * 4 = o + i * 4 + 4 from by omega]
  exact hr
/-- what is known of Count for what has so few nodes -/
def Cz (n : Nat) : Prop := ∀ (t : Tr) (sl : Value) (B : Nat → Prop) (u : World) (m : Nat), m ≤ 4000 → (t.on .nil).nodes ≤ n → SlF u B sl t.kids →
  Calls Try.prog 18 #[Ev t sl, .int .i64 (m : Int)] u fun e w' => e = .returned (.int .i64 ((t.kids.cl m 1 : Nat) : Int)) ∧ Below u.heap.size u w'
set_option maxHeartbeats 8000000 in
theorem Cz.succ (n : Nat) (ih : Cz n) : Cz (n + 1) := by
  intro t sl B w m hm hn hs
  obtain ⟨p, cap, b, o, rfl, hp, hc, hr⟩ := hs
  rw [Fo.nodes_on] at hn
  have hb1 := boxE w t.k t.a t.v (.slice p t.kids.len cap)
  have HB1 := Bx.mk hb1
  have HK0 := Bx.mk (KL.start ((Below.refl w.heap.size w).alloc (Nat.le_refl _) (.cells #[.int .i64 t.k, .int .i64 t.a, .int .i64 t.v, .slice p t.kids.len cap] 36)) hr.lows)
  have HP : Bx (t.kids.len ≠ 0 → p = some ⟨b, o, none⟩) := ⟨fun h => by
    rcases hp with ⟨e, _⟩ | e
    · exact absurd (by rw [e]; rfl) h
    · exact e⟩
  have HN := Bx.mk hn
  have HM := Bx.mk hm
  have IH := Bx.mk ih
  clear hb1 hp hc hr hn ih hm
  unfold Ev
  go_enter Try.func18, Try.ntmps18
  go_wp2_with fail
  go_loopw [5, 6] (fun c j wr => ∃ (i : Nat) (F2 : Fo) (d : Nat), j = .int .i64 (i : Int) ∧ c = .int .i64 (d : Int) ∧ Bx (i < d ∧ d ≤ m + 1 ∧ t.kids.cl m 1 = F2.cl m d) ∧ KL w wr b o i t.kids F2 ∧ Blk wr w.heap.size 36 #[.int .i64 t.k, .int .i64 t.a, .int .i64 t.v, .slice p t.kids.len cap]) (fun _ j _ => t.kids.len - (intOf j).toNat)
  case atStart => exact ⟨0, t.kids, 1, rfl, rfl, ⟨⟨by omega, by omega, rfl⟩⟩, HK0.out, HB1.out⟩
  case round =>
    clear HK0 HB1
    obtain ⟨i, F2, d, rfl, rfl, HD, hK, hB⟩ := hrel
    have HK := Bx.mk hK
    have HB := Bx.mk hB
    obtain ⟨c0, c1, c2, c3, _, _, _, _⟩ := cells4 hB
    clear hK hB
    cases F2 with
    | nil =>
      have q : ¬ (i : Int) < (t.kids.len : Int) := by have := HK.out.lf; simp only [Fo.len] at this; omega
      have HV := Bx.mk (show t.kids.cl m 1 = d from HD.out.2.2)
      go_wp2_with fail
      go_ret
      exact ⟨by rw [HV.out]; rfl, HK.out.be⟩
    | cons k a v kids rest =>
      obtain ⟨sx, Kx, hnn, hil, hnext⟩ := HK.out.next
      obtain ⟨px, cx, rfl⟩ := Kx.sl.is
      have q : (i : Int) < (t.kids.len : Int) := by omega
      by_cases hd : d ≤ m
      · have q2 : (d : Int) ≤ (m : Int) := by omega
        have hdd := HD.out
        have hpp := HP.out (by omega)
        subst hpp
        obtain ⟨x0, x1, x2, x3, xS⟩ := Kx.below HK.out.be
        simp only [] at x0 x1 x2 x3
        have hm4 := HM.out
        have b1 : -9223372036854775808 ≤ (m : Int) - (d : Int) ∧ (m : Int) - (d : Int) ≤ 9223372036854775807 := by omega
        have b2 : (m : Int) - (d : Int) = ((m - d : Nat) : Int) := by omega
        have b3 : -9223372036854775808 ≤ (i : Int) + 1 ∧ (i : Int) + 1 ≤ 9223372036854775807 := by omega
        have HI := Bx.mk (IH.out ⟨k, a, v, kids⟩ _ _ _ (m - d) (by omega) (by have := HN.out; rw [Fo.nodes_on]; simp only [show Fo.nil.nodes = 0 from rfl] at this ⊢; omega) xS)
        have hcl := Fo.cl_le kids (m := m - d) (n := 1) (by omega)
        have HCL := Bx.mk (show d + kids.cl (m - d) 1 ≤ m + 1 ∧ 1 ≤ kids.cl (m - d) 1 from ⟨by omega, Fo.cl_ge kids⟩)
        have HV := Bx.mk (show t.kids.cl m 1 = rest.cl m (d + kids.cl (m - d) 1) from by rw [hdd.2.2, Fo.cl, if_pos hd])
        have HNX := Bx.mk hnext
        have HIL := Bx.mk (And.intro hil hdd)
        have b4 : -9223372036854775808 ≤ (d : Int) + ((kids.cl (m - d) 1 : Nat) : Int) ∧ (d : Int) + ((kids.cl (m - d) 1 : Nat) : Int) ≤ 9223372036854775807 := by have := HCL.out; omega
        have b5 : (d : Int) + ((kids.cl (m - d) 1 : Nat) : Int) = ((d + kids.cl (m - d) 1 : Nat) : Int) := by omega
        have hsub : wrap64 ((m : Int) - (d : Int)) = ((m - d : Nat) : Int) := (w64 _ b1).trans b2
        have HADD := Bx.mk ((w64 _ b4).trans b5)
        have hw : wrap64 ((i : Int) + 1) = (i : Int) + 1 := w64 _ b3
        clear b1 b2 b3 b4 b5
        clear Kx hnn hil hnext xS hcl hd hdd hm4
        unfold Ev at HI
        simp only [] at HI
        generalize kids.cl (m - d) 1 = cc at *
        go_wp2_with fail
        refine HI.out.mono ?_
        rintro e u ⟨rfl, hb⟩
        have HU := Bx.mk (HNX.out u hb)
        have HBU := Bx.mk (HB.out.below hb HB.out.lt)
        clear hb c0 c1 c2 c3
        go_wp2_with fail
        refine ⟨⟨i + 1, rest, d + cc, by go_num, congrArg (Value.int .i64) HADD.out, ⟨⟨by have h1 := HIL.out; have h2 := HCL.out; clear hsub hw; omega, HCL.out.1, HV.out⟩⟩, HU.out, HBU.out⟩, ?_⟩
        rw [intOf_i, intOf_i, hw]
        have := HIL.out.1
        clear hw hsub
        omega
      · have q2 : ¬ (d : Int) ≤ (m : Int) := by omega
        have HV := Bx.mk (show t.kids.cl m 1 = d from by rw [HD.out.2.2, Fo.cl_over _ (by omega)])
        clear Kx hnn hil hnext hd
        go_wp2_with fail
        go_ret
        exact ⟨by rw [HV.out]; rfl, HK.out.be⟩
theorem Cz.all : ∀ n, Cz n
  | 0 => fun t sl B u m _ h => by rw [Fo.nodes_on] at h; omega
  | n + 1 => Cz.succ n (Cz.all n)
theorem count_any (t : Tr) (sl : Value) (B : Nat → Prop) (u : World) (m : Nat) (hm : m ≤ 4000) (hs : SlF u B sl t.kids) :
    Calls Try.prog 18 #[Ev t sl, .int .i64 (m : Int)] u fun e w' => e = .returned (.int .i64 ((t.kids.cl m 1 : Nat) : Int)) ∧ Below u.heap.size u w' := Cz.all _ t sl B u m hm (Nat.le_refl _) hs
end Go.Proofs.Ytfgokhafiffbaaa

/-
  Formulas: ite.
-/
namespace Go.Proofs.Ytfgokhafiffbaaa
set_option linter.unusedVariables false
open Go.RowKit

theorem ite_ix0 (w : World) : (Instr.index 49 (.agg #[.string { data := #[40] }, .string { data := #[44] }, .string { data := #[44] }]) (.int .i64 0)).run Try.prog w = .ok (.string { data := #[40] }) w := by kernel_rfl
theorem ite_ix1 (w : World) : (Instr.index 49 (.agg #[.string { data := #[40] }, .string { data := #[44] }, .string { data := #[44] }]) (.int .i64 1)).run Try.prog w = .ok (.string { data := #[44] }) w := by kernel_rfl
theorem ite_ix2 (w : World) : (Instr.index 49 (.agg #[.string { data := #[40] }, .string { data := #[44] }, .string { data := #[44] }]) (.int .i64 2)).run Try.prog w = .ok (.string { data := #[44] }) w := by kernel_rfl
set_option maxHeartbeats 8000000 in
theorem pite_any (N d : Nat) (s : ByteArray) (st : St) (w : World) (at_ : Nat) (r : Option (St → Tr × St)) (hr : Rz 31 d r) (h : PS w N d s st) :
    Calls Try.prog 91 #[.pointer (some ⟨N, 0, none⟩), .int .i64 (at_ : Int)] w (Gives N d s w (Ex.ite r at_ st)) := by
  have hlt := h.lt
  have HI0 : Bx (IT w (w.alloc (Obj.cells #[.int .i64 0, .int .i64 0, .int .i64 0, .slice none 0 0] 36)) N d s st (.slice none 0 0) 0 .nil) := ⟨⟨h.alloc _, (Gb.refl N w).alloc _, Blk.new w 36 #[.int .i64 0, .int .i64 0, .int .i64 0, .slice none 0 0], hlt, rfl, ⟨[], World.ownsRow_nil _ _ _ 4, rfl⟩⟩⟩
  have hW := fun st' u (hu : PS u N d s st') => within_any N d s st' u 31 r (fun _ _ => rfl) hr hu
  have HW := Bx.mk hW
  have e40 : ({ data := #[40] } : ByteArray) = Tok.str .lp := by unfold Tok.str Tok.txt strOf; decide +kernel
  have e41 : ({ data := #[41] } : ByteArray) = Tok.str .rp := by unfold Tok.str Tok.txt strOf; decide +kernel
  have e44 : ({ data := #[44] } : ByteArray) = Tok.str .comma := by unfold Tok.str Tok.txt strOf; decide +kernel
  have E40 := Bx.mk e40
  have E41 := Bx.mk e41
  have E44 := Bx.mk e44
  clear e40 e41 e44 hW hr h
  have i0 := ite_ix0
  have i1 := ite_ix1
  have i2 := ite_ix2
  have HE : Bx (Ex.ite r at_ st = (⟨9, at_, 0, (Ex.within r (st.must .lp)).1.on ((Ex.within r ((Ex.within r (st.must .lp)).2.must .comma)).1.on ((Ex.within r ((Ex.within r ((Ex.within r (st.must .lp)).2.must .comma)).2.must .comma)).1.on .nil))⟩, (Ex.within r ((Ex.within r ((Ex.within r (st.must .lp)).2.must .comma)).2.must .comma)).2.must .rp)) := ⟨rfl⟩
  generalize Ex.ite r at_ st = R at HE ⊢
  go_enter Try.func91, Try.ntmps91
  go_wp2_with fail
  refine wp_loop_rounds 4 ?_
  rw [rounds_succ]
  go_wp2_with fail
  refine (must_st N d .lp _ s _ _ HI0.out.ps E40.out (by decide) (by decide)).mono ?_
  rintro e wm0 ⟨rfl, hPm, hGm⟩
  have HM0 := Bx.mk (HI0.out.step hPm hGm)
  have hWi := HW.out _ _ HM0.out.ps
  clear hPm hGm HI0
  generalize hy0 : Ex.within r (st.must .lp) = Y0 at hWi
  have HY0 := Bx.mk hy0
  clear hy0
  go_wp2_with fail
  refine hWi.mono ?_
  clear hWi
  rintro e wi0 ⟨sy0, rfl, hSy, hPy, hGy⟩
  have hI := HM0.out.step hPy hGy
  have hsz := HM0.out.size
  have hol := fun k (hk : Value.ownBlock (.slice none 0 0) = some k) => HM0.out.own_lt hk
  have hSy' : SlF wi0 (fun g => w.heap.size < g ∧ some g ≠ Value.ownBlock (.slice none 0 0)) sy0 Y0.1.kids := hSy.mono fun g hg => by unfold Ge at hg; exact ⟨by omega, fun e => by have := hol g e.symm; omega⟩
  obtain ⟨py0, cy0, hq0⟩ := hSy.is
  obtain ⟨v1, wa0, hr0, hI'⟩ := hI.app (by omega) Y0.1 sy0 hSy' 1 34
  have HI1 := Bx.mk hI'
  clear hI hSy' hSy hPy hGy hI' hol HM0
  subst hq0
  unfold Ev
  go_wp2_with (refine wpList_app _ _ _ _ hr0 rfl rfl rfl rfl ?_)
  rw [rounds_succ]
  go_wp2_with fail
  refine (must_st N d .comma _ s _ _ HI1.out.ps E44.out (by decide) (by decide)).mono ?_
  rintro e wm1 ⟨rfl, hPm, hGm⟩
  have HM1 := Bx.mk (HI1.out.step hPm hGm)
  have hWi := HW.out _ _ HM1.out.ps
  clear hPm hGm HI1
  generalize hy1 : Ex.within r (Y0.2.must .comma) = Y1 at hWi
  have HY1 := Bx.mk hy1
  clear hy1
  go_wp2_with fail
  refine hWi.mono ?_
  clear hWi
  rintro e wi1 ⟨sy1, rfl, hSy, hPy, hGy⟩
  have hI := HM1.out.step hPy hGy
  have hsz := HM1.out.size
  have hol := fun k (hk : Value.ownBlock v1 = some k) => HM1.out.own_lt hk
  have hSy' : SlF wi1 (fun g => w.heap.size < g ∧ some g ≠ Value.ownBlock v1) sy1 Y1.1.kids := hSy.mono fun g hg => by unfold Ge at hg; exact ⟨by omega, fun e => by have := hol g e.symm; omega⟩
  obtain ⟨py1, cy1, hq1⟩ := hSy.is
  obtain ⟨v2, wa1, hr1, hI'⟩ := hI.app (by omega) Y1.1 sy1 hSy' 1 34
  have HI2 := Bx.mk hI'
  clear hI hSy' hSy hPy hGy hI' hol HM1
  subst hq1
  unfold Ev
  go_wp2_with (refine wpList_app _ _ _ _ hr1 rfl rfl rfl rfl ?_)
  rw [rounds_succ]
  go_wp2_with fail
  refine (must_st N d .comma _ s _ _ HI2.out.ps E44.out (by decide) (by decide)).mono ?_
  rintro e wm2 ⟨rfl, hPm, hGm⟩
  have HM2 := Bx.mk (HI2.out.step hPm hGm)
  have hWi := HW.out _ _ HM2.out.ps
  clear hPm hGm HI2
  generalize hy2 : Ex.within r (Y1.2.must .comma) = Y2 at hWi
  have HY2 := Bx.mk hy2
  clear hy2
  go_wp2_with fail
  refine hWi.mono ?_
  clear hWi
  rintro e wi2 ⟨sy2, rfl, hSy, hPy, hGy⟩
  have hI := HM2.out.step hPy hGy
  have hsz := HM2.out.size
  have hol := fun k (hk : Value.ownBlock v2 = some k) => HM2.out.own_lt hk
  have hSy' : SlF wi2 (fun g => w.heap.size < g ∧ some g ≠ Value.ownBlock v2) sy2 Y2.1.kids := hSy.mono fun g hg => by unfold Ge at hg; exact ⟨by omega, fun e => by have := hol g e.symm; omega⟩
  obtain ⟨py2, cy2, hq2⟩ := hSy.is
  obtain ⟨v3, wa2, hr2, hI'⟩ := hI.app (by omega) Y2.1 sy2 hSy' 1 34
  have HI3 := Bx.mk hI'
  clear hI hSy' hSy hPy hGy hI' hol HM2
  subst hq2
  unfold Ev
  go_wp2_with (refine wpList_app _ _ _ _ hr2 rfl rfl rfl rfl ?_)
  rw [rounds_succ]
  go_wp2_with fail
  refine (must_st N d .rp _ s _ _ HI3.out.ps E41.out (by decide) (by decide)).mono ?_
  rintro e w4 ⟨rfl, hP4, hG4⟩
  have hI4 := HI3.out.step hP4 hG4
  obtain ⟨L, ho, hF⟩ := hI4.own
  have hS4 := own_slf (B := fun g => w.heap.size < g) ho (hF.mono' fun g _ hB => hB.1) (fun k hk => (hI4.own_lt hk).1)
  obtain ⟨pv, cv, hv⟩ := hS4.is
  obtain ⟨r0, r1, r2, r3, g0, g1, g2, g3⟩ := cells4 hI4.res
  have HI4 := Bx.mk hI4
  have HS4 := Bx.mk hS4
  clear hI4 hS4 hP4 hG4 ho hF
  subst hv
  go_wp2_with fail
  have hE := Blk.own4 HI4.out.res (.int .i64 9) (.int .i64 (at_ : Int)) (.int .i64 0) (.slice pv (((Fo.nil.app (Y0.1.on .nil)).app (Y1.1.on .nil)).app (Y2.1.on .nil)).len cv)
  clear r0 r1 r2 r3 g0 g1 g2 g3
  obtain ⟨r0, r1, r2, r3, _, _, _, _⟩ := cells4 hE
  refine bodyPost_ret (v := Ev (⟨9, at_, 0, ((Fo.nil.app (Y0.1.on .nil)).app (Y1.1.on .nil)).app (Y2.1.on .nil)⟩ : Tr) (.slice pv (((Fo.nil.app (Y0.1.on .nil)).app (Y1.1.on .nil)).app (Y2.1.on .nil)).len cv)) (by simp [results, Try.results91, go_sem, r0, r1, r2, r3]; rfl) rfl ?_
  rw [HE.out, HY0.out, HY1.out, HY2.out]
  exact ⟨.slice pv (((Fo.nil.app (Y0.1.on .nil)).app (Y1.1.on .nil)).app (Y2.1.on .nil)).len cv, rfl, (HS4.out.st4 (R := w.heap.size) (fun h => by omega) _ _ _ _).mono (B' := Ge w.heap.size) (fun g hg => by unfold Ge; omega), HI4.out.ps.st4 (R := w.heap.size) (by omega) _ _ _ _, HI4.out.gb.st4 (Nat.le_refl _) _ _ _ _⟩
end Go.Proofs.Ytfgokhafiffbaaa

/-
  Formulas: prim.
-/
namespace Go.Proofs.Ytfgokhafiffbaaa
set_option linter.unusedVariables false
open Go.RowKit
theorem tok_cells {w : World} {g : Nat} {s : ByteArray} {a : Int} (h : Blk w g 60 #[.string s, .int .i64 a]) : w.cell? ⟨g, 0, none⟩ = some (.string s) ∧ w.cell? ⟨g, 1, none⟩ = some (.int .i64 a) := ⟨h.cell 0, h.cell 1⟩
theorem Tok.zero_at : (bl (Tok.zero).str)[0]? = some 48 := by rw [Tok.bl_str]; unfold Tok.txt; rfl
theorem Tok.one_at : (bl (Tok.one).str)[0]? = some 49 := by rw [Tok.bl_str]; unfold Tok.txt; rfl
theorem ba_of {b : ByteArray} {t : Tok} (h : bl b = t.txt) : b = t.str := bl_inj (by rw [Tok.bl_str, h])
theorem e48 : ({ data := #[48] } : ByteArray) = Tok.str .zero := by unfold Tok.str Tok.txt strOf; decide +kernel
theorem e49 : ({ data := #[49] } : ByteArray) = Tok.str .one := by unfold Tok.str Tok.txt strOf; decide +kernel
theorem e40 : ({ data := #[40] } : ByteArray) = Tok.str .lp := by unfold Tok.str Tok.txt strOf; decide +kernel
theorem e41 : ({ data := #[41] } : ByteArray) = Tok.str .rp := by unfold Tok.str Tok.txt strOf; decide +kernel
theorem eite : ({ data := #[105, 116, 101] } : ByteArray) = Tok.str .ite := by unfold Tok.str Tok.txt strOf; decide +kernel
theorem eall : ({ data := #[97, 108, 108] } : ByteArray) = Tok.str .all := by unfold Tok.str Tok.txt strOf; decide +kernel
theorem eany : ({ data := #[97, 110, 121] } : ByteArray) = Tok.str .any := by unfold Tok.str Tok.txt strOf; decide +kernel
theorem enot : ({ data := #[33] } : ByteArray) = Tok.str .not := by unfold Tok.str Tok.txt strOf; decide +kernel
/-- a sign against a constant text, in the walk's own forms -/
theorem tok_isnt (t u : Tok) (l : List UInt8) (hu : ({ data := l.toArray } : ByteArray) = Tok.str u) (h : t ≠ u) : ¬ t.str.toList = l ∧ (t.str.toList == l) = false := by
  have hx : ¬ t.str.toList = l := fun e => by
    have e2 : bl t.str = bl u.str := by
      rw [← hu, show bl ({ data := l.toArray } : ByteArray) = l.map UInt8.toNat from bl_mk l]
      unfold bl
      rw [← ByteArray.toList_eq, e]
    rw [Tok.bl_str, Tok.bl_str] at e2
    exact h (Tok.txt_inj e2)
  exact ⟨hx, beq_eq_false_iff_ne.2 hx⟩

set_option maxHeartbeats 8000000 in
theorem prim_var (N d : Nat) (s : ByteArray) (st : St) (w : World) (n : Fin 8) (hn : st.now = .var n) (h : PS w N d s st) :
    Calls Try.prog 89 #[.pointer (some ⟨N, 0, none⟩)] w (Gives N d s w (⟨1, st.at_, n.val, .nil⟩, st.goes)) := by
  have hlt := h.lt
  have HP0 := Bx.mk ((h.alloc (Obj.cells #[.int .i64 0, .int .i64 0, .int .i64 0, .slice none 0 0] 36)).alloc (Obj.cells #[.string st.now.str, .int .i64 (st.at_ : Int)] 60))
  have HR0 := Bx.mk ((Blk.new w 36 #[.int .i64 0, .int .i64 0, .int .i64 0, .slice none 0 0]).alloc (Obj.cells #[.string st.now.str, .int .i64 (st.at_ : Int)] 60))
  have HG0 := Bx.mk (((Gb.refl N w).alloc (Obj.cells #[.int .i64 0, .int .i64 0, .int .i64 0, .slice none 0 0] 36)).alloc (Obj.cells #[.string st.now.str, .int .i64 (st.at_ : Int)] 60))
  have ht0 := Blk.new (w.alloc (Obj.cells #[.int .i64 0, .int .i64 0, .int .i64 0, .slice none 0 0] 36)) 60 #[.string st.now.str, .int .i64 (st.at_ : Int)]
  rw [alloc_size] at ht0
  have HT0 := Bx.mk ht0
  obtain ⟨c0, c1, c2, c3, c4, c5, f1, f2, f3, f4, f5⟩ := pb_cells h.blk
  have hV := variable_any st.now.str
  rw [Tok.bl_str] at hV
  clear c0 c3 c4 c5 f1 f2 f3 f4 f5 h ht0

  rw [hn, Lx.vr_var] at hV
  have hT := run_idx1 (Tok.var_at n)
  have hn8 := n.isLt
  have hw1 : IntKind.u8.wrap (48 + (n.val : Int) - 48) = (n.val : Int) := by rw [IntKind.wrap_u8]; omega
  have hw2 : IntKind.i64.wrap (n.val : Int) = (n.val : Int) := by rw [IntKind.wrap_i64]; omega

  have HGo := Bx.mk (goes_st N d s st _ HP0.out (by rw [hn]; simp) (by rw [hn]; simp))
  have HV := Bx.mk hV
  have HN := Bx.mk hn
  rw [hn] at c1
  clear hV
  go_enter Try.func89, Try.ntmps89
  go_wp2_with fail
  refine (HV.out _).mono ?_
  rintro e w1 ⟨rfl, rfl⟩
  go_wp2_with fail
  rw [← HN.out]
  refine HGo.out.mono ?_
  rintro e w2 ⟨rfl, hP4, hG4⟩
  have hR4 := hG4.blk HR0.out (by omega)
  have hT4 := hG4.blk HT0.out (by omega)
  obtain ⟨t0, t1⟩ := tok_cells hT4
  obtain ⟨r0, r1, r2, r3, g0, g1, g2, g3⟩ := cells4 hR4
  rw [HN.out] at t0
  have HP4 := Bx.mk hP4
  have HG4 := Bx.mk hG4
  have HR4 := Bx.mk hR4
  clear hP4 hG4 hR4 hT4 c1 c2
  go_wp2_with fail
  go_still_tail 8, (by kernel_rfl)
  go_wp2_with fail
  clear r0 r1 r2 r3 g0 g1 g2 g3
  have hE := (Blk.own4 HR4.out (.int .i64 1) (.int .i64 (st.at_ : Int)) (.int .i64 n.val) (.slice none 0 0)).drew
  obtain ⟨r0, r1, r2, r3, _, _, _, _⟩ := cells4 hE
  refine bodyPost_ret (v := Ev (⟨1, st.at_, n.val, .nil⟩ : Tr) (.slice none 0 0)) (by simp [results, Try.results89, go_sem, r0, r1, r2, r3]; rfl) rfl ?_
  exact ⟨.slice none 0 0, rfl, SlF.nil _ _, (HP4.out.st4 (R := w.heap.size) (by omega) _ _ _ _).drew, ((HG0.out.trans HG4.out).st4 (Nat.le_refl _) _ _ _ _).drew⟩

set_option maxHeartbeats 8000000 in
theorem prim_zero (N d : Nat) (s : ByteArray) (st : St) (w : World) (hn : st.now = .zero) (h : PS w N d s st) :
    Calls Try.prog 89 #[.pointer (some ⟨N, 0, none⟩)] w (Gives N d s w (⟨2, st.at_, 0, .nil⟩, st.goes)) := by
  have hlt := h.lt
  have HP0 := Bx.mk ((h.alloc (Obj.cells #[.int .i64 0, .int .i64 0, .int .i64 0, .slice none 0 0] 36)).alloc (Obj.cells #[.string st.now.str, .int .i64 (st.at_ : Int)] 60))
  have HR0 := Bx.mk ((Blk.new w 36 #[.int .i64 0, .int .i64 0, .int .i64 0, .slice none 0 0]).alloc (Obj.cells #[.string st.now.str, .int .i64 (st.at_ : Int)] 60))
  have HG0 := Bx.mk (((Gb.refl N w).alloc (Obj.cells #[.int .i64 0, .int .i64 0, .int .i64 0, .slice none 0 0] 36)).alloc (Obj.cells #[.string st.now.str, .int .i64 (st.at_ : Int)] 60))
  have ht0 := Blk.new (w.alloc (Obj.cells #[.int .i64 0, .int .i64 0, .int .i64 0, .slice none 0 0] 36)) 60 #[.string st.now.str, .int .i64 (st.at_ : Int)]
  rw [alloc_size] at ht0
  have HT0 := Bx.mk ht0
  obtain ⟨c0, c1, c2, c3, c4, c5, f1, f2, f3, f4, f5⟩ := pb_cells h.blk
  have hV := variable_any st.now.str
  rw [Tok.bl_str] at hV
  clear c0 c3 c4 c5 f1 f2 f3 f4 f5 h ht0

  rw [hn, Lx.vr_not .zero (by intro n; simp)] at hV
  have hT := run_idx0 (Tok.zero_at)
  have z48 : (Tok.str .zero).toList = 48 :: [] := by rw [Tok.str, show (Tok.zero).txt = [48] from by unfold Tok.txt; rfl]; unfold strOf; decide +kernel

  have HGo := Bx.mk (goes_st N d s st _ HP0.out (by rw [hn]; simp) (by rw [hn]; simp))
  have HV := Bx.mk hV
  have HN := Bx.mk hn
  rw [hn] at c1
  clear hV
  go_enter Try.func89, Try.ntmps89
  go_wp2_with fail
  refine (HV.out _).mono ?_
  rintro e w1 ⟨rfl, rfl⟩
  go_wp2_with fail
  rw [← HN.out]
  refine HGo.out.mono ?_
  rintro e w2 ⟨rfl, hP4, hG4⟩
  have hR4 := hG4.blk HR0.out (by omega)
  have hT4 := hG4.blk HT0.out (by omega)
  obtain ⟨t0, t1⟩ := tok_cells hT4
  obtain ⟨r0, r1, r2, r3, g0, g1, g2, g3⟩ := cells4 hR4
  rw [HN.out] at t0
  have HP4 := Bx.mk hP4
  have HG4 := Bx.mk hG4
  have HR4 := Bx.mk hR4
  clear hP4 hG4 hR4 hT4 c1 c2
  go_wp2_with fail
  go_still_tail 8, (by kernel_rfl)
  go_wp2_with fail
  clear r0 r1 r2 r3 g0 g1 g2 g3
  have hE := (Blk.own4 HR4.out (.int .i64 2) (.int .i64 (st.at_ : Int)) (.int .i64 0) (.slice none 0 0)).drew
  obtain ⟨r0, r1, r2, r3, _, _, _, _⟩ := cells4 hE
  refine bodyPost_ret (v := Ev (⟨2, st.at_, 0, .nil⟩ : Tr) (.slice none 0 0)) (by simp [results, Try.results89, go_sem, r0, r1, r2, r3]; rfl) rfl ?_
  exact ⟨.slice none 0 0, rfl, SlF.nil _ _, (HP4.out.st4 (R := w.heap.size) (by omega) _ _ _ _).drew, ((HG0.out.trans HG4.out).st4 (Nat.le_refl _) _ _ _ _).drew⟩

set_option maxHeartbeats 8000000 in
theorem prim_one (N d : Nat) (s : ByteArray) (st : St) (w : World) (hn : st.now = .one) (h : PS w N d s st) :
    Calls Try.prog 89 #[.pointer (some ⟨N, 0, none⟩)] w (Gives N d s w (⟨2, st.at_, 1, .nil⟩, st.goes)) := by
  have hlt := h.lt
  have HP0 := Bx.mk ((h.alloc (Obj.cells #[.int .i64 0, .int .i64 0, .int .i64 0, .slice none 0 0] 36)).alloc (Obj.cells #[.string st.now.str, .int .i64 (st.at_ : Int)] 60))
  have HR0 := Bx.mk ((Blk.new w 36 #[.int .i64 0, .int .i64 0, .int .i64 0, .slice none 0 0]).alloc (Obj.cells #[.string st.now.str, .int .i64 (st.at_ : Int)] 60))
  have HG0 := Bx.mk (((Gb.refl N w).alloc (Obj.cells #[.int .i64 0, .int .i64 0, .int .i64 0, .slice none 0 0] 36)).alloc (Obj.cells #[.string st.now.str, .int .i64 (st.at_ : Int)] 60))
  have ht0 := Blk.new (w.alloc (Obj.cells #[.int .i64 0, .int .i64 0, .int .i64 0, .slice none 0 0] 36)) 60 #[.string st.now.str, .int .i64 (st.at_ : Int)]
  rw [alloc_size] at ht0
  have HT0 := Bx.mk ht0
  obtain ⟨c0, c1, c2, c3, c4, c5, f1, f2, f3, f4, f5⟩ := pb_cells h.blk
  have hV := variable_any st.now.str
  rw [Tok.bl_str] at hV
  clear c0 c3 c4 c5 f1 f2 f3 f4 f5 h ht0

  rw [hn, Lx.vr_not .one (by intro n; simp)] at hV
  have hT := run_idx0 (Tok.one_at)
  have z48 : (Tok.str .one).toList = 49 :: [] := by rw [Tok.str, show (Tok.one).txt = [49] from by unfold Tok.txt; rfl]; unfold strOf; decide +kernel

  have HGo := Bx.mk (goes_st N d s st _ HP0.out (by rw [hn]; simp) (by rw [hn]; simp))
  have HV := Bx.mk hV
  have HN := Bx.mk hn
  rw [hn] at c1
  clear hV
  go_enter Try.func89, Try.ntmps89
  go_wp2_with fail
  refine (HV.out _).mono ?_
  rintro e w1 ⟨rfl, rfl⟩
  go_wp2_with fail
  rw [← HN.out]
  refine HGo.out.mono ?_
  rintro e w2 ⟨rfl, hP4, hG4⟩
  have hR4 := hG4.blk HR0.out (by omega)
  have hT4 := hG4.blk HT0.out (by omega)
  obtain ⟨t0, t1⟩ := tok_cells hT4
  obtain ⟨r0, r1, r2, r3, g0, g1, g2, g3⟩ := cells4 hR4
  rw [HN.out] at t0
  have HP4 := Bx.mk hP4
  have HG4 := Bx.mk hG4
  have HR4 := Bx.mk hR4
  clear hP4 hG4 hR4 hT4 c1 c2
  go_wp2_with fail
  go_still_tail 8, (by kernel_rfl)
  go_wp2_with fail
  clear r0 r1 r2 r3 g0 g1 g2 g3
  have hE := (Blk.own4 HR4.out (.int .i64 2) (.int .i64 (st.at_ : Int)) (.int .i64 1) (.slice none 0 0)).drew
  obtain ⟨r0, r1, r2, r3, _, _, _, _⟩ := cells4 hE
  refine bodyPost_ret (v := Ev (⟨2, st.at_, 1, .nil⟩ : Tr) (.slice none 0 0)) (by simp [results, Try.results89, go_sem, r0, r1, r2, r3]; rfl) rfl ?_
  exact ⟨.slice none 0 0, rfl, SlF.nil _ _, (HP4.out.st4 (R := w.heap.size) (by omega) _ _ _ _).drew, ((HG0.out.trans HG4.out).st4 (Nat.le_refl _) _ _ _ _).drew⟩

set_option maxHeartbeats 8000000 in
theorem prim_lp (N d : Nat) (s : ByteArray) (st : St) (w : World) (hv : ∀ n, st.now ≠ .var n) (hz : st.now ≠ .zero) (ho : st.now ≠ .one) (r : Option (St → Tr × St)) (hr : Rz 31 d r) (hm : st.may .lp = true) (h : PS w N d s st) :
    Calls Try.prog 89 #[.pointer (some ⟨N, 0, none⟩)] w (Gives N d s w ((Ex.within r st.goes).1, (Ex.within r st.goes).2.must .rp)) := by
  have hlt := h.lt
  have HP0 := Bx.mk ((h.alloc (Obj.cells #[.int .i64 0, .int .i64 0, .int .i64 0, .slice none 0 0] 36)).alloc (Obj.cells #[.string st.now.str, .int .i64 (st.at_ : Int)] 60))
  have HR0 := Bx.mk ((Blk.new w 36 #[.int .i64 0, .int .i64 0, .int .i64 0, .slice none 0 0]).alloc (Obj.cells #[.string st.now.str, .int .i64 (st.at_ : Int)] 60))
  have HG0 := Bx.mk (((Gb.refl N w).alloc (Obj.cells #[.int .i64 0, .int .i64 0, .int .i64 0, .slice none 0 0] 36)).alloc (Obj.cells #[.string st.now.str, .int .i64 (st.at_ : Int)] 60))
  have ht0 := Blk.new (w.alloc (Obj.cells #[.int .i64 0, .int .i64 0, .int .i64 0, .slice none 0 0] 36)) 60 #[.string st.now.str, .int .i64 (st.at_ : Int)]
  rw [alloc_size] at ht0
  have HT0 := Bx.mk ht0
  obtain ⟨c0, c1, c2, c3, c4, c5, f1, f2, f3, f4, f5⟩ := pb_cells h.blk
  have hV := variable_any st.now.str
  rw [Tok.bl_str] at hV
  clear c0 c3 c4 c5 f1 f2 f3 f4 f5 h ht0

  rw [Lx.vr_not _ hv] at hV
  have HV := Bx.mk hV
  have k0 := tok_isnt st.now .zero [48] e48 hz
  have k1 := tok_isnt st.now .one [49] e49 ho
  obtain ⟨k00, k01⟩ := k0
  obtain ⟨k10, k11⟩ := k1
  have hM := may_st N d .lp ({ data := #[40] }) s _ _ HP0.out e40 (by decide) (by decide)
  rw [hm, if_pos rfl] at hM
  have HM := Bx.mk hM
  have hW := fun u (hu : PS u N d s st.goes) => within_any N d s st.goes u 31 r (fun _ _ => rfl) hr hu
  have HW := Bx.mk hW
  clear hV hM hW hr
  generalize Ex.within r st.goes = Y at HW ⊢
  go_enter Try.func89, Try.ntmps89
  go_wp2_with fail
  refine (HV.out _).mono ?_
  rintro e w1 ⟨rfl, rfl⟩
  go_wp2_with fail
  refine HM.out.mono ?_
  rintro e w2 ⟨rfl, hP4, hG4⟩
  have hR4 := hG4.blk HR0.out (by omega)
  have hz4 := hG4.size
  rw [alloc_size, alloc_size] at hz4
  have hW4 := HW.out _ hP4
  have HG4 := Bx.mk hG4
  clear hP4 hG4
  go_wp2_with fail
  refine hW4.mono ?_
  clear hW4
  rintro e w3 ⟨sy, rfl, hS5, hP5, hG5⟩
  obtain ⟨py, cy, rfl⟩ := hS5.is
  have hz5 := hG5.size
  have hR5 := (hG5.blk hR4 (by omega)).alloc (Obj.cells #[.int .i64 Y.1.k, .int .i64 Y.1.a, .int .i64 Y.1.v, .slice py Y.1.kids.len cy] 36)
  have hX5 := Blk.new w3 36 #[.int .i64 Y.1.k, .int .i64 Y.1.a, .int .i64 Y.1.v, .slice py Y.1.kids.len cy]
  have hP6 := hP5.alloc (Obj.cells #[.int .i64 Y.1.k, .int .i64 Y.1.a, .int .i64 Y.1.v, .slice py Y.1.kids.len cy] 36)
  have hG6 := (hG5.alloc (Obj.cells #[.int .i64 Y.1.k, .int .i64 Y.1.a, .int .i64 Y.1.v, .slice py Y.1.kids.len cy] 36))
  have hS6 := (hS5.mono (B' := Ge (w.heap.size + 1)) fun g hg => by unfold Ge at hg ⊢; omega).alloc (Obj.cells #[.int .i64 Y.1.k, .int .i64 Y.1.a, .int .i64 Y.1.v, .slice py Y.1.kids.len cy] 36)
  have hM2 := must_st N d .rp ({ data := #[41] }) s _ _ hP6 e41 (by decide) (by decide)
  have HM2 := Bx.mk hM2
  have HR5 := Bx.mk hR5
  have HX5 := Bx.mk hX5
  have HG6 := Bx.mk hG6
  have HS6 := Bx.mk hS6
  clear hM2 hR5 hX5 hG6 hS6 hP6 hP5 hS5 hG5 hR4
  unfold Ev
  go_wp2_with fail
  refine HM2.out.mono ?_
  rintro e w5 ⟨rfl, hP7, hG7⟩
  have hR7 := hG7.blk HR5.out (by omega)
  have hX7 := hG7.blk HX5.out (by omega)
  obtain ⟨o0, o1, o2, o3, _, _, _, _⟩ := cells4 hX7
  obtain ⟨r0, r1, r2, r3, g0, g1, g2, g3⟩ := cells4 hR7
  have HP7 := Bx.mk hP7
  have HG7 := Bx.mk hG7
  have HR7 := Bx.mk hR7
  clear hP7 hG7 hR7 hX7
  go_wp2_with fail
  clear r0 r1 r2 r3 g0 g1 g2 g3
  have hE := (Blk.own4 HR7.out (.int .i64 Y.1.k) (.int .i64 Y.1.a) (.int .i64 Y.1.v) (.slice py Y.1.kids.len cy))
  obtain ⟨r0, r1, r2, r3, _, _, _, _⟩ := cells4 hE
  refine bodyPost_ret (v := Ev Y.1 (.slice py Y.1.kids.len cy)) (by simp [results, Try.results89, go_sem, r0, r1, r2, r3]; rfl) rfl ?_
  exact ⟨.slice py Y.1.kids.len cy, rfl, ((HS6.out.gbs (fun h => by unfold Ge at h; omega) HG7.out).st4 (R := w.heap.size) (fun h => by unfold Ge at h; omega) _ _ _ _).mono (fun g hg => by unfold Ge at hg ⊢; omega), (HP7.out.st4 (R := w.heap.size) (by omega) _ _ _ _), ((HG0.out.trans (HG4.out.trans (HG6.out.trans HG7.out))).st4 (Nat.le_refl _) _ _ _ _)⟩

set_option maxHeartbeats 8000000 in
theorem prim_ite (N d : Nat) (s : ByteArray) (st : St) (w : World) (hv : ∀ n, st.now ≠ .var n) (hz : st.now ≠ .zero) (ho : st.now ≠ .one) (r : Option (St → Tr × St)) (hr : Rz 31 d r) (hm : st.may .lp = false) (hi : st.may .ite = true) (h : PS w N d s st) :
    Calls Try.prog 89 #[.pointer (some ⟨N, 0, none⟩)] w (Gives N d s w (Ex.ite r st.at_ st.goes)) := by
  have hlt := h.lt
  have HP0 := Bx.mk ((h.alloc (Obj.cells #[.int .i64 0, .int .i64 0, .int .i64 0, .slice none 0 0] 36)).alloc (Obj.cells #[.string st.now.str, .int .i64 (st.at_ : Int)] 60))
  have HR0 := Bx.mk ((Blk.new w 36 #[.int .i64 0, .int .i64 0, .int .i64 0, .slice none 0 0]).alloc (Obj.cells #[.string st.now.str, .int .i64 (st.at_ : Int)] 60))
  have HG0 := Bx.mk (((Gb.refl N w).alloc (Obj.cells #[.int .i64 0, .int .i64 0, .int .i64 0, .slice none 0 0] 36)).alloc (Obj.cells #[.string st.now.str, .int .i64 (st.at_ : Int)] 60))
  have ht0 := Blk.new (w.alloc (Obj.cells #[.int .i64 0, .int .i64 0, .int .i64 0, .slice none 0 0] 36)) 60 #[.string st.now.str, .int .i64 (st.at_ : Int)]
  rw [alloc_size] at ht0
  have HT0 := Bx.mk ht0
  obtain ⟨c0, c1, c2, c3, c4, c5, f1, f2, f3, f4, f5⟩ := pb_cells h.blk
  have hV := variable_any st.now.str
  rw [Tok.bl_str] at hV
  clear c0 c3 c4 c5 f1 f2 f3 f4 f5 h ht0

  rw [Lx.vr_not _ hv] at hV
  have HV := Bx.mk hV
  have k0 := tok_isnt st.now .zero [48] e48 hz
  have k1 := tok_isnt st.now .one [49] e49 ho
  obtain ⟨k00, k01⟩ := k0
  obtain ⟨k10, k11⟩ := k1
  have hM := may_st N d .lp ({ data := #[40] }) s _ _ HP0.out e40 (by decide) (by decide)
  rw [hm, if_neg (by simp)] at hM
  have HM := Bx.mk hM
  have hM2 := fun u (hu : PS u N d s st) => may_st N d .ite ({ data := #[105, 116, 101] }) s st u hu eite (by decide) (by decide)
  rw [hi, if_pos rfl] at hM2
  have HM2 := Bx.mk hM2
  have hW := fun u (hu : PS u N d s st.goes) => pite_any N d s st.goes u st.at_ r hr hu
  have HW := Bx.mk hW
  clear hV hM hW hr hM2
  generalize Ex.ite r st.at_ st.goes = Y at HW ⊢
  go_enter Try.func89, Try.ntmps89
  go_wp2_with fail
  refine (HV.out _).mono ?_
  rintro e w1 ⟨rfl, rfl⟩
  go_wp2_with fail
  refine HM.out.mono ?_
  rintro e w2 ⟨rfl, hP4, hG4⟩
  have hR4 := hG4.blk HR0.out (by omega)
  have hz4 := hG4.size
  rw [alloc_size, alloc_size] at hz4
  have hM4 := HM2.out _ hP4
  have HG4 := Bx.mk hG4
  have hT4 := hG4.blk HT0.out (by omega)
  clear hP4 hG4
  go_wp2_with fail
  refine hM4.mono ?_
  clear hM4
  rintro e w3 ⟨rfl, hP5, hG5⟩
  have hz5 := hG5.size
  have hR5 := (hG5.blk hR4 (by omega))
  have hT5 := (hG5.blk hT4 (by omega))
  obtain ⟨t0, t1⟩ := tok_cells hT5
  have hW5 := HW.out _ hP5
  have HG5 := Bx.mk hG5
  have HR5 := Bx.mk hR5
  clear hR4 hT4 hP5 hG5 hR5 hT5
  go_wp2_with fail
  refine hW5.mono ?_
  clear hW5
  rintro e w4 ⟨sy, rfl, hS6, hP6, hG6⟩
  obtain ⟨py, cy, rfl⟩ := hS6.is
  have hR6 := hG6.blk HR5.out (by omega)
  have hS7 := hS6.mono (B' := Ge (w.heap.size + 1)) fun g hg => by unfold Ge at hg ⊢; omega
  obtain ⟨r0, r1, r2, r3, g0, g1, g2, g3⟩ := cells4 hR6
  have HP6 := Bx.mk hP6
  have HG6 := Bx.mk hG6
  have HR6 := Bx.mk hR6
  have HS7 := Bx.mk hS7
  clear hP6 hG6 hR6 hS6 hS7
  unfold Ev
  go_wp2_with fail
  clear r0 r1 r2 r3 g0 g1 g2 g3
  have hE := (Blk.own4 HR6.out (.int .i64 Y.1.k) (.int .i64 Y.1.a) (.int .i64 Y.1.v) (.slice py Y.1.kids.len cy))
  obtain ⟨r0, r1, r2, r3, _, _, _, _⟩ := cells4 hE
  refine bodyPost_ret (v := Ev Y.1 (.slice py Y.1.kids.len cy)) (by simp [results, Try.results89, go_sem, r0, r1, r2, r3]; rfl) rfl ?_
  exact ⟨.slice py Y.1.kids.len cy, rfl, (HS7.out.st4 (R := w.heap.size) (fun h => by unfold Ge at h; omega) _ _ _ _).mono (fun g hg => by unfold Ge at hg ⊢; omega), (HP6.out.st4 (R := w.heap.size) (by omega) _ _ _ _), ((HG0.out.trans (HG4.out.trans (HG5.out.trans HG6.out))).st4 (Nat.le_refl _) _ _ _ _)⟩

set_option maxHeartbeats 8000000 in
theorem prim_no (N d : Nat) (s : ByteArray) (st : St) (w : World) (hv : ∀ n, st.now ≠ .var n) (hz : st.now ≠ .zero) (ho : st.now ≠ .one) (hm : st.may .lp = false) (hi : st.may .ite = false) (h : PS w N d s st) :
    Calls Try.prog 89 #[.pointer (some ⟨N, 0, none⟩)] w (Gives N d s w (Tr.zero, st.bad 230)) := by
  have hlt := h.lt
  have HP0 := Bx.mk ((h.alloc (Obj.cells #[.int .i64 0, .int .i64 0, .int .i64 0, .slice none 0 0] 36)).alloc (Obj.cells #[.string st.now.str, .int .i64 (st.at_ : Int)] 60))
  have HR0 := Bx.mk ((Blk.new w 36 #[.int .i64 0, .int .i64 0, .int .i64 0, .slice none 0 0]).alloc (Obj.cells #[.string st.now.str, .int .i64 (st.at_ : Int)] 60))
  have HG0 := Bx.mk (((Gb.refl N w).alloc (Obj.cells #[.int .i64 0, .int .i64 0, .int .i64 0, .slice none 0 0] 36)).alloc (Obj.cells #[.string st.now.str, .int .i64 (st.at_ : Int)] 60))
  have ht0 := Blk.new (w.alloc (Obj.cells #[.int .i64 0, .int .i64 0, .int .i64 0, .slice none 0 0] 36)) 60 #[.string st.now.str, .int .i64 (st.at_ : Int)]
  rw [alloc_size] at ht0
  have HT0 := Bx.mk ht0
  obtain ⟨c0, c1, c2, c3, c4, c5, f1, f2, f3, f4, f5⟩ := pb_cells h.blk
  have hV := variable_any st.now.str
  rw [Tok.bl_str] at hV
  clear c0 c3 c4 c5 f1 f2 f3 f4 f5 h ht0

  rw [Lx.vr_not _ hv] at hV
  have HV := Bx.mk hV
  have k0 := tok_isnt st.now .zero [48] e48 hz
  have k1 := tok_isnt st.now .one [49] e49 ho
  obtain ⟨k00, k01⟩ := k0
  obtain ⟨k10, k11⟩ := k1
  have hM := may_st N d .lp ({ data := #[40] }) s _ _ HP0.out e40 (by decide) (by decide)
  rw [hm, if_neg (by simp)] at hM
  have HM := Bx.mk hM
  have hM2 := fun u (hu : PS u N d s st) => may_st N d .ite ({ data := #[105, 116, 101] }) s st u hu eite (by decide) (by decide)
  rw [hi, if_neg (by simp)] at hM2
  have HM2 := Bx.mk hM2
  clear hV hM hM2
  go_enter Try.func89, Try.ntmps89
  go_wp2_with fail
  refine (HV.out _).mono ?_
  rintro e w1 ⟨rfl, rfl⟩
  go_wp2_with fail
  refine HM.out.mono ?_
  rintro e w2 ⟨rfl, hP4, hG4⟩
  have hR4 := hG4.blk HR0.out (by omega)
  have hz4 := hG4.size
  rw [alloc_size, alloc_size] at hz4
  have hM4 := HM2.out _ hP4
  have HG4 := Bx.mk hG4
  clear hP4 hG4
  go_wp2_with fail
  refine hM4.mono ?_
  clear hM4
  rintro e w3 ⟨rfl, hP5, hG5⟩
  have hz5 := hG5.size
  have hR5 := (hG5.blk hR4 (by omega))
  have hW5 := bad_st N d 230 s st _ hP5
  have HG5 := Bx.mk hG5
  have HR5 := Bx.mk hR5
  clear hR4 hP5 hG5 hR5
  go_wp2_with fail
  refine hW5.mono ?_
  clear hW5
  rintro e w4 ⟨rfl, hP6, hG6⟩
  have hR6 := hG6.blk HR5.out (by omega)
  obtain ⟨r0, r1, r2, r3, g0, g1, g2, g3⟩ := cells4 hR6
  have HP6 := Bx.mk hP6
  have HG6 := Bx.mk hG6
  have HR6 := Bx.mk hR6
  clear hP6 hG6 hR6
  go_wp2_with fail
  clear r0 r1 r2 r3 g0 g1 g2 g3
  have hE := (Blk.own4 HR6.out (.int .i64 0) (.int .i64 0) (.int .i64 0) (.slice none 0 0))
  obtain ⟨r0, r1, r2, r3, _, _, _, _⟩ := cells4 hE
  refine bodyPost_ret (v := Ev Tr.zero (.slice none 0 0)) (by simp [results, Try.results89, go_sem, r0, r1, r2, r3]; rfl) rfl ?_
  exact ⟨.slice none 0 0, rfl, SlF.nil _ _, (HP6.out.st4 (R := w.heap.size) (by omega) _ _ _ _), ((HG0.out.trans (HG4.out.trans (HG5.out.trans HG6.out))).st4 (Nat.le_refl _) _ _ _ _)⟩

theorem prim_any (N d : Nat) (s : ByteArray) (st : St) (w : World) (r : Option (St → Tr × St)) (hr : Rz 31 d r) (h : PS w N d s st) :
    Calls Try.prog 89 #[.pointer (some ⟨N, 0, none⟩)] w (Gives N d s w (Ex.prim r st)) := by
  by_cases hv : ∃ n, st.now = .var n
  · obtain ⟨n, hn⟩ := hv
    rw [show Ex.prim r st = (⟨1, st.at_, n.val, .nil⟩, st.goes) from by unfold Ex.prim; rw [hn]]
    exact prim_var N d s st w n hn h
  by_cases hz : st.now = .zero
  · rw [show Ex.prim r st = (⟨2, st.at_, 0, .nil⟩, st.goes) from by unfold Ex.prim; rw [hz]]
    exact prim_zero N d s st w hz h
  by_cases ho : st.now = .one
  · rw [show Ex.prim r st = (⟨2, st.at_, 1, .nil⟩, st.goes) from by unfold Ex.prim; rw [ho]]
    exact prim_one N d s st w ho h
  have hv' : ∀ n, st.now ≠ .var n := fun n e => hv ⟨n, e⟩
  have hE : Ex.prim r st = if st.may .lp then ((Ex.within r st.goes).1, (Ex.within r st.goes).2.must .rp) else if st.may .ite then Ex.ite r st.at_ st.goes else (Tr.zero, st.bad 230) := by
    unfold Ex.prim
    split
    · rename_i n e; exact absurd e (hv' n)
    · rename_i e; exact absurd e hz
    · rename_i e; exact absurd e ho
    · rfl
  rw [hE]
  cases hm : st.may .lp with
  | true => rw [if_pos rfl]; exact prim_lp N d s st w hv' hz ho r hr hm h
  | false =>
    rw [if_neg (by simp)]
    cases hi : st.may .ite with
    | true => rw [if_pos rfl]; exact prim_ite N d s st w hv' hz ho r hr hm hi h
    | false => rw [if_neg (by simp)]; exact prim_no N d s st w hv' hz ho hm hi h

end Go.Proofs.Ytfgokhafiffbaaa

/-
  Formulas: un.
-/
namespace Go.Proofs.Ytfgokhafiffbaaa
set_option linter.unusedVariables false
open Go.RowKit

set_option maxHeartbeats 8000000 in
theorem pun_err (N d : Nat) (s : ByteArray) (st : St) (w : World) (he : ¬ st.e = 0) (h : PS w N d s st) :
    Calls Try.prog 87 #[.pointer (some ⟨N, 0, none⟩)] w (Gives N d s w (Tr.zero, st)) := by
  have hlt := h.lt
  have HP0 := Bx.mk (h.alloc (Obj.cells #[.int .i64 0, .int .i64 0, .int .i64 0, .slice none 0 0] 36))
  have HR0 := Bx.mk (Blk.new w 36 #[.int .i64 0, .int .i64 0, .int .i64 0, .slice none 0 0])
  have HG0 := Bx.mk ((Gb.refl N w).alloc (Obj.cells #[.int .i64 0, .int .i64 0, .int .i64 0, .slice none 0 0] 36))
  obtain ⟨c0, c1, c2, c3, c4, c5, f1, f2, f3, f4, f5⟩ := pb_cells h.blk
  clear c0 c1 c3 c5 f1 f2 f3 f4 f5 h
  have q : ¬ (st.e : Int) = 0 := by omega
  clear he
  go_enter Try.func87, Try.ntmps87
  go_wp2_with fail

  obtain ⟨r0, r1, r2, r3, _, _, _, _⟩ := cells4 HR0.out
  refine bodyPost_ret (v := Ev Tr.zero (.slice none 0 0)) (by simp [results, Try.results87, go_sem, r0, r1, r2, r3]; rfl) rfl ?_
  exact ⟨.slice none 0 0, rfl, SlF.nil _ _, HP0.out, HG0.out⟩

set_option maxHeartbeats 8000000 in
theorem pun_not (N d : Nat) (s : ByteArray) (st : St) (w : World) (he : st.e = 0) (m0 : st.may .not = true) (r : Option (St → Tr × St)) (hr : Rz 87 d r) (h : PS w N d s st) :
    Calls Try.prog 87 #[.pointer (some ⟨N, 0, none⟩)] w (Gives N d s w (Ex.one 3 st.at_ 0 (Ex.within r st.goes).1, (Ex.within r st.goes).2)) := by
  have hlt := h.lt
  have HP0 := Bx.mk (h.alloc (Obj.cells #[.int .i64 0, .int .i64 0, .int .i64 0, .slice none 0 0] 36))
  have HR0 := Bx.mk (Blk.new w 36 #[.int .i64 0, .int .i64 0, .int .i64 0, .slice none 0 0])
  have HG0 := Bx.mk ((Gb.refl N w).alloc (Obj.cells #[.int .i64 0, .int .i64 0, .int .i64 0, .slice none 0 0] 36))
  obtain ⟨c0, c1, c2, c3, c4, c5, f1, f2, f3, f4, f5⟩ := pb_cells h.blk
  clear c0 c1 c3 c5 f1 f2 f3 f4 f5 h
  have q : (st.e : Int) = 0 := by omega
  have hM0 := fun u (hu : PS u N d s st) => may_st N d .not ({ data := #[33] }) s st u hu enot (by decide) (by decide)
  rw [m0, if_pos rfl] at hM0
  have HM0 := Bx.mk hM0
  clear hM0
  have hW := fun u (hu : PS u N d s st.goes) => within_any N d s st.goes u 87 r (fun _ _ => rfl) hr hu
  have HW := Bx.mk hW
  clear he hW hr m0
  generalize Ex.within r st.goes = Y at HW ⊢
  go_enter Try.func87, Try.ntmps87
  go_wp2_with fail
  refine (HM0.out _ HP0.out).mono ?_
  rintro e wm0 ⟨rfl, hP0, hG0⟩
  have HP1 := Bx.mk hP0
  have HG1 := Bx.mk (HG0.out.trans hG0)
  have HR1 := Bx.mk (hG0.blk HR0.out (by omega))
  have hz0 := hG0.size
  rw [alloc_size] at hz0
  clear hP0 hG0
  go_wp2_with fail
  refine (HW.out _ HP1.out).mono ?_
  rintro e w3 ⟨sy, rfl, hS5, hP5, hG5⟩
  obtain ⟨py, cy, rfl⟩ := hS5.is
  have hz5 := hG5.size
  have hR5 := (hG5.blk HR1.out (by omega)).alloc (Obj.cells #[.int .i64 Y.1.k, .int .i64 Y.1.a, .int .i64 Y.1.v, .slice py Y.1.kids.len cy] 36)
  have hP6 := hP5.alloc (Obj.cells #[.int .i64 Y.1.k, .int .i64 Y.1.a, .int .i64 Y.1.v, .slice py Y.1.kids.len cy] 36)
  have hG6 := (HG1.out.trans hG5).alloc (Obj.cells #[.int .i64 Y.1.k, .int .i64 Y.1.a, .int .i64 Y.1.v, .slice py Y.1.kids.len cy] 36)
  have hS6 := SlF.single 36 (hS5.mono (B' := Ge (w.heap.size + 1)) fun g hg => by unfold Ge at hg ⊢; omega) (by unfold Ge; omega)
  obtain ⟨r0, r1, r2, r3, g0, g1, g2, g3⟩ := cells4 hR5
  have HP6 := Bx.mk hP6
  have HG6 := Bx.mk hG6
  have HR6 := Bx.mk hR5
  have HS6 := Bx.mk hS6
  clear hP5 hG5 hR5 hS5 hP6 hG6 hS6
  unfold Ev
  go_wp2_with fail
  clear r0 r1 r2 r3 g0 g1 g2 g3
  have hE := (Blk.own4 HR6.out (.int .i64 3) (.int .i64 (st.at_ : Int)) (.int .i64 0) (.slice (some ⟨w3.heap.size, 0, none⟩) 1 1))
  obtain ⟨r0, r1, r2, r3, _, _, _, _⟩ := cells4 hE
  refine bodyPost_ret (v := Ev (Ex.one 3 st.at_ 0 Y.1) (.slice (some ⟨w3.heap.size, 0, none⟩) 1 1)) (by simp [results, Try.results87, go_sem, r0, r1, r2, r3]; rfl) rfl ?_
  exact ⟨.slice (some ⟨w3.heap.size, 0, none⟩) 1 1, rfl, (HS6.out.st4 (R := w.heap.size) (fun h => by unfold Ge at h; omega) _ _ _ _).mono (fun g hg => by unfold Ge at hg ⊢; omega), (HP6.out.st4 (R := w.heap.size) (by omega) _ _ _ _), (HG6.out.st4 (Nat.le_refl _) _ _ _ _)⟩

set_option maxHeartbeats 8000000 in
theorem pun_all (N d : Nat) (s : ByteArray) (st : St) (w : World) (he : st.e = 0) (m0 : st.may .not = false) (m1 : st.may .all = true) (r : Option (St → Tr × St)) (hr : Rz 87 d r) (h : PS w N d s st) :
    Calls Try.prog 87 #[.pointer (some ⟨N, 0, none⟩)] w (Gives N d s w (Ex.bound r 10 st.at_ st.goes)) := by
  have hlt := h.lt
  have HP0 := Bx.mk (h.alloc (Obj.cells #[.int .i64 0, .int .i64 0, .int .i64 0, .slice none 0 0] 36))
  have HR0 := Bx.mk (Blk.new w 36 #[.int .i64 0, .int .i64 0, .int .i64 0, .slice none 0 0])
  have HG0 := Bx.mk ((Gb.refl N w).alloc (Obj.cells #[.int .i64 0, .int .i64 0, .int .i64 0, .slice none 0 0] 36))
  obtain ⟨c0, c1, c2, c3, c4, c5, f1, f2, f3, f4, f5⟩ := pb_cells h.blk
  clear c0 c1 c3 c5 f1 f2 f3 f4 f5 h
  have q : (st.e : Int) = 0 := by omega
  have hM0 := fun u (hu : PS u N d s st) => may_st N d .not ({ data := #[33] }) s st u hu enot (by decide) (by decide)
  rw [m0, if_neg (by simp)] at hM0
  have HM0 := Bx.mk hM0
  clear hM0
  have hM1 := fun u (hu : PS u N d s st) => may_st N d .all ({ data := #[97, 108, 108] }) s st u hu eall (by decide) (by decide)
  rw [m1, if_pos rfl] at hM1
  have HM1 := Bx.mk hM1
  clear hM1
  have hW := fun u (hu : PS u N d s st.goes) => bound_any N d s st.goes u 10 st.at_ r hr hu
  have HW := Bx.mk hW
  clear he hW hr m0 m1
  generalize Ex.bound r 10 st.at_ st.goes = Y at HW ⊢
  go_enter Try.func87, Try.ntmps87
  go_wp2_with fail
  refine (HM0.out _ HP0.out).mono ?_
  rintro e wm0 ⟨rfl, hP0, hG0⟩
  have HP1 := Bx.mk hP0
  have HG1 := Bx.mk (HG0.out.trans hG0)
  have HR1 := Bx.mk (hG0.blk HR0.out (by omega))
  have hz0 := hG0.size
  rw [alloc_size] at hz0
  clear hP0 hG0
  go_wp2_with fail
  refine (HM1.out _ HP1.out).mono ?_
  rintro e wm1 ⟨rfl, hP1, hG1⟩
  have HP2 := Bx.mk hP1
  have HG2 := Bx.mk (HG1.out.trans hG1)
  have HR2 := Bx.mk (hG1.blk HR1.out (by omega))
  have hz1 := hG1.size
  skip
  clear hP1 hG1
  go_wp2_with fail
  refine (HW.out _ HP2.out).mono ?_
  rintro e w3 ⟨sy, rfl, hS5, hP5, hG5⟩
  obtain ⟨py, cy, rfl⟩ := hS5.is
  have hR5 := (hG5.blk HR2.out (by omega))
  have hG6 := (HG2.out.trans hG5)
  have hS6 := (hS5.mono (B' := Ge (w.heap.size + 1)) fun g hg => by unfold Ge at hg ⊢; omega)
  obtain ⟨r0, r1, r2, r3, g0, g1, g2, g3⟩ := cells4 hR5
  have HP6 := Bx.mk hP5
  have HG6 := Bx.mk hG6
  have HR6 := Bx.mk hR5
  have HS6 := Bx.mk hS6
  clear hP5 hG5 hR5 hS5 hG6 hS6
  unfold Ev
  go_wp2_with fail
  clear r0 r1 r2 r3 g0 g1 g2 g3
  have hE := (Blk.own4 HR6.out (.int .i64 Y.1.k) (.int .i64 Y.1.a) (.int .i64 Y.1.v) (.slice py Y.1.kids.len cy))
  obtain ⟨r0, r1, r2, r3, _, _, _, _⟩ := cells4 hE
  refine bodyPost_ret (v := Ev Y.1 (.slice py Y.1.kids.len cy)) (by simp [results, Try.results87, go_sem, r0, r1, r2, r3]; rfl) rfl ?_
  exact ⟨.slice py Y.1.kids.len cy, rfl, (HS6.out.st4 (R := w.heap.size) (fun h => by unfold Ge at h; omega) _ _ _ _).mono (fun g hg => by unfold Ge at hg ⊢; omega), (HP6.out.st4 (R := w.heap.size) (by omega) _ _ _ _), (HG6.out.st4 (Nat.le_refl _) _ _ _ _)⟩

set_option maxHeartbeats 8000000 in
theorem pun_any (N d : Nat) (s : ByteArray) (st : St) (w : World) (he : st.e = 0) (m0 : st.may .not = false) (m1 : st.may .all = false) (m2 : st.may .any = true) (r : Option (St → Tr × St)) (hr : Rz 87 d r) (h : PS w N d s st) :
    Calls Try.prog 87 #[.pointer (some ⟨N, 0, none⟩)] w (Gives N d s w (Ex.bound r 11 st.at_ st.goes)) := by
  have hlt := h.lt
  have HP0 := Bx.mk (h.alloc (Obj.cells #[.int .i64 0, .int .i64 0, .int .i64 0, .slice none 0 0] 36))
  have HR0 := Bx.mk (Blk.new w 36 #[.int .i64 0, .int .i64 0, .int .i64 0, .slice none 0 0])
  have HG0 := Bx.mk ((Gb.refl N w).alloc (Obj.cells #[.int .i64 0, .int .i64 0, .int .i64 0, .slice none 0 0] 36))
  obtain ⟨c0, c1, c2, c3, c4, c5, f1, f2, f3, f4, f5⟩ := pb_cells h.blk
  clear c0 c1 c3 c5 f1 f2 f3 f4 f5 h
  have q : (st.e : Int) = 0 := by omega
  have hM0 := fun u (hu : PS u N d s st) => may_st N d .not ({ data := #[33] }) s st u hu enot (by decide) (by decide)
  rw [m0, if_neg (by simp)] at hM0
  have HM0 := Bx.mk hM0
  clear hM0
  have hM1 := fun u (hu : PS u N d s st) => may_st N d .all ({ data := #[97, 108, 108] }) s st u hu eall (by decide) (by decide)
  rw [m1, if_neg (by simp)] at hM1
  have HM1 := Bx.mk hM1
  clear hM1
  have hM2 := fun u (hu : PS u N d s st) => may_st N d .any ({ data := #[97, 110, 121] }) s st u hu eany (by decide) (by decide)
  rw [m2, if_pos rfl] at hM2
  have HM2 := Bx.mk hM2
  clear hM2
  have hW := fun u (hu : PS u N d s st.goes) => bound_any N d s st.goes u 11 st.at_ r hr hu
  have HW := Bx.mk hW
  clear he hW hr m0 m1 m2
  generalize Ex.bound r 11 st.at_ st.goes = Y at HW ⊢
  go_enter Try.func87, Try.ntmps87
  go_wp2_with fail
  refine (HM0.out _ HP0.out).mono ?_
  rintro e wm0 ⟨rfl, hP0, hG0⟩
  have HP1 := Bx.mk hP0
  have HG1 := Bx.mk (HG0.out.trans hG0)
  have HR1 := Bx.mk (hG0.blk HR0.out (by omega))
  have hz0 := hG0.size
  rw [alloc_size] at hz0
  clear hP0 hG0
  go_wp2_with fail
  refine (HM1.out _ HP1.out).mono ?_
  rintro e wm1 ⟨rfl, hP1, hG1⟩
  have HP2 := Bx.mk hP1
  have HG2 := Bx.mk (HG1.out.trans hG1)
  have HR2 := Bx.mk (hG1.blk HR1.out (by omega))
  have hz1 := hG1.size
  skip
  clear hP1 hG1
  go_wp2_with fail
  refine (HM2.out _ HP2.out).mono ?_
  rintro e wm2 ⟨rfl, hP2, hG2⟩
  have HP3 := Bx.mk hP2
  have HG3 := Bx.mk (HG2.out.trans hG2)
  have HR3 := Bx.mk (hG2.blk HR2.out (by omega))
  have hz2 := hG2.size
  skip
  clear hP2 hG2
  go_wp2_with fail
  refine (HW.out _ HP3.out).mono ?_
  rintro e w3 ⟨sy, rfl, hS5, hP5, hG5⟩
  obtain ⟨py, cy, rfl⟩ := hS5.is
  have hR5 := (hG5.blk HR3.out (by omega))
  have hG6 := (HG3.out.trans hG5)
  have hS6 := (hS5.mono (B' := Ge (w.heap.size + 1)) fun g hg => by unfold Ge at hg ⊢; omega)
  obtain ⟨r0, r1, r2, r3, g0, g1, g2, g3⟩ := cells4 hR5
  have HP6 := Bx.mk hP5
  have HG6 := Bx.mk hG6
  have HR6 := Bx.mk hR5
  have HS6 := Bx.mk hS6
  clear hP5 hG5 hR5 hS5 hG6 hS6
  unfold Ev
  go_wp2_with fail
  clear r0 r1 r2 r3 g0 g1 g2 g3
  have hE := (Blk.own4 HR6.out (.int .i64 Y.1.k) (.int .i64 Y.1.a) (.int .i64 Y.1.v) (.slice py Y.1.kids.len cy))
  obtain ⟨r0, r1, r2, r3, _, _, _, _⟩ := cells4 hE
  refine bodyPost_ret (v := Ev Y.1 (.slice py Y.1.kids.len cy)) (by simp [results, Try.results87, go_sem, r0, r1, r2, r3]; rfl) rfl ?_
  exact ⟨.slice py Y.1.kids.len cy, rfl, (HS6.out.st4 (R := w.heap.size) (fun h => by unfold Ge at h; omega) _ _ _ _).mono (fun g hg => by unfold Ge at hg ⊢; omega), (HP6.out.st4 (R := w.heap.size) (by omega) _ _ _ _), (HG6.out.st4 (Nat.le_refl _) _ _ _ _)⟩

set_option maxHeartbeats 8000000 in
theorem pun_prim (N d : Nat) (s : ByteArray) (st : St) (w : World) (he : st.e = 0) (m0 : st.may .not = false) (m1 : st.may .all = false) (m2 : st.may .any = false) (r : Option (St → Tr × St)) (hr : Rz 31 d r) (h : PS w N d s st) :
    Calls Try.prog 87 #[.pointer (some ⟨N, 0, none⟩)] w (Gives N d s w (Ex.prim r st)) := by
  have hlt := h.lt
  have HP0 := Bx.mk (h.alloc (Obj.cells #[.int .i64 0, .int .i64 0, .int .i64 0, .slice none 0 0] 36))
  have HR0 := Bx.mk (Blk.new w 36 #[.int .i64 0, .int .i64 0, .int .i64 0, .slice none 0 0])
  have HG0 := Bx.mk ((Gb.refl N w).alloc (Obj.cells #[.int .i64 0, .int .i64 0, .int .i64 0, .slice none 0 0] 36))
  obtain ⟨c0, c1, c2, c3, c4, c5, f1, f2, f3, f4, f5⟩ := pb_cells h.blk
  clear c0 c1 c3 c5 f1 f2 f3 f4 f5 h
  have q : (st.e : Int) = 0 := by omega
  have hM0 := fun u (hu : PS u N d s st) => may_st N d .not ({ data := #[33] }) s st u hu enot (by decide) (by decide)
  rw [m0, if_neg (by simp)] at hM0
  have HM0 := Bx.mk hM0
  clear hM0
  have hM1 := fun u (hu : PS u N d s st) => may_st N d .all ({ data := #[97, 108, 108] }) s st u hu eall (by decide) (by decide)
  rw [m1, if_neg (by simp)] at hM1
  have HM1 := Bx.mk hM1
  clear hM1
  have hM2 := fun u (hu : PS u N d s st) => may_st N d .any ({ data := #[97, 110, 121] }) s st u hu eany (by decide) (by decide)
  rw [m2, if_neg (by simp)] at hM2
  have HM2 := Bx.mk hM2
  clear hM2
  have hW := fun u (hu : PS u N d s st) => prim_any N d s st u r hr hu
  have HW := Bx.mk hW
  clear he hW hr m0 m1 m2
  generalize Ex.prim r st = Y at HW ⊢
  go_enter Try.func87, Try.ntmps87
  go_wp2_with fail
  refine (HM0.out _ HP0.out).mono ?_
  rintro e wm0 ⟨rfl, hP0, hG0⟩
  have HP1 := Bx.mk hP0
  have HG1 := Bx.mk (HG0.out.trans hG0)
  have HR1 := Bx.mk (hG0.blk HR0.out (by omega))
  have hz0 := hG0.size
  rw [alloc_size] at hz0
  clear hP0 hG0
  go_wp2_with fail
  refine (HM1.out _ HP1.out).mono ?_
  rintro e wm1 ⟨rfl, hP1, hG1⟩
  have HP2 := Bx.mk hP1
  have HG2 := Bx.mk (HG1.out.trans hG1)
  have HR2 := Bx.mk (hG1.blk HR1.out (by omega))
  have hz1 := hG1.size
  skip
  clear hP1 hG1
  go_wp2_with fail
  refine (HM2.out _ HP2.out).mono ?_
  rintro e wm2 ⟨rfl, hP2, hG2⟩
  have HP3 := Bx.mk hP2
  have HG3 := Bx.mk (HG2.out.trans hG2)
  have HR3 := Bx.mk (hG2.blk HR2.out (by omega))
  have hz2 := hG2.size
  skip
  clear hP2 hG2
  go_wp2_with fail
  refine (HW.out _ HP3.out).mono ?_
  rintro e w3 ⟨sy, rfl, hS5, hP5, hG5⟩
  obtain ⟨py, cy, rfl⟩ := hS5.is
  have hR5 := (hG5.blk HR3.out (by omega))
  have hG6 := (HG3.out.trans hG5)
  have hS6 := (hS5.mono (B' := Ge (w.heap.size + 1)) fun g hg => by unfold Ge at hg ⊢; omega)
  obtain ⟨r0, r1, r2, r3, g0, g1, g2, g3⟩ := cells4 hR5
  have HP6 := Bx.mk hP5
  have HG6 := Bx.mk hG6
  have HR6 := Bx.mk hR5
  have HS6 := Bx.mk hS6
  clear hP5 hG5 hR5 hS5 hG6 hS6
  unfold Ev
  go_wp2_with fail
  clear r0 r1 r2 r3 g0 g1 g2 g3
  have hE := (Blk.own4 HR6.out (.int .i64 Y.1.k) (.int .i64 Y.1.a) (.int .i64 Y.1.v) (.slice py Y.1.kids.len cy))
  obtain ⟨r0, r1, r2, r3, _, _, _, _⟩ := cells4 hE
  refine bodyPost_ret (v := Ev Y.1 (.slice py Y.1.kids.len cy)) (by simp [results, Try.results87, go_sem, r0, r1, r2, r3]; rfl) rfl ?_
  exact ⟨.slice py Y.1.kids.len cy, rfl, (HS6.out.st4 (R := w.heap.size) (fun h => by unfold Ge at h; omega) _ _ _ _).mono (fun g hg => by unfold Ge at hg ⊢; omega), (HP6.out.st4 (R := w.heap.size) (by omega) _ _ _ _), (HG6.out.st4 (Nat.le_refl _) _ _ _ _)⟩

theorem un_any (d : Nat) (ru rf : Option (St → Tr × St)) (hu : Rz 87 d ru) (hf : Rz 31 d rf) : Pz 87 d (Ex.un ru rf) := by
  intro N s st w h
  unfold Ex.un
  by_cases he : st.e = 0
  · rw [if_neg (by rw [he]; simp)]
    cases m0 : st.may .not with
    | true => rw [if_pos rfl]; exact pun_not N d s st w he m0 ru hu h
    | false =>
      rw [if_neg (by simp)]
      cases m1 : st.may .all with
      | true => rw [if_pos rfl]; exact pun_all N d s st w he m0 m1 ru hu h
      | false =>
        rw [if_neg (by simp)]
        cases m2 : st.may .any with
        | true => rw [if_pos rfl]; exact pun_any N d s st w he m0 m1 m2 ru hu h
        | false => rw [if_neg (by simp)]; exact pun_prim N d s st w he m0 m1 m2 rf hf h
  · rw [if_pos he]; exact pun_err N d s st w he h
end Go.Proofs.Ytfgokhafiffbaaa
