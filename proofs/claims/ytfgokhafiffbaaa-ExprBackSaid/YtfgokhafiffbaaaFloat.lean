/-
  A region whose order is open, in whose head loads and calls yield known values and new blocks are made in any order; behind it a tail in one order.
-/
import Derived.Test.YtfgokhafiffbaaaKit
import Derived.StillTail
import Derived.KernelRfl
import Derived.Tactics
namespace Go.Proofs.Ytfgokhafiffbaaa
set_option linter.unusedVariables false
open Go Go.RowKit
section
variable {P : Program} {ops : Array Oper} {Q : Exit → Act → World → Prop}

def dstOf (ops : Array Oper) (k : Nat) : Option Tmp := (ops[k]?).bind (·.dst)
/-- the frame, what is listed laid into it -/
def puts (ops : Array Oper) (listed : Array Bool) (ρ : Nat → Value) : Nat → Act → Act
  | 0, a => a
  | k + 1, a => if listed.getD k false then (puts ops listed ρ k a).put (dstOf ops k) (ρ k) else puts ops listed ρ k a

theorem puts_congr {listed listed' : Array Bool} {ρ ρ' : Nat → Value} : ∀ {k : Nat} {a : Act}, (∀ i, i < k → listed.getD i false = listed'.getD i false) → (∀ i, i < k → listed.getD i false = true → ρ i = ρ' i) → puts ops listed ρ k a = puts ops listed' ρ' k a
  | 0, _, _, _ => rfl
  | k + 1, a, h, h' => by
    have ih := puts_congr (k := k) (a := a) (fun i hi => h i (by omega)) (fun i hi => h' i (by omega))
    unfold puts
    rw [ih, ← h k (by omega)]
    by_cases e : listed.getD k false = true
    · simp only [e, if_true]; rw [h' k (by omega) e]
    · simp [e]

theorem puts_set {listed : Array Bool} {ρ : Nat → Value} {i : Nat} {u : Value} (hi : i < listed.size) (hl : listed.getD i false = false) :
    ∀ {k : Nat} {a : Act}, i < k → (∀ j, j < k → j ≠ i → ∀ t, dstOf ops j = some t → dstOf ops i ≠ some t) →
      puts ops (listed.setIfInBounds i true) (fun j => if j = i then u else ρ j) k a = (puts ops listed ρ k a).put (dstOf ops i) u
  | 0, _, h, _ => by omega
  | k + 1, a, h, hd => by
    by_cases e : i = k
    · subst e
      have h1 : (listed.setIfInBounds i true).getD i false = true := by simp [hi]
      have h2 : puts ops (listed.setIfInBounds i true) (fun j => if j = i then u else ρ j) i a = puts ops listed ρ i a :=
        puts_congr (fun j hj => getD_set_ne false (by omega)) (fun j hj _ => by simp [show j ≠ i from by omega])
      unfold puts
      rw [h1, h2, hl]
      simp
    · have ih := puts_set (ρ := ρ) (u := u) hi hl (k := k) (a := a) (by omega) (fun j hj => hd j (by omega))
      have h1 : (listed.setIfInBounds i true).getD k false = listed.getD k false := getD_set_ne false e
      unfold puts
      rw [h1, ih]
      by_cases e2 : listed.getD k false = true
      · simp only [e2, if_true, show ¬ k = i from fun h => e h.symm, if_false]
        exact Act.put_comm _ _ _ (fun d hdd hk => hd k (by omega) (fun h => e h.symm) d hk hdd)
      · simp only [e2]; rfl

theorem put_tmps (a : Act) (d : Option Tmp) (v : Value) (t : Tmp) : (a.put d v).tmps.getD t undef = if d = some t ∧ t < a.tmps.size then v else a.tmps.getD t undef := by
  cases d with
  | none => simp [Act.put]
  | some x =>
    by_cases e : x = t
    · subst e
      by_cases h : x < a.tmps.size
      · simp [Act.put, h]
      · simp [Act.put, h]
    · simp [Act.put, e]
theorem put_size (a : Act) (d : Option Tmp) (v : Value) : (a.put d v).tmps.size = a.tmps.size := by cases d <;> simp [Act.put]
theorem puts_size {listed : Array Bool} {ρ : Nat → Value} {a : Act} : ∀ {k : Nat}, (puts ops listed ρ k a).tmps.size = a.tmps.size
  | 0 => rfl
  | k + 1 => by unfold puts; split; rw [put_size, puts_size]; exact puts_size
theorem puts_other {listed : Array Bool} {ρ : Nat → Value} {a : Act} {t : Tmp} : ∀ {k : Nat}, (∀ j, j < k → dstOf ops j ≠ some t) → (puts ops listed ρ k a).tmps.getD t undef = a.tmps.getD t undef
  | 0, _ => rfl
  | k + 1, h => by
    unfold puts
    split
    · rw [put_tmps, if_neg (fun h' => h k (by omega) h'.1)]; exact puts_other (fun j hj => h j (by omega))
    · exact puts_other (fun j hj => h j (by omega))
theorem puts_at {listed : Array Bool} {ρ : Nat → Value} {a : Act} {t : Tmp} {i : Nat} (hl : listed.getD i false = true) (hd : dstOf ops i = some t) (ht : t < a.tmps.size) :
    ∀ {k : Nat}, i < k → (∀ j, j < k → j ≠ i → dstOf ops j ≠ some t) → (puts ops listed ρ k a).tmps.getD t undef = ρ i
  | 0, h, _ => by omega
  | k + 1, h, hn => by
    unfold puts
    by_cases e : i = k
    · subst e
      rw [if_pos hl, put_tmps, if_pos ⟨hd, by rw [puts_size]; exact ht⟩]
    · have ih := puts_at (ρ := ρ) (a := a) hl hd ht (k := k) (by omega) (fun j hj => hn j (by omega))
      split
      · rw [put_tmps, if_neg (fun h' => hn k (by omega) (fun h => e h.symm) h'.1)]; exact ih
      · exact ih

/-- how many of the first k are not listed -/
def unl (listed : Array Bool) : Nat → Nat
  | 0 => 0
  | k + 1 => unl listed k + if listed.getD k false then 0 else 1
theorem unl_congr {l l' : Array Bool} : ∀ {k : Nat}, (∀ i, i < k → l.getD i false = l'.getD i false) → unl l k = unl l' k
  | 0, _ => rfl
  | k + 1, h => by unfold unl; rw [unl_congr (fun i hi => h i (by omega)), h k (by omega)]
theorem unl_set {listed : Array Bool} {i : Nat} (hi : i < listed.size) (hl : listed.getD i false = false) : ∀ {k : Nat}, i < k → unl (listed.setIfInBounds i true) k + 1 = unl listed k
  | 0, h => by omega
  | k + 1, h => by
    unfold unl
    by_cases e : i = k
    · subst e
      rw [unl_congr (l' := listed) (fun j hj => getD_set_ne false (by omega)), hl]
      simp [hi]
    · have ih := unl_set hi hl (k := k) (by omega)
      rw [getD_set_ne false e]
      omega
theorem unl_zero {listed : Array Bool} : ∀ {k : Nat}, unl listed k = 0 → ∀ i, i < k → listed.getD i false = true
  | 0, _, i, hi => by omega
  | k + 1, h, i, hi => by
    unfold unl at h
    by_cases e : i = k
    · subst e
      cases e2 : listed.getD i false
      · rw [e2] at h; simp at h
      · rfl
    · exact unl_zero (k := k) (by omega) i (by omega)
theorem unl_none {listed : Array Bool} : ∀ {k : Nat}, (∀ i, i < k → listed.getD i false = false) → unl listed k = k
  | 0, _ => rfl
  | k + 1, h => by unfold unl; rw [unl_none (fun i hi => h i (by omega)), h k (by omega)]; simp

/-- what is asked of each operation of the head; gl: whose value is known to be true -/
def headOk (gl : List Nat) (n : Nat) : Nat → List Oper → Bool
  | _, [] => true
  | i, o :: r => (match o.guard with | none => true | some (j, b) => b && gl.contains j && o.after.any fun e => Region.binds .any e && e.on == j) &&
      (o.after.all fun e => !Region.binds .any e || decide (e.on < i)) && (match o.dst with | some t => decide (t < n) | none => true) && headOk gl n (i + 1) r
/-- no number twice -/
def onceB : List (Option Nat) → Bool
  | [] => true
  | none :: r => onceB r
  | some t :: r => (r.all fun u => u != some t) && onceB r
/-- what is asked of the region's text -/
def floatOk (ops : Array Oper) (gl : List Nat) (m n : Nat) : Bool :=
  decide (m < ops.size) && Region.sinkB .any ops m && Region.chainB .any ops m && headOk gl n 0 (ops.toList.take m) && onceB ((ops.toList.take m).map (·.dst)) && (gl.all fun j => decide (j < m) && (dstOf ops j).isSome) &&
  Region.seqB .any ops (ops.size - m) m (Array.replicate m true ++ Array.replicate (ops.size - m) false)
theorem headOk_spec {gl : List Nat} {n : Nat} : ∀ {l : List Oper} {k : Nat}, headOk gl n k l = true → ∀ j o, l[j]? = some o →
    (∀ g b, o.guard = some (g, b) → b = true ∧ g ∈ gl ∧ ∃ e ∈ o.after, Region.binds .any e = true ∧ e.on = g) ∧ (∀ e ∈ o.after, Region.binds .any e = true → e.on < k + j) ∧ (∀ t, o.dst = some t → t < n)
  | [], _, _, j, o, h => by simp at h
  | o' :: r, k, h, j, o, hj => by
    unfold headOk at h
    simp only [Bool.and_eq_true] at h
    obtain ⟨⟨⟨h1, h2⟩, h3⟩, h4⟩ := h
    cases j with
    | succ j =>
      have := headOk_spec h4 j o (by simpa using hj)
      rw [show k + 1 + j = k + (j + 1) by omega] at this
      exact this
    | zero =>
      simp at hj
      subst hj
      refine ⟨fun g b hg => ?_, fun e he hb => ?_, fun t ht => ?_⟩
      · rw [hg] at h1
        simp only [Bool.and_eq_true, List.contains_iff_mem] at h1
        obtain ⟨⟨a1, a2⟩, a3⟩ := h1
        obtain ⟨e, he, hb⟩ := Array.any_eq_true'.1 a3
        simp only [Bool.and_eq_true, beq_iff_eq] at hb
        exact ⟨a1, a2, e, he, hb.1, hb.2⟩
      · have := Array.all_eq_true_iff_forall_mem.1 h2 e he
        rw [hb] at this
        simpa using this
      · rw [ht] at h3
        simpa using h3
theorem onceB_spec : ∀ {l : List (Option Nat)}, onceB l = true → ∀ (i j t : Nat), l[i]? = some (some t) → l[j]? = some (some t) → i = j
  | [], _, i, j, t, hi, _ => by simp at hi
  | none :: r, h, i, j, t, hi, hj => by
    cases i with
    | zero => simp at hi
    | succ i =>
      cases j with
      | zero => simp at hj
      | succ j => have := onceB_spec (l := r) h i j t (by simpa using hi) (by simpa using hj); omega
  | some u :: r, h, i, j, t, hi, hj => by
    unfold onceB at h
    simp only [Bool.and_eq_true] at h
    have hall : ∀ (k : Nat), r[k]? = some (some u) → False := fun k hk => by
      have := List.all_eq_true.1 h.1 _ (List.mem_of_getElem? hk)
      simp at this
    cases i with
    | zero =>
      cases j with
      | zero => rfl
      | succ j => simp at hi hj; subst hi; exact (hall j hj).elim
    | succ i =>
      cases j with
      | zero => simp at hi hj; subst hj; exact (hall i hi).elim
      | succ j => have := onceB_spec (l := r) h.2 i j t (by simpa using hi) (by simpa using hj); omega

/-- of what the head makes -/
structure FInv (P : Program) (ops : Array Oper) (m : Nat) (a0 : Act) (v : Nat → Value) (fl : Nat → Option (TypeId × Array Value)) (S : World → Prop) (B : Nat) (w : World) (listed : Array Bool) (ρ : Nat → Value) : Prop where
  s_ : S w
  b_ : B ≤ w.heap.size
  val : ∀ i, i < m → listed.getD i false = true → fl i = none → ρ i = v i
  ptr : ∀ i ty z, i < m → listed.getD i false = true → fl i = some (ty, z) → ∃ p, ρ i = .pointer (some ⟨p, 0, none⟩) ∧ B ≤ p ∧ Blk w p ty z
  dis : ∀ i j, i < m → j < m → i ≠ j → listed.getD i false = true → listed.getD j false = true → (fl i).isSome = true → (fl j).isSome = true → ρ i ≠ ρ j

theorem floatOk_spec {gl : List Nat} {m n : Nat} (h : floatOk ops gl m n = true) : m < ops.size ∧ Region.sinkB .any ops m = true ∧ Region.chainB .any ops m = true ∧
    (∀ i, i < m → ∃ o, ops[i]? = some o ∧ (∀ g b, o.guard = some (g, b) → b = true ∧ g ∈ gl ∧ ∃ e ∈ o.after, Region.binds .any e = true ∧ e.on = g) ∧ (∀ e ∈ o.after, Region.binds .any e = true → e.on < i) ∧ (∀ t, o.dst = some t → t < n ∧ ∀ j, j < m → j ≠ i → dstOf ops j ≠ some t)) ∧
    Region.seqB .any ops (ops.size - m) m (Array.replicate m true ++ Array.replicate (ops.size - m) false) = true ∧ (∀ g ∈ gl, g < m ∧ ∃ t, dstOf ops g = some t) := by
  unfold floatOk at h
  simp only [Bool.and_eq_true, decide_eq_true_eq] at h
  obtain ⟨⟨⟨⟨⟨⟨h1, h2⟩, h3⟩, h4⟩, h5⟩, h6⟩, h7⟩ := h
  have hget : ∀ j, j < m → ∃ o, ops[j]? = some o ∧ (ops.toList.take m)[j]? = some o := fun j hj => by
    refine ⟨ops[j], by simp [show j < ops.size from by omega], ?_⟩
    rw [List.getElem?_take, if_pos hj]
    simp [show j < ops.size from by omega]
  refine ⟨h1, h2, h3, fun i hi => ?_, h7, fun g hg => ?_⟩
  · obtain ⟨o, ho, hl⟩ := hget i hi
    obtain ⟨a1, a2, a3⟩ := headOk_spec h4 i o hl
    rw [Nat.zero_add] at a2
    refine ⟨o, ho, a1, a2, fun t ht => ⟨a3 t ht, fun j hj hji hd => ?_⟩⟩
    obtain ⟨o', ho', hl'⟩ := hget j hj
    have hd' : o'.dst = some t := by unfold dstOf at hd; rw [ho'] at hd; exact hd
    exact hji (onceB_spec h5 j i t (by rw [List.getElem?_map, hl', Option.map_some, hd']) (by rw [List.getElem?_map, hl, Option.map_some, ht]))
  · have := List.all_eq_true.1 h6 g hg
    simp only [Bool.and_eq_true, decide_eq_true_eq, Option.isSome_iff_exists] at this
    exact this

/-- a cell block that is there stays -/
theorem FInv.keep {m : Nat} {a0 : Act} {v : Nat → Value} {fl : Nat → Option (TypeId × Array Value)} {S : World → Prop} {B : Nat} {w w' : World} {listed : Array Bool} {ρ : Nat → Value}
    (h : FInv P ops m a0 v fl S B w listed ρ) (hS : S w') (hb : Below w.heap.size w w') : FInv P ops m a0 v fl S B w' listed ρ :=
  ⟨hS, Nat.le_trans h.b_ hb.size, h.val, fun i ty z hi hl hf => by
    obtain ⟨p, h1, h2, h3⟩ := h.ptr i ty z hi hl hf
    exact ⟨p, h1, h2, h3.below hb h3.lt⟩, h.dis⟩

variable {m : Nat} {a0 : Act} {v : Nat → Value} {fl : Nat → Option (TypeId × Array Value)} {S : World → Prop} {B : Nat}

theorem float_any {gl : List Nat} (hok : floatOk ops gl m a0.tmps.size = true) (hgl : ∀ g ∈ gl, fl g = none ∧ v g = .bool true) (hSal : ∀ w o, S w → S (w.alloc o))
    (hval : ∀ i, i < m → fl i = none → ∀ o, ops[i]? = some o → ∀ a w, S w → B ≤ w.heap.size →
      (∀ d t, Region.waitsFor .any ops i d = true → fl d = none → dstOf ops d = some t → a.tmps.getD t undef = v d) →
      (∀ t, (∀ j, j < m → dstOf ops j ≠ some t) → a.tmps.getD t undef = a0.tmps.getD t undef) →
      ∀ K : Act → World → Prop, (∀ w', S w' → Below w.heap.size w w' → K (a.put o.dst (v i)) w') → o.wp P a w K Q)
    (hflt : ∀ i, i < m → ∀ ty z, fl i = some (ty, z) → ∀ o, ops[i]? = some o → ∀ a w, ∀ K : Act → World → Prop, K (a.put o.dst (.pointer (some ⟨w.heap.size, 0, none⟩))) (w.alloc (.cells z ty)) → o.wp P a w K Q)
    (htail : ∀ ρ w, FInv P ops m a0 v fl S B w (Array.replicate m true) ρ → wpList P ops Q (ops.toList.drop m) (puts ops (Array.replicate m true) ρ m a0) w) :
    ∀ (h : Nat) (listed : Array Bool) (b : Act) (w : World) (ρ : Nat → Value), HeadInv .any ops m listed → unl listed m = h → FInv P ops m a0 v fl S B w listed ρ → b = puts ops listed ρ m a0 →
      wpAny P .any ops Q (h + (ops.size - m)) listed b w := by
  obtain ⟨hm, hs, hc, hops, hseq, hgd⟩ := floatOk_spec hok
  intro h
  induction h with
  | zero =>
    rintro listed b w ρ inv hu hF rfl
    have hall := unl_zero hu
    have hrep : ∀ i, i < m → (Array.replicate m true).getD i false = true := fun i hi => by simp [hi]
    have hL : listed = Array.replicate m true ++ Array.replicate (ops.size - m) false := by
      apply Array.ext
      · simp [inv.size]; omega
      · intro i h1 h2
        by_cases e : i < m
        · have := hall i e
          simp [h1] at this
          rw [this, Array.getElem_append_left (by simpa using e)]
          simp
        · have := inv.tail i (by omega) (by rw [← inv.size]; exact h1)
          simp [h1] at this
          rw [this, Array.getElem_append_right (by simp; omega)]
          simp
    have hpc : puts ops listed ρ m a0 = puts ops (Array.replicate m true) ρ m a0 := puts_congr (fun i hi => by rw [hall i hi, hrep i hi]) (fun _ _ _ => rfl)
    have hF' : FInv P ops m a0 v fl S B w (Array.replicate m true) ρ :=
      ⟨hF.s_, hF.b_, fun i hi _ => hF.val i hi (hall i hi), fun i ty z hi _ => hF.ptr i ty z hi (hall i hi), fun i j hi hj hne _ _ => hF.dis i j hi hj hne (hall i hi) (hall j hj)⟩
    rw [hpc, Nat.zero_add]
    have hlen : (ops.toList.drop m).length = ops.size - m := by simp
    have := wpAny_of_seq (P := P) (Q' := Q) (md := .any) (ops := ops) (ops.toList.drop m) m listed (puts ops (Array.replicate m true) ρ m a0) w (fun j => by simp [List.getElem?_drop]) (by rw [hlen, hL]; exact hseq) (htail ρ w hF')
    rwa [hlen] at this
  | succ h ih =>
    rintro listed b w ρ inv hu hF rfl
    -- somebody of the head is not listed
    have hex : ∃ i, i < m ∧ listed.getD i false = false := by
      by_cases he : ∃ i, i < m ∧ listed.getD i false = false
      · exact he
      · exfalso
        have : unl listed m = 0 := by
          have hrep : ∀ i, i < m → listed.getD i false = (Array.replicate m true).getD i false := fun i hi => by
            cases e : listed.getD i false
            · exact absurd ⟨i, hi, e⟩ he
            · simp [hi]
          rw [unl_congr hrep]
          have : ∀ k, k ≤ m → unl (Array.replicate m true) k = 0 := by
            intro k
            induction k with
            | zero => intro _; rfl
            | succ k ihk => intro hk; unfold unl; rw [ihk (by omega)]; simp [show k < m from by omega]
          exact this m (Nat.le_refl _)
        omega
    obtain ⟨i0, hi0, hun0⟩ := hex
    have hsz : ∀ i, i < m → i < listed.size := fun i hi => by rw [inv.size]; omega
    have hready : ∀ n i, i ≤ n → i < m → listed.getD i false = false → ∃ j, j ∈ Region.ready .any ops listed := by
      intro n
      induction n with
      | zero =>
        intro i hin hi hl
        obtain ⟨o, ho, hg, haf, _⟩ := hops i hi
        exact ⟨i, mem_ready.2 ⟨getD_in (hsz i hi) hl, o, ho, fun e he hb => by have := haf e he hb; omega⟩⟩
      | succ n ihn =>
        intro i hin hi hl
        obtain ⟨o, ho, hg, haf, _⟩ := hops i hi
        by_cases hd : ∀ e ∈ o.after, Region.binds .any e = true → listed.getD e.on false = true
        · exact ⟨i, mem_ready.2 ⟨getD_in (hsz i hi) hl, o, ho, hd⟩⟩
        · simp only [Classical.not_forall] at hd
          obtain ⟨e, he, hb, hne⟩ := hd
          have := haf e he hb
          exact ihn e.on (by omega) (by omega) (by simpa using hne)
    obtain ⟨j0, hj0⟩ := hready i0 i0 (Nat.le_refl _) hi0 hun0
    rw [show h + 1 + (ops.size - m) = (h + (ops.size - m)) + 1 by omega]
    refine ⟨fun h0 => (by rw [h0] at hj0; cases hj0), fun i hi => ?_⟩
    have him : i < m := by
      rcases Nat.lt_or_ge i m with h' | h'
      · exact h'
      · exact absurd hi (tail_waits hs hc hm inv _ i0 rfl hi0 (getD_in (hsz i0 hi0) hun0) i h')
    obtain ⟨hun, o', ho', hdeps⟩ := mem_ready.1 hi
    have hunf := getD_both hun
    obtain ⟨o, ho, hg, haf, hdst⟩ := hops i him
    have e' : o = o' := Option.some.inj (ho.symm.trans ho')
    subst e'
    have hdo : dstOf ops i = o.dst := by unfold dstOf; rw [ho]; rfl
    have hset : ∀ u, (puts ops listed ρ m a0).put o.dst u = puts ops (listed.setIfInBounds i true) (fun j => if j = i then u else ρ j) m a0 := fun u => by
      rw [← hdo]
      refine (puts_set (hsz i him) hunf him fun j hj hji t htj hti => ?_).symm
      rw [hdo] at hti
      exact (hdst t hti).2 j hj hji htj
    have inv' := inv.set hi him
    have hu' : unl (listed.setIfInBounds i true) m = h := by have := unl_set (hsz i him) hunf him; omega
    have hget : ∀ j, (listed.setIfInBounds i true).getD j false = true → j = i ∨ listed.getD j false = true := fun j hj => by
      by_cases e : j = i
      · exact .inl e
      · rw [getD_set_ne false (fun h => e h.symm)] at hj; exact .inr hj
    unfold wpOp
    simp only [ho]
    have hw : Region.wanted o (yielded ops (puts ops listed ρ m a0).tmps) = true := by
      unfold Region.wanted
      cases hge : o.guard with
      | none => rfl
      | some gb =>
        obtain ⟨g, b⟩ := gb
        obtain ⟨rfl, hgg, e, he, hb, hon⟩ := hg g b hge
        obtain ⟨hgm, t, ht⟩ := hgd g hgg
        have hlg : listed.getD g false = true := by have := hdeps e he hb; rwa [hon] at this
        obtain ⟨og, hog, _, _, hdg⟩ := hops g hgm
        have hdt : og.dst = some t := by have h := ht; unfold dstOf at h; rw [hog] at h; exact h
        have h1 := puts_at (ops := ops) (listed := listed) (ρ := ρ) (a := a0) hlg ht (hdg t hdt).1 hgm (fun j hj hjd => (hdg t hdt).2 j hj hjd)
        rw [hF.val g hgm hlg (hgl g hgg).1, (hgl g hgg).2] at h1
        have h2 : (puts ops listed ρ m a0).tmps[t]? = some (.bool true) := by
          have hlt : t < (puts ops listed ρ m a0).tmps.size := by rw [puts_size]; exact (hdg t hdt).1
          rw [Array.getD_eq_getD_getElem?, Array.getElem?_eq_getElem hlt] at h1
          rw [Array.getElem?_eq_getElem hlt]
          exact congrArg some h1
        have h3 : ((ops[g]?).bind (·.dst)) = some t := ht
        simp only [yielded, h3, Option.bind_some, h2]
        rfl
    rw [if_pos hw]
    refine .inl ?_
    cases hf : fl i with
    | none =>
      refine hval i him hf o ho _ w hF.s_ hF.b_ (fun d t hwt hfd htd => ?_) (fun t ht => puts_other ht) _ (fun w' hS' hb' => ?_)
      · obtain ⟨o2, ho2, e, he, hb, hon⟩ := Region.waitsFor_spec hwt
        have e2 : o = o2 := Option.some.inj (ho.symm.trans ho2)
        subst e2
        have hld : listed.getD d false = true := by have := hdeps e he hb; rwa [hon] at this
        have hdm : d < m := by have := haf e he hb; omega
        obtain ⟨od, hod, _, _, hdd⟩ := hops d hdm
        have hdd' : od.dst = some t := by have h := htd; unfold dstOf at h; rw [hod] at h; exact h
        rw [puts_at hld htd (hdd t hdd').1 hdm (fun j hj hjd => (hdd t hdd').2 j hj hjd)]
        exact hF.val d hdm hld hfd
      · rw [hset]
        have hK := hF.keep hS' hb'
        refine ih _ _ w' _ inv' hu' ⟨hK.s_, hK.b_, fun j hj hl hfj => ?_, fun j ty z hj hl hfj => ?_, fun j k hj hk hne hlj hlk hfj hfk => ?_⟩ rfl
        · show (if j = i then v i else ρ j) = v j
          by_cases e : j = i
          · subst e; simp
          · rw [if_neg e]; exact hK.val j hj ((hget j hl).resolve_left e) hfj
        · have e : j ≠ i := fun e => by subst e; rw [hf] at hfj; cases hfj
          obtain ⟨p, h1, h2, h3⟩ := hK.ptr j ty z hj ((hget j hl).resolve_left e) hfj
          exact ⟨p, by show (if j = i then v i else ρ j) = _; rw [if_neg e]; exact h1, h2, h3⟩
        · have ej : j ≠ i := fun e => by subst e; rw [hf] at hfj; cases hfj
          have ek : k ≠ i := fun e => by subst e; rw [hf] at hfk; cases hfk
          show (if j = i then v i else ρ j) ≠ (if k = i then v i else ρ k)
          rw [if_neg ej, if_neg ek]
          exact hK.dis j k hj hk hne ((hget j hlj).resolve_left ej) ((hget k hlk).resolve_left ek) hfj hfk
    | some tz =>
      obtain ⟨ty, z⟩ := tz
      refine hflt i him ty z hf o ho _ w _ ?_
      rw [hset]
      have hK := hF.keep (hSal w (.cells z ty) hF.s_) ((Below.refl _ _).alloc (Nat.le_refl _) (.cells z ty))
      have hold : ∀ j, j < m → listed.getD j false = true → (fl j).isSome = true → ρ j ≠ .pointer (some ⟨w.heap.size, 0, none⟩) := fun j hj hl hfj => by
        cases hfe : fl j with
        | none => rw [hfe] at hfj; cases hfj
        | some tz =>
          obtain ⟨p, h1, h2, h3⟩ := hF.ptr j tz.1 tz.2 hj hl hfe
          rw [h1]
          intro e
          have hlt := h3.lt
          simp only [Value.pointer.injEq, Option.some.injEq, Addr.mk.injEq, and_true] at e
          omega
      refine ih _ _ _ _ inv' hu' ⟨hK.s_, hK.b_, fun j hj hl hfj => ?_, fun j ty' z' hj hl hfj => ?_, fun j k hj hk hne hlj hlk hfj hfk => ?_⟩ rfl
      · have e : j ≠ i := fun e => by subst e; rw [hf] at hfj; cases hfj
        show (if j = i then _ else ρ j) = v j
        rw [if_neg e]; exact hK.val j hj ((hget j hl).resolve_left e) hfj
      · by_cases e : j = i
        · subst e
          rw [hf] at hfj
          cases hfj
          exact ⟨w.heap.size, by simp, hF.b_, Blk.new _ _ _⟩
        · obtain ⟨p, h1, h2, h3⟩ := hK.ptr j ty' z' hj ((hget j hl).resolve_left e) hfj
          exact ⟨p, by show (if j = i then _ else ρ j) = _; rw [if_neg e]; exact h1, h2, h3⟩
      · show (if j = i then _ else ρ j) ≠ (if k = i then _ else ρ k)
        by_cases ej : j = i
        · have ek : k ≠ i := fun e => hne (ej.trans e.symm)
          rw [if_pos ej, if_neg ek]
          exact (hold k hk ((hget k hlk).resolve_left ek) hfk).symm
        · rw [if_neg ej]
          by_cases ek : k = i
          · rw [if_pos ek]; exact hold j hj ((hget j hlj).resolve_left ej) hfj
          · rw [if_neg ek]; exact hK.dis j k hj hk hne ((hget j hlj).resolve_left ej) ((hget k hlk).resolve_left ek) hfj hfk

/-- THE REGION. -/
theorem region_float {id : Nat} {w : World} (gl : List Nat) (m : Nat) (v : Nat → Value) (fl : Nat → Option (TypeId × Array Value)) (S : World → Prop) (B : Nat) (hm : P.follows .mixedOrders = true) (hok : floatOk ops gl m a0.tmps.size = true) (hgl : ∀ g ∈ gl, fl g = none ∧ v g = .bool true) (hS : S w.drew) (hB : B ≤ w.heap.size)
    (hSal : ∀ w o, S w → S (w.alloc o))
    (hval : ∀ i, i < m → fl i = none → ∀ o, ops[i]? = some o → ∀ a w, S w → B ≤ w.heap.size →
      (∀ d t, Region.waitsFor .any ops i d = true → fl d = none → dstOf ops d = some t → a.tmps.getD t undef = v d) →
      (∀ t, (∀ j, j < m → dstOf ops j ≠ some t) → a.tmps.getD t undef = a0.tmps.getD t undef) →
      ∀ K : Act → World → Prop, (∀ w', S w' → Below w.heap.size w w' → K (a.put o.dst (v i)) w') → o.wp P a w K Q)
    (hflt : ∀ i, i < m → ∀ ty z, fl i = some (ty, z) → ∀ o, ops[i]? = some o → ∀ a w, ∀ K : Act → World → Prop, K (a.put o.dst (.pointer (some ⟨w.heap.size, 0, none⟩))) (w.alloc (.cells z ty)) → o.wp P a w K Q)
    (htail : ∀ ρ w, FInv P ops m a0 v fl S B w (Array.replicate m true) ρ → wpList P ops Q (ops.toList.drop m) (puts ops (Array.replicate m true) ρ m a0) w) :
    (Code.region id ops true).wp P Q a0 w := by
  refine wp_region_any hm ?_
  obtain ⟨hml, _⟩ := floatOk_spec hok
  have hnone : ∀ i, (Array.replicate ops.size false).getD i false = false := getD_replicate_false _
  have inv0 : HeadInv .any ops m (Array.replicate ops.size false) :=
    ⟨by simp, fun j oj _ hl => (by rw [hnone] at hl; cases hl), fun t _ ht => getD_in (by simpa using ht) (hnone _)⟩
  have key := float_any (P := P) (Q := Q) (v := v) (fl := fl) (S := S) (B := B) hok hgl hSal hval hflt htail m (Array.replicate ops.size false) a0 w.drew (fun _ => undef) inv0 (unl_none fun i _ => hnone i)
    ⟨hS, hB, fun i _ hl => (by rw [hnone] at hl; cases hl), fun i _ _ _ hl => (by rw [hnone] at hl; cases hl), fun i j _ _ _ hl => (by rw [hnone] at hl; cases hl)⟩
    (by
      have : ∀ k, puts ops (Array.replicate ops.size false) (fun _ => undef) k a0 = a0 := by
        intro k
        induction k with
        | zero => rfl
        | succ k ih => unfold puts; rw [hnone, ih]; rfl
      exact (this m).symm)
  rw [show m + (ops.size - m) = ops.size by omega] at key
  exact key
end
end Go.Proofs.Ytfgokhafiffbaaa
