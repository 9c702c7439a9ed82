/-
  Texts on which the law ComposeBack rests, part 1 of 1.
-/
import Derived.Test.YthbifeoohphnpaaBa11
import Derived.Laws.CopyOwn
import Derived.Test.YthbifeoohphnpaaRows
import Derived.WalkKit
import Derived.ProofKit
import Derived.OpenShut
import Derived.LaidMore
import Derived.Laws.IdiomArrays
import Derived.Stop.Joined
import Derived.Carry
import Derived.Deep.Slices
import Derived.ChangeSlices
import Derived.DeepKeys4
import Derived.WideKeyArr
import Derived.Maps.RangeWalk
import Derived.Maps.AppendAt
/-
  The laws of package compose: what they look at first.
-/
namespace Go.Proofs.Ythbifeoohphnpaa
set_option linter.unusedVariables false
open Go.RowKit
/-- a slice in a block of one's own -/
theorem RdN.blk {q : IntKind} {B : Bk} {w : World} {g : Nat} {t : TypeId} {cs : Array Value} {xs : List Int} (hB : Blk w g t cs) (hg : g ∉ B.own) (hx : ∀ (j : Nat) (x : Int), xs[j]? = some x → cs[j]? = some (.int q x)) : RdN q B w (some ⟨g, 0, none⟩) xs :=
  ⟨fun j x hj => ⟨g, 0, rfl, hg, by rw [Nat.zero_add]; exact hB.cellEq (hx j x hj)⟩⟩
theorem Ls.noOwn {w0 w : World} {s n room c : Nat} {B : Bk} {S : Sto} (L : Ls w0 s n room c B S w) {b : Nat} (hb : w.heap.size ≤ b) : b ∉ B.own := fun h => absurd (Loc.lt' L.G b h) (by omega)
theorem swap2 : Tb.subst (Tb.var ((0 : Nat) : Int)) (gtOf (varTs [1, 0])) = Tb.var ((1 : Nat) : Int) := by decide +kernel
theorem comp01 : ((Tb.var ((1 : Nat) : Int) &&& Tb.fix (Tb.var ((0 : Nat) : Int)) ((0 : Nat) : Int) true) ||| (~~~(Tb.var ((1 : Nat) : Int)) &&& Tb.fix (Tb.var ((0 : Nat) : Int)) ((0 : Nat) : Int) false)) = Tb.var ((1 : Nat) : Int) := by decide +kernel
theorem cm2 : cmCost 2 = 2 := by decide
set_option maxRecDepth 100000 in
set_option maxHeartbeats 2000000 in
theorem known13_any (w : World) : Calls Try.prog 33 #[] w fun e w' => e = .returned (.bool true) ∧ Below w.heap.size w w' := by
  have HN : Bx (Calls Try.prog 10 #[.int .i64 2, .int .i64 100] w fun e w' => ∃ s B, e = .returned (.tuple #[.pointer (some ⟨s, 0, none⟩), .int .i64 0]) ∧ Ls w s 2 100 0 B (Sto.new 2 100) w') := ⟨Ls.new 2 100 w (by omega) (by omega) (by omega) (by omega)⟩
  go_enter Try.func33, Try.ntmps33
  go_wp2_with fail
  refine HN.out.mono ?_
  rintro e w1 ⟨s, B1, rfl, L1⟩
  have HV : Bx (Calls Try.prog 65 #[.pointer (some ⟨s, 0, none⟩), .int .i64 0] w1 (Told w s 2 100 (0 + 1) (Sto.new 2 100) (Tb.var ((0 : Nat) : Int)))) := ⟨L1.var (v := 0) (by omega) (by omega)⟩
  clear HN L1
  go_wp2_with fail
  refine HV.out.mono ?_
  rintro e w2 ⟨S2, B2, L2, k2, a, rfl, da⟩
  have HV : Bx (Calls Try.prog 65 #[.pointer (some ⟨s, 0, none⟩), .int .i64 1] w2 (Told w s 2 100 (0 + 1 + 1) S2 (Tb.var ((1 : Nat) : Int)))) := ⟨L2.var (v := 1) (by omega) (by omega)⟩
  have DA := Bx.mk da
  clear L2 k2 da
  go_wp2_with fail
  refine HV.out.mono ?_
  rintro e w3 ⟨S3, B3, L3, k3, b, rfl, db⟩
  have DA3 := Bx.mk (DA.out.ext k3)
  have DB := Bx.mk db
  have HC : Bx (Calls Try.prog 34 #[.pointer (some ⟨s, 0, none⟩), .int .u32 (a : Int), .int .i64 0, .int .u32 (b : Int)] w3 (Told w s 2 100 (0 + 1 + 1 + cmCost 2) S3 (Tb.var ((1 : Nat) : Int)))) := ⟨by
    have h := L3.compose (v := 0) DA3.out db (by omega) (by rw [cm2]; omega)
    rw [comp01] at h
    exact h⟩
  clear HV L3 k3 db DA
  go_wp2_with fail
  (with_reducible refine HC.out.mono ?_)
  rintro e w4 ⟨S4, B4, L4, k4, c, rfl, dc⟩
  have DA4 := Bx.mk (DA3.out.ext k4)
  have DB4 := Bx.mk (DB.out.ext k4)
  have DC := Bx.mk dc
  have hbl := Blk.new w4 3 #[.int .i64 1, .int .i64 0]
  have hf4 : Fr [] w4 (w4.alloc (.cells #[.int .i64 1, .int .i64 0] 3)) := (Fr.refl _ _).alloc _
  have HR : Bx (Calls Try.prog 36 #[.pointer (some ⟨s, 0, none⟩), .int .u32 (a : Int), .slice (some ⟨w4.heap.size, 0, none⟩) 2 2] (w4.alloc (.cells #[.int .i64 1, .int .i64 0] 3)) (Told w s 2 100 (0 + 1 + 1 + cmCost 2 + cmCost 2) S4 (Tb.var ((1 : Nat) : Int)))) := ⟨by
    have h := (L4.fr0 hf4).rename (cap := 2) (xs := [1, 0]) DA4.out (RdN.blk hbl (L4.noOwn (Nat.le_refl _)) (fun j x hj => by
      match j with
      | 0 => cases hj; rfl
      | 1 => cases hj; rfl
      | j + 2 => simp [ints] at hj)) (by simp) rfl (by rw [cm2]; omega)
    rw [swap2] at h
    exact h⟩
  clear HC L4 k4 dc DA3 DB hbl hf4
  go_wp2_with fail
  (with_reducible refine HR.out.mono ?_)
  rintro e w5 ⟨S5, B5, L5, k5, d, rfl, dd⟩
  have DA5 := Bx.mk (DA4.out.ext k5)
  have DB5 := Bx.mk (DB4.out.ext k5)
  have hcb : c = b := (L5.eq (DC.out.ext k5) DB5.out).2 rfl
  have hdb : d = b := (L5.eq dd DB5.out).2 rfl
  have HB : Bx (Calls Try.prog 34 #[.pointer (some ⟨s, 0, none⟩), .int .u32 (a : Int), .int .i64 2, .int .u32 (b : Int)] w5 fun e w' => e = .returned (.tuple #[.int .u32 0, .int .i64 40]) ∧ w' = w5) := ⟨by
    have h := compose_bad2 w.heap.size B5 S5 a b 2 w5 L5.G DA5.out.is DB5.out.is (by rw [L5.n]; omega)
    rw [L5.s] at h
    exact h⟩
  have HL5 := Bx.mk L5
  have k01 : ((c : Int) == (b : Int)) = true := by rw [beq_iff_eq]; omega
  have k02 : ((d : Int) == (b : Int)) = true := by rw [beq_iff_eq]; omega
  clear HR L5 k5 dd DC DA4 DB4 hcb hdb
  go_wp2_with fail
  refine HB.out.mono ?_
  rintro e w6 ⟨rfl, rfl⟩
  have hbl := Blk.new w6 31 #[.int .u32 (a : Int)]
  have hf6 : Fr [] w6 (w6.alloc (.cells #[.int .u32 (a : Int)] 31)) := (Fr.refl _ _).alloc _
  have HS : Bx (Calls Try.prog 35 #[.pointer (some ⟨s, 0, none⟩), .int .u32 (a : Int), .slice (some ⟨w6.heap.size, 0, none⟩) 1 1] (w6.alloc (.cells #[.int .u32 (a : Int)] 31)) fun e w' => e = .returned (.tuple #[.int .u32 0, .int .i64 40]) ∧ w' = (w6.alloc (.cells #[.int .u32 (a : Int)] 31))) := ⟨by
    have L6 := HL5.out.fr0 hf6
    have h := subst_bad2 w.heap.size B5 S5 a 1 _ [(a : Int)] _ L6.G DA5.out.is (RdN.blk hbl (HL5.out.noOwn (Nat.le_refl _)) (fun j x hj => by
      match j with
      | 0 => cases hj; rfl
      | j + 1 => simp at hj)) (fun k x hx => by
      match k with
      | 0 => cases hx; exact ⟨a, rfl, DA5.out.is⟩
      | k + 1 => simp at hx) (by rw [L6.n]; simp) (by simp)
    rw [L6.s] at h
    exact h⟩
  have HF6 := Bx.mk hf6
  clear HB hbl hf6
  go_wp2_with fail
  (with_reducible refine HS.out.mono ?_)
  rintro e w7 ⟨rfl, rfl⟩
  have HE := Bx.mk ((HL5.out.fr0 HF6.out).end_)
  clear HS
  go_wp2_with fail
  go_ret
  exact ⟨rfl, HE.out⟩
end Go.Proofs.Ythbifeoohphnpaa

/-
  How many parts a table has; how many nodes are new. No program in sight.
-/
namespace Go.Proofs.Ythbifeoohphnpaa
set_option linter.unusedVariables false
open Go.RowKit
/-- the parts of a table, level by level -/
def Sto.parts (S : Sto) (D : Nat → Bool) : Nat → Nat → Tb.T → List Tb.T
  | 0, _, _ => []
  | k + 1, i, T => if D i then T :: (Sto.parts S D k (i + 1) (Tb.fix T ((S.vars.getD i 0 : Nat) : Int) false) ++ Sto.parts S D k (i + 1) (Tb.fix T ((S.vars.getD i 0 : Nat) : Int) true)) else Sto.parts S D k (i + 1) T
theorem Sto.parts_length (S : Sto) (D : Nat → Bool) : ∀ k i T, (S.parts D k i T).length = 2 ^ ((List.range' i k).countP D) - 1
  | 0, i, T => by simp [Sto.parts]
  | k + 1, i, T => by
    unfold Sto.parts
    rw [List.range'_succ, List.countP_cons]
    cases hd : D i
    · simp only [Bool.false_eq_true, if_false, Nat.add_zero]
      exact S.parts_length D k (i + 1) T
    · simp only [if_true, List.length_cons, List.length_append]
      rw [S.parts_length D k, S.parts_length D k, Nat.pow_succ]
      have := Nat.two_pow_pos ((List.range' (i + 1) k).countP D)
      omega
/-- what is left at a level is among them -/
theorem Sto.parts_mem (S : Sto) (O : S.Ord) (h8 : S.n ≤ 8) (D : Nat → Bool) : ∀ (k i : Nat) (T : Tb.T) (l x : Nat), i ≤ l → l < i + k → l < S.n → x < 256 → D l = true →
    (∀ j, j < i → Tb.Free T (S.vars.getD j 0)) → (∀ j, j < S.n → i ≤ j → D j = false → Tb.Free T (S.vars.getD j 0)) → Tb.restrict T (S.mask l) x ∈ S.parts D k i T
  | 0, i, T, l, x, h1, h2, _, _, _, _, _ => by omega
  | k + 1, i, T, l, x, h1, h2, hl, hx, hd, hfr, hD => by
    have hvi := (O.lt i (by omega)).1
    unfold Sto.parts
    by_cases e : i = l
    · subst e
      rw [hd, if_pos rfl, Tb.restrict_free (S.mask_lt O h8 _ (by omega)) hx fun v hv8 hb => by
        obtain ⟨j, hj, rfl⟩ := (S.mask_bit v i).1 hb
        exact hfr j hj]
      exact List.mem_cons_self
    · cases hdi : D i
      · simp only [Bool.false_eq_true, if_false]
        exact S.parts_mem O h8 D k (i + 1) T l x (by omega) (by omega) hl hx hd (fun j hj => by
          by_cases ej : j = i
          · subst ej; exact hD j (by omega) (by omega) hdi
          · exact hfr j (by omega)) (fun j hj hij => hD j hj (by omega))
      · simp only [if_true]
        have key : ∀ b, x.testBit (S.vars.getD i 0) = b → Tb.restrict T (S.mask l) x = Tb.restrict (Tb.fix T ((S.vars.getD i 0 : Nat) : Int) b) (S.mask l) x := fun b hb => by
          rw [Tb.restrict_fix b (S.mask_lt O h8 _ (by omega)) hx (by omega) ((S.mask_bit _ _).2 ⟨i, by omega, rfl⟩)]
          congr 1
          refine Tb.eq_of_bits hx (Tb.wth_lt x hx _ (by omega) b) fun v hv => ?_
          rw [Tb.wth_bit x hx _ (by omega) b v hv]
          split
          · rename_i ev; rw [ev, hb]
          · rfl
        have hrec : ∀ b, Tb.restrict (Tb.fix T ((S.vars.getD i 0 : Nat) : Int) b) (S.mask l) x ∈ S.parts D k (i + 1) (Tb.fix T ((S.vars.getD i 0 : Nat) : Int) b) := fun b =>
          S.parts_mem O h8 D k (i + 1) _ l x (by omega) (by omega) hl hx hd (fun j hj => by
            by_cases ej : j = i
            · subst ej; exact Tb.free_fix_same T (by omega) b
            · exact Tb.free_fix (by omega) (by have := (O.lt j (by omega)).1; omega) (hfr j (by omega)) b) (fun j hj hij hdj => Tb.free_fix (by omega) (by have := (O.lt j hj).1; omega) (hD j hj (by omega) hdj) b)
        refine List.mem_cons_of_mem _ (List.mem_append.2 ?_)
        cases hb : x.testBit (S.vars.getD i 0)
        · exact .inl (by rw [key false hb]; exact hrec false)
        · exact .inr (by rw [key true hb]; exact hrec true)
/-- so many nodes are new above the two lowest levels, at most -/
theorem Sto.New.count {S S' : Sto} (W : S.Wf) (O : S.Ord) (W' : S'.Wf) (E : S.Ext S') {T : Tb.T} (h : S.New S' T) (D : Nat → Bool) (hD : ∀ i, i < S.n → D i = false → Tb.Free T (S.vars.getD i 0)) :
    S'.hi ≤ S.hi + (2 ^ ((List.range' 0 (S.n - 2)).countP D) - 1) := by
  have h8 : S.n ≤ 8 := W.n8
  have O' := O.ext E
  rw [← S.parts_length D (S.n - 2) 0 T]
  -- the new ones
  have hnew : ((S'.all.filter fun x => S'.hiP x && (S.get x).isNone).map S'.tab).length ≤ (S.parts D (S.n - 2) 0 T).length := by
    refine Tb.nodup_le ?_ ?_
    · refine List.Pairwise.map _ (fun a b (hab : a ≠ b ∧ S'.is a = true ∧ S'.is b = true) e => hab.1 (W'.eq O' hab.2.1 hab.2.2 e)) ?_
      have h1 : (S'.all.filter fun x => S'.hiP x && (S.get x).isNone).Nodup := List.Pairwise.filter _ Sto.all_nodup
      refine List.Pairwise.imp_of_mem (fun {a b} ha hb hab => ⟨hab, ?_, ?_⟩) h1
      · have := Sto.mem_all.1 (List.mem_filter.1 ha).1
        obtain ⟨nd, hnd⟩ := Option.ne_none_iff_exists'.1 this
        exact Sto.is_of hnd
      · have := Sto.mem_all.1 (List.mem_filter.1 hb).1
        obtain ⟨nd, hnd⟩ := Option.ne_none_iff_exists'.1 this
        exact Sto.is_of hnd
    · intro t ht
      obtain ⟨a, ha, rfl⟩ := List.mem_map.1 ht
      obtain ⟨ha1, ha2⟩ := List.mem_filter.1 ha
      obtain ⟨nd, hnd⟩ := Option.ne_none_iff_exists'.1 (Sto.mem_all.1 ha1)
      rw [Bool.and_eq_true, Sto.hiP_some hnd, decide_eq_true_eq, E.n, Option.isNone_iff_eq_none] at ha2
      rcases h a nd hnd with h1 | ⟨x, hx, e⟩
      · rw [ha2.2] at h1; cases h1
      · rw [e]
        refine S.parts_mem O h8 D (S.n - 2) 0 T nd.l x (by omega) (by omega) (by omega) hx ?_ (fun j hj => by omega) (fun j hj _ => hD j hj)
        cases hdl : D nd.l
        · exfalso
          have hfr : ∀ i, i < nd.l + 1 → Tb.Free (S'.tab a) (S'.vars.getD i 0) := fun i hi => by
            rw [E.vars]
            have hvi := (O.lt i (by omega)).1
            by_cases ei : i = nd.l
            · subst ei
              rw [e, Tb.free_get (by omega)]
              have hf := hD nd.l (by omega) hdl
              intro y hy b
              have hy2 := Tb.wth_lt y hy (S.vars.getD nd.l 0) (by omega) b
              rw [Tb.restrict_get _ _ _ hy2, Tb.restrict_get _ _ _ hy]
              refine Tb.free_walk (Tb.rstx_lt _ _ _ hy2 hx) (Tb.rstx_lt _ _ _ hy hx) fun v hv => ?_
              by_cases ev : v = S.vars.getD nd.l 0
              · subst ev; exact .inr hf
              · left
                rw [Tb.rstx_bit _ _ _ (S.mask_lt O h8 _ (by omega)) v hv, Tb.rstx_bit _ _ _ (S.mask_lt O h8 _ (by omega)) v hv, Tb.wth_bit y hy _ (by omega) b v hv, if_neg ev]
            · rw [← E.vars]
              exact W'.free' O' (Sto.is_of hnd) (by rw [Sto.lev_nd hnd]; omega) (by rw [E.n]; omega)
          have := W'.lev_ge O' (Sto.is_of hnd) (k := nd.l + 1) (by rw [E.n]; omega) hfr
          rw [Sto.lev_nd hnd] at this
          omega
        · rfl
  rw [List.length_map] at hnew
  -- the old ones
  have hold : (S'.all.filter fun x => S'.hiP x && !(S.get x).isNone).length ≤ S.hi := by
    unfold Sto.hi
    rw [List.countP_eq_length_filter]
    refine Tb.nodup_le (List.Pairwise.filter _ Sto.all_nodup) fun a ha => ?_
    obtain ⟨ha1, ha2⟩ := List.mem_filter.1 ha
    rw [Bool.and_eq_true] at ha2
    cases hg : S.get a with
    | none => rw [hg] at ha2; simp at ha2
    | some nd =>
      have hg' := E.get a nd hg
      rw [Sto.hiP_some hg', E.n] at ha2
      exact List.mem_filter.2 ⟨Sto.mem_all.2 (by rw [hg]; simp), by rw [Sto.hiP_some hg]; exact ha2.1⟩
  have hsum : S'.hi = (S'.all.filter fun x => S'.hiP x && (S.get x).isNone).length + (S'.all.filter fun x => S'.hiP x && !(S.get x).isNone).length := by
    unfold Sto.hi
    generalize S'.all = L
    induction L with
    | nil => rfl
    | cons a L ih =>
      rw [List.countP_cons, List.filter_cons, List.filter_cons, ih]
      cases S'.hiP a <;> cases (S.get a).isNone <;> simp <;> omega
  omega
end Go.Proofs.Ythbifeoohphnpaa

/-
  Other names: what they cost, level by level; there and back.
-/
namespace Go.Proofs.Ythbifeoohphnpaa
set_option linter.unusedVariables false
open Go.RowKit
namespace Tb
theorem free_subst {f : T} {g : Nat → T} {u : Nat} (hu : u < 8) (h : ∀ v, v < 8 → Free f v ∨ Free (g v) u) : Free (subst f g) u := by
  rw [free_get hu]
  intro x hx b
  have hw := wth_lt x hx u hu b
  rw [subst_get hw, subst_get hx]
  refine free_walk (pk_lt _ 8) (pk_lt _ 8) fun v hv => ?_
  rcases h v hv with e | e
  · exact .inr e
  · left
    rw [pk_bit, pk_bit, (free_get hu).1 e x hx b]
theorem free_var {w u : Nat} (hu : u < 8) (hw : w < 8) (h : u ≠ w) : Free (var (w : Int)) u := by
  rw [free_get hu]
  intro x hx b
  rw [var_get _ _ (wth_lt x hx u hu b), var_get _ _ hx, Int.toNat_natCast, wth_bit x hx u hu b w hw, if_neg (fun e => h e.symm)]
theorem free_nought {u : Nat} (hu : u < 8) : Free (0#256) u := by
  rw [free_get hu]
  intro x hx b
  simp
theorem kn_small {w : Nat} (hw : w < 8) : kn (w : Int) = true := by unfold kn; simp; omega
/-- renamed, and renamed back -/
theorem subst_back {f : T} {xs ys : List Nat} (hx : ∀ i, i < 8 → ∃ x, xs[i]? = some x ∧ x < 8 ∧ ys[x]? = some i) : subst (subst f (gtOf (varTs xs))) (gtOf (varTs ys)) = f := ext_get fun x hl => by
  rw [subst_get hl, subst_get (pk_lt _ 8)]
  congr 1
  refine eq_of_bits (pk_lt _ 8) hl fun i hi => ?_
  obtain ⟨a, h1, h2, h3⟩ := hx i hi
  rw [pk_bit, decide_eq_true hi, Bool.true_and, gtOf_var h1, var_get _ _ (pk_lt _ 8), kn_small h2, Bool.true_and, Int.toNat_natCast, pk_bit, decide_eq_true h2, Bool.true_and, gtOf_var h3, var_get _ _ hl, kn_small hi, Bool.true_and, Int.toNat_natCast]
theorem subst_same {f : T} : subst f (gtOf (varTs [0, 1, 2, 3, 4, 5, 6, 7])) = f := by
  refine (subst_congr (g' := fun v => var (v : Int)) fun v hv => .inl ?_).trans (subst_var f)
  have : ([0, 1, 2, 3, 4, 5, 6, 7] : List Nat)[v]? = some v := by
    match v, hv with
    | 0, _ | 1, _ | 2, _ | 3, _ | 4, _ | 5, _ | 6, _ | 7, _ => rfl
  exact gtOf_var this
end Tb
/-- what one joining costs at a level, if only names turn -/
def rnK (n l : Nat) : Nat := 2 ^ min (n - 2) (n - l) - 1
def rnR (n : Nat) : Nat → Nat
  | 0 => 0
  | k + 1 => (2 ^ min (n - 2) (k + 1) - 1) + 2 * rnR n k
def rnC (n l : Nat) : Nat := rnR n (n - l)
theorem rnR_mono (n : Nat) : ∀ {k k' : Nat}, k ≤ k' → rnR n k ≤ rnR n k'
  | k, 0, h => by have : k = 0 := by omega
                  subst this; exact Nat.le_refl _
  | k, k' + 1, h => by
    by_cases e : k = k' + 1
    · subst e; exact Nat.le_refl _
    · have := rnR_mono n (k := k) (k' := k') (by omega)
      have h2 : rnR n (k' + 1) = (2 ^ min (n - 2) (k' + 1) - 1) + 2 * rnR n k' := rfl
      omega
theorem CostOk.rn (D : Nat → Bool) (n : Nat) : CostOk D n (rnK n) (rnC n) := fun l l' hl hn hd => by
  have h1 : rnK n l' + 2 * rnC n (l' + 1) = rnR n (n - l') := by
    unfold rnK rnC
    rw [show n - l' = (n - (l' + 1)) + 1 by omega]
    rfl
  rw [h1]
  exact rnR_mono n (by omega)
theorem KapOk.rn {n : Nat} {vars : List Nat} {xs : List Nat} (hx : ∀ x ∈ xs, x < n) (hl : xs.length = n) (D0 : Nat → Bool) : KapOk D0 n vars (gtOf (varTs xs)) (rnK n) := fun l f S1 S2 hln hfr W1 W2 O1 hn hv X hnew _ => by
  have h8 : n ≤ 8 := by rw [← hn]; exact W1.n8
  let D : Nat → Bool := fun j => (List.range' l (n - l)).any fun i => xs.getD (vars.getD i 0) 0 == vars.getD j 0
  have hD : ∀ j, j < S1.n → D j = false → Tb.Free (Tb.subst f (gtOf (varTs xs))) (S1.vars.getD j 0) := fun j hj hd => by
    have hj8 := (O1.lt j hj).1
    rw [hv] at hj8 ⊢
    refine Tb.free_subst (by omega) fun v hv8 => ?_
    by_cases hvn : v < n
    · obtain ⟨h1, h2⟩ := O1.vl v (by omega)
      rw [hv] at h2
      by_cases hlt : S1.levels.getD v 0 < l
      · have := hfr (S1.levels.getD v 0) (by omega) (.inr hlt)
        rw [h2] at this
        exact .inl this
      · right
        obtain ⟨x, hx1⟩ : ∃ x, xs[v]? = some x := ⟨_, List.getElem?_eq_getElem (by omega)⟩
        rw [gtOf_var hx1]
        refine Tb.free_var (by omega) (by have := hx x (List.mem_of_getElem? hx1); omega) fun e => ?_
        have hd' := List.any_eq_false.1 hd (S1.levels.getD v 0) (List.mem_range'_1.2 ⟨by omega, by omega⟩)
        rw [h2, List.getD_eq_getElem?_getD (l := xs), hx1, e] at hd'
        simp at hd'
    · right
      have : gtOf (varTs xs) v = 0#256 := by
        unfold gtOf varTs
        rw [List.getD_eq_getElem?_getD, List.getElem?_eq_none (by simp; omega)]
        rfl
      rw [this]
      exact Tb.free_nought (by omega)
  have hc := hnew.count W1 O1 W2 X D hD
  rw [hn] at hc
  have h1 : (List.range' 0 (n - 2)).countP D ≤ n - 2 := by have := List.countP_le_length (p := D) (l := List.range' 0 (n - 2)); simpa using this
  have h2 : (List.range' 0 (n - 2)).countP D ≤ n - l := by
    rw [List.countP_eq_length_filter]
    have := Tb.nodup_le (S := ((List.range' 0 (n - 2)).filter D).map fun j => vars.getD j 0) (L := (List.range' l (n - l)).map fun i => xs.getD (vars.getD i 0) 0) ?_ ?_
    · simpa using this
    · have hnd : ((List.range' 0 (n - 2)).filter D).Nodup := List.Pairwise.filter _ List.nodup_range'
      refine List.Pairwise.map _ (fun a b (hab : a ≠ b ∧ a < n ∧ b < n) e => hab.1 (O1.inj (by omega) (by omega) (by rw [hv]; exact e))) (List.Pairwise.imp_of_mem (fun {a b} ha hb hab => ⟨hab, ?_, ?_⟩) hnd)
      · have := List.mem_range'_1.1 (List.mem_filter.1 ha).1; omega
      · have := List.mem_range'_1.1 (List.mem_filter.1 hb).1; omega
    · intro y hy
      obtain ⟨j, hj, rfl⟩ := List.mem_map.1 hy
      obtain ⟨i, hi, e⟩ := List.any_eq_true.1 (List.mem_filter.1 hj).2
      exact List.mem_map.2 ⟨i, hi, by simpa using e⟩
  have h3 : 2 ^ (List.range' 0 (n - 2)).countP D ≤ 2 ^ min (n - 2) (n - l) := Nat.pow_le_pow_right (by omega) (by omega)
  unfold rnK
  omega
section
variable {w0 w w' : World} {s n room c : Nat} {B B' : Bk} {S S' : Sto}
/-- what a step of a law tells, and that what is not the store's stays -/
def ToldS (w0 : World) (s n room c : Nat) (B : Bk) (w : World) (S : Sto) (T : Tb.T) (e : Ending) (w' : World) : Prop := ∃ S' B', Ls w0 s n room c B' S' w' ∧ Gr S S' ∧ Stp B w B' w' ∧ ∃ h : Nat, e = .returned (.tuple #[.int .u32 (h : Int), .int .i64 0]) ∧ Hd S' h T
theorem SuRes.toldS {T : Tb.T} {c' : Nat} {e : Ending} (h : SuRes w0.heap.size B w S T c' e w') (L : Ls w0 s n room c B S w) (hr : c + c' + 14 < room) : ToldS w0 s n room (c + c') B w S T e w' := by
  obtain ⟨S', B', h1, h2, h3, h4, r, he, h5, h6⟩ := h.ok (by rw [L.room]; have := L.hi; omega)
  exact ⟨S', B', L.step h1 h2 h3 h4, ⟨L.wf, h3⟩, h2, r, he, h5, h6⟩
theorem Ls.renameS (L : Ls w0 s n room c B S w) {f cap : Nat} {T : Tb.T} (hf : Hd S f T) {p : Option Addr} {xs : List Nat} (hrd : RdN .i64 B w p (ints xs)) (hx : ∀ x ∈ xs, x < n) (hl : xs.length = n) (hr : c + (n + rnC n 0) + 14 < room) :
    Calls Try.prog 36 #[.pointer (some ⟨s, 0, none⟩), .int .u32 (f : Int), .slice p xs.length cap] w (ToldS w0 s n room (c + (n + rnC n 0)) B w S (Tb.subst T (gtOf (varTs xs)))) := by
  have h := rename_any (fun _ => true) (rnK S.n) (rnC S.n) w0.heap.size B S f p cap xs w L.G hf.is hrd (by rw [L.n]; exact hx) (by rw [L.n]; exact hl) (KapOk.rn (by rw [L.n]; exact hx) (by rw [L.n]; exact hl) _) (CostOk.rn _ _) (fun i _ h => by cases h)
  rw [L.s, hf.tab, L.n] at h
  exact h.mono fun e w' h => h.toldS L hr
end
theorem rnC8 : rnC 8 0 = 1473 := by decide +kernel
end Go.Proofs.Ythbifeoohphnpaa

/-
  spinneyplay.Perm: numbers put in, one by one.
-/
namespace Go.Proofs.Ythbifeoohphnpaa
set_option linter.unusedVariables false
open Go.RowKit
/-- a slice of bytes that came in -/
def BytesVal (w : World) (v : Value) (bs : List Nat) : Prop :=
  ∃ p cap, v = .slice p bs.length cap ∧ ∀ j x : Nat, bs[j]? = some x → x < 256 ∧ ∃ g off, p = some ⟨g, off, none⟩ ∧ w.cell? ⟨g, off + j, none⟩ = some (.int .u8 (x : Int))
/-- a slice of ints of the call's own -/
structure ISl (w : World) (base : Nat) (v : Value) (xs : List Int) : Prop where
  own : w.ownsRow base 3 1 v xs.length (xs.map (Value.int .i64))
/-- numbers put in, one by one -/
def ins (xs : List Int) (k : Nat) (v : Int) : List Int := xs.take k ++ (v :: xs.drop k)
structure SP (w wr : World) (v : Nat) (lv : Value) (xs : List Int) : Prop where
  keep : Below w.heap.size w wr
  row : ISl wr w.heap.size lv xs
  len : xs.length = v
  perm : xs.Perm ((List.range v).map fun (i : Nat) => (i : Int))

set_option maxRecDepth 100000 in
theorem iapp_run {w w1 : World} {v : Value} {xs : List Int} (h : ISl w1 w.heap.size v xs) (hw : w.heap.size ≤ w1.heap.size) (hn : xs.length < 1000) :
    ∃ g' cap' cur w', (Builtin.append_ #[38, 38] 38 #[v, .slice (some ⟨w1.heap.size, 0, none⟩) 1 1]).run Try.prog (w1.alloc (.cells #[.int .i64 0] 3)) = .ok (.slice (some ⟨g', 0, none⟩) (xs.length + 1) cap') w' ∧
      w'.heap[g']? = some (.cells cur 3 (0, 0)) ∧ xs.length + 1 ≤ cap' ∧ cur.size = cap' ∧ cap' ≤ maxLen ∧ cur.toList.take (xs.length + 1) = (xs ++ [0]).map (Value.int .i64) ∧
      (w1.alloc (.cells #[.int .i64 0] 3)).grownBy w' v.ownBlock ∧ w.heap.size ≤ g' ∧ (some g' = v.ownBlock ∨ g' = w1.heap.size + 1) := by
  obtain ⟨i0, hi, hz⟩ : ∃ i, Try.prog.info? 3 = some i ∧ i.zero = some (.int .i64 0) ∧ i.size = 1 ∧ i.bytes = 8 := by
    refine ⟨_, rfl, ?_⟩
    exact ⟨by kernel_rfl, by kernel_rfl, by kernel_rfl⟩
  have hB := Blk.new w1 3 #[Value.int .i64 0]
  have hgr := World.grownBy_alloc w1 (.cells #[.int .i64 0] 3) none
  have hsz : (w1.alloc (.cells #[.int .i64 0] 3)).heap.size = w1.heap.size + 1 := by simp
  have h1 : (w1.alloc (.cells #[.int .i64 0] 3)).ownsRow w.heap.size 3 1 v xs.length (xs.map (Value.int .i64)) := h.own.kept hgr (by cases e : v.ownBlock <;> simp)
  have hnews : ∀ j u, ([Value.int .i64 0] : List Value)[j]? = some u → (w1.alloc (.cells #[.int .i64 0] 3)).cell? ((⟨w1.heap.size, 0, none⟩ : Addr).add j) = some u := fun j u hj => by
    match j, hj with
    | 0, hj => simp at hj; subst hj; simp only [Addr.add, if_true]; rw [hB.cell]; rfl
    | j + 1, hj => simp at hj
  have hone : ∀ u ∈ ([Value.int .i64 0] : List Value), u.oneCell' = true := fun u hu => by simp at hu; subst hu; rfl
  obtain ⟨v', w', hr, ho, hg, hnil⟩ := run_append_own (P := Try.prog) (w1.alloc (.cells #[.int .i64 0] 3)) w.heap.size 38 38 3 i0 _ 1 8 Try.underlying38 hi hz.1 hz.2.1 hz.2.2 rfl (by omega) _ _ _ h1 ⟨w1.heap.size, 0, none⟩ 1 1 [.int .i64 0] rfl hnews hone (by unfold maxLen; omega) (by omega) (by omega)
  rcases ho.2 with ⟨h', _⟩ | ⟨g', cap', cur, rfl, hbg, hcur, hle, hcm, hcs, htake⟩
  · have := hnil.1 h'
    simp at this
  refine ⟨g', cap', cur, w', hr, hcur, hle, by simpa using hcs, hcm, by simpa using htake, hg, hbg, ?_⟩
  rcases h1.2 with ⟨rfl, h0⟩ | ⟨g, cap, cu, rfl, hbg2, hgg, hnc, hcm2, hcs2, htake2⟩
  · right
    obtain rfl : xs = [] := List.eq_nil_of_length_eq_zero h0
    have hr2 := run_append_nil (P := Try.prog) (w1.alloc (.cells #[.int .i64 0] 3)) 38 38 3 i0 _ Try.underlying38 hi hz.1 ⟨w1.heap.size, 0, none⟩ 1 1 [.int .i64 0] (by rw [hz.2.1]; rfl) hnews (by omega) (by omega) (by rw [hz.2.2]; omega)
    rw [hr] at hr2
    cases hr2
    exact hsz
  · by_cases hroom : xs.length + 1 ≤ cap
    · left
      have hr2 := run_append_room (P := Try.prog) (w1.alloc (.cells #[.int .i64 0] 3)) 38 38 3 i0 Try.underlying38 hi g xs.length cap cu hgg ⟨w1.heap.size, 0, none⟩ 1 1 [.int .i64 0] (by rw [hz.2.1]; rfl) hnews hone hroom (by rw [hcs2, hz.2.1]; simp; omega)
      rw [hr] at hr2
      cases hr2
      rfl
    · right
      have holds : ∀ j u, (xs.map (Value.int .i64))[j]? = some u → (w1.alloc (.cells #[.int .i64 0] 3)).cell? ((⟨g, 0, none⟩ : Addr).add j) = some u := h1.cells (g := g) rfl
      have hr2 := run_append_grow (P := Try.prog) (w1.alloc (.cells #[.int .i64 0] 3)) 38 38 3 i0 _ Try.underlying38 hi hz.1 ⟨g, 0, none⟩ xs.length cap (xs.map (Value.int .i64)) (by rw [hz.2.1]; simp) holds ⟨w1.heap.size, 0, none⟩ 1 1 [.int .i64 0] (by rw [hz.2.1]; rfl) hnews (by omega) (by omega) (growslice_fits (by omega) (by rw [hz.2.2]; omega))
      rw [hr] at hr2
      cases hr2
      exact hsz
/-- the row behind copy and store -/
theorem ins_row {xs : List Int} {cur : List Value} {k v : Nat} (hk : k ≤ xs.length) (hl : xs.length + 1 ≤ cur.length) (ht : cur.take (xs.length + 1) = (xs ++ [0]).map (Value.int .i64)) :
    ((splice cur (k + 1) ((xs.drop k).map (Value.int .i64))).set k (.int .i64 (v : Int))).take (xs.length + 1) = (ins xs k (v : Int)).map (Value.int .i64) := by
  have hcl : ((xs.drop k).map (Value.int .i64)).length = xs.length - k := by simp
  have h1 : cur.take (k + 1) = ((xs ++ [0]).map (Value.int .i64)).take (k + 1) := by
    rw [← ht, List.take_take, Nat.min_eq_left (by omega)]
  have h2 : cur.take k = (xs.take k).map (Value.int .i64) := by
    have : cur.take k = (cur.take (k + 1)).take k := by rw [List.take_take, Nat.min_eq_left (by omega)]
    rw [this, h1, List.take_take, Nat.min_eq_left (by omega), ← List.map_take, List.take_append_of_le_length hk]
  apply List.ext_getElem?
  intro j
  unfold splice ins
  rw [List.getElem?_take]
  by_cases hj : j < xs.length + 1
  · rw [if_pos hj, List.getElem?_set]
    have htl : (cur.take (k + 1)).length = k + 1 := by rw [List.length_take]; omega
    by_cases e : k = j
    · subst e
      have : k < (cur.take (k + 1) ++ ((xs.drop k).map (Value.int .i64) ++ cur.drop (k + 1 + ((xs.drop k).map (Value.int .i64)).length))).length := by rw [List.length_append, htl]; omega
      rw [if_pos rfl, if_pos this, List.map_append, List.map_cons, List.getElem?_append_right (by simp; omega), List.length_map, List.length_take, Nat.min_eq_left hk]
      simp
    · rw [if_neg e]
      by_cases hlt : j < k
      · rw [List.getElem?_append_left (by omega), List.map_append, List.getElem?_append_left (by simp; omega), ← h2, List.getElem?_take, List.getElem?_take, if_pos (by omega), if_pos hlt]
      · rw [List.getElem?_append_right (by omega), htl, List.getElem?_append_left (by rw [hcl]; omega), List.map_append, List.map_cons, List.getElem?_append_right (by simp; omega), List.length_map, List.length_take, Nat.min_eq_left hk]
        obtain ⟨d, hd⟩ : ∃ d, j - k = d + 1 := ⟨j - k - 1, by omega⟩
        rw [hd, List.getElem?_cons_succ, show j - (k + 1) = d from by omega]
  · rw [if_neg hj, List.getElem?_eq_none (by simp; omega)]
theorem ins_perm {xs : List Int} {k v : Nat} (h : xs.Perm ((List.range v).map fun (i : Nat) => (i : Int))) : (ins xs k (v : Int)).Perm ((List.range (v + 1)).map fun (i : Nat) => (i : Int)) := by
  unfold ins
  refine (List.perm_middle (l₁ := xs.take k) (l₂ := xs.drop k) (a := (v : Int))).trans ?_
  rw [List.take_append_drop, List.range_succ, List.map_append]
  refine (List.Perm.cons _ h).trans ?_
  simp only [List.map_cons, List.map_nil]
  exact (List.perm_append_singleton _ _).symm
theorem ins_length {xs : List Int} {k : Nat} {v : Int} : (ins xs k v).length = xs.length + 1 := by
  unfold ins; simp; omega

/-- behind the append, the copy and the store -/
theorem pap_after {w wc w2 : World} {v k g' cap' : Nat} {lv : Value} {xs : List Int} {cur : Array Value} (hS : SP w wc v lv xs)
    (hcur : w2.heap[g']? = some (.cells cur 3 (0, 0))) (hgr : (wc.alloc (.cells #[.int .i64 0] 3)).grownBy w2 lv.ownBlock)
    (hcs : cur.size = cap') (hcm : cap' ≤ maxLen) (hle : v + 1 ≤ cap') (htk : cur.toList.take (xs.length + 1) = (xs ++ [0]).map (Value.int .i64))
    (hbg : w.heap.size ≤ g') (hkv : k ≤ v) :
      ∀ w3, Below w.heap.size w2 w3 → w3.heap[g']? = some (.cells (splice cur.toList (k + 1) ((xs.drop k).map (Value.int .i64))).toArray 3 (0, 0)) →
        (∃ u, w3.cell? ⟨g', k, none⟩ = some u) ∧ w3.frozen? ⟨g', k, none⟩ = false ∧
        SP w (w3.setCell ⟨g', k, none⟩ (.int .i64 (v : Int))) (v + 1) (.slice (some ⟨g', 0, none⟩) (v + 1) cap') (ins xs k v) := by
  have hl := hS.len
  have hb : Below w.heap.size w w2 := (hS.keep.alloc hS.keep.size (.cells #[.int .i64 0] 3)).grown hgr (by simp; have := hS.keep.size; omega) (fun j hj => (hS.row.own.lt j hj).1)
  have hlen : (splice cur.toList (k + 1) ((xs.drop k).map (Value.int .i64))).length = cap' := by
    rw [length_splice]
    · simpa using hcs
    · simp; omega
  refine fun w3 hb3 hg3 => ⟨?_, ?_, ?_⟩
  · have hBk : Blk w3 g' 3 _ := ⟨hg3⟩
    refine ⟨_, (hBk.cell k).trans (Array.getElem?_eq_getElem (by rw [List.size_toArray, hlen]; omega))⟩
  · exact (Blk.mk hg3).frozen k
  · refine ⟨(hb.trans hb3).setCell hbg _, ⟨?_⟩, by rw [ins_length, hl], ins_perm hS.perm⟩
    refine ⟨by simp, .inr ⟨g', cap', _, by rw [ins_length, hl], hbg, ((Blk.mk hg3).set_ k (.int .i64 (v : Int))).eq, by rw [ins_length, hl]; exact hle, hcm, by rw [Array.size_setIfInBounds, List.size_toArray, hlen, Nat.mul_one], ?_⟩⟩
    rw [ins_length, Nat.mul_one]
    have := ins_row (xs := xs) (cur := cur.toList) (k := k) (v := v) (by omega) (by simp [hcs]; omega) htk
    simpa using this
/-- what is copied lies there -/
theorem ins_src {xs : List Int} {cur : Array Value} {k : Nat} {w : World} {g' : Nat} (hcur : w.heap[g']? = some (.cells cur 3 (0, 0))) (htk : cur.toList.take (xs.length + 1) = (xs ++ [0]).map (Value.int .i64))
    (j : Nat) (u : Value) (h : ((xs.drop k).map (Value.int .i64))[j]? = some u) : w.cell? ((⟨g', k, none⟩ : Addr).add j) = some u := by
  rw [List.getElem?_map, List.getElem?_drop] at h
  have hlt : k + j < xs.length := by
    cases e : xs[k + j]? with
    | none => rw [e] at h; cases h
    | some y => exact (List.getElem?_eq_some_iff.1 e).1
  have e1 : (cur.toList.take (xs.length + 1))[k + j]? = some u := by
    rw [htk, List.getElem?_map, List.getElem?_append_left hlt]
    exact h
  rw [List.getElem?_take, if_pos (by omega), Array.getElem?_toList] at e1
  have ea : (⟨g', k, none⟩ : Addr).add j = ⟨g', k + j, none⟩ := by
    simp only [Addr.add]
    split
    · rename_i e0; subst e0; rfl
    · rfl
  rw [ea, (Blk.mk hcur).cell]
  exact e1

set_option maxRecDepth 100000 in
/-- a cut 'l[j:]' of a row of one's own, in a region whose order is open: where it lies is told only if there is room behind it -/
theorem still_cut {ops : Array Oper} {w : World} {Q : Act → Prop} {a : Act} {o : Oper} {rest : List Oper} (hgd : o.guard = none) (x l : Operand)
    (ho : o.op = .slice 38 x (some l) none none) (g n c j : Nat) (hx : a.eval x = .slice (some ⟨g, 0, none⟩) n c) (hl : a.eval l = .int .i64 (j : Int)) (hj : j ≤ n)
    (h : ∀ p, Bx (j < c → p = some ⟨g, j, none⟩) → wpStill Try.prog ops w Q rest (a.put o.dst (.slice p (n - j) (c - j)))) : wpStill Try.prog ops w Q (o :: rest) a := by
  refine wpStill_step (fun K hK => ?_)
  have hw : Region.wanted o (yielded ops a.tmps) = true := by simp [Region.wanted, hgd]
  rw [if_pos hw]
  have e1 : (execOp a.eval o).run Try.prog w = .ok (.value (.slice (if c = j then some ⟨g, 0, none⟩ else some ⟨g, j, none⟩) (n - j) (c - j))) w := by
    have h1 : (Instr.slice 38 (.slice (some ⟨g, 0, none⟩) n c) (some (.int .i64 (j : Int))) none none).run Try.prog w = _ := run_slice_l (P := Try.prog) w 38 (some ⟨g, 0, none⟩) n c (by kernel_rfl) .i64 (j : Int) (by omega) (by omega)
    have h2 : (sizeOf (Try.prog.elem 38)).run Try.prog w = .ok 1 w := by go_simp
    have h3 := run_sliceAt_slice (P := Try.prog) w 38 (.slice (some ⟨g, 0, none⟩) n c) (some (.int .i64 (j : Int))) none none (by kernel_rfl)
    simp only [execOp, ho, Option.map_some, Option.map_none, hx, hl, Sem.run_bind, h3, h1, h2, Result.andThen_ok, Sem.run_pure, sliced, Int.toNat_natCast, Option.map_some, Addr.add]
    congr 3
    by_cases e : c = j
    · simp [e]
    · simp [e]
      intro h0
      omega
  unfold Oper.still
  rw [e1]
  refine ⟨rfl, hK _ (h _ ⟨fun hlt => by rw [if_neg (by omega)]⟩)⟩


set_option maxRecDepth 100000 in
set_option maxHeartbeats 4000000 in
theorem perm_walk (vb : Value) (bs : List Nat) (w : World) (hV : BytesVal w vb bs) (hb8 : bs.length ≤ 8) :
    Calls Try.prog 24 #[.int .i64 8, vb] w fun e w' => ∃ lv xs, e = .returned lv ∧ SP w w' 8 lv xs := by
  obtain ⟨pb, capb, rfl, hB⟩ := hV
  have q1 : (bs.length : Int) ≤ 8 := by omega
  go_enter Try.func24, Try.ntmps24
  go_wp2_with fail
  go_loopw [5, 6, 7] (fun lv i _ wr => ∃ (v : Nat) (xs : List Int), v ≤ 8 ∧ i = .int .i64 v ∧ SP w wr v lv xs) (fun _ i _ _ => 8 - (intOf i).toNat)
  case atStart => exact ⟨0, [], by omega, rfl, Below.refl _ _, ⟨World.ownsRow_nil _ _ _ _⟩, rfl, by simp⟩
  case round =>
    obtain ⟨v, xs, hv8, rfl, hS⟩ := hrel
    by_cases hlt : v < 8
    · obtain ⟨k, hk⟩ : ∃ k, Bx (k = if v < bs.length then (bs.getD v 0) % (v + 1) else 0) := ⟨_, ⟨rfl⟩⟩
      have hkv : k ≤ v := by
        have := hk.out
        split at this
        · have := Nat.mod_lt (bs.getD v 0) (show 0 < v + 1 by omega); omega
        · omega
      go_upto_if 16 with fail
      go_cut [7] (fun kv w' => kv = .int .i64 (k : Int) ∧ w' = wr)
      case first =>
        by_cases hin : v < bs.length
        · obtain ⟨x, hx⟩ : ∃ x, bs[v]? = some x := ⟨_, List.getElem?_eq_getElem hin⟩
          obtain ⟨hx8, gb, offb, rfl, hcb⟩ := hB v x hx
          have c0 : wr.cell? ⟨gb, offb + v, none⟩ = some (.int .u8 (x : Int)) := by rw [hS.keep.cell (block_lt_of_cell hcb)]; exact hcb
          have hkx : k = x % (v + 1) := by have := hk.out; rw [if_pos hin, List.getD_eq_getElem?_getD, hx] at this; exact this
          have e1 : (x : Int) % ((v : Int) + 1) = (k : Int) := by rw [hkx]; rfl
          have HK := Bx.mk e1
          have e3 : (x : Int) < 256 := by omega
          clear hS hk hkx e1
          go_wp2_with fail
          go_meet
          case rel => exact ⟨by rw [HK.out], rfl⟩
        · have hk0 : k = 0 := by have := hk.out; rw [if_neg hin] at this; exact this
          clear hk
          subst hk0
          go_wp2_with fail
          go_meet
          case rel => exact ⟨rfl, rfl⟩
      case rest =>
        obtain ⟨rfl, rfl⟩ := hcut
        clear hk
        have hxl := hS.len
        obtain ⟨g', cap', cur, w2, hr2, hcur, hle, hcs, hcm, htk, hgr, hbg, hwh⟩ := iapp_run hS.row hS.keep.size (by omega)
        have HS := Bx.mk hS
        have HC := Bx.mk hcur
        have HG := Bx.mk hgr
        clear hS hcur hgr hB hwh
        rw [hxl] at hr2 hle
        go_wp2_with (first | (at_builtin; refine wpList_by_append _ rfl _ _ _ rfl rfl rfl hr2 ?_) | fail)
        have HR := Bx.mk (pap_after HS.out HC.out HG.out hcs hcm hle htk hbg hkv)
        have hC := HC.out
        refine region_tail 7 (by kernel_rfl) (by kernel_rfl) ?_
        simp only [List.take_succ_cons, List.take_zero, List.drop_succ_cons, List.drop_zero]
        repeat still_step
        rw [show IntKind.i64.wrap ((k : Int) + 1) = ((k + 1 : Nat) : Int) from by rw [IntKind.wrap_i64]; omega]
        refine still_cut rfl _ _ rfl g' (v + 1) cap' (k + 1) rfl rfl (by omega) fun p1 hp1 => ?_
        repeat still_step
        refine still_cut rfl _ _ rfl g' (v + 1) cap' k rfl rfl (by omega) fun p2 hp2 => ?_
        refine wpStill_nil ?_
        refine wpList_copy_splice rfl _ _ _ _ rfl 3 (by kernel_rfl) (by kernel_rfl) p1 p2 (v - k) (cap' - (k + 1)) (v + 1 - k) (cap' - k) rfl rfl g' (k + 1) cur.toList 3 (show w2.heap[g']? = some (.cells cur.toList.toArray _ _) by simpa using hC) ((xs.drop k).map (Value.int .i64)) ?_ ?_ ?_ ?_ w.heap.size w2 ((Below.refl _ _).drew) (by omega) fun w3 hg3 hb3 => ?_
        · rw [List.length_map, List.length_drop, hxl]
          exact (Nat.min_eq_right (by omega)).symm
        · intro h0
          rw [List.length_map, List.length_drop, hxl] at h0
          exact ⟨hp1.out (by omega), _, hp2.out (by omega), ins_src (w := w2.drew) hC htk⟩
        · rw [List.length_map, List.length_drop, hxl, Array.length_toList, hcs]; omega
        · intro u hu
          obtain ⟨y, _, rfl⟩ := List.mem_map.1 hu
          rfl
        · obtain ⟨⟨u, hcell⟩, hfr, hSZ⟩ := HR.out w3 hb3 hg3
          have HZ := Bx.mk hSZ
          clear hSZ hg3 hb3 hC hp1 hp2 HR HC HS HG hr2 htk
          go_wp2_with fail
          exact ⟨⟨v + 1, ins xs k v, by omega, by go_num, HZ.out⟩, by simp [intOf]; omega⟩
    · obtain rfl : v = 8 := by omega
      have HS := Bx.mk hS
      clear hB hS
      go_wp2_with fail
      go_ret
      exact ⟨_, xs, rfl, HS.out⟩
end Go.Proofs.Ythbifeoohphnpaa

/-
  The law ComposeBack.
-/
namespace Go.Proofs.Ythbifeoohphnpaa
set_option linter.unusedVariables false
open Go.RowKit
theorem made8 : madeCells #[Value.int .i64 0] 8 = ((ints (List.replicate 8 0)).map (Value.int .i64)).toArray := by
  rw [show madeCells #[Value.int .i64 0] 8 = (List.replicate 8 (Value.int .i64 0)).toArray from by rw [← toList_madeCells_one]]
  rfl
/-- the way back, so far -/
structure BL (w4 wr : World) (xn ys : List Nat) (k : Nat) : Prop where
  blk : Blk wr w4.heap.size 3 ((ints ys).map (Value.int .i64)).toArray
  fr : Fr [] w4 wr
  len : ys.length = 8
  done : ∀ j x, j < k → xn[j]? = some x → ys[x]? = some j
theorem BL.put {w4 wr : World} {xn ys : List Nat} {k x : Nat} (h : BL w4 wr xn ys k) (hx : xn[k]? = some x) (h8 : x < 8) (hnd : xn.Nodup) : BL w4 (wr.setCell ⟨w4.heap.size, x, none⟩ (.int .i64 (k : Int))) xn (ys.set x k) (k + 1) := by
  refine ⟨?_, h.fr.setCell (fun hp => absurd hp (by simp)) _, by rw [List.length_set, h.len], fun j y hj hy => ?_⟩
  · have := h.blk.set_ x (.int .i64 (k : Int))
    rw [List.setIfInBounds_toArray] at this
    have e : (ints (ys.set x k)).map (Value.int .i64) = ((ints ys).map (Value.int .i64)).set x (.int .i64 (k : Int)) := by unfold ints; rw [List.map_set, List.map_set]
    rw [e]
    exact this
  · by_cases e : j = k
    · subst e
      rw [hx] at hy
      cases hy
      rw [List.getElem?_set, if_pos rfl, if_pos (by rw [h.len]; exact h8)]
    · have hne : x ≠ y := fun e2 => by
        subst e2
        exact e (((List.getElem?_inj (by have := (List.getElem?_eq_some_iff.1 hy).1; exact this) hnd).1 (hy.trans hx.symm)))
      rw [List.getElem?_set, if_neg hne]
      exact h.done j y (by omega) hy
/-- a slice of one's own of eight numbers, from small numbers in whatever order -/
theorem SP.shape {w w' : World} {lv : Value} {xs : List Int} (h : SP w w' 8 lv xs) : ∃ (g cap : Nat) (cs : Array Value) (xn : List Nat), lv = .slice (some ⟨g, 0, none⟩) xn.length cap ∧ w.heap.size ≤ g ∧ Blk w' g 3 cs ∧ xs = ints xn ∧ xn.length = 8 ∧ (∀ x ∈ xn, x < 8) ∧ (∀ v, v < 8 → v ∈ xn) ∧ xn.Nodup ∧
    (∀ (j : Nat) (x : Int), xs[j]? = some x → cs[j]? = some (.int .i64 x)) := by
  have hl := h.len
  have hnd : xs.Nodup := h.perm.nodup_iff.2 (by decide)
  have hm := fun (x : Int) => h.perm.mem_iff (a := x)
  obtain ⟨xn, hxn⟩ : ∃ xn : List Nat, xs = ints xn := by
    refine ⟨xs.map Int.toNat, ?_⟩
    unfold ints
    rw [List.map_map]
    refine (List.map_id xs).symm.trans (List.map_congr_left fun x hx => ?_)
    obtain ⟨v, _, rfl⟩ := List.mem_map.1 ((hm x).1 hx)
    simp
  subst hxn
  have hlen : xn.length = 8 := by unfold ints at hl; simpa using hl
  rcases h.row.own.2 with ⟨h', h0⟩ | ⟨g, cap, cur, h', hbg, hg, hnc, hcm, hcs, htake⟩
  · omega
  · refine ⟨g, cap, cur, xn, by rw [h', hl, hlen], hbg, ⟨hg⟩, rfl, hlen, fun x hx => ?_, fun v hv => ?_, ?_, fun j x hj => ?_⟩
    · have : (x : Int) ∈ ints xn := by unfold ints; exact List.mem_map.2 ⟨x, hx, rfl⟩
      obtain ⟨v, hv, e⟩ := List.mem_map.1 ((hm _).1 this)
      have := List.mem_range.1 hv
      omega
    · have : (v : Int) ∈ ints xn := (hm _).2 (List.mem_map.2 ⟨v, List.mem_range.2 hv, rfl⟩)
      unfold ints at this
      obtain ⟨u, hu, e⟩ := List.mem_map.1 this
      have : u = v := by omega
      exact this ▸ hu
    · unfold ints at hnd
      exact List.Pairwise.imp (fun h e => h (by rw [e])) (List.pairwise_map.1 hnd)
    · have hlt : j < (ints xn).length := (List.getElem?_eq_some_iff.1 hj).1
      have e1 : (cur.toList.take ((ints xn).length * 1))[j]? = some (.int .i64 x) := by rw [htake, List.getElem?_map, hj]; rfl
      rw [List.getElem?_take, if_pos (by omega), Array.getElem?_toList] at e1
      exact e1
set_option maxRecDepth 100000 in
set_option maxHeartbeats 4000000 in
theorem composeBack_any (F : Tb.T) (vb : Value) (bs : List Nat) (w : World) (hV : BytesVal w vb bs) :
    Calls Try.prog 8 #[Tb.tv F, vb] w fun e w' => e = .returned (.bool true) ∧ Below w.heap.size w w' := by
  obtain ⟨i1, hi1, hz1⟩ := info_int
  have HMI := Bx.mk (fun u : World => (by have h := run_make (P := Try.prog) u 38 3 i1 _ Try.underlying38 hi1 hz1.1 .i64 .i64 8 8 (by omega) (Int.le_refl _) (by rw [hz1.2.2]; omega) (by omega); rw [hz1.2.1] at h; exact h : (Instr.makeSlice 38 (.int .i64 8) (.int .i64 8)).run Try.prog u = .ok (.slice (some ⟨u.heap.size, 0, none⟩) 8 8) (u.alloc (.cells (madeCells #[Value.int .i64 0] 8) 3))))
  clear hi1 hz1
  have HV := Bx.mk hV
  obtain ⟨pb, capb, rfl, hB⟩ := hV
  clear hB
  have hf0 : Fr [] w (w.alloc (.cells (Tb.tcells F) 24)) := (Fr.refl _ _).alloc _
  have hb0 := Blk.new w 24 (Tb.tcells F)
  have HF0 := Bx.mk hf0
  have HB0 := Bx.mk hb0
  have HKN := Bx.mk (known13_any (w.alloc (.cells (Tb.tcells F) 24)))
  clear hf0 hb0
  by_cases h8 : bs.length > 8
  · have q1 : (bs.length : Int) > 8 := by omega
    go_enter Try.func8, Try.ntmps8
    go_wp2_with fail
    refine HKN.out.mono ?_
    rintro e w1 ⟨rfl, hb⟩
    have HB := Bx.mk ((HF0.out.step hb HF0.out.size).below (Nat.le_refl _) (by simp))
    clear hb HKN
    go_wp2_with fail
    go_ret
    exact ⟨rfl, HB.out⟩
  · have q1 : ¬ (bs.length : Int) > 8 := by omega
    have HN : Bx (∀ u, Calls Try.prog 10 #[.int .i64 8, .int .i64 32768] u fun e w' => ∃ s B, e = .returned (.tuple #[.pointer (some ⟨s, 0, none⟩), .int .i64 0]) ∧ Ls u s 8 32768 0 B (Sto.new 8 32768) w') := ⟨fun u => Ls.new 8 32768 u (by omega) (by omega) (by omega) (by omega)⟩
    go_enter Try.func8, Try.ntmps8
    go_wp2_with fail
    refine HKN.out.mono ?_
    rintro e w1 ⟨rfl, hb⟩
    have HF1 : Bx (Fr [] w w1) := ⟨HF0.out.step hb HF0.out.size⟩
    have HB1 : Bx (Blk w1 w.heap.size 24 (Tb.tcells F)) := ⟨HB0.out.fr (Fr.of_below hb (Nat.le_refl _)) (S := []) (by simp)⟩
    clear hb HKN HB0
    go_wp2_with fail
    refine (HN.out w1).mono ?_
    rintro e w2 ⟨s, B2, rfl, L2⟩
    have HB2 : Blk w2 w.heap.size 24 (Tb.tcells F) := HB1.out.fr L2.fr (by simp)
    have HL2 := Bx.mk L2
    obtain ⟨⟨y0, y1, y2, y3⟩, z0, z1, z2, z3⟩ := tfacts HB2
    have HMK := Bx.mk (L2.make F (fun v h1 h2 => by omega) (by decide +kernel))
    clear L2 HN HB1 HB2
    go_wp2_with fail
    (with_reducible refine HMK.out.mono ?_)
    rintro e w3 ⟨S3, B3, L3, k3, n3, a, rfl, da⟩
    have HL3 := Bx.mk L3
    have HDA := Bx.mk da
    have hw3 : Bx (Fr [] w w3) := ⟨HF1.out.trans L3.fr (by simp)⟩
    have HPW := Bx.mk (perm_walk _ bs w3 (by
      obtain ⟨p, c, e, h⟩ := HV.out
      exact ⟨p, c, e, fun j x hj => by
        obtain ⟨h1, g, off, h2, h3⟩ := h j x hj
        exact ⟨h1, g, off, h2, by rw [(hw3.out.below (Nat.le_refl _) (by simp)).cell (block_lt_of_cell h3)]; exact h3⟩⟩) (by omega))
    clear L3 k3 n3 da HMK y0 y1 y2 y3 z0 z1 z2 z3 HL2
    go_wp2_with fail
    (with_reducible refine HPW.out.mono ?_)
    rintro e w4 ⟨lv, xs, rfl, hsp⟩
    obtain ⟨gt, cap, cs, xn, rfl, hgt, hbt, rfl, hlen, hlt, hall, hnd, hcs⟩ := hsp.shape
    have HL4 := Bx.mk (HL3.out.below hsp.keep)
    have HP : Bx (gt < w4.heap.size ∧ gt ∉ B3.own ∧ Blk w4 gt 3 cs ∧ xn.length = 8 ∧ (∀ x ∈ xn, x < 8) ∧ (∀ v, v < 8 → v ∈ xn) ∧ xn.Nodup ∧ (∀ (j : Nat) (x : Int), (ints xn)[j]? = some x → cs[j]? = some (.int .i64 x))) := ⟨hbt.lt, HL3.out.noOwn hgt, hbt, hlen, hlt, hall, hnd, hcs⟩
    rw [hlen]
    clear hsp hgt hbt hlt hall hnd hcs HL3 HPW HV
    have hbn := Blk.new w4 3 (madeCells #[Value.int .i64 0] 8)
    have hfn : Fr [] w4 (w4.alloc (.cells (madeCells #[Value.int .i64 0] 8) 3)) := (Fr.refl _ _).alloc _
    have HBL : Bx (BL w4 (w4.alloc (.cells (madeCells #[Value.int .i64 0] 8) 3)) xn (List.replicate 8 0) 0) := ⟨⟨by
      rw [show ((ints (List.replicate 8 0)).map (Value.int .i64)).toArray = madeCells #[Value.int .i64 0] 8 from made8.symm]
      exact hbn, hfn, by simp, fun j x hj _ => by omega⟩⟩
    have hmk := HMI.out w4
    clear hbn hfn HMI
    go_wp2_with fail
    clear hmk
    go_loopw [11] (fun i wr => ∃ (k : Nat) (ys : List Nat), k ≤ 8 ∧ i = .int .i64 (k : Int) ∧ BL w4 wr xn ys k) (fun i _ => 8 - (intOf i).toNat)
    case atStart => exact ⟨0, _, by omega, rfl, HBL.out⟩
    case round =>
      clear HBL
      obtain ⟨k, ys, hk, rfl, hS⟩ := hrel
      by_cases hlt : k < 8
      · obtain ⟨x, hx⟩ : ∃ x, xn[k]? = some x := ⟨_, List.getElem?_eq_getElem (by rw [hlen]; exact hlt)⟩
        have hx8 := HP.out.2.2.2.2.1 x (List.mem_of_getElem? hx)
        have hxi : (ints xn)[k]? = some (x : Int) := by unfold ints; rw [List.getElem?_map, hx]; rfl
        have c0 : wr.cell? ⟨gt, k, none⟩ = some (.int .i64 (x : Int)) := (HP.out.2.2.1.fr hS.fr (by simp)).cellEq (HP.out.2.2.2.2.2.2.2 k _ hxi)
        have hz0 : wr.frozen? ⟨w4.heap.size, x, none⟩ = false := hS.blk.frozen x
        obtain ⟨u, hu⟩ : ∃ u, wr.cell? ⟨w4.heap.size, x, none⟩ = some u := ⟨_, (hS.blk.cell x).trans (Array.getElem?_eq_getElem (by rw [List.size_toArray, List.length_map]; unfold ints; rw [List.length_map, hS.len]; exact hx8))⟩
        have HZ := Bx.mk (hS.put hx hx8 HP.out.2.2.2.2.2.2.1)
        have q2 : (x : Int) < 8 := by omega
        have q3 : (0 : Int) ≤ (x : Int) := by omega
        clear hS hx hx8 hxi hlen
        go_wp2_with fail
        go_round
        case rel => exact ⟨k + 1, _, by omega, by go_num, HZ.out⟩
        case measure => simp [intOf]; omega
      · obtain rfl : k = 8 := by omega
        have HS := Bx.mk hS
        have hall : ∀ i, i < 8 → ∃ x, xn[i]? = some x ∧ x < 8 ∧ ys[x]? = some i := fun i hi => by
          obtain ⟨x, hx⟩ : ∃ x, xn[i]? = some x := ⟨_, List.getElem?_eq_getElem (by rw [hlen]; exact hi)⟩
          exact ⟨x, hx, HP.out.2.2.2.2.1 x (List.mem_of_getElem? hx), hS.done i x hi hx⟩
        have hys : ∀ y ∈ ys, y < 8 := fun y hy => by
          obtain ⟨i, hi⟩ := List.getElem?_of_mem hy
          have hi8 : i < 8 := by have := (List.getElem?_eq_some_iff.1 hi).1; rw [hS.len] at this; exact this
          obtain ⟨j, hj⟩ := List.getElem?_of_mem (HP.out.2.2.2.2.2.1 i hi8)
          have hj8 : j < 8 := by have := (List.getElem?_eq_some_iff.1 hj).1; rw [hlen] at this; exact this
          rw [hS.done j i hj8 hj] at hi
          cases hi
          exact hj8
        have HY := Bx.mk (And.intro hall hys)
        have L5 := HL4.out.fr0 hS.fr
        have HR1 : Bx (Calls Try.prog 36 #[.pointer (some ⟨s, 0, none⟩), .int .u32 (a : Int), .slice (some ⟨gt, 0, none⟩) 8 cap] wr (ToldS w1 s 8 32768 (0 + Sto.cost 8 0 + (8 + rnC 8 0)) B3 wr S3 (Tb.subst F (gtOf (varTs xn))))) := ⟨by
          have h := L5.renameS (cap := cap) (xs := xn) HDA.out (RdN.blk (HP.out.2.2.1.fr hS.fr (by simp)) HP.out.2.1 HP.out.2.2.2.2.2.2.2) HP.out.2.2.2.2.1 hlen (by rw [rnC8]; decide +kernel)
          rw [hlen] at h
          exact h⟩
        have HRB : Bx (RdN .i64 B3 wr (some ⟨w4.heap.size, 0, none⟩) (ints ys)) := ⟨RdN.blk hS.blk (HL4.out.noOwn (Nat.le_refl _)) (fun j x hj => by rw [List.getElem?_toArray, List.getElem?_map, hj]; rfl)⟩
        have HYL := Bx.mk hS.len
        clear hS hall hys L5 hlen
        go_wp2_with fail
        (with_reducible refine HR1.out.mono ?_)
        rintro e w6 ⟨S5, B5, L6, k6, st6, x, rfl, dx⟩
        have HDA6 := Bx.mk (HDA.out.ext k6)
        have HR2 : Bx (Calls Try.prog 36 #[.pointer (some ⟨s, 0, none⟩), .int .u32 (x : Int), .slice (some ⟨w4.heap.size, 0, none⟩) 8 8] w6 (ToldS w1 s 8 32768 (0 + Sto.cost 8 0 + (8 + rnC 8 0) + (8 + rnC 8 0)) B5 w6 S5 F)) := ⟨by
          have h := L6.renameS (cap := 8) (xs := ys) dx (HRB.out.step st6) HY.out.2 HYL.out (by rw [rnC8]; decide +kernel)
          rw [HYL.out, Tb.subst_back HY.out.1] at h
          exact h⟩
        clear L6 k6 st6 dx HR1 HRB
        go_wp2_with fail
        (with_reducible refine HR2.out.mono ?_)
        rintro e w7 ⟨S7, B7, L7, k7, st7, y, rfl, dy⟩
        have HDA7 := Bx.mk (HDA6.out.ext k7)
        have DY := Bx.mk dy
        have hbl := Blk.new w7 3 #[.int .i64 0, .int .i64 1, .int .i64 2, .int .i64 3, .int .i64 4, .int .i64 5, .int .i64 6, .int .i64 7]
        have hf7 : Fr [] w7 (w7.alloc (.cells #[.int .i64 0, .int .i64 1, .int .i64 2, .int .i64 3, .int .i64 4, .int .i64 5, .int .i64 6, .int .i64 7] 3)) := (Fr.refl _ _).alloc _
        have HR3 : Bx (Calls Try.prog 36 #[.pointer (some ⟨s, 0, none⟩), .int .u32 (a : Int), .slice (some ⟨w7.heap.size, 0, none⟩) 8 8] (w7.alloc (.cells #[.int .i64 0, .int .i64 1, .int .i64 2, .int .i64 3, .int .i64 4, .int .i64 5, .int .i64 6, .int .i64 7] 3)) (ToldS w1 s 8 32768 (0 + Sto.cost 8 0 + (8 + rnC 8 0) + (8 + rnC 8 0) + (8 + rnC 8 0)) B7 (w7.alloc (.cells #[.int .i64 0, .int .i64 1, .int .i64 2, .int .i64 3, .int .i64 4, .int .i64 5, .int .i64 6, .int .i64 7] 3)) S7 F)) := ⟨by
          have h := (L7.fr0 hf7).renameS (cap := 8) (xs := [0, 1, 2, 3, 4, 5, 6, 7]) HDA7.out (RdN.blk hbl (L7.noOwn (Nat.le_refl _)) (fun j x hj => by
            match j with
            | 0 | 1 | 2 | 3 | 4 | 5 | 6 | 7 => cases hj; rfl
            | j + 8 => simp [ints] at hj)) (by decide) rfl (by rw [rnC8]; decide +kernel)
          rw [Tb.subst_same] at h
          exact h⟩
        clear L7 k7 st7 dy hbl hf7 HR2
        go_wp2_with fail
        (with_reducible refine HR3.out.mono ?_)
        rintro e w8 ⟨S8, B8, L8, k8, st8, z, rfl, dz⟩
        have DA8 := HDA7.out.ext k8
        have hya : y = a := (L8.eq (DY.out.ext k8) DA8).2 rfl
        have hza : z = a := (L8.eq dz DA8).2 rfl
        have k01 : ((y : Int) == (a : Int)) = true := by rw [beq_iff_eq]; omega
        have k02 : ((z : Int) == (a : Int)) = true := by rw [beq_iff_eq]; omega
        have HE : Bx (Below w.heap.size w w8) := ⟨(HF1.out.trans L8.fr (by simp)).below (Nat.le_refl _) (by simp)⟩
        clear L8 k8 st8 dz DA8 hya hza HR3
        go_wp2_with fail
        go_ret
        exact ⟨rfl, HE.out⟩
end Go.Proofs.Ythbifeoohphnpaa

/-
  Tables and slices of bytes among the arguments of a law.
-/
namespace Go.Proofs.Ythbifeoohphnpaa
open Go.ChangeShapes Go.WideShapes Go.ChangeAt Go.RowKit Go.ChangeMaps
set_option linter.unusedVariables false
set_option maxRecDepth 100000

theorem kf_arr : WideMaps.ArrKey Try.prog 24 22 4 := ⟨Try.underlying24, by kernel_rfl, by kernel_rfl, by kernel_rfl⟩
def Tb.ofW (a b c d : Int) : Tb.T := (BitVec.ofInt 64 d ++ BitVec.ofInt 64 c) ++ (BitVec.ofInt 64 b ++ BitVec.ofInt 64 a)
theorem Tb.ofW_wd (a b c d : Int) (ha : 0 ≤ a ∧ a < 18446744073709551616) (hb : 0 ≤ b ∧ b < 18446744073709551616) (hc : 0 ≤ c ∧ c < 18446744073709551616) (hd : 0 ≤ d ∧ d < 18446744073709551616) :
    Tb.wd (Tb.ofW a b c d) 0 = a ∧ Tb.wd (Tb.ofW a b c d) 1 = b ∧ Tb.wd (Tb.ofW a b c d) 2 = c ∧ Tb.wd (Tb.ofW a b c d) 3 = d := by
  have key : ∀ x : Int, 0 ≤ x ∧ x < 18446744073709551616 → ((BitVec.ofInt 64 x).toNat : Int) = x := by
    intro x hx
    rw [BitVec.toNat_ofInt]; omega
  have e : ∀ i : Nat, i < 4 → (Tb.ofW a b c d).extractLsb' (64 * i) 64 = [BitVec.ofInt 64 a, BitVec.ofInt 64 b, BitVec.ofInt 64 c, BitVec.ofInt 64 d].getD i 0 := by
    intro i hi
    apply BitVec.eq_of_getLsbD_eq
    intro j hj
    unfold Tb.ofW
    rw [BitVec.getLsbD_extractLsb']
    match i, hi with
    | 0, _ => simp only [BitVec.getLsbD_append, show 64 * 0 + j < 64 + 64 from by omega, show 64 * 0 + j < 64 from by omega, hj]; simp
    | 1, _ => simp only [BitVec.getLsbD_append, show 64 * 1 + j < 64 + 64 from by omega, show ¬ (64 * 1 + j < 64) from by omega, hj, show 64 * 1 + j - 64 = j from by omega]; simp
    | 2, _ => simp only [BitVec.getLsbD_append, show ¬ (64 * 2 + j < 64 + 64) from by omega, show 64 * 2 + j - (64 + 64) = j from by omega, hj]; simp
    | 3, _ => simp only [BitVec.getLsbD_append, show ¬ (64 * 3 + j < 64 + 64) from by omega, show 64 * 3 + j - (64 + 64) = 64 + j from by omega, show ¬ (64 + j < 64) from by omega, show 64 + j - 64 = j from by omega, hj]; simp
  unfold Tb.wd
  rw [e 0 (by omega), e 1 (by omega), e 2 (by omega), e 3 (by omega)]
  exact ⟨key a ha, key b hb, key c hc, key d hd⟩

def tabD {H : Type} (F : Tb.T) : DataW H := .agg [.lit (.int .u64 (Tb.wd F 0)), .lit (.int .u64 (Tb.wd F 1)), .lit (.int .u64 (Tb.wd F 2)), .lit (.int .u64 (Tb.wd F 3))]

theorem list4 {α : Type} (l : List α) (h : (⟨l⟩ : Array α).size = 4) : ∃ a b c d, l = [a, b, c, d] := by
  match l, h with
  | [a, b, c, d], _ => exact ⟨a, b, c, d, rfl⟩
theorem wf_u64_mk {a : Int} (h0 : 0 ≤ a) (h1 : a < 18446744073709551616) : (Lit.int .u64 a).wf = true := by
  simp [Lit.wf, IntKind.min, IntKind.max, IntKind.signed, IntKind.bits]; omega

section
variable {H : Type} {enc : TypeId × Value → H} {W : World} {base : Nat} {sp : Nat → Bool} {held : Bool}
theorem open_tab {r : Reach} {b0 : Nat} {v : Value} {d : DataW H} {ps : List MemPlace} (hval : Value.okWide Try.prog W r b0 24 v) (hd : DataW.Trod enc Try.prog W base sp held 24 v d ps) :
    ∃ F : Tb.T, v = Tb.tv F ∧ d = tabD F ∧ ps = [] := by
  obtain ⟨cs, rfl, hsz, _⟩ : ∃ cs, v = .agg cs ∧ cs.size = Try.prog.cellsOf 24 ∧ Row.okWide Try.prog W r b0 24 cs := by
    simpa [Value.okWide, Try.underlying24] using hval
  rw [kf_arr.size] at hsz
  obtain ⟨l⟩ := cs
  obtain ⟨c0, c1, c2, c3, rfl⟩ := list4 l hsz
  obtain ⟨fuel, hf⟩ := hd
  obtain ⟨y0, y1, y2, y3, m, hx, hy0, hy1, hy2, hy3⟩ := trod_array4 Try.underlying24 kf_arr.one hf
  obtain ⟨x0, e0, rfl, w0⟩ := DataW.trod_int Try.underlying22 hy0
  obtain ⟨x1, e1, rfl, w1⟩ := DataW.trod_int Try.underlying22 hy1
  obtain ⟨x2, e2, rfl, w2⟩ := DataW.trod_int Try.underlying22 hy2
  obtain ⟨x3, e3, rfl, w3⟩ := DataW.trod_int Try.underlying22 hy3
  simp at e0 e1 e2 e3
  subst e0 e1 e2 e3
  simp only [Prod.mk.injEq] at hx
  obtain ⟨rfl, rfl⟩ := hx
  obtain ⟨h0, h1, h2, h3⟩ := Tb.ofW_wd x0 x1 x2 x3 (wf_u64 w0) (wf_u64 w1) (wf_u64 w2) (wf_u64 w3)
  exact ⟨Tb.ofW x0 x1 x2 x3, by unfold Tb.tv; rw [h0, h1, h2, h3], by unfold tabD; rw [h0, h1, h2, h3], rfl⟩
theorem shut_tab (F : Tb.T) : DataW.Trod enc Try.prog W base sp held 24 (Tb.tv F) (tabD F) [] := by
  have w0 := wf_u64_mk (Tb.wd_lo F 0) (Tb.wd_hi F 0)
  have w1 := wf_u64_mk (Tb.wd_lo F 1) (Tb.wd_hi F 1)
  have w2 := wf_u64_mk (Tb.wd_lo F 2) (Tb.wd_hi F 2)
  have w3 := wf_u64_mk (Tb.wd_lo F 3) (Tb.wd_hi F 3)
  exact ⟨2, by simp [DataW.trod, Value.cells, Try.underlying24, Try.underlying22, show Try.prog.cellsOf 22 = 1 from kf_arr.one, show Try.prog.cellsOf 24 = 4 from kf_arr.size, show List.range 4 = [0, 1, 2, 3] from rfl, w0, w1, w2, w3, tabD]⟩

end
theorem sl_shape {P : Program} {W : World} {r : Reach} {b0 : Nat} {v : Value} {t e : TypeId} (ht : P.underlying t = some (.slice e)) (hval : Value.okWide P W r b0 t v) : v = .slice none 0 0 ∨ ∃ a len cap, v = .slice (some a) len cap ∧ a.spot = none := by
  unfold Value.okWide at hval
  rw [ht] at hval
  simp only at hval
  unfold Cell.okWide at hval
  rw [ht] at hval
  unfold Cell.ok at hval
  rw [ht] at hval
  cases v with
  | slice a len cap =>
    cases a with
    | none =>
      left
      cases len <;> cases cap <;> simp at hval
      rfl
    | some a => exact .inr ⟨a, len, cap, rfl, by simp at hval; exact hval.2.2.2.1⟩
  | _ => simp at hval
section
variable {H : Type} {enc : TypeId × Value → H} {W : World} {sp : Nat → Bool} {held : Bool}
/-- a slice of bytes among the arguments of a law, opened -/
theorem open_uslice {r : Reach} {b0 : Nat} {v : Value} {d : DataW H} {ps : List MemPlace} (hval : Value.okWide Try.prog W r b0 55 v) (hd : DataW.Trod enc Try.prog W 0 sp held 55 v d ps) :
    ∃ bs : List Nat, BytesVal W v bs := by
  have hshape := sl_shape Try.underlying55 hval
  obtain ⟨fuel, hf⟩ := hd
  have hce : Try.prog.cellsOf 5 = 1 := by kernel_rfl
  rcases open_ints Try.underlying55 Try.underlying5 hce hf with ⟨hc, _⟩ | ⟨a, len, cap, zs, hc, _, hl, _, hz, _, hcell, hwf⟩
  · have hv : v = .slice none 0 0 := by
      rcases hshape with rfl | ⟨a', l', c', rfl, _⟩
      · rfl
      · simp [Value.cells] at hc
    exact ⟨[], none, 0, hv, fun j x hj => by simp at hj⟩
  · obtain ⟨hv, hspot⟩ : v = .slice (some a) len cap ∧ a.spot = none := by
      rcases hshape with rfl | ⟨a', l', c', rfl, hs⟩
      · simp [Value.cells] at hc
      · simp [Value.cells] at hc
        obtain ⟨rfl, rfl, rfl⟩ := hc
        exact ⟨rfl, hs⟩
    subst hv
    obtain ⟨b, off, s⟩ := a
    simp only at hspot
    subst hspot
    have hlen : ((zs.take len).map Int.toNat).length = len := by rw [List.length_map, List.length_take, hz]; split <;> omega
    refine ⟨(zs.take len).map Int.toNat, _, cap, by rw [hlen], fun j x hj => ?_⟩
    have hj1 : j < len := by have := (List.getElem?_eq_some_iff.1 hj).1; omega
    rw [List.getElem?_map, List.getElem?_take, if_pos hj1] at hj
    cases hz2 : zs[j]? with
    | none => rw [hz2] at hj; cases hj
    | some y =>
      rw [hz2] at hj
      obtain rfl := Option.some.inj hj
      have hy := wf_u8 (hwf y (List.mem_of_getElem? hz2))
      have hj3 : j < zs.length := (List.getElem?_eq_some_iff.1 hz2).1
      have hc1 := hcell j hj3
      rw [show zs.getD j 0 = y from by simp [List.getD, hz2]] at hc1
      refine ⟨by omega, b, off, rfl, ?_⟩
      rw [show ((y.toNat : Nat) : Int) = y from by omega, ← hc1]
      simp only [Addr.add]
      split
      · rename_i e; subst e; simp
      · rfl
end
end Go.Proofs.Ythbifeoohphnpaa
