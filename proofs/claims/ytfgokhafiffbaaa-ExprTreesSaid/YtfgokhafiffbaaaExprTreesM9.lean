/-
  Texts on which the law ExprTrees rests, part 9 of 9.
-/
import Derived.Test.YtfgokhafiffbaaaExprTreesM8
import Derived.OpenShut
import Derived.ChangeArms
import Derived.DataReads
import Derived.Test.YtfgokhafiffbaaaRows
import Derived.WalkKit
import Derived.ProofKit
/-
  A formula among the arguments of a law, opened.
-/
namespace Go.Proofs.Ytfgokhafiffbaaa
open Go.ChangeShapes Go.WideShapes Go.RowKit
set_option linter.unusedVariables false
theorem list4' {α : Type} (l : List α) (h : l.length = 4) : ∃ a b c d, l = [a, b, c, d] := by
  match l, h with
  | [a, b, c, d], _ => exact ⟨a, b, c, d, rfl⟩
theorem spot_none {w : World} {a : Addr} {v : Value} (h : w.cell? a = some v) : a.spot = none := by
  cases hs : a.spot with
  | none => rfl
  | some s =>
    exfalso
    unfold World.cell? at h
    simp [hs] at h
    split at h <;> cases h
section
variable {H : Type} {enc : TypeId × Value → H} {W : World} {held : Bool}
theorem ex_cells : Try.prog.cellsOf 36 = 4 := by kernel_rfl
theorem int_cells : Try.prog.cellsOf 3 = 1 := by kernel_rfl
theorem sl_cells : Try.prog.cellsOf 34 = 1 := by kernel_rfl
/-- one formula's cells, read as a tree -/
def RdT (W : World) (cs : List Value) : Prop := ∃ (t : Tr) (sl : Value), cs = [.int .i64 t.k, .int .i64 t.a, .int .i64 t.v, sl] ∧ SlF W (fun _ => True) sl t.kids
theorem rd_list {W : World} {b : Nat} : ∀ (n o : Nat), (∀ i, i < n → ∃ cs, (∀ j, j < 4 → W.cell? ⟨b, o + i * 4 + j, none⟩ = cs[j]?) ∧ RdT W cs) → ∃ F : Fo, F.len = n ∧ RdF W (fun _ => True) F b o
  | 0, o, _ => ⟨.nil, rfl, True.intro⟩
  | n + 1, o, h => by
    obtain ⟨cs, hc, t, sl, rfl, hs⟩ := h 0 (by omega)
    obtain ⟨F, hl, hr⟩ := rd_list n (o + 4) fun i hi => by
      obtain ⟨cs, hc, hr⟩ := h (i + 1) (by omega)
      refine ⟨cs, fun j hj => ?_, hr⟩
      rw [← hc j hj]
      congr 2
      omega
    refine ⟨t.on F, by rw [Fo.len_on, hl], ?_⟩
    have c0 := hc 0 (by omega)
    have c1 := hc 1 (by omega)
    have c2 := hc 2 (by omega)
    have c3 := hc 3 (by omega)
    rw [Nat.zero_mul, Nat.add_zero] at c0 c1 c2 c3
    exact RdF.on True.intro c0 c1 c2 c3 hs hr
theorem read_tree : ∀ (fuel : Nat) (cs : List Value) (x : DataW H × List MemPlace), DataW.trod enc Try.prog W 0 (fun _ => true) held fuel 36 cs = some x → RdT W cs := by
  intro fuel
  induction fuel using Nat.strongRecOn with
  | _ fuel ih =>
    intro cs x h
    obtain ⟨xs, n, rfl, _, hlen, hxs, hf⟩ := DataW.trod_struct Try.underlying36 h
    rw [ex_cells] at hlen
    obtain ⟨c0, c1, c2, c3, rfl⟩ := list4' cs hlen
    have f0 : DataW.trod enc Try.prog W 0 (fun _ => true) held n 3 (([c0, c1, c2, c3].drop 0).take (Try.prog.cellsOf 3)) = xs[0]? := hf 0 _ rfl
    have f1 : DataW.trod enc Try.prog W 0 (fun _ => true) held n 3 (([c0, c1, c2, c3].drop 1).take (Try.prog.cellsOf 3)) = xs[1]? := hf 1 _ rfl
    have f2 : DataW.trod enc Try.prog W 0 (fun _ => true) held n 3 (([c0, c1, c2, c3].drop 2).take (Try.prog.cellsOf 3)) = xs[2]? := hf 2 _ rfl
    have f3 : DataW.trod enc Try.prog W 0 (fun _ => true) held n 34 (([c0, c1, c2, c3].drop 3).take (Try.prog.cellsOf 34)) = xs[3]? := hf 3 _ rfl
    have hsz : xs.length = 4 := hxs
    have g : ∀ i, i < 4 → ∃ y, xs[i]? = some y := fun i hi => ⟨_, List.getElem?_eq_getElem (by omega)⟩
    obtain ⟨y0, e0⟩ := g 0 (by omega)
    obtain ⟨y1, e1⟩ := g 1 (by omega)
    obtain ⟨y2, e2⟩ := g 2 (by omega)
    obtain ⟨y3, e3⟩ := g 3 (by omega)
    rw [e0] at f0
    rw [e1] at f1
    rw [e2] at f2
    rw [e3] at f3
    simp only [int_cells, sl_cells, List.drop_zero, List.drop_succ_cons, List.take_succ_cons, List.take_zero] at f0 f1 f2 f3
    obtain ⟨x0, h0, _, _⟩ := DataW.trod_int Try.underlying3 f0
    obtain ⟨x1, h1, _, _⟩ := DataW.trod_int Try.underlying3 f1
    obtain ⟨x2, h2, _, _⟩ := DataW.trod_int Try.underlying3 f2
    simp at h0 h1 h2
    subst h0 h1 h2
    rcases DataW.trod_slice Try.underlying34 f3 with ⟨hc, _⟩ | ⟨a, len, cap, elems, rest, m, rfl, hc, _, _, hl, _, hel, he, hsp, _⟩
    · simp at hc
      subst hc
      exact ⟨⟨x0, x1, x2, .nil⟩, .slice none 0 0, rfl, SlF.nil _ _⟩
    · simp at hc
      subst hc
      obtain ⟨hrl, hr⟩ := hsp rfl
      by_cases hcap : cap = 0
      · obtain rfl : len = 0 := by omega
        subst hcap
        exact ⟨⟨x0, x1, x2, .nil⟩, _, rfl, some a, 0, 0, 0, rfl, .inl ⟨rfl, rfl⟩, Nat.le_refl _, True.intro⟩
      · have hall : ∀ i, i < cap → ∃ cs, (W.cells? 0 (a.add (i * 4)) 4) = some cs ∧ ∃ y, DataW.trod enc Try.prog W 0 (fun _ => true) held m 36 cs = some y := fun i hi => by
          have hb : ∃ y, (W.cells? 0 (a.add (i * Try.prog.cellsOf 36)) (Try.prog.cellsOf 36)).bind (DataW.trod enc Try.prog W 0 (fun _ => true) held m 36) = some y := by
            by_cases hil : i < len
            · rw [he i hil]; exact ⟨_, List.getElem?_eq_getElem (by omega)⟩
            · have := hr (i - len) (by omega)
              rw [show len + (i - len) = i from by omega] at this
              rw [this]; exact ⟨_, List.getElem?_eq_getElem (by omega)⟩
          obtain ⟨y, hy⟩ := hb
          rw [ex_cells] at hy
          obtain ⟨cs, h1, h2⟩ := Option.bind_eq_some_iff.1 hy
          exact ⟨cs, h1, y, h2⟩
        have hspot : a.spot = none := by
          obtain ⟨cs, h1, y, h2⟩ := hall 0 (by omega)
          obtain ⟨_, hl4, hcs⟩ := World.cells?_some h1
          have := hcs 0 (by omega)
          have hx : ∃ v, cs[0]? = some v := ⟨_, List.getElem?_eq_getElem (by omega)⟩
          obtain ⟨v, hv⟩ := hx
          rw [hv] at this
          have hs := spot_none this
          simp only [Addr.add] at hs
          simpa using hs
        obtain ⟨b, off, s⟩ := a
        simp only at hspot
        subst hspot
        obtain ⟨F, hF, hrd⟩ := rd_list (W := W) (b := b) len off fun i hi => by
          obtain ⟨cs, h1, y, h2⟩ := hall i (by omega)
          obtain ⟨_, hl4, hcs⟩ := World.cells?_some h1
          refine ⟨cs, fun j hj => ?_, ih m (by omega) cs y h2⟩
          rw [← hcs j hj]
          congr 1
          simp only [Addr.add]
          by_cases h0 : i * 4 = 0
          · rw [if_pos h0]
            by_cases h1 : j = 0
            · rw [if_pos h1]; simp [h0, h1]
            · rw [if_neg h1]; simp [h0]
          · rw [if_neg h0]
            by_cases h1 : j = 0
            · rw [if_pos h1]; simp [h1]
            · rw [if_neg h1]
        refine ⟨⟨x0, x1, x2, F⟩, _, rfl, some ⟨b, off, none⟩, cap, b, off, by rw [hF], .inr rfl, by show F.len ≤ cap; omega, hrd⟩
theorem open_expr {r : Reach} {b0 : Nat} {v : Value} {d : DataW H} {ps : List MemPlace} (hval : Value.okWide Try.prog W r b0 36 v) (hd : DataW.Trod enc Try.prog W 0 (fun _ => true) held 36 v d ps) :
    ∃ (t : Tr) (sl : Value), v = Ev t sl ∧ SlF W (fun _ => True) sl t.kids := by
  obtain ⟨cs, rfl, hsz, _⟩ : ∃ cs, v = .agg cs ∧ cs.size = Try.prog.cellsOf 36 ∧ Row.okWide Try.prog W r b0 36 cs := by
    simpa [Value.okWide, Try.underlying36] using hval
  obtain ⟨fuel, hf⟩ := hd
  obtain ⟨t, sl, h1, h2⟩ := read_tree fuel _ _ hf
  refine ⟨t, sl, ?_, h2⟩
  unfold Ev
  congr 1
  apply Array.toList_inj.1
  simpa [Value.cells] using h1
end
end Go.Proofs.Ytfgokhafiffbaaa

/-
  What a law's row asks of the memory behind it, where nothing that was there has turned.
-/
namespace Go.Proofs.Ytfgokhafiffbaaa
open Go.ChangeShapes Go.WideShapes Go.ChangeAt Go.RowKit
set_option linter.unusedVariables false
section
variable {H : Type} {enc : TypeId × Value → H}
/-- what a row asks, where nothing that was there has turned -/
theorem post_of_below {P : Program} {f : Func} {s : ChangeSpec} {apart fresh handsOn again : Bool} {W W' : World} {args : Array Value} {v : Value} {ds gs : List (DataW H)} {before pa pv : List MemPlace}
    (hW : DataW.Whole enc P f.params.toList s.vars apart W args.toList ds gs before)
    (hres : ∀ (b : Nat) (sp : Nat → Bool) (hd : Bool), DataW.TrodAll enc P W' b sp hd f.resultTypes.toList (v.resultList f.resultTypes.size) (s.fn H (ds ++ gs)).results [])
    (hargs : ∀ sp : Nat → Bool, (∀ p ∈ before, sp p.block = true) → DataW.TrodAll enc P W' 0 sp true f.params.toList args.toList (s.fn H (ds ++ gs)).args pa)
    (hvars : ∀ sp : Nat → Bool, (∀ p ∈ before, sp p.block = true) → DataW.TrodVars enc P W' sp s.vars (s.fn H (ds ++ gs)).vars pv)
    (hps : before = pa ++ pv) (hb : Below W.heap.size W W')
    (hok : ∀ (j : Nat) (t : TypeId) (r : Value), f.resultTypes[j]? = some t → (v.resultList f.resultTypes.size)[j]? = some r → Value.okWide P W' .any 0 t r) :
    s.post enc P f apart fresh handsOn again W args v W' := by
  have hlt := fun p hp => hW.lt p hp
  have hold : ∀ p ∈ before, (fun b => decide (b < W.heap.size)) p.block = true := fun p hp => by simpa using hW.lt p hp
  refine ⟨ds, gs, before, [], pa, pv, hW, hres _ _ _, hargs _ hold, hvars _ hold, World.keptBut_mono (fun p hp => ⟨hp, ?_⟩) (hb.frame (· ∈ before)), fun _ => ?_⟩
  · rw [hps, List.mem_append] at hp
    exact Or.inr hp
  · obtain ⟨_, _, _, _, _, hz, hn⟩ := hW
    refine ⟨hok, _, _, ([] ++ pa) ++ pv, ⟨[] ++ pa, pv, trodAll_append (hargs _ (fun _ _ => rfl)) (hres _ _ _), hvars _ (fun _ _ => rfl), rfl, ?_, ?_⟩, ?_⟩
    · intro b off hp
      have hp' : MemPlace.cell b off ∈ before := by rw [hps]; simpa using hp
      have h1 : W'.frozen? ⟨b, off, none⟩ = W.frozen? ⟨b, off, none⟩ := hb.frozen (hlt _ hp')
      rw [h1]
      exact hz b off hp'
    · intro ha
      have := hn ha
      rw [hps] at this
      simpa using this
    · intro p hp _
      rw [hps]
      simpa using hp
end
end Go.Proofs.Ytfgokhafiffbaaa
