/-
  Tables among the arguments of a law, opened and shut; the listed table of the library's package of bits, opened; what a law's row asks of the memory behind it.
-/
import Derived.Test.YtfkefgelceaimaaDoorRows
import Derived.Test.YtfkefgelceaimaaDoorLaw
import Derived.WalkKit
import Derived.ProofKit
import Derived.OpenShut
import Derived.LaidMore
import Derived.Lib.LaidTab
import Derived.Laws.IdiomArrays
import Derived.Stop.Joined
namespace Go.Proofs.YtfkefgelceaimaaDoor
open Go.ChangeShapes Go.WideShapes Go.ChangeAt Go.RowKit
set_option linter.unusedVariables false

def tabD {H : Type} (F : Tb.T) : DataW H := .agg [.lit (.int .u64 (Tb.wd F 0)), .lit (.int .u64 (Tb.wd F 1)), .lit (.int .u64 (Tb.wd F 2)), .lit (.int .u64 (Tb.wd F 3))]

theorem list4 {α : Type} (l : List α) (h : (⟨l⟩ : Array α).size = 4) : ∃ a b c d, l = [a, b, c, d] := by
  match l, h with
  | [a, b, c, d], _ => exact ⟨a, b, c, d, rfl⟩
theorem wf_u64_mk {a : Int} (h0 : 0 ≤ a) (h1 : a < 18446744073709551616) : (Lit.int .u64 a).wf = true := by
  simp [Lit.wf, IntKind.min, IntKind.max, IntKind.signed, IntKind.bits]; omega

section
variable {H : Type} {enc : TypeId × Value → H} {W : World} {base : Nat} {sp : Nat → Bool} {held : Bool}
theorem open_tab {r : Reach} {b0 : Nat} {v : Value} {d : DataW H} {ps : List MemPlace} (hval : Value.okWide Tryd.prog W r b0 24 v) (hd : DataW.Trod enc Tryd.prog W base sp held 24 v d ps) :
    ∃ F : Tb.T, v = Tb.tv F ∧ d = tabD F ∧ ps = [] := by
  obtain ⟨cs, rfl, hsz, _⟩ : ∃ cs, v = .agg cs ∧ cs.size = Tryd.prog.cellsOf 24 ∧ Row.okWide Tryd.prog W r b0 24 cs := by
    simpa [Value.okWide, Tryd.underlying24] using hval
  rw [kf_arr.size] at hsz
  obtain ⟨l⟩ := cs
  obtain ⟨c0, c1, c2, c3, rfl⟩ := list4 l hsz
  obtain ⟨fuel, hf⟩ := hd
  obtain ⟨y0, y1, y2, y3, m, hx, hy0, hy1, hy2, hy3⟩ := trod_array4 Tryd.underlying24 kf_arr.one hf
  obtain ⟨x0, e0, rfl, w0⟩ := DataW.trod_int Tryd.underlying22 hy0
  obtain ⟨x1, e1, rfl, w1⟩ := DataW.trod_int Tryd.underlying22 hy1
  obtain ⟨x2, e2, rfl, w2⟩ := DataW.trod_int Tryd.underlying22 hy2
  obtain ⟨x3, e3, rfl, w3⟩ := DataW.trod_int Tryd.underlying22 hy3
  simp at e0 e1 e2 e3
  subst e0 e1 e2 e3
  simp only [Prod.mk.injEq] at hx
  obtain ⟨rfl, rfl⟩ := hx
  obtain ⟨h0, h1, h2, h3⟩ := Tb.ofW_wd x0 x1 x2 x3 (wf_u64 w0) (wf_u64 w1) (wf_u64 w2) (wf_u64 w3)
  exact ⟨Tb.ofW x0 x1 x2 x3, by unfold Tb.tv; rw [h0, h1, h2, h3], by unfold tabD; rw [h0, h1, h2, h3], rfl⟩
theorem shut_tab (F : Tb.T) : DataW.Trod enc Tryd.prog W base sp held 24 (Tb.tv F) (tabD F) [] := by
  have w0 := wf_u64_mk (Tb.wd_lo F 0) (Tb.wd_hi F 0)
  have w1 := wf_u64_mk (Tb.wd_lo F 1) (Tb.wd_hi F 1)
  have w2 := wf_u64_mk (Tb.wd_lo F 2) (Tb.wd_hi F 2)
  have w3 := wf_u64_mk (Tb.wd_lo F 3) (Tb.wd_hi F 3)
  exact ⟨2, by simp [DataW.trod, Value.cells, Tryd.underlying24, Tryd.underlying22, show Tryd.prog.cellsOf 22 = 1 from kf_arr.one, show Tryd.prog.cellsOf 24 = 4 from kf_arr.size, show List.range 4 = [0, 1, 2, 3] from rfl, w0, w1, w2, w3, tabD]⟩

/-- what a row asks, where nothing that was there has turned -/
theorem post_of_below {P : Program} {f : Func} {s : ChangeSpec} {apart fresh handsOn again : Bool} {W W' : World} {args : Array Value} {v : Value} {ds gs : List (DataW H)} {before pa pv : List MemPlace}
    (hW : DataW.Whole enc P f.params.toList s.vars apart W args.toList ds gs before)
    (hres : ∀ (b : Nat) (sp : Nat → Bool) (hd : Bool), DataW.TrodAll enc P W' b sp hd f.resultTypes.toList (v.resultList f.resultTypes.size) (s.fn H (ds ++ gs)).results [])
    (hargs : ∀ sp : Nat → Bool, (∀ p ∈ before, sp p.block = true) → DataW.TrodAll enc P W' 0 sp true f.params.toList args.toList (s.fn H (ds ++ gs)).args pa)
    (hvars : ∀ sp : Nat → Bool, (∀ p ∈ before, sp p.block = true) → DataW.TrodVars enc P W' sp s.vars (s.fn H (ds ++ gs)).vars pv)
    (hps : before = pa ++ pv) (hb : Below W.heap.size W W')
    (hok : ∀ (j : Nat) (t : TypeId) (r : Value), f.resultTypes[j]? = some t → (v.resultList f.resultTypes.size)[j]? = some r → Value.okWide P W' .any 0 t r) :
    s.post enc P f apart fresh handsOn again W args v W' := by
  have hlt := fun p hp => hW.lt p hp
  have hold : ∀ p ∈ before, (fun b => decide (b < W.heap.size)) p.block = true := fun p hp => by simpa using hW.lt p hp
  refine ⟨ds, gs, before, [], pa, pv, hW, hres _ _ _, hargs _ hold, hvars _ hold, World.keptBut_mono (fun p hp => ⟨hp, ?_⟩) (hb.frame (· ∈ before)), fun _ => ?_⟩
  · rw [hps, List.mem_append] at hp
    exact Or.inr hp
  · obtain ⟨_, _, _, _, _, hz, hn⟩ := hW
    refine ⟨hok, _, _, ([] ++ pa) ++ pv, ⟨[] ++ pa, pv, trodAll_append (hargs _ (fun _ _ => rfl)) (hres _ _ _), hvars _ (fun _ _ => rfl), rfl, ?_, ?_⟩, ?_⟩
    · intro b off hp
      have hp' : MemPlace.cell b off ∈ before := by rw [hps]; simpa using hp
      have h1 : W'.frozen? ⟨b, off, none⟩ = W.frozen? ⟨b, off, none⟩ := hb.frozen (hlt _ hp')
      rw [h1]
      exact hz b off hp'
    · intro ha
      have := hn ha
      rw [hps] at this
      simpa using this
    · intro p hp _
      rw [hps]
      simpa using hp
end

/-- the listed table lies as the walks ask -/
theorem tab_of_laid {W : World} (h : laidMetH Tryd.prog [("math/bits.deBruijn64tab", Rows.laid_math_bits_deBruijn64tab)] W) : TabAt W ∧ 0 < W.heap.size := by
  rw [MakeChecks.laidMetH_plain _ _ _ (by kernel_rfl)] at h
  have hg : Tryd.prog.globalNamed "math/bits.deBruijn64tab" = some 0 := by kernel_rfl
  have h1 : Lib.TabIs Tryd.prog W "math/bits.deBruijn64tab" .u8 (Tb.debTab.map fun (k : Nat) => (k : Int)) :=
    Lib.tabIs_of_head (t := 68) (n := 64) hg (by kernel_rfl) Tryd.underlying68 Tryd.underlying5 (by kernel_rfl) (by kernel_rfl) h
  have h2 : TabAt W := fun j k hj => by
    have hl : j < Tb.debTab.length := List.getElem?_eq_some_iff.1 hj |>.1
    have := h1.cell hg j (by simpa using hl)
    rw [this]
    simp [List.getD, hj]
  exact ⟨h2, block_lt_of_cell (h2 0 0 rfl)⟩

theorem door_met (args : Array Value) (os : Os) : laidMetH Tryd.prog [("math/bits.deBruijn64tab", Rows.laid_math_bits_deBruijn64tab)] ((World.doorLaid Tryd.prog 14 os).forCall (fun _ _ => 0) ⟨#[], args, []⟩).memory :=
  laidMetH_of_parts3 (fuel := 8) (laidMet_of_run' 8 (by kernel_rfl) (by kernel_rfl)) (by kernel_rfl) (by kernel_rfl)
end Go.Proofs.YtfkefgelceaimaaDoor
