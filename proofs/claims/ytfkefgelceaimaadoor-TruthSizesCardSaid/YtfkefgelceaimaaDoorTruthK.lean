/-
  The walks of package truth, eleventh part: how many nodes some functions have under an order.
-/
import Derived.Test.YtfkefgelceaimaaDoorTruthJ
import Derived.Deep.DeepCutAuto
namespace Go.Proofs.YtfkefgelceaimaaDoor
set_option linter.unusedVariables false
open Go.RowKit

/-- a slice of ints that came in -/
def IntsVal (w : World) (v : Value) (vs : List Int) : Prop :=
  (v = .slice none 0 0 ∧ vs = []) ∨ ∃ g off cap, v = .slice (some ⟨g, off, none⟩) vs.length cap ∧ vs.length ≤ cap ∧ ∀ j x, vs[j]? = some x → w.cell? ⟨g, off + j, none⟩ = some (.int .i64 x)
/-- a slice of tables that came in -/
structure TabsAt (w : World) (p : Option Addr) (fs : List Tb.T) : Prop where
  at_ : ∀ j F, fs[j]? = some F → ∃ g off, p = some ⟨g, off, none⟩ ∧ ∀ i, i < 4 → w.cell? ⟨g, off + j * 4 + i, none⟩ = some (.int .u64 (Tb.wd F i))

theorem ints_take {w : World} {g off : Nat} {vs : List Int} (h : ∀ j x, vs[j]? = some x → w.cell? ⟨g, off + j, none⟩ = some (.int .i64 x)) (n : Nat) : IntsAt w (some ⟨g, off, none⟩) (vs.take n) :=
  ⟨fun j x hx => ⟨g, off, rfl, h j x (by rw [List.getElem?_take] at hx; split at hx; exact hx; cases hx)⟩⟩
theorem IntsAt.below {w w' : World} {p : Option Addr} {vs : List Int} (h : IntsAt w p vs) (hb : Below w.heap.size w w') : IntsAt w' p vs :=
  ⟨fun j x hx => by
    obtain ⟨g, off, e, hc⟩ := h.at_ j x hx
    exact ⟨g, off, e, by rw [hb.cell (block_lt_of_cell hc)]; exact hc⟩⟩

/-- the loop over the functions -/
structure Siz (w wr : World) (bm : Nat) (fs : List Tb.T) (vs : List Int) (k : Nat) (M : List Tb.T) : Prop where
  met : IsSet wr bm M
  below : Below w.heap.size w wr
  cof : Tb.Same M (fun F => ∃ f, f ∈ fs.take k ∧ Tb.CofTo f vs vs.length F)
  few : M.length ≤ 1024 * k

/-- how many nodes -/
structure SizeIs (fs : List Tb.T) (vs : List Int) (n : Nat) : Prop where
  ex : ∃ S : List Tb.T, S.Nodup ∧ n = S.length ∧ ∀ F, F ∈ S ↔ (∃ f, f ∈ fs ∧ Tb.CofTo f (vs.take 8) (vs.take 8).length F) ∧ F ≠ Tb.cst false ∧ F ≠ Tb.cst true

set_option maxRecDepth 100000 in
set_option maxHeartbeats 2000000 in
theorem size_any (fs : List Tb.T) (pl : Option Addr) (capl : Nat) (vv : Value) (vs : List Int) (w : World) (hF : TabsAt w pl fs) (hn : fs.length ≤ 1000) (hp : IntsVal w vv vs) :
    Calls Tryd.prog 19 #[.slice pl fs.length capl, vv] w fun e w' => ∃ n, SizeIs fs vs n ∧ e = .returned (.int .i64 (n : Int)) ∧ Below w.heap.size w w' := by
  go_enter Tryd.func19, Tryd.ntmps19
  go_upto_region 1 with fail
  go_cut [1] (fun v w' => w' = w ∧ ∃ p cap, v = .slice p (vs.take 8).length cap ∧ IntsAt w p (vs.take 8))
  case first =>
    rcases hp with ⟨rfl, rfl⟩ | ⟨g, off, cap, rfl, hcap, hc⟩
    · go_wp2_with fail
      go_meet
      case rel => exact ⟨rfl, none, 0, rfl, ⟨fun j x hx => by simp at hx⟩⟩
    · have hi := ints_take hc 8
      by_cases h8 : vs.length ≤ 8
      · have e1 : (vs.length : Int) ≤ 8 := by omega
        go_wp2_with fail
        go_meet
        case rel => exact ⟨rfl, _, cap, by rw [List.length_take, Nat.min_eq_right h8], hi⟩
      · have e1 : ¬ ((vs.length : Int) ≤ 8) := by omega
        have e2 : 8 ≤ cap := by omega
        go_wp2_with fail
        go_meet
        case rel => exact ⟨rfl, _, cap, by rw [List.length_take, Nat.min_eq_left (by omega)], hi⟩
  case rest =>
    obtain ⟨rfl, p, cap, rfl, hI⟩ := hcut
    have hl8 : (vs.take 8).length ≤ 8 := by rw [List.length_take]; omega
    generalize hV : vs.take 8 = ws at hI hl8
    have hmk : (Instr.makeMap 54 none).run Tryd.prog wc = .ok (.map (some wc.heap.size)) (wc.alloc (.map #[] 0)) := run_makeMap _ wc
    have hS0 : Siz wc (wc.alloc (.map #[] 0)) wc.heap.size fs ws 0 [] := ⟨IsSet.new wc, (Below.refl _ _).alloc (by simp) _, ⟨fun F => by simp⟩, by simp⟩
    have hBV := Bx.mk hV
    clear hV
    go_wp2_with fail
    go_loopw [7, 16] (fun _ i wr => ∃ (k : Nat) (M : List Tb.T), k ≤ fs.length ∧ i = .int .i64 k ∧ Siz wc wr wc.heap.size fs ws k M) (fun _ i _ => fs.length - (intOf i).toNat)
    case atStart => exact ⟨0, [], by omega, rfl, hS0⟩
    case round =>
      obtain ⟨k, M, hk, rfl, hS⟩ := hrel
      by_cases hlt : k < fs.length
      · obtain ⟨F, hFk⟩ : ∃ F, fs[k]? = some F := ⟨_, List.getElem?_eq_getElem hlt⟩
        obtain ⟨g, off, rfl, hc4⟩ := hF.at_ k F hFk
        have hIr := hI.below hS.below
        have hq : ∀ i, i < 4 → wr.cell? ⟨g, off + k * 4 + i, none⟩ = some (.int .u64 (Tb.wd F i)) := fun i hi => by
          rw [hS.below.cell (block_lt_of_cell (hc4 i hi))]; exact hc4 i hi
        have c0 : wr.cell? ⟨g, off + k * 4, none⟩ = some (.int .u64 (Tb.wd F 0)) := hq 0 (by omega)
        have c1 := hq 1 (by omega)
        have c2 := hq 2 (by omega)
        have c3 := hq 3 (by omega)
        clear hq hc4
        obtain ⟨bx, bg, bz⟩ := boxed_new wr F
        have hb := Below.alloc hS.below (by have := hS.below.size; exact this) (.cells (Tb.tcells F) 24)
        have hIx := hIr.below (w' := wr.alloc (.cells (Tb.tcells F) 24)) ((Below.refl _ _).alloc (by simp) _)
        have hMx := hS.met.kept bg (by simp)
        have hfew := hS.few
        have hC := cofactors_any F p ws cap wc.heap.size (wr.alloc (.cells (Tb.tcells F) 24)) M hMx (by unfold maxLen; omega) hIx hl8
        clear hIr bz bg bx
        go_wp2_with fail
        refine hC.mono ?_
        rintro e wd ⟨rfl, M', hM', hg', hl', hmem⟩
        have hb' := hb.grown hg' (by have := hb.size; exact this) (by intro j hj; simp at hj; omega)
        clear hC
        go_wp2_with fail
        refine ⟨⟨k + 1, M', by omega, by go_num, hM', hb', ⟨fun G => ?_⟩, by omega⟩, by simp [intOf]; omega⟩
        rw [hmem G, hS.cof.iff G, List.take_add_one, hFk]
        simp only [Option.toList_some, List.mem_append, List.mem_singleton]
        constructor
        · rintro (⟨x, hx, h⟩ | h)
          · exact ⟨x, .inl hx, h⟩
          · exact ⟨F, .inr rfl, h⟩
        · rintro ⟨x, hx | rfl, h⟩
          · exact .inl ⟨x, hx, h⟩
          · exact .inr h
      · obtain rfl : k = fs.length := by omega
        go_wp2_with fail
        refine (const_any false _).mono ?_
        rintro e wa ⟨rfl, ba⟩
        have hMa := hS.met.below ba hS.met.lt
        have hba := hS.below.trans (ba.mono hS.below.size)
        obtain ⟨wb, hrb, hMb, hgb⟩ := hMa.run_del (Tb.cst false) 0
        have hbb := hba.grown hgb hba.size (by intro j hj; simp at hj; omega)
        go_wp2_with (first | (at_delete; refine wpList_by_delete _ rfl _ _ _ _ rfl rfl rfl hrb ?_) | fail)
        refine (const_any true _).mono ?_
        rintro e wd ⟨rfl, bd⟩
        have hMd := hMb.below bd hMb.lt
        have hbd := hbb.trans (bd.mono hbb.size)
        obtain ⟨we, hre, hMe, hge⟩ := hMd.run_del (Tb.cst true) 0
        have hbe := hbd.grown hge hbd.size (by intro j hj; simp at hj; omega)
        have hln := hMe.run_len 3
        go_wp2_with (first | (at_delete; refine wpList_by_delete _ rfl _ _ _ _ rfl rfl rfl hre ?_) | (at_len; refine wpList_by_len _ rfl _ _ rfl rfl hln ?_) | fail)
        refine bodyPost_ret (v := .int .i64 ((Tb.del (Tb.cst true) (Tb.del (Tb.cst false) M)).length : Int)) (by simp [results, Tryd.results19, go_sem]) rfl ⟨_, ⟨Tb.del (Tb.cst true) (Tb.del (Tb.cst false) M), hMe.nd, rfl, fun G => ?_⟩, rfl, hbe⟩
        rw [hBV.out, Tb.mem_del, Tb.mem_del, hS.cof.iff G, List.take_length]
        exact ⟨fun h => ⟨h.2.2, h.2.1, h.1⟩, fun h => ⟨h.2.2, h.2.1, h.1⟩⟩
end Go.Proofs.YtfkefgelceaimaaDoor
