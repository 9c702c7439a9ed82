/-
  The walks of the document's tables, ninth part: is a table in a list.
-/
import Derived.Test.YtfkefgelceaimaaDoorRefH
import Derived.Test.YtfkefgelceaimaaDoorSlice
namespace Go.Proofs.YtfkefgelceaimaaDoor
set_option linter.unusedVariables false
open Go.RowKit

set_option maxRecDepth 100000 in
set_option maxHeartbeats 1000000 in
theorem rin_any (L : List Tb.T) (p : Option Addr) (cap : Nat) (F : Tb.T) (w : World) (hL : TabsAt w p L) (hn : L.length < 1000000) :
    Calls Tryd.prog 72 #[.slice p L.length cap, Tb.tv F] w fun e w' => e = .returned (.bool (decide (F ∈ L))) ∧ Below w.heap.size w w' := by
  have hK := (Keep.nil w).new F
  simp only [List.nil_append] at hK
  go_enter Tryd.func72, Tryd.ntmps72
  go_wp2_with fail
  go_loopw [5] (fun i wr => ∃ k : Nat, k ≤ L.length ∧ i = .int .i64 k ∧ Bx (F ∉ L.take k) ∧ Keep w wr [(w.heap.size, F)]) (fun i _ => L.length - (intOf i).toNat)
  case atStart => exact ⟨0, by omega, rfl, ⟨by simp⟩, hK⟩
  case round =>
    rename_i wr
    clear hK
    obtain ⟨k, hk, rfl, hno, kk⟩ := hrel
    by_cases hlt : k < L.length
    · obtain ⟨G, hG⟩ : ∃ G, L[k]? = some G := ⟨_, List.getElem?_eq_getElem hlt⟩
      obtain ⟨g, off, rfl, hc⟩ := hL.at_ k G hG
      have hq : ∀ i, i < 4 → wr.cell? ⟨g, off + k * 4 + i, none⟩ = some (.int .u64 (Tb.wd G i)) := fun i hi => by
        rw [kk.below.cell (block_lt_of_cell (hc i hi))]; exact hc i hi
      have d0 : wr.cell? ⟨g, off + k * 4, none⟩ = some (.int .u64 (Tb.wd G 0)) := hq 0 (by omega)
      have d1 := hq 1 (by omega)
      have d2 := hq 2 (by omega)
      have d3 := hq 3 (by omega)
      obtain ⟨⟨a0, a1, a2, a3⟩, c0, c1, c2, c3⟩ := tfacts (kk.at_ 0 _ _ rfl)
      cases he : decide (G = F) with
      | true =>
        have heq := run_equal_max he
        have HM := Bx.mk (show F ∈ L from by rw [← of_decide_eq_true he]; exact List.mem_of_getElem? hG)
        have hb := kk.below
        clear he hno hG hq hc
        go_wp2_with fail
        go_still (by kernel_rfl)
        go_wp2_with fail
        go_ret
        exact ⟨by simp [HM.out], hb.drew⟩
      | false =>
        have heq := run_equal_max he
        have hno' : Bx (F ∉ L.take (k + 1)) := ⟨by
          rw [List.take_add_one, hG, Option.toList_some, List.mem_append, List.mem_singleton]
          rintro (h | h)
          · exact hno.out h
          · exact of_decide_eq_false he h.symm⟩
        clear he hno hG hq hc
        have kk' := kk.drew
        clear kk
        go_wp2_with fail
        go_still (by kernel_rfl)
        go_wp2_with fail
        exact ⟨⟨k + 1, by omega, by go_num, hno', kk'⟩, by simp [intOf]; omega⟩
    · obtain rfl : k = L.length := by omega
      have HM := Bx.mk (show F ∉ L from by have := hno.out; rwa [List.take_length] at this)
      have hb := kk.below
      clear kk hno
      go_wp2_with fail
      go_ret
      exact ⟨by simp [HM.out], hb⟩
end Go.Proofs.YtfkefgelceaimaaDoor
