/-
  Slices among the arguments of a law, opened; what they read behind the call.
-/
import Derived.Test.YtfkefgelceaimaaDoorRowKit
import Derived.Test.YtfkefgelceaimaaDoorTruthK
import Derived.Carry
import Derived.Deep.Slices
import Derived.ChangeSlices
namespace Go.Proofs.YtfkefgelceaimaaDoor
open Go.ChangeShapes Go.WideShapes Go.ChangeAt Go.RowKit
set_option linter.unusedVariables false

theorem list_of {α : Type} {p : Nat → α → Prop} : ∀ n, (∀ i, i < n → ∃ x, p i x) → ∃ l : List α, l.length = n ∧ ∀ i x, l[i]? = some x → p i x
  | 0, _ => ⟨[], rfl, fun i x h => by simp at h⟩
  | n + 1, h => by
    obtain ⟨l, hl, hp⟩ := list_of n fun i hi => h i (by omega)
    obtain ⟨x, hx⟩ := h n (by omega)
    refine ⟨l ++ [x], by simp [hl], fun i y hy => ?_⟩
    rw [List.getElem?_append] at hy
    split at hy
    · exact hp i y hy
    · rename_i hlt
      have : i - l.length = 0 := by
        cases e : i - l.length with
        | zero => rfl
        | succ m => rw [e] at hy; simp at hy
      rw [this] at hy
      simp at hy
      subst hy
      rw [show i = n from by omega]
      exact hx
theorem sl_shape {P : Program} {W : World} {r : Reach} {b0 : Nat} {v : Value} {t e : TypeId} (ht : P.underlying t = some (.slice e)) (hval : Value.okWide P W r b0 t v) : v = .slice none 0 0 ∨ ∃ a len cap, v = .slice (some a) len cap ∧ a.spot = none := by
  unfold Value.okWide at hval
  rw [ht] at hval
  simp only at hval
  unfold Cell.okWide at hval
  rw [ht] at hval
  unfold Cell.ok at hval
  rw [ht] at hval
  cases v with
  | slice a len cap =>
    cases a with
    | none =>
      left
      cases len <;> cases cap <;> simp at hval
      rfl
    | some a => exact .inr ⟨a, len, cap, rfl, by simp at hval; exact hval.2.2.2.1⟩
  | _ => simp at hval
section
variable {H : Type} {enc : TypeId × Value → H} {W : World} {sp : Nat → Bool} {held : Bool}
theorem open_islice {r : Reach} {b0 : Nat} {v : Value} {d : DataW H} {ps : List MemPlace} (hval : Value.okWide Tryd.prog W r b0 26 v) (hd : DataW.Trod enc Tryd.prog W 0 sp held 26 v d ps) :
    ∃ vs : List Int, IntsVal W v vs := by
  have hshape := sl_shape Tryd.underlying26 hval
  obtain ⟨fuel, hf⟩ := hd
  have hce : Tryd.prog.cellsOf 3 = 1 := by kernel_rfl
  rcases open_ints Tryd.underlying26 Tryd.underlying3 hce hf with ⟨hc, _⟩ | ⟨a, len, cap, zs, hc, _, hl, _, hz, _, hcell, _⟩
  · have hv : v = .slice none 0 0 := by
      rcases hshape with rfl | ⟨a', l', c', rfl, _⟩
      · rfl
      · simp [Value.cells] at hc
    exact ⟨[], .inl ⟨hv, rfl⟩⟩
  · obtain ⟨hv, hspot⟩ : v = .slice (some a) len cap ∧ a.spot = none := by
      rcases hshape with rfl | ⟨a', l', c', rfl, hs⟩
      · simp [Value.cells] at hc
      · simp [Value.cells] at hc
        obtain ⟨rfl, rfl, rfl⟩ := hc
        exact ⟨rfl, hs⟩
    subst hv
    obtain ⟨b, off, s⟩ := a
    simp only at hspot
    subst hspot
    have hlen : (zs.take len).length = len := by rw [List.length_take, hz]; split <;> omega
    refine ⟨zs.take len, .inr ⟨b, off, cap, by rw [hlen], by rw [hlen]; exact hl, fun j x hj => ?_⟩⟩
    have hj1 : j < len := by have := (List.getElem?_eq_some_iff.1 hj).1; omega
    have hj2 : zs[j]? = some x := by rw [List.getElem?_take, if_pos hj1] at hj; exact hj
    have hj3 : j < zs.length := (List.getElem?_eq_some_iff.1 hj2).1
    have := hcell j hj3
    rw [show zs.getD j 0 = x from by simp [List.getD, hj2]] at this
    rw [← this]
    simp only [Addr.add]
    split
    · rename_i e; subst e; simp
    · rfl
theorem open_tslice {r : Reach} {b0 : Nat} {v : Value} {d : DataW H} {ps : List MemPlace} (hval : Value.okWide Tryd.prog W r b0 25 v) (hd : DataW.Trod enc Tryd.prog W 0 sp held 25 v d ps) :
    ∃ (p : Option Addr) (cap : Nat) (fs : List Tb.T), v = .slice p fs.length cap ∧ TabsAt W p fs := by
  have hshape := sl_shape Tryd.underlying25 hval
  obtain ⟨fuel, hf⟩ := hd
  rcases Go.Deep.open_slice Tryd.underlying25 hf with ⟨hc, _⟩ | ⟨a, len, cap, m, n, D, Pl, hc, _, hl, _, hm, _, hel⟩
  · have hv : v = .slice none 0 0 := by
      rcases hshape with rfl | ⟨a', l', c', rfl, _⟩
      · rfl
      · simp [Value.cells] at hc
    exact ⟨none, 0, [], hv, ⟨fun j F hj => by simp at hj⟩⟩
  · obtain ⟨hv, hspot⟩ : v = .slice (some a) len cap ∧ a.spot = none := by
      rcases hshape with rfl | ⟨a', l', c', rfl, hs⟩
      · simp [Value.cells] at hc
      · simp [Value.cells] at hc
        obtain ⟨rfl, rfl, rfl⟩ := hc
        exact ⟨rfl, hs⟩
    subst hv
    obtain ⟨b, off, s⟩ := a
    simp only at hspot
    subst hspot
    have hlm : len ≤ m := by rw [hm]; split <;> omega
    obtain ⟨fs, hfl, hfs⟩ := list_of (p := fun j F => ∀ i, i < 4 → W.cell? ⟨b, off + j * 4 + i, none⟩ = some (.int .u64 (Tb.wd F i))) len fun j hj => by
      obtain ⟨cs', h1, h2⟩ := hel j (by omega)
      rw [kf_arr.size] at h1
      obtain ⟨_, hl4, hcs⟩ := World.cells?_some h1
      obtain ⟨c0, c1, c2, c3, rfl⟩ := list4 cs' (by simpa using hl4)
      cases n with
      | zero => simp [DataW.trod] at h2
      | succ n =>
      obtain ⟨y0, y1, y2, y3, m', hx, hy0, hy1, hy2, hy3⟩ := trod_array4 Tryd.underlying24 kf_arr.one h2
      obtain ⟨x0, e0, rfl, w0⟩ := DataW.trod_int Tryd.underlying22 hy0
      obtain ⟨x1, e1, rfl, w1⟩ := DataW.trod_int Tryd.underlying22 hy1
      obtain ⟨x2, e2, rfl, w2⟩ := DataW.trod_int Tryd.underlying22 hy2
      obtain ⟨x3, e3, rfl, w3⟩ := DataW.trod_int Tryd.underlying22 hy3
      simp at e0 e1 e2 e3
      subst e0 e1 e2 e3
      obtain ⟨q0, q1, q2, q3⟩ := Tb.ofW_wd x0 x1 x2 x3 (wf_u64 w0) (wf_u64 w1) (wf_u64 w2) (wf_u64 w3)
      refine ⟨Tb.ofW x0 x1 x2 x3, fun i hi => ?_⟩
      have hci := hcs i hi
      have hadd : ((⟨b, off, none⟩ : Addr).add (j * 4)).add i = ⟨b, off + j * 4 + i, none⟩ := by
        simp only [Addr.add]
        by_cases h0 : j * 4 = 0
        · rw [if_pos h0]
          by_cases h1 : i = 0
          · rw [if_pos h1]; simp
          · rw [if_neg h1]; simp [h0]
        · rw [if_neg h0]
          by_cases h1 : i = 0
          · rw [if_pos h1]; simp
          · rw [if_neg h1]
      rw [hadd] at hci
      rw [hci]
      match i, hi with
      | 0, _ => rw [q0]; rfl
      | 1, _ => rw [q1]; rfl
      | 2, _ => rw [q2]; rfl
      | 3, _ => rw [q3]; rfl
    exact ⟨some ⟨b, off, none⟩, cap, fs, by rw [hfl], ⟨fun j F hj => ⟨b, off, rfl, hfs j F hj⟩⟩⟩
end
end Go.Proofs.YtfkefgelceaimaaDoor
