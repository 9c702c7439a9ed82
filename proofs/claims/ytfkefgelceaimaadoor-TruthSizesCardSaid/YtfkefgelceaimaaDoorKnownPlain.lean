/-
  What the laws look at ahead of all else. No program in sight.
-/
import Derived.Test.YtfkefgelceaimaaDoorTruthK
namespace Go.Proofs.YtfkefgelceaimaaDoor
set_option linter.unusedVariables false
namespace Tb
def f0 : T := var 0 &&& ~~~ var 3
theorem kn_cnt3 : cnt (var 3) = 128 := by decide +kernel
theorem kn_cnt0 : cnt f0 = 64 := by decide +kernel
theorem kn_sup0 : support f0 = 9 := by decide +kernel
theorem kn_one0 : one f0 = some 1 := by decide +kernel
theorem kn_ex0 : halves (fun F G => F ||| G) f0 9 = cst true := by decide +kernel
/-- all that is met, in a list -/
def cofs (f : T) (vs : List Int) : List T := (List.range (vs.length + 1)).flatMap (levTo f vs)
theorem mem_cofs {f : T} {vs : List Int} {F : T} : F ∈ cofs f vs ↔ CofTo f vs vs.length F := by
  unfold cofs CofTo
  simp only [List.mem_flatMap, List.mem_range]
  exact ⟨fun ⟨j, h1, h2⟩ => ⟨j, by omega, h2⟩, fun ⟨j, h1, h2⟩ => ⟨j, by omega, h2⟩⟩
/-- two lists without a double member, with the same members, are as long -/
theorem same_length {S S' : List T} (h : S.Nodup) (h' : S'.Nodup) (hm : ∀ F, F ∈ S ↔ F ∈ S') : S.length = S'.length :=
  ((List.perm_ext_iff_of_nodup h h').2 hm).length_eq
def dedup : List T → List T
  | [] => []
  | F :: L => if F ∈ L then dedup L else F :: dedup L
theorem mem_dedup {F : T} : ∀ {L : List T}, F ∈ dedup L ↔ F ∈ L
  | [] => by simp [dedup]
  | G :: L => by
    unfold dedup
    split
    · rename_i h; rw [mem_dedup, List.mem_cons]; exact ⟨.inr, fun h' => h'.elim (fun e => e ▸ h) id⟩
    · rw [List.mem_cons, mem_dedup, List.mem_cons]
theorem nodup_dedup : ∀ {L : List T}, (dedup L).Nodup
  | [] => by simp [dedup]
  | G :: L => by
    unfold dedup
    split
    · exact nodup_dedup
    · rename_i h; exact List.nodup_cons.2 ⟨fun h' => h (mem_dedup.1 h'), nodup_dedup⟩
end Tb
/-- how many, as a number -/
def Tb.size (fs : List Tb.T) (vs : List Int) : Nat := (Tb.dedup ((fs.flatMap fun f => Tb.cofs f (vs.take 8)).filter fun F => decide (F ≠ Tb.cst false) && decide (F ≠ Tb.cst true))).length
theorem SizeIs.eq {fs : List Tb.T} {vs : List Int} {n : Nat} (h : SizeIs fs vs n) : n = Tb.size fs vs := by
  obtain ⟨S, h1, rfl, h2⟩ := h.ex
  refine Tb.same_length h1 Tb.nodup_dedup fun F => ?_
  rw [h2 F, Tb.mem_dedup, List.mem_filter, List.mem_flatMap]
  simp only [Tb.mem_cofs, Bool.and_eq_true, decide_eq_true_eq]
theorem Tb.kn_size0 : Tb.size [Tb.f0] [0, 1, 2, 3] = 2 := by decide +kernel
attribute [irreducible] Tb.f0 Tb.cofs Tb.size Tb.dedup
end Go.Proofs.YtfkefgelceaimaaDoor
