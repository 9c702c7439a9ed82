/-
  The law TruthTells returns true for every input: what each function of tables makes is the document's. Condition: the library's table math/bits.deBruijn64tab holds what the program's text lays in it (the card ties it).
-/
import Derived.Test.YtfkefgelceaimaaDoorRows
import Derived.Test.YtfkefgelceaimaaDoorCards
import Derived.Test.YtfkefgelceaimaaDoorTie
import Derived.WalkKit
import Derived.ProofKit
import Derived.OpenShut
import Derived.LaidMore
import Derived.SevenTiedAt
import Derived.Stop.Joined
import Derived.Test.YtfkefgelceaimaaDoorRowKit
import Derived.Test.YtfkefgelceaimaaDoorWTells
namespace Go.Proofs.YtfkefgelceaimaaDoor.truthTells
open Go Go.ChangeShapes Go.WideShapes Go.ChangeAt Go.RowKit
set_option linter.unusedVariables false
set_option maxRecDepth 100000

theorem own : ownKnob Tryd.prog.godebug = none := by kernel_rfl

theorem lifted (os : Os) (started : os.Started) (H : Type) (enc : TypeId × Value → H) :
    ReturnsInHanded {} Tryd.checked os 11 .any (fun w args => (Rows.truthTellsSpec.pre enc Tryd.prog Tryd.f11 [] false w args ∧ laidMetH Tryd.prog [("math/bits.deBruijn64tab", Rows.laid_math_bits_deBruijn64tab)] w) ∧ sizedMet enc Tryd.prog Tryd.f11 (OpenSpec.ofChange Rows.truthTellsSpec) false w args)
      (Rows.truthTellsSpec.post enc Tryd.prog Tryd.f11 false true false false) := by
  refine returnsInHanded_of_change_and (C := Tryd.checked) (X := fun w _ => laidMetH Tryd.prog [("math/bits.deBruijn64tab", Rows.laid_math_bits_deBruijn64tab)] w) (fun _ _ _ hh h => h.of_heap hh) own started (by kernel_rfl) Tryd.func11
    (ChangeSpec.witness_shaped (enc := enc) (C := Tryd.checked) (os := os) (X := fun w _ => laidMetH Tryd.prog [("math/bits.deBruijn64tab", Rows.laid_math_bits_deBruijn64tab)] w) false (World.doorLaid Tryd.prog 14 os) #[.agg #[.int .u64 0, .int .u64 0, .int .u64 0, .int .u64 0], .agg #[.int .u64 0, .int .u64 0, .int .u64 0, .int .u64 0], .agg #[.int .u64 0, .int .u64 0, .int .u64 0, .int .u64 0], .int .i64 0, .bool false, .int .u8 0, .int .u8 0, .int .u8 0] 8 rfl (World.shaped_of_RefB (by kernel_rfl) (by kernel_rfl)) (by kernel_rfl) (by kernel_rfl) (by kernel_rfl) (door_met _ os)) ?_
  intro W base args ds gs before hval0 hW _ _ hL _
  have hval : ∀ (j : Nat) t v, Tryd.f11.params[j]? = some t → args[j]? = some v → Value.okWide Tryd.prog W .any base t v := hval0
  have hW' := hW
  obtain ⟨p, q, hA0, hV, rfl, hfz, hnd⟩ := hW
  have hA : DataW.TrodAll enc Tryd.prog W 0 (fun _ => true) true Tryd.f11.params.toList args.toList ds p := hA0
  rw [Tryd.params11] at hA hval
  obtain ⟨v0, vs0, d0, ds0, p0, q0, hargs, rfl, rfl, h0, r0⟩ := trodAll_cons hA
  obtain ⟨v1, vs1, d1, ds1, p1, q1, rfl, rfl, rfl, h1, r1⟩ := trodAll_cons r0
  obtain ⟨v2, vs2, d2, ds2, p2, q2, rfl, rfl, rfl, h2, r2⟩ := trodAll_cons r1
  obtain ⟨v3, vs3, d3, ds3, p3, q3, rfl, rfl, rfl, h3, r3⟩ := trodAll_cons r2
  obtain ⟨v4, vs4, d4, ds4, p4, q4, rfl, rfl, rfl, h4, r4⟩ := trodAll_cons r3
  obtain ⟨v5, vs5, d5, ds5, p5, q5, rfl, rfl, rfl, h5, r5⟩ := trodAll_cons r4
  obtain ⟨v6, vs6, d6, ds6, p6, q6, rfl, rfl, rfl, h6, r6⟩ := trodAll_cons r5
  obtain ⟨v7, vs7, d7, ds7, p7, q7, rfl, rfl, rfl, h7, r7⟩ := trodAll_cons r6
  obtain ⟨rfl, rfl, rfl⟩ := trodAll_nil r7
  obtain rfl : args = #[v0, v1, v2, v3, v4, v5, v6, v7] := by cases args; simp_all
  obtain ⟨rfl, rfl⟩ := trodVars_none hV
  obtain ⟨F0, rfl, rfl, rfl⟩ := open_tab (hval 0 24 v0 rfl rfl) h0
  obtain ⟨F1, rfl, rfl, rfl⟩ := open_tab (hval 1 24 v1 rfl rfl) h1
  obtain ⟨F2, rfl, rfl, rfl⟩ := open_tab (hval 2 24 v2 rfl rfl) h2
  obtain ⟨a3, rfl, rfl, rfl, w3⟩ := open_int Tryd.underlying3 (hval 3 3 v3 rfl rfl) h3
  obtain ⟨b4, rfl, rfl, rfl⟩ := open_bool Tryd.underlying4 (hval 4 4 v4 rfl rfl) h4
  obtain ⟨a5, rfl, rfl, rfl, w5⟩ := open_int Tryd.underlying5 (hval 5 5 v5 rfl rfl) h5
  obtain ⟨n5, rfl⟩ : ∃ n : Nat, a5 = (n : Int) := ⟨a5.toNat, by have := (wf_u8 w5).1; omega⟩
  have hn5 : n5 < 256 := by have := (wf_u8 w5).2; omega
  obtain ⟨a6, rfl, rfl, rfl, w6⟩ := open_int Tryd.underlying5 (hval 6 5 v6 rfl rfl) h6
  obtain ⟨n6, rfl⟩ : ∃ n : Nat, a6 = (n : Int) := ⟨a6.toNat, by have := (wf_u8 w6).1; omega⟩
  have hn6 : n6 < 256 := by have := (wf_u8 w6).2; omega
  obtain ⟨a7, rfl, rfl, rfl, w7⟩ := open_int Tryd.underlying5 (hval 7 5 v7 rfl rfl) h7
  obtain ⟨n7, rfl⟩ : ∃ n : Nat, a7 = (n : Int) := ⟨a7.toNat, by have := (wf_u8 w7).1; omega⟩
  have hn7 : n7 < 256 := by have := (wf_u8 w7).2; omega
  clear hA0 hval0
  simp only [List.append_nil] at hW'
  obtain ⟨hT, hG⟩ := tab_of_laid hL
  refine (show Calls Tryd.prog 11 #[Tb.tv F0, Tb.tv F1, Tb.tv F2, .int .i64 a3, .bool b4, .int .u8 (n5 : Int), .int .u8 (n6 : Int), .int .u8 (n7 : Int)] W _ from tells_walk F0 F1 F2 a3 b4 n5 n6 n7 hn5 hn6 hn7 W hT hG).mono fun e W' ⟨he, hb⟩ => ?_
  subst he
  exact ⟨_, rfl, post_of_below (pa := []) (pv := []) hW' (fun _ _ _ => (trodAll_cons_mk (shut_bool Tryd.underlying4 _) trodAll_mk0)) (fun sp _ => (trodAll_cons_mk (shut_tab F0) (trodAll_cons_mk (shut_tab F1) (trodAll_cons_mk (shut_tab F2) (trodAll_cons_mk (shut_int Tryd.underlying3 w3) (trodAll_cons_mk (shut_bool Tryd.underlying4 b4) (trodAll_cons_mk (shut_int Tryd.underlying5 w5) (trodAll_cons_mk (shut_int Tryd.underlying5 w6) (trodAll_cons_mk (shut_int Tryd.underlying5 w7) trodAll_mk0))))))))) (fun _ _ => rfl) rfl
    hb (ok_one (by kernel_rfl) rfl (okWide_bool_mk Tryd.underlying4 _))⟩

theorem over : Rows.TruthTellsSaid :=
  OpenClaim.holds_of_wide 11 Tryd.f11 rfl rfl rfl rfl rfl rfl rfl ⟨rfl, rfl, rfl, rfl, rfl⟩ rfl rfl rfl rfl rfl (by kernel_rfl) Tryd.func11 (by kernel_rfl)
    (of_decide_eq_true (by kernel_rfl)) (by unfold Func.isWrapper; first | (rw [if_pos (by decide +kernel)]; kernel_rfl) | (rw [if_neg (by decide +kernel)]; exact ⟨rfl, rfl⟩))
    (fun os started H enc _ => lifted os started H enc)

/-- the tied card -/
theorem proved : Rows.TruthTellsCardSaid :=
  Claim7.holds_tied_plain_at .later [] [.data] true (true, "26ae4e2cf8fb3add9ac16342a761a93ca3558eb434aeb4f5167795fe2eff6a4f") false
    over (fun _ h => by cases h) (by kernel_rfl) (fun _ h => by cases h) truthTells_row_tie rfl ⟨rfl, rfl⟩ (by kernel_rfl) rfl
    (fun f fn hf hfn => by
      obtain rfl : f = 11 := Option.some.inj ((show Tryd.prog.funcNamed "spinney/spinneylaw3.TruthTells" = some 11 by kernel_rfl).symm.trans hf) |>.symm
      obtain rfl : fn = Tryd.f11 := (Option.some.inj (Tryd.func11.symm.trans hfn)).symm
      exact ⟨by kernel_rfl, fun j t ht => by
        rw [Tryd.params11] at ht
        have hm : t ∈ ([24, 3, 4, 5] : List TypeId) := by simpa using Array.mem_of_getElem? ht
        have hall : (([24, 3, 4, 5] : List TypeId).all fun u => !Tryd.prog.wantsStandIn u) = true := by kernel_rfl
        exact (show Tryd.prog.wantsStandIn t = false by simpa using List.all_eq_true.1 hall t hm)⟩)
    (by kernel_rfl)
#print axioms proved
end Go.Proofs.YtfkefgelceaimaaDoor.truthTells
