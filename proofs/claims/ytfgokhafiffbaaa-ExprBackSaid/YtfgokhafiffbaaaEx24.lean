/-
  Formulas: what is known of the two constant texts.
-/
import Derived.Test.YtfgokhafiffbaaaEx23
import Derived.Test.YtfgokhafiffbaaaEx17
import Derived.Test.YtfgokhafiffbaaaRefB
namespace Go.Proofs.Ytfgokhafiffbaaa
set_option linter.unusedVariables false
open Go.RowKit

def kt : Tr := ⟨7, 9, 0, (⟨4, 3, 0, (⟨1, 0, 0, .nil⟩ : Tr).on ((⟨3, 5, 0, (⟨1, 6, 1, .nil⟩ : Tr).on .nil⟩ : Tr).on .nil)⟩ : Tr).on ((⟨1, 12, 2, .nil⟩ : Tr).on .nil)⟩
theorem kt_parse : Ex.parse (bl { data := #[118, 48, 32, 38, 32, 33, 118, 49, 32, 45, 62, 32, 118, 50] }) = (kt, 0, 0) := by decide +kernel
theorem kt_bad : Ex.parse (bl { data := #[118, 48, 32, 38] }) = (Tr.zero, 4, 230) := by decide +kernel
theorem kt_func : Ex.func kt = (~~~(Tb.var 0 &&& ~~~(Tb.var 1))) ||| Tb.var 2 := by
  have h : Ex.is kt = true := by decide +kernel
  unfold Ex.func
  rw [if_pos h]
  simp [Ex.table, kt, Tr.on, Fo.tabs, Ex.tabk]
set_option maxHeartbeats 8000000 in
theorem known_any (w : World) : Calls Try.prog 8 #[] w fun e w' => e = .returned (.bool true) ∧ Below w.heap.size w w' := by
  have hp1 := fun u => parse_any { data := #[118, 48, 32, 38, 32, 33, 118, 49, 32, 45, 62, 32, 118, 50] } u
  have hp2 := fun u => parse_any { data := #[118, 48, 32, 38] } u
  rw [kt_parse] at hp1
  rw [kt_bad] at hp2
  have heq := run_equal_max (F := (~~~(Tb.var 0 &&& ~~~(Tb.var 1))) ||| Tb.var 2) (G := (~~~(Tb.var 0 &&& ~~~(Tb.var 1))) ||| Tb.var 2) (b := true) (by simp)
  have HP1 := Bx.mk hp1
  have HP2 := Bx.mk hp2
  clear hp1 hp2
  go_enter Try.func8, Try.ntmps8
  go_wp2_with fail
  refine (HP1.out _).mono ?_
  rintro e w1 ⟨sl, rfl, hS1, hb1⟩
  obtain ⟨p1, c1, rfl⟩ := hS1.is
  have hB1 := Blk.new w1 36 #[.int .i64 7, .int .i64 9, .int .i64 0, .slice p1 2 c1]
  have HS1 := Bx.mk (hS1.alloc (.cells #[.int .i64 7, .int .i64 9, .int .i64 0, .slice p1 2 c1] 36))
  have HB1 := Bx.mk hB1
  have HG1 := Bx.mk (hb1.alloc hb1.size (.cells #[.int .i64 7, .int .i64 9, .int .i64 0, .slice p1 2 c1] 36))
  clear hS1 hB1 hb1
  unfold Pv Ev
  change _
  simp only [show kt.k = 7 from rfl, show kt.a = 9 from rfl, show kt.v = 0 from rfl, show kt.kids.len = 2 from rfl]
  go_wp2_with fail
  refine (HP2.out _).mono ?_
  rintro e w2 ⟨sl2, rfl, hS2, hb2⟩
  obtain ⟨p2, c2, rfl⟩ := hS2.is
  have hB2 := (HB1.out.below hb2 HB1.out.lt).alloc (.cells #[.int .i64 0, .int .i64 0, .int .i64 0, .slice p2 0 c2] 36)
  have hT2 := (HS1.out.below hb2).alloc (.cells #[.int .i64 0, .int .i64 0, .int .i64 0, .slice p2 0 c2] 36)
  have hG2 := (HG1.out.trans (hb2.mono HG1.out.size)).alloc (Nat.le_trans HG1.out.size hb2.size) (.cells #[.int .i64 0, .int .i64 0, .int .i64 0, .slice p2 0 c2] 36)
  obtain ⟨a0, a1, a2, a3, _, _, _, _⟩ := cells4 hB2
  have HB2 := Bx.mk hB2
  have HT2 := Bx.mk hT2
  have HG2 := Bx.mk hG2
  clear hB2 hT2 hG2 hS2 hb2
  unfold Pv Ev
  simp only [show Tr.zero.k = 0 from rfl, show Tr.zero.a = 0 from rfl, show Tr.zero.v = 0 from rfl, show Tr.zero.kids.len = 0 from rfl]
  go_wp2_with fail
  refine (print_v3 _).mono ?_
  rintro e w3 ⟨rfl, hb3⟩
  have hB3 := HB2.out.below hb3 HB2.out.lt
  have hT3 := HT2.out.below hb3
  have hG3 := HG2.out.trans (hb3.mono HG2.out.size)
  clear a0 a1 a2 a3
  obtain ⟨a0, a1, a2, a3, _, _, _, _⟩ := cells4 hB3
  have hF := func_any kt _ _ _ hT3
  rw [kt_func] at hF
  unfold Ev at hF
  simp only [show kt.k = 7 from rfl, show kt.a = 9 from rfl, show kt.v = 0 from rfl] at hF
  have HF := Bx.mk hF
  have HG3 := Bx.mk hG3
  clear hB3 hT3 hG3 hb3 hF
  go_wp2_with fail
  refine HF.out.mono ?_
  rintro e w4 ⟨rfl, hb4⟩
  have HG4 := Bx.mk (HG3.out.trans (hb4.mono HG3.out.size))
  clear hb4 a0 a1 a2 a3
  go_wp2_with fail
  refine (rvar_any 0 _).mono ?_
  rintro e w5 ⟨rfl, hb5⟩
  have HG5 := Bx.mk (HG4.out.trans (hb5.mono HG4.out.size))
  clear hb5
  go_wp2_with fail
  refine (rvar_any 1 _).mono ?_
  rintro e w6 ⟨rfl, hb6⟩
  have HG6 := Bx.mk (HG5.out.trans (hb6.mono HG5.out.size))
  clear hb6
  go_wp2_with fail
  refine (rnot_any (Tb.var 1) _).mono ?_
  rintro e w7 ⟨rfl, hb7⟩
  have HG7 := Bx.mk (HG6.out.trans (hb7.mono HG6.out.size))
  clear hb7
  go_wp2_with fail
  refine (rand_any (Tb.var 0) (~~~(Tb.var 1)) _).mono ?_
  rintro e w8 ⟨rfl, hb8⟩
  have HG8 := Bx.mk (HG7.out.trans (hb8.mono HG7.out.size))
  clear hb8
  go_wp2_with fail
  refine (rnot_any (Tb.var 0 &&& ~~~(Tb.var 1)) _).mono ?_
  rintro e w9 ⟨rfl, hb9⟩
  have HG9 := Bx.mk (HG8.out.trans (hb9.mono HG8.out.size))
  clear hb9
  go_wp2_with fail
  refine (rvar_any 2 _).mono ?_
  rintro e w10 ⟨rfl, hb10⟩
  have HG10 := Bx.mk (HG9.out.trans (hb10.mono HG9.out.size))
  clear hb10
  go_wp2_with fail
  refine (ror_any (~~~(Tb.var 0 &&& ~~~(Tb.var 1))) (Tb.var 2) _).mono ?_
  rintro e w11 ⟨rfl, hb11⟩
  have HG11 := Bx.mk (HG10.out.trans (hb11.mono HG10.out.size))
  clear hb11
  go_wp2_with fail
  go_ret
  exact ⟨rfl, HG11.out⟩
end Go.Proofs.Ytfgokhafiffbaaa
