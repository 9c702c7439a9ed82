/-
  Formulas: tables, what it hands back.
-/
import Derived.Test.YtfgokhafiffbaaaEx19
import Derived.Test.YtfgokhafiffbaaaTruthE
import Derived.Test.YtfgokhafiffbaaaLaw2
namespace Go.Proofs.Ytfgokhafiffbaaa
set_option linter.unusedVariables false
open Go.RowKit

set_option maxHeartbeats 4000000 in
theorem tables1_any (f g : Tb.T) (w : World) : Calls Try.prog 74 #[Tb.tv f, Tb.tv g] w fun e w' => e = .returned (Tb.tv ((~~~f) ||| g)) ∧ Below w.heap.size w w' := by
  have hK := (((Keep.nil w).new f).new g).new 0#256
  simp only [List.cons_append, List.nil_append, alloc_size] at hK
  have HK := Bx.mk hK
  clear hK
  go_enter Try.func74, Try.ntmps74
  go_wp2_with fail
  refine region_any 4 (fun u => Keep w u [(w.heap.size, f), (w.heap.size + 1, g), (w.heap.size + 1 + 1, 0#256)]) (by kernel_rfl) ?_
  rw [zeros_tab]
  generalize hu : World.drew _ = u0
  have hS0 : Keep w u0 [(w.heap.size, f), (w.heap.size + 1, g), (w.heap.size + 1 + 1, 0#256)] := by rw [← hu]; exact HK.out.drew
  clear hu HK
  refine any_take (i := 0) (Tb.tv f) rfl rfl (by kernel_rfl) (by kernel_rfl) (by kernel_rfl) (by kernel_rfl) (fun _ _ d _ _ h => by cases d <;> exact h) (fun u hS => exec_load rfl rfl (hS.at_ 0 _ _ rfl)) hS0 ?_
  (try simp only [Act.put]); (try simp only [List.getElem_toArray]); (try simp only [List.getElem_cons_succ]); (try simp only [List.getElem_cons_zero]); (try simp only [List.setIfInBounds_toArray]); (try simp only [List.set_cons_succ]); (try simp only [List.set_cons_zero])
  refine any_take (i := 2) (Tb.tv g) rfl rfl (by kernel_rfl) (by kernel_rfl) (by kernel_rfl) (by kernel_rfl) (fun _ _ d _ _ h => by cases d <;> exact h) (fun u hS => exec_load rfl rfl (hS.at_ 1 _ _ rfl)) hS0 ?_
  (try simp only [Act.put]); (try simp only [List.getElem_toArray]); (try simp only [List.getElem_cons_succ]); (try simp only [List.getElem_cons_zero]); (try simp only [List.setIfInBounds_toArray]); (try simp only [List.set_cons_succ]); (try simp only [List.set_cons_zero])
  refine any_branch [1] (by kernel_rfl) rfl fun ix hix => ?_
  simp only [List.mem_cons, List.not_mem_nil, or_false] at hix
  subst hix
  refine any_op rfl rfl fun K hK => ?_
  go_simp
  refine (not_any f _).mono ?_
  rintro e u1 ⟨rfl, hb1⟩
  have hS1 := hS0.step hb1
  refine hK _ _ (fun _ => hS1) ?_
  (try simp only [Act.put]); (try simp only [List.getElem_toArray]); (try simp only [List.getElem_cons_succ]); (try simp only [List.getElem_cons_zero]); (try simp only [List.setIfInBounds_toArray]); (try simp only [List.set_cons_succ]); (try simp only [List.set_cons_zero])
  clear hK
  refine any_branch [3] (by kernel_rfl) rfl fun ix hix => ?_
  simp only [List.mem_cons, List.not_mem_nil, or_false] at hix
  subst hix
  refine any_op rfl rfl fun K hK => ?_
  go_simp
  refine (or_any (~~~f) g _).mono ?_
  rintro e u2 ⟨rfl, hb2⟩
  have hS2 := hS1.step hb2
  refine hK _ _ (fun _ => hS2) ?_
  (try simp only [Act.put]); (try simp only [List.getElem_toArray]); (try simp only [List.getElem_cons_succ]); (try simp only [List.getElem_cons_zero]); (try simp only [List.setIfInBounds_toArray]); (try simp only [List.set_cons_succ]); (try simp only [List.set_cons_zero])
  clear hK
  refine any_branch [4] (by kernel_rfl) rfl fun ix hix => ?_
  simp only [List.mem_cons, List.not_mem_nil, or_false] at hix
  subst hix
  refine any_op rfl rfl fun K hK => ?_
  obtain ⟨⟨r0, r1, r2, r3⟩, g0, g1, g2, g3⟩ := tfacts (hS2.at_ 2 _ _ rfl)
  unfold Tb.tv
  go_simp
  refine hK _ _ (fun h => absurd rfl h) ?_
  (try simp only [Act.put]); (try simp only [List.getElem_toArray]); (try simp only [List.getElem_cons_succ]); (try simp only [List.getElem_cons_zero]); (try simp only [List.setIfInBounds_toArray]); (try simp only [List.set_cons_succ]); (try simp only [List.set_cons_zero])
  clear hK
  refine any_end (by kernel_rfl) ?_
  have HSf := Bx.mk (hS2.store 2 ((~~~f) ||| g) rfl (by omega))
  clear r0 r1 r2 r3 g0 g1 g2 g3 hS0 hS1 hS2 hb1 hb2
  go_wp2_with fail
  have hE := HSf.out.at_ 2 _ _ rfl
  obtain ⟨⟨r0, r1, r2, r3⟩, _, _, _, _⟩ := tfacts hE
  refine bodyPost_ret (v := Tb.tv ((~~~f) ||| g)) (by simp [results, Try.results74, go_sem, r0, r1, r2, r3] <;> rfl) rfl ⟨rfl, HSf.out.below⟩

set_option maxHeartbeats 4000000 in
theorem tables2_any (f g : Tb.T) (w : World) : Calls Try.prog 75 #[Tb.tv f, Tb.tv g] w fun e w' => e = .returned (Tb.tv (~~~(f ^^^ g))) ∧ Below w.heap.size w w' := by
  have hK := (((Keep.nil w).new f).new g).new 0#256
  simp only [List.cons_append, List.nil_append, alloc_size] at hK
  have HK := Bx.mk hK
  clear hK
  go_enter Try.func75, Try.ntmps75
  go_wp2_with fail
  rw [zeros_tab]
  refine (xor_any f g _).mono ?_
  rintro e u1 ⟨rfl, hb1⟩
  have HS1 := Bx.mk (HK.out.step hb1)
  clear hb1
  go_wp2_with fail
  refine (not_any (f ^^^ g) _).mono ?_
  rintro e u2 ⟨rfl, hb2⟩
  have hS2 := HS1.out.step hb2
  obtain ⟨⟨r0, r1, r2, r3⟩, g0, g1, g2, g3⟩ := tfacts (hS2.at_ 2 _ _ rfl)
  have HSf := Bx.mk (hS2.store 2 (~~~(f ^^^ g)) rfl (by omega))
  clear hb2 hS2
  unfold Tb.tv
  go_wp2_with fail
  clear r0 r1 r2 r3 g0 g1 g2 g3
  have hE := HSf.out.at_ 2 _ _ rfl
  obtain ⟨⟨r0, r1, r2, r3⟩, _, _, _, _⟩ := tfacts hE
  refine bodyPost_ret (v := Tb.tv (~~~(f ^^^ g))) (by simp [results, Try.results75, go_sem, r0, r1, r2, r3] <;> rfl) rfl ⟨rfl, HSf.out.below⟩

theorem tables_4 (w : World) : Calls Try.prog 51 #[.int .i64 4] w fun e w' => e = .returned (.func (.func 71) #[] #[]) ∧ w' = w := by
  go_enter Try.func51, Try.ntmps51
  go_wp2_with fail
  go_ret
  exact ⟨rfl, rfl⟩

theorem tables_5 (w : World) : Calls Try.prog 51 #[.int .i64 5] w fun e w' => e = .returned (.func (.func 70) #[] #[]) ∧ w' = w := by
  go_enter Try.func51, Try.ntmps51
  go_wp2_with fail
  go_ret
  exact ⟨rfl, rfl⟩

theorem tables_6 (w : World) : Calls Try.prog 51 #[.int .i64 6] w fun e w' => e = .returned (.func (.func 73) #[] #[]) ∧ w' = w := by
  go_enter Try.func51, Try.ntmps51
  go_wp2_with fail
  go_ret
  exact ⟨rfl, rfl⟩

theorem tables_7 (w : World) : Calls Try.prog 51 #[.int .i64 7] w fun e w' => e = .returned (.func (.func 74) #[] #[]) ∧ w' = w := by
  go_enter Try.func51, Try.ntmps51
  go_wp2_with fail
  go_ret
  exact ⟨rfl, rfl⟩

theorem tables_8 (w : World) : Calls Try.prog 51 #[.int .i64 8] w fun e w' => e = .returned (.func (.func 75) #[] #[]) ∧ w' = w := by
  go_enter Try.func51, Try.ntmps51
  go_wp2_with fail
  go_ret
  exact ⟨rfl, rfl⟩

end Go.Proofs.Ytfgokhafiffbaaa
