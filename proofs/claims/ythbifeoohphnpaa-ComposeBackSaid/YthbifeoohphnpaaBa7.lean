/-
  Texts on which the laws of this seat rest, part 7 of 11.
-/
import Derived.Test.YthbifeoohphnpaaBa6
import Derived.Test.YthbifeoohphnpaaRows
import Derived.Deep.RegionHeld3
import Derived.Deep.DeepCutAuto
import Derived.StillTail
import Derived.KernelRfl
import Derived.Tactics
/-
  Package order: all variables by levels.
-/
namespace Go.Proofs.Ythbifeoohphnpaa
set_option linter.unusedVariables false
open Go.RowKit
theorem Fr.setRow {S : List Nat} {a w : World} (h : Fr S a w) {g : Nat} (hg : g < a.heap.size → g ∈ S) (cs : Array Value) : Fr S a (w.setRow g cs) :=
  h.trans (S' := [g]) ⟨rfl, rfl, rfl, by simp, fun k hk hn => setRow_other w g k cs (by simpa using hn)⟩ (fun b hb hl => by obtain rfl := List.mem_singleton.1 hb; exact hg hl)
section
variable {u : World} {a : Act} {o : Oper} {x y : Operand}
theorem exec_slO {p n : Nat} (hn : n ≤ 8) (hop : o.op = .slice 100 x none (some y) none) (hx : a.eval x = .pointer (some ⟨p, 1, none⟩)) (hy : a.eval y = .int .i64 (n : Int)) :
    (execOp a.eval o).run Try.prog u = .ok (.value (.slice (some ⟨p, 1, none⟩) n 8)) u := by
  have q0 : (0 : Int) ≤ (n : Int) := by omega
  have q1 : (n : Int) ≤ 8 := by omega
  unfold execOp
  simp only [hop, hx, hy, Option.map_some, Option.map_none]
  go_simp
end
set_option maxRecDepth 100000 in
theorem oall_copy (o g : Nat) (S : Sto) (u : World) (h : Blk u o 102 (ordV S)) (hg : Blk u g 3 (madeCells #[Value.int IntKind.i64 0] S.n)) (hl : S.vars.length = 8 ∧ S.levels.length = 8 ∧ S.n ≤ 8) :
    (Builtin.copy_ #[38, 38] 3 #[.slice (some ⟨g, 0, none⟩) S.n S.n, .slice (some ⟨o, 1, none⟩) S.n 8]).run Try.prog u = .ok (.int .i64 (S.n : Int)) (u.setRow g ((S.vars.map fun (x : Nat) => Value.int .i64 (x : Int)).take S.n).toArray) := by
  have hlen : ((S.vars.take S.n).map fun (x : Nat) => Value.int .i64 (x : Int)).length = S.n := by rw [List.length_map, List.length_take]; omega
  have hcur : (madeCells #[Value.int IntKind.i64 0] S.n).size = S.n := by rw [← Array.length_toList, toList_madeCells_one, List.length_replicate]
  have hr := run_copy_row (P := Try.prog) u 38 38 3 3 g 0 S.n S.n ⟨o, 1, none⟩ S.n 8 _ _ ((S.vars.take S.n).map fun (x : Nat) => Value.int .i64 (x : Int)) Try.underlying38 (by kernel_rfl) hg.eq (by rw [hlen]; simp) (fun j v hj => by
    rw [addr_addk]
    have hj2 := (List.getElem?_eq_some_iff.1 hj).1
    rw [hlen] at hj2
    refine h.cellEq ?_
    unfold ordV
    rw [List.getElem?_toArray, show 1 + j = j + 1 from by omega, List.getElem?_cons_succ, List.getElem?_append_left (by rw [List.length_map]; omega)]
    rw [List.getElem?_map, List.getElem?_take, if_pos hj2] at hj
    rw [List.getElem?_map]
    exact hj) (by rw [hlen, hcur]; omega) (fun v hv => by
    obtain ⟨x, _, rfl⟩ := List.mem_map.1 hv
    rfl)
  rw [hlen] at hr
  rw [hr, List.map_take]
  congr 3
  rw [List.take_zero, List.nil_append, List.drop_eq_nil_of_le (by rw [Array.length_toList, hcur]; omega), List.append_nil]
set_option maxRecDepth 100000 in
theorem oall_any (o : Nat) (S : Sto) (w : World) (h : Blk w o 102 (ordV S)) (hl : S.vars.length = 8 ∧ S.levels.length = 8 ∧ S.n ≤ 8) :
    Calls Try.prog 17 #[.pointer (some ⟨o, 0, none⟩)] w fun e w' => e = .returned (.slice (some ⟨w.heap.size, 0, none⟩) S.n S.n) ∧
      Blk w' w.heap.size 3 ((S.vars.map fun (x : Nat) => Value.int .i64 (x : Int)).take S.n).toArray ∧ Fr [] w w' ∧ w'.heap.size = w.heap.size + 1 := by
  obtain ⟨i0, hi, hz⟩ : ∃ i, Try.prog.info? 3 = some i ∧ i.zero = some (.int .i64 0) ∧ i.size = 1 ∧ i.bytes = 8 := by
    refine ⟨_, rfl, ?_⟩
    exact ⟨by kernel_rfl, by kernel_rfl, by kernel_rfl⟩
  have c0 : w.cell? ⟨o, 0, none⟩ = some (.int .i64 (S.n : Int)) := h.cellEq rfl
  have hmk := run_make (P := Try.prog) w 38 3 i0 _ Try.underlying38 hi hz.1 .i64 .i64 S.n S.n (by omega) (Int.le_refl _) (by rw [hz.2.2]; omega) (by omega)
  have hsz := hz.2.1
  have hn8 := hl.2.2
  have q1 : (S.n : Int) ≤ 8 := by omega
  have q2 : (0 : Int) ≤ (S.n : Int) := by omega
  clear hz
  go_enter Try.func17, Try.ntmps17
  go_wp2_with fail
  have HS0 : Bx (Blk (World.drew (w.alloc (Obj.cells (madeCells #[Value.int IntKind.i64 0] S.n) 3))) o 102 (ordV S) ∧ Blk (World.drew (w.alloc (Obj.cells (madeCells #[Value.int IntKind.i64 0] S.n) 3))) w.heap.size 3 (madeCells #[Value.int IntKind.i64 0] S.n) ∧ Fr [] w (World.drew (w.alloc (Obj.cells (madeCells #[Value.int IntKind.i64 0] S.n) 3))) ∧ (World.drew (w.alloc (Obj.cells (madeCells #[Value.int IntKind.i64 0] S.n) 3))).heap.size = w.heap.size + 1) :=
    ⟨(h.alloc _).drew, (Blk.new w _ _).drew, ((Fr.refl _ _).alloc _).drew, alloc_size _ _⟩
-- ⟦OALL
  refine region_any 100 (fun u => Blk u o 102 (ordV S)) (by kernel_rfl) ?_
  generalize hu : World.drew _ = u0
  have hS0 : Blk u0 o 102 (ordV S) := by rw [← hu]; exact HS0.out.1
  refine any_take (i := 0) (.slice (some ⟨w.heap.size, 0, none⟩) S.n S.n) rfl rfl (by kernel_rfl) (by kernel_rfl) (by kernel_rfl) (by kernel_rfl) (fun _ _ d _ _ h => by cases d <;> exact h) (fun u hS => rfl) hS0 ?_
  (try simp only [Act.put]); (try simp only [List.getElem_toArray]); (try simp only [List.getElem_cons_succ]); (try simp only [List.getElem_cons_zero]); (try simp only [List.setIfInBounds_toArray]); (try simp only [List.set_cons_succ]); (try simp only [List.set_cons_zero])
  refine any_take (i := 1) (.pointer (some ⟨o, 0, none⟩)) rfl rfl (by kernel_rfl) (by kernel_rfl) (by kernel_rfl) (by kernel_rfl) (fun _ _ d _ _ h => by cases d <;> exact h) (fun u hS => rfl) hS0 ?_
  (try simp only [Act.put]); (try simp only [List.getElem_toArray]); (try simp only [List.getElem_cons_succ]); (try simp only [List.getElem_cons_zero]); (try simp only [List.setIfInBounds_toArray]); (try simp only [List.set_cons_succ]); (try simp only [List.set_cons_zero])
  refine any_take (i := 2) (.pointer (some ⟨o, 0, none⟩)) rfl rfl (by kernel_rfl) (by kernel_rfl) (by kernel_rfl) (by kernel_rfl) (fun _ _ d _ _ h => by cases d <;> exact h) (fun u hS => rfl) hS0 ?_
  (try simp only [Act.put]); (try simp only [List.getElem_toArray]); (try simp only [List.getElem_cons_succ]); (try simp only [List.getElem_cons_zero]); (try simp only [List.setIfInBounds_toArray]); (try simp only [List.set_cons_succ]); (try simp only [List.set_cons_zero])
  refine any_take (i := 3) (.pointer (some ⟨o, 1, none⟩)) rfl rfl (by kernel_rfl) (by kernel_rfl) (by kernel_rfl) (by kernel_rfl) (fun _ _ d _ _ h => by cases d <;> exact h) (fun u hS => rfl) hS0 ?_
  (try simp only [Act.put]); (try simp only [List.getElem_toArray]); (try simp only [List.getElem_cons_succ]); (try simp only [List.getElem_cons_zero]); (try simp only [List.setIfInBounds_toArray]); (try simp only [List.set_cons_succ]); (try simp only [List.set_cons_zero])
  refine any_take (i := 4) (.pointer (some ⟨o, 0, none⟩)) rfl rfl (by kernel_rfl) (by kernel_rfl) (by kernel_rfl) (by kernel_rfl) (fun _ _ d _ _ h => by cases d <;> exact h) (fun u hS => rfl) hS0 ?_
  (try simp only [Act.put]); (try simp only [List.getElem_toArray]); (try simp only [List.getElem_cons_succ]); (try simp only [List.getElem_cons_zero]); (try simp only [List.setIfInBounds_toArray]); (try simp only [List.set_cons_succ]); (try simp only [List.set_cons_zero])
  refine any_take (i := 5) (.pointer (some ⟨o, 0, none⟩)) rfl rfl (by kernel_rfl) (by kernel_rfl) (by kernel_rfl) (by kernel_rfl) (fun _ _ d _ _ h => by cases d <;> exact h) (fun u hS => rfl) hS0 ?_
  (try simp only [Act.put]); (try simp only [List.getElem_toArray]); (try simp only [List.getElem_cons_succ]); (try simp only [List.getElem_cons_zero]); (try simp only [List.setIfInBounds_toArray]); (try simp only [List.set_cons_succ]); (try simp only [List.set_cons_zero])
  refine any_take (i := 6) (.pointer (some ⟨o, 0, none⟩)) rfl rfl (by kernel_rfl) (by kernel_rfl) (by kernel_rfl) (by kernel_rfl) (fun _ _ d _ _ h => by cases d <;> exact h) (fun u hS => rfl) hS0 ?_
  (try simp only [Act.put]); (try simp only [List.getElem_toArray]); (try simp only [List.getElem_cons_succ]); (try simp only [List.getElem_cons_zero]); (try simp only [List.setIfInBounds_toArray]); (try simp only [List.set_cons_succ]); (try simp only [List.set_cons_zero])
  refine any_take (i := 7) (.int .i64 (S.n : Int)) rfl rfl (by kernel_rfl) (by kernel_rfl) (by kernel_rfl) (by kernel_rfl) (fun _ _ d _ _ h => by cases d <;> exact h) (fun u hS => exec_ld_I rfl rfl (hS.cell 0)) hS0 ?_
  (try simp only [Act.put]); (try simp only [List.getElem_toArray]); (try simp only [List.getElem_cons_succ]); (try simp only [List.getElem_cons_zero]); (try simp only [List.setIfInBounds_toArray]); (try simp only [List.set_cons_succ]); (try simp only [List.set_cons_zero])
  refine any_take (i := 8) (.slice (some ⟨o, 1, none⟩) S.n 8) rfl rfl (by kernel_rfl) (by kernel_rfl) (by kernel_rfl) (by kernel_rfl) (fun _ _ d _ _ h => by cases d <;> exact h) (fun u hS => exec_slO hn8 rfl rfl rfl) hS0 ?_
  (try simp only [Act.put]); (try simp only [List.getElem_toArray]); (try simp only [List.getElem_cons_succ]); (try simp only [List.getElem_cons_zero]); (try simp only [List.setIfInBounds_toArray]); (try simp only [List.set_cons_succ]); (try simp only [List.set_cons_zero])
  refine any_branch [9] (by kernel_rfl) rfl fun ix hix => ?_
  simp only [List.mem_cons, List.not_mem_nil, or_false] at hix
  subst hix
  refine any_op rfl rfl fun K hK => ?_
  rw [hu] at HS0
  have hcp := oall_copy o w.heap.size S u0 HS0.out.1 HS0.out.2.1 hl
  have hS1 := hS0.fr (Fr.setRow (S := [w.heap.size]) (g := w.heap.size) (Fr.refl _ _) (fun _ => by simp) ((S.vars.map fun (x : Nat) => Value.int .i64 (x : Int)).take S.n).toArray) (by have := h.lt; simp; omega)
  go_simp
  refine hK _ _ (fun _ => hS1) ?_
  (try simp only [Act.put]); (try simp only [List.getElem_toArray]); (try simp only [List.getElem_cons_succ]); (try simp only [List.getElem_cons_zero]); (try simp only [List.setIfInBounds_toArray]); (try simp only [List.set_cons_succ]); (try simp only [List.set_cons_zero])
  clear hK
  refine any_end (by kernel_rfl) ?_
-- ⟧
  have HE : Bx (Blk (u0.setRow w.heap.size ((S.vars.map fun (x : Nat) => Value.int .i64 (x : Int)).take S.n).toArray) w.heap.size 3 ((S.vars.map fun (x : Nat) => Value.int .i64 (x : Int)).take S.n).toArray ∧ Fr [] w (u0.setRow w.heap.size ((S.vars.map fun (x : Nat) => Value.int .i64 (x : Int)).take S.n).toArray) ∧ (u0.setRow w.heap.size ((S.vars.map fun (x : Nat) => Value.int .i64 (x : Int)).take S.n).toArray).heap.size = w.heap.size + 1) :=
    ⟨⟨setRow_heap _ _ _ _ _ _ HS0.out.2.1.eq⟩, HS0.out.2.2.1.setRow (fun hl => absurd hl (by omega)) _, by rw [size_setRow]; exact HS0.out.2.2.2⟩
  clear hcp hS0 hS1 hu HS0 hmk
  go_wp2_with fail
  go_ret
  exact ⟨rfl, HE.out⟩
end Go.Proofs.Ythbifeoohphnpaa

/-
  The walks of package truth, first part: joining tables word by word.
-/
namespace Go.Proofs.Ythbifeoohphnpaa
set_option linter.unusedVariables false
open Go.RowKit

/-- what was there before a contract's new blocks reads as it did -/
theorem bcell {W w1 : World} (hb : Below W.heap.size W w1) : (∀ b o, b < W.heap.size → w1.cell? ⟨b, o, none⟩ = W.cell? ⟨b, o, none⟩) ∧ (∀ b o, b < W.heap.size → w1.frozen? ⟨b, o, none⟩ = W.frozen? ⟨b, o, none⟩) :=
  ⟨fun b o h => hb.cell (p := ⟨b, o, none⟩) h, fun b o h => hb.frozen (p := ⟨b, o, none⟩) h⟩

/-- a table's block, cell by cell -/
theorem tfacts {w : World} {g t : Nat} {f : Tb.T} (h : Blk w g t (Tb.tcells f)) :
    (w.cell? ⟨g, 0, none⟩ = some (.int .u64 (Tb.wd f 0)) ∧ w.cell? ⟨g, 1, none⟩ = some (.int .u64 (Tb.wd f 1)) ∧ w.cell? ⟨g, 2, none⟩ = some (.int .u64 (Tb.wd f 2)) ∧ w.cell? ⟨g, 3, none⟩ = some (.int .u64 (Tb.wd f 3))) ∧
    (w.frozen? ⟨g, 0, none⟩ = false ∧ w.frozen? ⟨g, 1, none⟩ = false ∧ w.frozen? ⟨g, 2, none⟩ = false ∧ w.frozen? ⟨g, 3, none⟩ = false) :=
  ⟨⟨h.cell 0, h.cell 1, h.cell 2, h.cell 3⟩, h.frozen 0, h.frozen 1, h.frozen 2, h.frozen 3⟩

/-- a table's block behind four stores -/
theorem blk4 {w : World} {g t : Nat} {f : Tb.T} (h : Blk w g t (Tb.tcells f)) (r : Tb.T) :
    Blk ((((w.setCell ⟨g, 0, none⟩ (.int .u64 (Tb.wd r 0))).setCell ⟨g, 1, none⟩ (.int .u64 (Tb.wd r 1))).setCell ⟨g, 2, none⟩ (.int .u64 (Tb.wd r 2))).setCell ⟨g, 3, none⟩ (.int .u64 (Tb.wd r 3))) g t (Tb.tcells r) :=
  (((h.set_ 0 _).set_ 1 _).set_ 2 _).set_ 3 _
theorem blk4_far {w : World} {g g' t : Nat} {cs : Array Value} (h : Blk w g' t cs) (hne : g' ≠ g) (r : Tb.T) :
    Blk ((((w.setCell ⟨g, 0, none⟩ (.int .u64 (Tb.wd r 0))).setCell ⟨g, 1, none⟩ (.int .u64 (Tb.wd r 1))).setCell ⟨g, 2, none⟩ (.int .u64 (Tb.wd r 2))).setCell ⟨g, 3, none⟩ (.int .u64 (Tb.wd r 3))) g' t cs :=
  (((h.far (p := ⟨g, 0, none⟩) hne _).far (p := ⟨g, 1, none⟩) hne _).far (p := ⟨g, 2, none⟩) hne _).far (p := ⟨g, 3, none⟩) hne _

/-- a function with a body is entered -/
def Enters (P : Program) (K : Nat) : Prop := ∀ args w, (callFunc K args).run P w = .ok (.enter K args) w

end Go.Proofs.Ythbifeoohphnpaa

/-
  The walks of package truth, second part: tables out of what is asked of each assignment.
-/
namespace Go.Proofs.Ythbifeoohphnpaa
set_option linter.unusedVariables false
open Go.RowKit

end Go.Proofs.Ythbifeoohphnpaa

/-
  The walks of package truth, third part: constants, variables, values, a variable set for good.
-/
namespace Go.Proofs.Ythbifeoohphnpaa
set_option linter.unusedVariables false
open Go.RowKit

theorem kn_yes {v : Int} (h : Tb.kn v = true) : 0 ≤ v ∧ v < 8 := by unfold Tb.kn at h; simpa using h

theorem tcells_fact (w : World) (f : Tb.T) (t : Nat) (k : Nat) (hk : k < 256) : (w.alloc (.cells (Tb.tcells f) t)).cell? ⟨w.heap.size, k / 64, none⟩ = some (.int .u64 (Tb.wd f (k / 64))) :=
  ((Blk.new w t (Tb.tcells f)).cell _).trans (Tb.tcells_at f k hk)

end Go.Proofs.Ythbifeoohphnpaa

/-
  The walks of the document's tables, first part: word by word, a value.
-/
namespace Go.Proofs.Ythbifeoohphnpaa
set_option linter.unusedVariables false
open Go.RowKit

set_option maxRecDepth 100000 in
set_option maxHeartbeats 1000000 in
theorem rand_raw (f g : Tb.T) (w : World) :
    Calls Try.prog 37 #[Tb.tv f, Tb.tv g] w fun e w' => e = .returned (.agg #[.int .u64 (bits .and .u64 (Tb.wd f 0) (Tb.wd g 0)), .int .u64 (bits .and .u64 (Tb.wd f 1) (Tb.wd g 1)), .int .u64 (bits .and .u64 (Tb.wd f 2) (Tb.wd g 2)), .int .u64 (bits .and .u64 (Tb.wd f 3) (Tb.wd g 3))]) ∧ Below w.heap.size w w' := by
  go_enter Try.func37, Try.ntmps37
  go_wp2_with fail
  refine wp_loop_rounds 5 ?_
  rw [rounds_succ]
  go_wp2_with fail
  refine region_tail 9 (by kernel_rfl) (by kernel_rfl) ?_
  simp only [List.take_succ_cons, List.take_zero, List.drop_succ_cons, List.drop_zero]
  repeat still_step
  refine wpStill_nil ?_
  go_wp2_with fail
  rw [rounds_succ]
  go_wp2_with fail
  refine region_tail 9 (by kernel_rfl) (by kernel_rfl) ?_
  simp only [List.take_succ_cons, List.take_zero, List.drop_succ_cons, List.drop_zero]
  repeat still_step
  refine wpStill_nil ?_
  go_wp2_with fail
  rw [rounds_succ]
  go_wp2_with fail
  refine region_tail 9 (by kernel_rfl) (by kernel_rfl) ?_
  simp only [List.take_succ_cons, List.take_zero, List.drop_succ_cons, List.drop_zero]
  repeat still_step
  refine wpStill_nil ?_
  go_wp2_with fail
  rw [rounds_succ]
  go_wp2_with fail
  refine region_tail 9 (by kernel_rfl) (by kernel_rfl) ?_
  simp only [List.take_succ_cons, List.take_zero, List.drop_succ_cons, List.drop_zero]
  repeat still_step
  refine wpStill_nil ?_
  go_wp2_with fail
  rw [rounds_succ]
  go_wp2_with fail
  refine bodyPost_ret (v := .agg #[.int .u64 (bits .and .u64 (Tb.wd f 0) (Tb.wd g 0)), .int .u64 (bits .and .u64 (Tb.wd f 1) (Tb.wd g 1)), .int .u64 (bits .and .u64 (Tb.wd f 2) (Tb.wd g 2)), .int .u64 (bits .and .u64 (Tb.wd f 3) (Tb.wd g 3))]) (by simp [results, Try.results37, go_sem]) rfl ⟨rfl, ?_⟩
  (repeat (first | (with_reducible exact Below.refl _ _) | (with_reducible assumption) | (with_reducible refine Below.drew ?_) | (with_reducible refine Below.setCell ?_ ?_ _; rotate_left; (first | omega | (simp <;> omega))) | (with_reducible refine Below.alloc ?_ ?_ _; rotate_left; (first | omega | (simp <;> omega)))))
theorem rand_any (f g : Tb.T) (w : World) :
    Calls Try.prog 37 #[Tb.tv f, Tb.tv g] w fun e w' => e = .returned (Tb.tv (f &&& g)) ∧ Below w.heap.size w w' := by
  have h := rand_raw f g w
  rw [← Tb.wd_and f g 0, ← Tb.wd_and f g 1, ← Tb.wd_and f g 2, ← Tb.wd_and f g 3] at h
  exact h

set_option maxRecDepth 100000 in
set_option maxHeartbeats 1000000 in
theorem ror_raw (f g : Tb.T) (w : World) :
    Calls Try.prog 103 #[Tb.tv f, Tb.tv g] w fun e w' => e = .returned (.agg #[.int .u64 (bits .or .u64 (Tb.wd f 0) (Tb.wd g 0)), .int .u64 (bits .or .u64 (Tb.wd f 1) (Tb.wd g 1)), .int .u64 (bits .or .u64 (Tb.wd f 2) (Tb.wd g 2)), .int .u64 (bits .or .u64 (Tb.wd f 3) (Tb.wd g 3))]) ∧ Below w.heap.size w w' := by
  go_enter Try.func103, Try.ntmps103
  go_wp2_with fail
  refine wp_loop_rounds 5 ?_
  rw [rounds_succ]
  go_wp2_with fail
  refine region_tail 9 (by kernel_rfl) (by kernel_rfl) ?_
  simp only [List.take_succ_cons, List.take_zero, List.drop_succ_cons, List.drop_zero]
  repeat still_step
  refine wpStill_nil ?_
  go_wp2_with fail
  rw [rounds_succ]
  go_wp2_with fail
  refine region_tail 9 (by kernel_rfl) (by kernel_rfl) ?_
  simp only [List.take_succ_cons, List.take_zero, List.drop_succ_cons, List.drop_zero]
  repeat still_step
  refine wpStill_nil ?_
  go_wp2_with fail
  rw [rounds_succ]
  go_wp2_with fail
  refine region_tail 9 (by kernel_rfl) (by kernel_rfl) ?_
  simp only [List.take_succ_cons, List.take_zero, List.drop_succ_cons, List.drop_zero]
  repeat still_step
  refine wpStill_nil ?_
  go_wp2_with fail
  rw [rounds_succ]
  go_wp2_with fail
  refine region_tail 9 (by kernel_rfl) (by kernel_rfl) ?_
  simp only [List.take_succ_cons, List.take_zero, List.drop_succ_cons, List.drop_zero]
  repeat still_step
  refine wpStill_nil ?_
  go_wp2_with fail
  rw [rounds_succ]
  go_wp2_with fail
  refine bodyPost_ret (v := .agg #[.int .u64 (bits .or .u64 (Tb.wd f 0) (Tb.wd g 0)), .int .u64 (bits .or .u64 (Tb.wd f 1) (Tb.wd g 1)), .int .u64 (bits .or .u64 (Tb.wd f 2) (Tb.wd g 2)), .int .u64 (bits .or .u64 (Tb.wd f 3) (Tb.wd g 3))]) (by simp [results, Try.results103, go_sem]) rfl ⟨rfl, ?_⟩
  (repeat (first | (with_reducible exact Below.refl _ _) | (with_reducible assumption) | (with_reducible refine Below.drew ?_) | (with_reducible refine Below.setCell ?_ ?_ _; rotate_left; (first | omega | (simp <;> omega))) | (with_reducible refine Below.alloc ?_ ?_ _; rotate_left; (first | omega | (simp <;> omega)))))
theorem ror_any (f g : Tb.T) (w : World) :
    Calls Try.prog 103 #[Tb.tv f, Tb.tv g] w fun e w' => e = .returned (Tb.tv (f ||| g)) ∧ Below w.heap.size w w' := by
  have h := ror_raw f g w
  rw [← Tb.wd_or f g 0, ← Tb.wd_or f g 1, ← Tb.wd_or f g 2, ← Tb.wd_or f g 3] at h
  exact h

set_option maxRecDepth 100000 in
set_option maxHeartbeats 1000000 in
theorem rnot_raw (f : Tb.T) (w : World) :
    Calls Try.prog 39 #[Tb.tv f] w fun e w' => e = .returned (.agg #[.int .u64 (Tb.nt (Tb.wd f 0)), .int .u64 (Tb.nt (Tb.wd f 1)), .int .u64 (Tb.nt (Tb.wd f 2)), .int .u64 (Tb.nt (Tb.wd f 3))]) ∧ Below w.heap.size w w' := by
  have u0 : Op.unary .xor (.int .u64 (Tb.wd f 0)) = pure (.int .u64 (Tb.nt (Tb.wd f 0))) := Tb.nt_op _
  have u1 : Op.unary .xor (.int .u64 (Tb.wd f 1)) = pure (.int .u64 (Tb.nt (Tb.wd f 1))) := Tb.nt_op _
  have u2 : Op.unary .xor (.int .u64 (Tb.wd f 2)) = pure (.int .u64 (Tb.nt (Tb.wd f 2))) := Tb.nt_op _
  have u3 : Op.unary .xor (.int .u64 (Tb.wd f 3)) = pure (.int .u64 (Tb.nt (Tb.wd f 3))) := Tb.nt_op _
  go_enter Try.func39, Try.ntmps39
  go_wp2_with fail
  refine wp_loop_rounds 5 ?_
  rw [rounds_succ]
  go_wp2_with fail
  rw [rounds_succ]
  go_wp2_with fail
  rw [rounds_succ]
  go_wp2_with fail
  rw [rounds_succ]
  go_wp2_with fail
  rw [rounds_succ]
  go_wp2_with fail
  refine bodyPost_ret (v := .agg #[.int .u64 (Tb.nt (Tb.wd f 0)), .int .u64 (Tb.nt (Tb.wd f 1)), .int .u64 (Tb.nt (Tb.wd f 2)), .int .u64 (Tb.nt (Tb.wd f 3))]) (by simp [results, Try.results39, go_sem]) rfl ⟨rfl, ?_⟩
  (repeat (first | (with_reducible exact Below.refl _ _) | (with_reducible assumption) | (with_reducible refine Below.drew ?_) | (with_reducible refine Below.setCell ?_ ?_ _; rotate_left; (first | omega | (simp <;> omega))) | (with_reducible refine Below.alloc ?_ ?_ _; rotate_left; (first | omega | (simp <;> omega)))))
theorem rnot_any (f : Tb.T) (w : World) :
    Calls Try.prog 39 #[Tb.tv f] w fun e w' => e = .returned (Tb.tv (~~~f)) ∧ Below w.heap.size w w' := by
  have h := rnot_raw f w
  rw [Tb.nt_wd f 0 (by omega), Tb.nt_wd f 1 (by omega), Tb.nt_wd f 2 (by omega), Tb.nt_wd f 3 (by omega)] at h
  exact h

end Go.Proofs.Ythbifeoohphnpaa

/-
  The walks of the document's tables, second part: a bit set, constants, variables.
-/
namespace Go.Proofs.Ythbifeoohphnpaa
set_option linter.unusedVariables false
open Go.RowKit
def Tb.setb (F : Tb.T) (x : Nat) (b : Bool) : Tb.T := if b then F ||| (1#256 <<< x) else F

set_option maxRecDepth 100000 in
set_option maxHeartbeats 1000000 in
theorem rset_any (F : Tb.T) (p x : Nat) (b : Bool) (w : World) (hx : x < 256) (hB : Blk w p 24 (Tb.tcells F)) :
    Calls Try.prog 69 #[.pointer (some ⟨p, 0, none⟩), .int .u8 (x : Int), .bool b] w fun e w' => e = .returned (.tuple #[]) ∧ Blk w' p 24 (Tb.tcells (Tb.setb F x b)) ∧ Below p w w' := by
  cases b with
  | false =>
    go_enter Try.func69, Try.ntmps69
    go_wp2_with fail
    go_end0
    exact ⟨rfl, hB, Below.refl _ _⟩
  | true =>
    have hq5 : IntKind.u8.wrap ((x : Int) / 64) = (x : Int) / 64 := by rw [IntKind.wrap_u8]; omega
    have hq7 : (x : Int).tmod 64 = (x : Int) % 64 := Int.tmod_eq_emod_of_nonneg (by omega)
    have hq1 : (x : Int) / 64 < 4 := by omega
    have hq2 : 0 ≤ (x : Int) / 64 := by omega
    have hq3 : ((x : Int) / 64).toNat = x / 64 := by omega
    have hq4 : 0 ≤ (x : Int) % 64 := by omega
    have e1 : (w.cell? ⟨p, x / 64, none⟩) = some (.int .u64 (Tb.wd F (x / 64))) := (hB.cell _).trans (Tb.tcells_at _ x hx)
    have e2 : (w.frozen? ⟨p, x / 64, none⟩) = false := hB.frozen _
    have hset := hB.set_ (x / 64) (.int .u64 (bits .or .u64 (Tb.wd F (x / 64)) (IntKind.u64.wrap (2 ^ (x % 64)))))
    rw [Tb.wrap_pow x, Tb.tcells_set _ x hx, ← Tb.wrap_pow x] at hset
    have hbb := (Below.refl p w).setCell (p := ⟨p, x / 64, none⟩) (Nat.le_refl _) (.int .u64 (bits .or .u64 (Tb.wd F (x / 64)) (IntKind.u64.wrap (2 ^ (x % 64)))))
    go_enter Try.func69, Try.ntmps69
    go_wp2_with fail
    refine region_tail 15 (by kernel_rfl) (by kernel_rfl) ?_
    simp only [List.take_succ_cons, List.take_zero, List.drop_succ_cons, List.drop_zero]
    repeat still_step
    refine wpStill_nil ?_
    go_wp2_with fail
    go_end0
    exact ⟨rfl, hset.drew, hbb.drew⟩

theorem Tb.tabTo_setb (p : Nat → Bool) (k : Nat) : Tb.setb (Tb.tabTo p k) k (p k) = Tb.tabTo p (k + 1) := by
  unfold Tb.setb
  cases h : p k
  · rw [Tb.tabTo_no h]; rfl
  · rw [Tb.tabTo_yes h]; rfl
theorem Tb.setb_same (p : Nat → Bool) (k : Nat) (b : Bool) (h : b = p k) : Tb.setb (Tb.tabTo p k) k b = Tb.tabTo p (k + 1) := by rw [h, Tb.tabTo_setb]
/-- what a loop that sets bit by bit keeps -/
structure SetTo (w wr : World) (p : Nat → Bool) (k : Nat) : Prop where
  below : Below w.heap.size w wr
  res : Blk wr w.heap.size 24 (Tb.tcells 0#256)
  tab : Blk wr (w.heap.size + 1) 24 (Tb.tcells (Tb.tabTo p k))
theorem SetTo.start (w : World) (p : Nat → Bool) : SetTo w ((w.alloc (.cells #[.int .u64 0, .int .u64 0, .int .u64 0, .int .u64 0] 24)).alloc (.cells #[.int .u64 0, .int .u64 0, .int .u64 0, .int .u64 0] 24)) p 0 := by
  have h1 := Blk.new w 24 #[.int .u64 0, .int .u64 0, .int .u64 0, .int .u64 0]
  have h2 := Blk.new (w.alloc (.cells #[.int .u64 0, .int .u64 0, .int .u64 0, .int .u64 0] 24)) 24 #[.int .u64 0, .int .u64 0, .int .u64 0, .int .u64 0]
  rw [show (w.alloc (.cells #[.int .u64 0, .int .u64 0, .int .u64 0, .int .u64 0] 24)).heap.size = w.heap.size + 1 from by simp] at h2
  have h3 := h1.alloc (.cells #[.int .u64 0, .int .u64 0, .int .u64 0, .int .u64 0] 24)
  refine ⟨?_, ?_, ?_⟩
  · (repeat (first | (with_reducible exact Below.refl _ _) | (with_reducible assumption) | (with_reducible refine Below.drew ?_) | (with_reducible refine Below.setCell ?_ ?_ _; rotate_left; (first | omega | (simp <;> omega))) | (with_reducible refine Below.alloc ?_ ?_ _; rotate_left; (first | omega | (simp <;> omega)))))
  · rw [Tb.tcells_zero]; exact h3
  · rw [Tb.tabTo_zero, Tb.tcells_zero]; exact h2
theorem SetTo.step {w wr w1 : World} {p : Nat → Bool} {k : Nat} {F : Tb.T} (h : SetTo w wr p k) (hb : Below (w.heap.size + 1) wr w1) (hB : Blk w1 (w.heap.size + 1) 24 (Tb.tcells F)) (hF : F = Tb.tabTo p (k + 1)) : SetTo w w1 p (k + 1) :=
  ⟨h.below.trans (hb.mono (by omega)), h.res.below hb (by omega), hF ▸ hB⟩

set_option maxRecDepth 100000 in
set_option maxHeartbeats 1000000 in
theorem rconst_any (b : Bool) (w : World) :
    Calls Try.prog 73 #[.bool b] w fun e w' => e = .returned (Tb.tv (Tb.cst b)) ∧ Below w.heap.size w w' := by
  have hS := SetTo.start w (fun _ => b)
  go_enter Try.func73, Try.ntmps73
  go_wp2_with fail
  go_loopw [4] (fun i wr => ∃ k : Nat, k ≤ 256 ∧ i = .int .i64 k ∧ SetTo w wr (fun _ => b) k) (fun i _ => 256 - (intOf i).toNat)
  case atStart => exact ⟨0, by omega, rfl, hS⟩
  case round =>
    rename_i wr
    clear hS
    obtain ⟨k, hk, rfl, hS⟩ := hrel
    by_cases hlt : k < 256
    · have hq : IntKind.u8.wrap (k : Int) = (k : Int) := by rw [IntKind.wrap_u8]; omega
      go_wp2_with fail
      refine (rset_any _ _ k b _ hlt hS.tab).mono ?_
      rintro e w1 ⟨rfl, hB, hb⟩
      have hS' := hS.step hb hB (Tb.setb_same (fun _ => b) k b rfl)
      clear hB hb hS
      go_wp2_with fail
      exact ⟨⟨k + 1, by omega, by go_num, hS'⟩, by simp [intOf]; omega⟩
    · obtain rfl : k = 256 := by omega
      obtain ⟨⟨a0, a1, a2, a3⟩, b0, b1, b2, b3⟩ := tfacts hS.res
      obtain ⟨⟨c0, c1, c2, c3⟩, d0, d1, d2, d3⟩ := tfacts hS.tab
      rw [← Tb.tab_def, Tb.tab_cst] at c0 c1 c2 c3
      have hb := hS.below
      clear hS
      go_wp2_with fail
      refine bodyPost_ret (v := Tb.tv (Tb.cst b)) (by simp [results, Try.results73, go_sem, a0, a1, a2, a3]) rfl ⟨rfl, ?_⟩
      (repeat (first | (with_reducible exact Below.refl _ _) | (with_reducible assumption) | (with_reducible refine Below.drew ?_) | (with_reducible refine Below.setCell ?_ ?_ _; rotate_left; (first | omega | (simp <;> omega))) | (with_reducible refine Below.alloc ?_ ?_ _; rotate_left; (first | omega | (simp <;> omega))) | (with_reducible refine Below.trans ?_ (hb.mono ?_); rotate_left; (first | omega | (simp <;> omega)))))

theorem Tb.i64_bit : ∀ x : Nat, x < 256 → ∀ v : Nat, v < 8 → (bits .and .i64 ((x : Int) / 2 ^ v) 1 == 1) = x.testBit v := by decide +kernel

set_option maxRecDepth 100000 in
set_option maxHeartbeats 1000000 in
theorem rvar_any (v : Int) (w : World) :
    Calls Try.prog 38 #[.int .i64 v] w fun e w' => e = .returned (Tb.tv (Tb.var v)) ∧ Below w.heap.size w w' := by
  have hS := SetTo.start w (fun x => Tb.kn v && x.testBit v.toNat)
  cases hk : Tb.kn v with
  | false =>
    have hv : ¬ (v ≥ 0 ∧ v < 8) := by unfold Tb.kn at hk; simp at hk; omega
    have hz : Tb.var v = 0#256 := Tb.ext_get fun x hx => by rw [Tb.var_get v x hx, hk]; simp
    obtain ⟨⟨a0, a1, a2, a3⟩, b0, b1, b2, b3⟩ := tfacts hS.res
    obtain ⟨⟨c0, c1, c2, c3⟩, d0, d1, d2, d3⟩ := tfacts hS.tab
    rw [Tb.tabTo_zero] at c0 c1 c2 c3
    have hb := hS.below
    have HZ := Bx.mk hz
    clear hS hz
    have z0 := Tb.wd_zero 0
    have z1 := Tb.wd_zero 1
    have z2 := Tb.wd_zero 2
    have z3 := Tb.wd_zero 3
    have fin : Tb.tv (Tb.var v) = .agg #[.int .u64 0, .int .u64 0, .int .u64 0, .int .u64 0] := by rw [HZ.out]; unfold Tb.tv; rw [z0, z1, z2, z3]
    rw [fin]
    clear fin HZ
    by_cases h0 : v ≥ 0
    · have h8 : ¬ v < 8 := by omega
      clear hv hk
      go_enter Try.func38, Try.ntmps38
      go_wp2_with fail
      refine wp_loop_rounds 1 ?_
      rw [rounds_succ]
      go_wp2_with fail
      refine bodyPost_ret (v := .agg #[.int .u64 0, .int .u64 0, .int .u64 0, .int .u64 0]) (by simp [results, Try.results38, go_sem]) rfl ⟨rfl, ?_⟩
      (repeat (first | (with_reducible exact Below.refl _ _) | (with_reducible assumption) | (with_reducible refine Below.drew ?_) | (with_reducible refine Below.setCell ?_ ?_ _; rotate_left; (first | omega | (simp <;> omega))) | (with_reducible refine Below.alloc ?_ ?_ _; rotate_left; (first | omega | (simp <;> omega)))))
    · clear hv hk
      go_enter Try.func38, Try.ntmps38
      go_wp2_with fail
      refine wp_loop_rounds 1 ?_
      rw [rounds_succ]
      go_wp2_with fail
      refine bodyPost_ret (v := .agg #[.int .u64 0, .int .u64 0, .int .u64 0, .int .u64 0]) (by simp [results, Try.results38, go_sem]) rfl ⟨rfl, ?_⟩
      (repeat (first | (with_reducible exact Below.refl _ _) | (with_reducible assumption) | (with_reducible refine Below.drew ?_) | (with_reducible refine Below.setCell ?_ ?_ _; rotate_left; (first | omega | (simp <;> omega))) | (with_reducible refine Below.alloc ?_ ?_ _; rotate_left; (first | omega | (simp <;> omega)))))
  | true =>
    obtain ⟨h0, h8⟩ := kn_yes hk
    obtain ⟨n, rfl⟩ : ∃ n : Nat, v = (n : Int) := ⟨v.toNat, by omega⟩
    have hn : n < 8 := by omega
    simp only [hk, Bool.true_and, Int.toNat_natCast] at hS
    have HV := Bx.mk (show Tb.tab (fun x => x.testBit n) = Tb.var (n : Int) from Tb.tab_eq fun x hx => by rw [Tb.var_get _ _ hx, hk]; simp)
    clear hk
    have hq2 : IntKind.u64.wrap (n : Int) = (n : Int) := by rw [IntKind.wrap_u64]; omega
    go_enter Try.func38, Try.ntmps38
    go_wp2_with fail
    go_loopw [4] (fun i wr => ∃ k : Nat, k ≤ 256 ∧ i = .int .i64 k ∧ SetTo w wr (fun x => x.testBit n) k) (fun i _ => 256 - (intOf i).toNat)
    case atStart => exact ⟨0, by omega, rfl, hS⟩
    case round =>
      rename_i wr
      clear hS
      obtain ⟨k, hk, rfl, hS⟩ := hrel
      by_cases hlt : k < 256
      · have hq : IntKind.u8.wrap (k : Int) = (k : Int) := by rw [IntKind.wrap_u8]; omega
        have hbit := Tb.i64_bit k hlt n hn
        go_wp2_with fail
        refine (rset_any _ _ k (k.testBit n) _ hlt hS.tab).mono ?_
        rintro e w1 ⟨rfl, hB, hb⟩
        have hS' := hS.step hb hB (Tb.setb_same (fun x => x.testBit n) k _ rfl)
        clear hB hb hS
        go_wp2_with fail
        exact ⟨⟨k + 1, by omega, by go_num, hS'⟩, by simp [intOf]; omega⟩
      · obtain rfl : k = 256 := by omega
        obtain ⟨⟨a0, a1, a2, a3⟩, b0, b1, b2, b3⟩ := tfacts hS.res
        obtain ⟨⟨c0, c1, c2, c3⟩, d0, d1, d2, d3⟩ := tfacts hS.tab
        rw [← Tb.tab_def, HV.out] at c0 c1 c2 c3
        have hb := hS.below
        clear hS
        go_wp2_with fail
        refine bodyPost_ret (v := Tb.tv (Tb.var (n : Int))) (by simp [results, Try.results38, go_sem, a0, a1, a2, a3]) rfl ⟨rfl, ?_⟩
        (repeat (first | (with_reducible exact Below.refl _ _) | (with_reducible assumption) | (with_reducible refine Below.drew ?_) | (with_reducible refine Below.setCell ?_ ?_ _; rotate_left; (first | omega | (simp <;> omega))) | (with_reducible refine Below.alloc ?_ ?_ _; rotate_left; (first | omega | (simp <;> omega))) | (with_reducible refine Below.trans ?_ (hb.mono ?_); rotate_left; (first | omega | (simp <;> omega)))))
end Go.Proofs.Ythbifeoohphnpaa

/-
  Tables, more: what they hang on, how many assignments make them true, the least. No program in sight.
-/
namespace Go.Proofs.Ythbifeoohphnpaa
set_option linter.unusedVariables false
namespace Tb
theorem supTo_same {f : T} {k : Nat} (h : fix f (k : Int) false = fix f (k : Int) true) : (supTo f k : Int) = (supTo f (k + 1) : Int) := by
  rw [show supTo f (k + 1) = supTo f k from by rw [supTo]; simp [h]]
theorem supTo_other {f : T} {k : Nat} (h : ¬ fix f (k : Int) false = fix f (k : Int) true) (hk : k < 8) : bits .or .u8 (supTo f k : Int) (2 ^ k % 256) = (supTo f (k + 1) : Int) := by
  have e : (2 : Int) ^ k % 256 = ((2 ^ k : Nat) : Int) := by
    have : k = 0 ∨ k = 1 ∨ k = 2 ∨ k = 3 ∨ k = 4 ∨ k = 5 ∨ k = 6 ∨ k = 7 := by omega
    rcases this with h | h | h | h | h | h | h | h <;> subst h <;> decide
  have hp : 2 ^ k < 256 := Nat.pow_lt_pow_right (by omega) hk
  rw [e, u8_or_nat _ _ (supTo_lt f k (by omega)) hp]
  rw [show supTo f (k + 1) = supTo f k ||| 2 ^ k from by rw [supTo]; simp [h]]
end Tb
end Go.Proofs.Ythbifeoohphnpaa

/-
  Counting bits in parallel: what math/bits.OnesCount64 computes is how many bits are set. No program in sight.
-/
namespace Go.Proofs.Ythbifeoohphnpaa
set_option linter.unusedVariables false
namespace Oc
open Bt

def rep (c : Nat) : Nat → Nat
  | 0 => 0
  | n + 1 => c + 256 * rep c n

theorem and_split (a b c d : Nat) (ha : a < 256) (hc : c < 256) : (a + 256 * b) &&& (c + 256 * d) = (a &&& c) + 256 * (b &&& d) := by
  have h1 : ∀ u v : Nat, u < 256 → u + 256 * v = 2 ^ 8 * v ||| u := fun u v hu => by
    rw [Nat.add_comm, ← Nat.two_pow_add_eq_or_of_lt (i := 8) (by omega)]
  have hac : a &&& c < 256 := Nat.lt_of_le_of_lt Nat.and_le_left ha
  apply Nat.eq_of_testBit_eq
  intro i
  rw [Nat.testBit_and, h1 a b ha, h1 c d hc, h1 _ _ hac]
  simp only [Nat.testBit_or, Nat.testBit_and, Nat.testBit_two_pow_mul]
  by_cases hi : 8 ≤ i
  · have e1 : a.testBit i = false := Nat.testBit_lt_two_pow (Nat.lt_of_lt_of_le ha (Nat.pow_le_pow_right (n := 2) (by omega) hi))
    have e2 : c.testBit i = false := Nat.testBit_lt_two_pow (Nat.lt_of_lt_of_le hc (Nat.pow_le_pow_right (n := 2) (by omega) hi))
    simp [e1, e2, hi]
  · simp [hi]

def f1 (n x : Nat) : Nat := ((x / 2) &&& rep 85 n) + (x &&& rep 85 n)
def f2 (n x : Nat) : Nat := ((x / 4) &&& rep 51 n) + (x &&& rep 51 n)
def f3 (n x : Nat) : Nat := (x / 16 + x) &&& rep 15 n

theorem d1 : ∀ b : Nat, b < 256 → ∀ k : Nat, k < 2 → (b / 2 + 128 * k) &&& 85 = (b / 2) &&& 85 := by decide +kernel
theorem d2 : ∀ b : Nat, b < 256 → ∀ k : Nat, k < 4 → (b / 4 + 64 * k) &&& 51 = (b / 4) &&& 51 := by decide +kernel
theorem d3 : ∀ b : Nat, b < 69 → ∀ k : Nat, k < 16 → k < 5 → (b / 16 + b + 16 * k) &&& 15 = (b / 16 + b) &&& 15 := by decide +kernel

theorem f1_succ (n x : Nat) : f1 (n + 1) x = f1 1 (x % 256) + 256 * f1 n (x / 256) := by
  have e1 : x / 2 = ((x % 256) / 2 + 128 * (x / 256 % 2)) + 256 * (x / 256 / 2) := by omega
  have e2 : x = x % 256 + 256 * (x / 256) := by omega
  have a1 := and_split ((x % 256) / 2 + 128 * (x / 256 % 2)) (x / 256 / 2) 85 (rep 85 n) (by omega) (by omega)
  have a2 := and_split (x % 256) (x / 256) 85 (rep 85 n) (by omega) (by omega)
  have h := d1 (x % 256) (by omega) (x / 256 % 2) (by omega)
  unfold f1
  simp only [rep, Nat.mul_zero, Nat.add_zero]
  rw [← e1] at a1
  rw [← e2] at a2
  rw [a1, a2, h]
  omega
theorem f2_succ (n x : Nat) : f2 (n + 1) x = f2 1 (x % 256) + 256 * f2 n (x / 256) := by
  have e1 : x / 4 = ((x % 256) / 4 + 64 * (x / 256 % 4)) + 256 * (x / 256 / 4) := by omega
  have e2 : x = x % 256 + 256 * (x / 256) := by omega
  have a1 := and_split ((x % 256) / 4 + 64 * (x / 256 % 4)) (x / 256 / 4) 51 (rep 51 n) (by omega) (by omega)
  have a2 := and_split (x % 256) (x / 256) 51 (rep 51 n) (by omega) (by omega)
  have h := d2 (x % 256) (by omega) (x / 256 % 4) (by omega)
  unfold f2
  simp only [rep, Nat.mul_zero, Nat.add_zero]
  rw [← e1] at a1
  rw [← e2] at a2
  rw [a1, a2, h]
  omega
theorem f3_succ (n x : Nat) (hb : x % 256 < 69) (hk : x / 256 % 16 < 5) : f3 (n + 1) x = f3 1 (x % 256) + 256 * f3 n (x / 256) := by
  have e1 : x / 16 + x = ((x % 256) / 16 + x % 256 + 16 * (x / 256 % 16)) + 256 * (x / 256 / 16 + x / 256) := by omega
  have a1 := and_split ((x % 256) / 16 + x % 256 + 16 * (x / 256 % 16)) (x / 256 / 16 + x / 256) 15 (rep 15 n) (by omega) (by omega)
  have h := d3 (x % 256) hb (x / 256 % 16) (by omega) hk
  unfold f3
  simp only [rep, Nat.mul_zero, Nat.add_zero]
  rw [e1, a1, h]

theorem byte1 : ∀ b : Nat, b < 256 → f1 1 b < 171 := by decide +kernel
theorem byte2 : ∀ b : Nat, b < 256 → f2 1 (f1 1 b) < 69 ∧ f2 1 (f1 1 b) % 16 < 5 := by decide +kernel
theorem byte3 : ∀ b : Nat, b < 256 → f3 1 (f2 1 (f1 1 b)) = pc b := by decide +kernel

/-- all three steps, byte by byte -/
theorem three (n : Nat) : ∀ x, f3 (n + 1) (f2 (n + 1) (f1 (n + 1) x)) = pc (x % 256) + 256 * f3 n (f2 n (f1 n (x / 256))) ∧ f2 n (f1 n x) % 16 < 5 := by
  have low : ∀ n x, f1 (n + 1) x % 256 = f1 1 (x % 256) ∧ f1 (n + 1) x / 256 = f1 n (x / 256) := fun n x => by
    have := byte1 (x % 256) (by omega)
    rw [f1_succ]; omega
  have low2 : ∀ n x, f2 (n + 1) (f1 (n + 1) x) = f2 1 (f1 1 (x % 256)) + 256 * f2 n (f1 n (x / 256)) := fun n x => by
    rw [f2_succ, (low n x).1, (low n x).2]
  have nib : ∀ n x, f2 n (f1 n x) % 16 < 5 := fun n x => by
    cases n with
    | zero => simp [f2, rep]
    | succ n => rw [low2]; have := byte2 (x % 256) (by omega); omega
  intro x
  refine ⟨?_, nib n x⟩
  have hb := byte2 (x % 256) (by omega)
  have hn := nib n (x / 256)
  have e := low2 n x
  have e1 : f2 (n + 1) (f1 (n + 1) x) % 256 = f2 1 (f1 1 (x % 256)) := by omega
  have e2 : f2 (n + 1) (f1 (n + 1) x) / 256 = f2 n (f1 n (x / 256)) := by omega
  rw [f3_succ n _ (by omega) (by omega), e1, e2, byte3 (x % 256) (by omega)]

theorem pcF_zero' (f : Nat) : pcF f 0 = 0 := pcF_zero f
theorem pc_two (n : Nat) (h : n < 18446744073709551616) : pc n = n % 2 + pc (n / 2) := pc_shift n h

/-- a number's bits, byte by byte -/
theorem pc_byte (x : Nat) (h : x < 18446744073709551616) : pc x = pc (x % 256) + pc (x / 256) := by
  have s : ∀ n, n < 18446744073709551616 → pc n = n % 2 + n / 2 % 2 + n / 4 % 2 + n / 8 % 2 + n / 16 % 2 + n / 32 % 2 + n / 64 % 2 + n / 128 % 2 + pc (n / 256) := fun n h => by
    rw [pc_two n h, pc_two (n / 2) (by omega), pc_two (n / 2 / 2) (by omega), pc_two (n / 2 / 2 / 2) (by omega), pc_two (n / 2 / 2 / 2 / 2) (by omega), pc_two (n / 2 / 2 / 2 / 2 / 2) (by omega), pc_two (n / 2 / 2 / 2 / 2 / 2 / 2) (by omega), pc_two (n / 2 / 2 / 2 / 2 / 2 / 2 / 2) (by omega)]
    rw [show n / 2 / 2 / 2 / 2 / 2 / 2 / 2 / 2 = n / 256 from by omega]
    omega
  have h0 : pc 0 = 0 := by decide +kernel
  rw [s x h, s (x % 256) (by omega), show x % 256 / 256 = 0 from by omega, h0]
  omega

theorem pc_le8 : ∀ b : Nat, b < 256 → pc b ≤ 8 := by decide +kernel

def oc (x : Nat) : Nat :=
  let x3 := f3 8 (f2 8 (f1 8 x))
  let x4 := x3 + x3 / 256
  let x5 := x4 + x4 / 65536
  let x6 := x5 + x5 / 4294967296
  x6 % 128

theorem f3_zero (x : Nat) : f3 0 x = 0 := by simp [f3, rep]

theorem dig1 (a t : Nat) (ha : a < 256) : (a + 256 * t) / 256 = t := by omega
theorem dig2 (a b t : Nat) (ha : a < 256) (hb : b < 256) : (a + 256 * (b + 256 * t)) / 65536 = t := by omega
theorem dig4 (a b c d t : Nat) (ha : a < 256) (hb : b < 256) (hc : c < 256) (hd : d < 256) : (a + 256 * (b + 256 * (c + 256 * (d + 256 * t)))) / 4294967296 = t := by omega
theorem low7 (a t : Nat) (ha : a ≤ 64) : (a + 256 * t) % 128 = a := by omega

theorem sum8 (c0 c1 c2 c3 c4 c5 c6 c7 t1 t2 t3 t4 t5 t6 t7 : Nat) (l0 : c0 ≤ 8) (l1 : c1 ≤ 8) (l2 : c2 ≤ 8) (l3 : c3 ≤ 8) (l4 : c4 ≤ 8) (l5 : c5 ≤ 8) (l6 : c6 ≤ 8) (l7 : c7 ≤ 8)
    (h1 : t1 = c1 + 256 * t2) (h2 : t2 = c2 + 256 * t3) (h3 : t3 = c3 + 256 * t4) (h4 : t4 = c4 + 256 * t5) (h5 : t5 = c5 + 256 * t6) (h6 : t6 = c6 + 256 * t7) (h7 : t7 = c7) :
    (let x3 := c0 + 256 * t1; let x4 := x3 + x3 / 256; let x5 := x4 + x4 / 65536; let x6 := x5 + x5 / 4294967296; x6 % 128) = c0 + (c1 + (c2 + (c3 + (c4 + (c5 + (c6 + (c7 + 0))))))) := by
  show (((c0 + 256 * t1 + (c0 + 256 * t1) / 256) + (c0 + 256 * t1 + (c0 + 256 * t1) / 256) / 65536) + ((c0 + 256 * t1 + (c0 + 256 * t1) / 256) + (c0 + 256 * t1 + (c0 + 256 * t1) / 256) / 65536) / 4294967296) % 128 = _
  rw [dig1 c0 t1 (by omega)]
  have e4 : c0 + 256 * t1 + t1 = (c0 + c1) + 256 * ((c1 + c2) + 256 * (t2 + t3)) := by omega
  rw [e4, dig2 (c0 + c1) (c1 + c2) (t2 + t3) (by omega) (by omega)]
  have e5 : (c0 + c1) + 256 * ((c1 + c2) + 256 * (t2 + t3)) + (t2 + t3) = (c0 + c1 + c2 + c3) + 256 * ((c1 + c2 + c3 + c4) + 256 * ((c2 + c3 + c4 + c5) + 256 * ((c3 + c4 + c5 + c6) + 256 * (t4 + t5 + t6 + t7)))) := by omega
  rw [e5, dig4 (c0 + c1 + c2 + c3) (c1 + c2 + c3 + c4) (c2 + c3 + c4 + c5) (c3 + c4 + c5 + c6) (t4 + t5 + t6 + t7) (by omega) (by omega) (by omega) (by omega)]
  have e6 : (c0 + c1 + c2 + c3) + 256 * ((c1 + c2 + c3 + c4) + 256 * ((c2 + c3 + c4 + c5) + 256 * ((c3 + c4 + c5 + c6) + 256 * (t4 + t5 + t6 + t7)))) + (t4 + t5 + t6 + t7) =
      (c0 + (c1 + (c2 + (c3 + (c4 + (c5 + (c6 + (c7 + 0)))))))) + 256 * ((c1 + c2 + c3 + c4) + 256 * ((c2 + c3 + c4 + c5) + 256 * ((c3 + c4 + c5 + c6) + 256 * (t4 + t5 + t6 + t7))) + (t5 + t6 + t7)) := by omega
  rw [e6]
  exact low7 _ _ (by omega)

theorem oc_pc (x : Nat) (h : x < 18446744073709551616) : oc x = pc x := by
  have t0 := (three 7 x).1
  have t1 := (three 6 (x / 256)).1
  have t2 := (three 5 (x / 256 / 256)).1
  have t3 := (three 4 (x / 256 / 256 / 256)).1
  have t4 := (three 3 (x / 256 / 256 / 256 / 256)).1
  have t5 := (three 2 (x / 256 / 256 / 256 / 256 / 256)).1
  have t6 := (three 1 (x / 256 / 256 / 256 / 256 / 256 / 256)).1
  have t7 := (three 0 (x / 256 / 256 / 256 / 256 / 256 / 256 / 256)).1
  rw [f3_zero] at t7
  have p0 := pc_byte x h
  have p1 := pc_byte (x / 256) (by omega)
  have p2 := pc_byte (x / 256 / 256) (by omega)
  have p3 := pc_byte (x / 256 / 256 / 256) (by omega)
  have p4 := pc_byte (x / 256 / 256 / 256 / 256) (by omega)
  have p5 := pc_byte (x / 256 / 256 / 256 / 256 / 256) (by omega)
  have p6 := pc_byte (x / 256 / 256 / 256 / 256 / 256 / 256) (by omega)
  have p7 := pc_byte (x / 256 / 256 / 256 / 256 / 256 / 256 / 256) (by omega)
  have hz : x / 256 / 256 / 256 / 256 / 256 / 256 / 256 / 256 = 0 := by omega
  have h0 : pc 0 = 0 := by decide +kernel
  rw [hz, h0] at p7
  have l0 := pc_le8 (x % 256) (by omega)
  have l1 := pc_le8 (x / 256 % 256) (by omega)
  have l2 := pc_le8 (x / 256 / 256 % 256) (by omega)
  have l3 := pc_le8 (x / 256 / 256 / 256 % 256) (by omega)
  have l4 := pc_le8 (x / 256 / 256 / 256 / 256 % 256) (by omega)
  have l5 := pc_le8 (x / 256 / 256 / 256 / 256 / 256 % 256) (by omega)
  have l6 := pc_le8 (x / 256 / 256 / 256 / 256 / 256 / 256 % 256) (by omega)
  have l7 := pc_le8 (x / 256 / 256 / 256 / 256 / 256 / 256 / 256 % 256) (by omega)
  simp only [Nat.reduceAdd] at t0 t1 t2 t3 t4 t5 t6 t7
  show (let x3 := f3 8 (f2 8 (f1 8 x)); let x4 := x3 + x3 / 256; let x5 := x4 + x4 / 65536; let x6 := x5 + x5 / 4294967296; x6 % 128) = pc x
  rw [p0, p1, p2, p3, p4, p5, p6, p7]
  rw [t0, t1, t2, t3, t4, t5, t6, t7]
  clear t0 t1 t2 t3 t4 t5 t6 t7 p0 p1 p2 p3 p4 p5 p6 p7 hz h0 h
  generalize pc (x % 256) = c0 at *
  generalize pc (x / 256 % 256) = c1 at *
  generalize pc (x / 256 / 256 % 256) = c2 at *
  generalize pc (x / 256 / 256 / 256 % 256) = c3 at *
  generalize pc (x / 256 / 256 / 256 / 256 % 256) = c4 at *
  generalize pc (x / 256 / 256 / 256 / 256 / 256 % 256) = c5 at *
  generalize pc (x / 256 / 256 / 256 / 256 / 256 / 256 % 256) = c6 at *
  generalize pc (x / 256 / 256 / 256 / 256 / 256 / 256 / 256 % 256) = c7 at *
  exact sum8 c0 c1 c2 c3 c4 c5 c6 c7 _ _ _ _ _ _ _ l0 l1 l2 l3 l4 l5 l6 l7 rfl rfl rfl rfl rfl rfl (by omega)

theorem rep85 : rep 85 8 = 6148914691236517205 := by decide
theorem rep51 : rep 51 8 = 3689348814741910323 := by decide
theorem rep15 : rep 15 8 = 1085102592571150095 := by decide
theorem u64w (n : Nat) (h : n < 18446744073709551616) : IntKind.u64.wrap (n : Int) = (n : Int) := by rw [IntKind.wrap_u64]; omega

theorem w1 (x : Nat) (h : x < 18446744073709551616) : IntKind.u64.wrap (bits .and .u64 ((x : Int) / 2) 6148914691236517205 + bits .and .u64 (x : Int) 6148914691236517205) = (f1 8 x : Int) := by
  have a := bits_and_u64_nat (x / 2) 6148914691236517205 (by omega) (by omega)
  have b := bits_and_u64_nat x 6148914691236517205 h (by omega)
  have la : x / 2 &&& 6148914691236517205 ≤ 6148914691236517205 := Nat.and_le_right
  have lb : x &&& 6148914691236517205 ≤ 6148914691236517205 := Nat.and_le_right
  rw [show ((x : Int) / 2) = ((x / 2 : Nat) : Int) from by omega, show (6148914691236517205 : Int) = ((6148914691236517205 : Nat) : Int) from rfl, a, b, ← Int.natCast_add, u64w _ (by omega)]
  unfold f1; rw [rep85]
theorem f1_le (x : Nat) : f1 8 x ≤ 12297829382473034410 := by
  have la : x / 2 &&& 6148914691236517205 ≤ 6148914691236517205 := Nat.and_le_right
  have lb : x &&& 6148914691236517205 ≤ 6148914691236517205 := Nat.and_le_right
  unfold f1; rw [rep85]; omega
theorem w2 (x : Nat) (h : x < 18446744073709551616) : IntKind.u64.wrap (bits .and .u64 ((x : Int) / 4) 3689348814741910323 + bits .and .u64 (x : Int) 3689348814741910323) = (f2 8 x : Int) := by
  have a := bits_and_u64_nat (x / 4) 3689348814741910323 (by omega) (by omega)
  have b := bits_and_u64_nat x 3689348814741910323 h (by omega)
  have la : x / 4 &&& 3689348814741910323 ≤ 3689348814741910323 := Nat.and_le_right
  have lb : x &&& 3689348814741910323 ≤ 3689348814741910323 := Nat.and_le_right
  rw [show ((x : Int) / 4) = ((x / 4 : Nat) : Int) from by omega, show (3689348814741910323 : Int) = ((3689348814741910323 : Nat) : Int) from rfl, a, b, ← Int.natCast_add, u64w _ (by omega)]
  unfold f2; rw [rep51]
theorem f2_le (x : Nat) : f2 8 x ≤ 7378697629483820646 := by
  have la : x / 4 &&& 3689348814741910323 ≤ 3689348814741910323 := Nat.and_le_right
  have lb : x &&& 3689348814741910323 ≤ 3689348814741910323 := Nat.and_le_right
  unfold f2; rw [rep51]; omega
theorem w3 (x : Nat) (h : x ≤ 7378697629483820646) : bits .and .u64 (IntKind.u64.wrap ((x : Int) / 16 + (x : Int))) 1085102592571150095 = (f3 8 x : Int) := by
  have a := bits_and_u64_nat (x / 16 + x) 1085102592571150095 (by omega) (by omega)
  rw [show ((x : Int) / 16 + (x : Int)) = ((x / 16 + x : Nat) : Int) from by omega, u64w _ (by omega), show (1085102592571150095 : Int) = ((1085102592571150095 : Nat) : Int) from rfl, a]
  unfold f3; rw [rep15]
theorem f3_le (x : Nat) : f3 8 x ≤ 1085102592571150095 := by
  have la : x / 16 + x &&& 1085102592571150095 ≤ 1085102592571150095 := Nat.and_le_right
  unfold f3; rw [rep15]; exact la
theorem w4 (u : Nat) (k : Nat) (h : u ≤ 4611686018427387904) : IntKind.u64.wrap ((u : Int) + (u : Int) / (k : Int)) = ((u + u / k : Nat) : Int) := by
  have : u / k ≤ u := Nat.div_le_self _ _
  rw [show ((u : Int) + (u : Int) / (k : Int)) = ((u + u / k : Nat) : Int) from by rw [Int.natCast_add, Int.natCast_ediv], u64w _ (by omega)]
theorem w7 (u : Nat) (h : u < 9223372036854775808) : bits .and .i64 (RowKit.wrap64 (u : Int)) 127 = ((u % 128 : Nat) : Int) := by
  rw [show RowKit.wrap64 (u : Int) = (u : Int) from by unfold RowKit.wrap64; omega]
  have h1 : (BitVec.ofInt 64 (u : Int)).toNat = u := by rw [BitVec.ofInt_natCast, BitVec.toNat_ofNat]; exact Nat.mod_eq_of_lt (by omega)
  have h2 : (BitVec.ofInt 64 (127 : Int)).toNat = 127 := by decide
  show IntKind.i64.wrap ((BitVec.ofInt 64 (u : Int) &&& BitVec.ofInt 64 (127 : Int)).toNat : Int) = _
  rw [BitVec.toNat_and, h1, h2, show (127 : Nat) = 2 ^ 7 - 1 from rfl, Nat.and_two_pow_sub_one_eq_mod]
  simp only [IntKind.wrap, IntKind.bits, IntKind.signed]
  simp
  omega

/-- the walk's last value: the count -/
theorem oc_walk (x : Nat) (h : x < 18446744073709551616) (y1 y2 y3 y4 y5 y6 : Int)
    (e1 : y1 = IntKind.u64.wrap (bits .and .u64 ((x : Int) / 2) 6148914691236517205 + bits .and .u64 (x : Int) 6148914691236517205))
    (e2 : y2 = IntKind.u64.wrap (bits .and .u64 (y1 / 4) 3689348814741910323 + bits .and .u64 y1 3689348814741910323))
    (e3 : y3 = bits .and .u64 (IntKind.u64.wrap (y2 / 16 + y2)) 1085102592571150095)
    (e4 : y4 = IntKind.u64.wrap (y3 + y3 / 256)) (e5 : y5 = IntKind.u64.wrap (y4 + y4 / 65536)) (e6 : y6 = IntKind.u64.wrap (y5 + y5 / 4294967296)) :
    bits .and .i64 (RowKit.wrap64 y6) 127 = (pc x : Int) := by
  have l1 := f1_le x
  rw [w1 x h] at e1
  subst e1
  have l2 := f2_le (f1 8 x)
  rw [w2 _ (by omega)] at e2
  subst e2
  have l3 := f3_le (f2 8 (f1 8 x))
  rw [w3 _ l2] at e3
  subst e3
  have hoc := oc_pc x h
  unfold oc at hoc
  generalize f3 8 (f2 8 (f1 8 x)) = u at *
  have k4 := w4 u 256 (by omega)
  rw [show ((256 : Nat) : Int) = 256 from rfl] at k4
  rw [k4] at e4
  subst e4
  have k5 := w4 (u + u / 256) 65536 (by omega)
  rw [show ((65536 : Nat) : Int) = 65536 from rfl] at k5
  rw [k5] at e5
  subst e5
  have k6 := w4 (u + u / 256 + (u + u / 256) / 65536) 4294967296 (by omega)
  rw [show ((4294967296 : Nat) : Int) = 4294967296 from rfl] at k6
  rw [k6] at e6
  subst e6
  rw [w7 _ (by omega)]
  exact congrArg Nat.cast hoc

end Oc
end Go.Proofs.Ythbifeoohphnpaa

/-
  The lowest bit that is set, by a product and a table; the least assignment. No program in sight.
-/
namespace Go.Proofs.Ythbifeoohphnpaa
set_option linter.unusedVariables false
namespace Tb
open Bt

/-- how many zeros stand below the lowest one -/
theorem ctz_ex (n : Nat) : ∀ x, 0 < x → x < 2 ^ n → ∃ k q, k < n ∧ x = 2 ^ k * (2 * q + 1) := by
  induction n with
  | zero => intro x h0 h1; simp at h1; omega
  | succ n ih =>
    intro x h0 h1
    rcases Nat.mod_two_eq_zero_or_one x with h | h
    · obtain ⟨k, q, hk, e⟩ := ih (x / 2) (by omega) (by rw [Nat.pow_succ] at h1; omega)
      refine ⟨k + 1, q, by omega, ?_⟩
      rw [Nat.pow_succ, Nat.mul_right_comm, ← e]; omega
    · exact ⟨0, x / 2, by omega, by simp; omega⟩

theorem low_bit (k q : Nat) (hk : k < 64) (hx : 2 ^ k * (2 * q + 1) < 18446744073709551616) : (2 ^ k * (2 * q + 1)) &&& (18446744073709551616 - 2 ^ k * (2 * q + 1)) = 2 ^ k := by
  have hp : 0 < 2 ^ k := Nat.two_pow_pos k
  have e1 : 2 ^ k * (2 * q + 1) - 1 = 2 ^ k * (2 * q) + (2 ^ k - 1) := by rw [Nat.mul_add]; omega
  have hpos : 0 < 2 ^ k * (2 * q + 1) := Nat.mul_pos hp (by omega)
  apply Nat.eq_of_testBit_eq
  intro i
  rw [show 18446744073709551616 - 2 ^ k * (2 * q + 1) = 2 ^ 64 - ((2 ^ k * (2 * q + 1) - 1) + 1) from by omega, Nat.testBit_and, Nat.testBit_two_pow_sub_succ (by omega), e1,
    Nat.testBit_two_pow_mul_add _ (by omega), Nat.testBit_two_pow_mul, Nat.testBit_two_pow]
  by_cases h1 : i < k
  · simp [h1, show ¬ k ≤ i from by omega, show ¬ k = i from by omega]
  · by_cases h2 : i = k
    · subst h2; simp [hk]
    · obtain ⟨j, rfl⟩ : ∃ j, i = k + (j + 1) := ⟨i - k - 1, by omega⟩
      simp only [h1, if_false, show k ≤ k + (j + 1) from by omega, decide_true, Bool.true_and, show k + (j + 1) - k = j + 1 from by omega]
      rw [Nat.testBit_succ, Nat.testBit_succ, show (2 * q + 1) / 2 = q from by omega, show (2 * q) / 2 = q from by omega]
      rw [decide_eq_false (show ¬ k = k + (j + 1) from by omega)]
      cases q.testBit j <;> simp

/-- the place in the table -/
def deb (k : Nat) : Nat := 2 ^ k * 285870213051353865 % 18446744073709551616 / 288230376151711744
theorem deb_lt (k : Nat) : deb k < 64 := by unfold deb; omega

/-- the table, by places -/
def debTab : List Nat := [0, 1, 56, 2, 57, 49, 28, 3, 61, 58, 42, 50, 38, 29, 17, 4, 62, 47, 59, 36, 45, 43, 51, 22, 53, 39, 33, 30, 24, 18, 12, 5, 63, 55, 48, 27, 60, 41, 37, 16, 46, 35, 44, 21, 52, 32, 23, 11, 54, 26, 40, 15, 34, 20, 31, 10, 25, 14, 19, 9, 13, 8, 7, 6]
theorem debTab_at : ∀ k : Nat, k < 64 → debTab[deb k]? = some k := by decide +kernel

/-- the least assignment that makes it true -/
def one (f : T) : Option Nat := (List.range 256).find? fun x => f.getLsbD x
theorem one_some {f : T} {x : Nat} (hx : x < 256) (h : f.getLsbD x = true) (hl : ∀ y, y < x → f.getLsbD y = false) : one f = some x := by
  unfold one
  rw [List.find?_eq_some_iff_append]
  refine ⟨h, List.range x, (List.range' (x + 1) (255 - x)), ?_, fun y hy => ?_⟩
  · rw [List.range_eq_range', List.range_eq_range', show (x :: List.range' (x + 1) (255 - x)) = List.range' x (256 - x) from by rw [show 256 - x = (255 - x) + 1 from by omega, List.range'_succ]]
    have := List.range'_append (s := 0) (m := x) (n := 256 - x) (step := 1)
    rw [show 0 + 1 * x = x from by omega, show x + (256 - x) = 256 from by omega] at this
    exact this.symm
  · rw [hl y (List.mem_range.1 hy)]; rfl
theorem one_none {f : T} (h : ∀ y, y < 256 → f.getLsbD y = false) : one f = none := by
  unfold one
  rw [List.find?_eq_none]
  intro y hy
  rw [h y (List.mem_range.1 hy)]; simp

theorem word_zero {f : T} {c : Nat} (h : wd f c = 0) (j : Nat) (hj : j < 64) : f.getLsbD (64 * c + j) = false := by
  rw [← wd_testBit f c j hj, h]; simp

/-- the least one, if word c is the first that isn't nought -/
theorem one_word {f : T} {c k q : Nat} (hc : c < 4) (hk : k < 64) (he : (wd f c).toNat = 2 ^ k * (2 * q + 1)) (hz : ∀ d, d < c → wd f d = 0) : one f = some (64 * c + k) := by
  have hb : ∀ j, j < 64 → f.getLsbD (64 * c + j) = (2 ^ k * (2 * q + 1)).testBit j := fun j hj => by rw [← wd_testBit f c j hj, he]
  refine one_some (by omega) ?_ fun y hy => ?_
  · rw [hb k hk, Nat.testBit_two_pow_mul]; simp
  · by_cases h : y < 64 * c
    · have := word_zero (hz (y / 64) (by omega)) (y % 64) (Nat.mod_lt _ (by omega))
      rw [show 64 * (y / 64) + y % 64 = y from by omega] at this
      exact this
    · obtain ⟨j, rfl⟩ : ∃ j, y = 64 * c + j := ⟨y - 64 * c, by omega⟩
      rw [hb j (by omega), Nat.testBit_two_pow_mul]
      simp [show ¬ k ≤ j from by omega]
theorem one_zero {f : T} (h0 : wd f 0 = 0) (h1 : wd f 1 = 0) (h2 : wd f 2 = 0) (h3 : wd f 3 = 0) : one f = none := by
  refine one_none fun y hy => ?_
  have hd : wd f (y / 64) = 0 := by
    have : y / 64 = 0 ∨ y / 64 = 1 ∨ y / 64 = 2 ∨ y / 64 = 3 := by omega
    rcases this with h | h | h | h <;> rw [h] <;> assumption
  have := word_zero hd (y % 64) (Nat.mod_lt _ (by omega))
  rw [show 64 * (y / 64) + y % 64 = y from by omega] at this
  exact this

/-- how many assignments make it true -/
def cnt (f : T) : Nat := pc (wd f 0).toNat + pc (wd f 1).toNat + pc (wd f 2).toNat + pc (wd f 3).toNat
attribute [irreducible] cnt one deb
end Tb
end Go.Proofs.Ythbifeoohphnpaa

/-
  How many assignments make a table true: the laws of TruthCountsUp. No program in sight.
-/
namespace Go.Proofs.Ythbifeoohphnpaa
set_option linter.unusedVariables false
theorem Oc.pc_count : ∀ m, m ≤ 64 → ∀ n, n < 2 ^ m → Bt.pc n = (List.range m).countP (fun i => n.testBit i) := by
  intro m
  induction m with
  | zero =>
    intro _ n hn
    obtain rfl : n = 0 := by simpa using hn
    have := Oc.pc_two 0 (by decide)
    decide +kernel
  | succ m ih =>
    intro hm n hn
    have hlt : n < 18446744073709551616 := Nat.lt_of_lt_of_le hn (by have := Nat.pow_le_pow_right (show 0 < 2 by omega) hm; simpa using this)
    rw [Oc.pc_two n hlt, ih (by omega) (n / 2) (by rw [Nat.pow_succ] at hn; omega), List.range_succ_eq_map, List.countP_cons, List.countP_map]
    have e : ((fun i => n.testBit i) ∘ Nat.succ) = fun i => (n / 2).testBit i := by
      funext i; simp [Nat.testBit_succ]
    rw [e, Nat.testBit_zero]
    have : n % 2 = 0 ∨ n % 2 = 1 := by omega
    rcases this with h | h <;> simp [h] <;> omega
namespace Tb
theorem cnt_eq (f : T) : cnt f = (List.range 256).countP (fun x => f.getLsbD x) := by
  have hw : ∀ c, Bt.pc (wd f c).toNat = (List.range 64).countP (fun j => f.getLsbD (64 * c + j)) := fun c => by
    rw [Oc.pc_count 64 (by omega) _ (by have := wd_lo f c; have := wd_hi f c; omega)]
    refine List.countP_congr fun j hj => ?_
    rw [wd_testBit f c j (by simpa using hj)]
  have hr : List.range 256 = (List.range 64).map (fun j => 64 * 0 + j) ++ ((List.range 64).map (fun j => 64 * 1 + j) ++ ((List.range 64).map (fun j => 64 * 2 + j) ++ (List.range 64).map (fun j => 64 * 3 + j))) := by decide +kernel
  unfold cnt
  rw [hw, hw, hw, hw, hr, List.countP_append, List.countP_append, List.countP_append, List.countP_map, List.countP_map, List.countP_map, List.countP_map]
  simp only [Function.comp_def]
  omega
theorem cnt_le (f : T) : cnt f ≤ 256 := by
  rw [cnt_eq]
  have := List.countP_le_length (p := fun x => f.getLsbD x) (l := List.range 256)
  simpa using this
theorem countP_two (p q : Nat → Bool) (l : List Nat) : l.countP (fun x => p x && q x) + l.countP (fun x => p x || q x) = l.countP p + l.countP q := by
  induction l with
  | nil => rfl
  | cons a l ih =>
    simp only [List.countP_cons]
    cases p a <;> cases q a <;> simp <;> omega
theorem countP_half (p q : Nat → Bool) (l : List Nat) : l.countP (fun x => p x && q x) + l.countP (fun x => p x && !(q x)) = l.countP p := by
  induction l with
  | nil => rfl
  | cons a l ih =>
    simp only [List.countP_cons]
    cases p a <;> cases q a <;> simp <;> omega
theorem cnt_not (f : T) : cnt f + cnt (~~~f) = 256 := by
  rw [cnt_eq, cnt_eq]
  have h := countP_half (fun _ => true) (fun x => f.getLsbD x) (List.range 256)
  simp only [Bool.true_and] at h
  have e : (List.range 256).countP (fun x => (~~~f).getLsbD x) = (List.range 256).countP (fun x => !f.getLsbD x) :=
    List.countP_congr fun x hx => by rw [BitVec.getLsbD_not]; simp [show x < 256 from by simpa using hx]
  rw [e, h]; simp
theorem cnt_two (f g : T) : cnt (f &&& g) + cnt (f ||| g) = cnt f + cnt g := by
  rw [cnt_eq, cnt_eq, cnt_eq, cnt_eq, ← countP_two (fun x => f.getLsbD x) (fun x => g.getLsbD x)]
  congr 1
  · exact List.countP_congr fun x _ => by rw [BitVec.getLsbD_and]
  · exact List.countP_congr fun x _ => by rw [BitVec.getLsbD_or]
theorem cnt_half (f g : T) : cnt (f &&& g) + cnt (f &&& ~~~g) = cnt f := by
  rw [cnt_eq, cnt_eq, cnt_eq, ← countP_half (fun x => f.getLsbD x) (fun x => g.getLsbD x)]
  congr 1
  · exact List.countP_congr fun x _ => by rw [BitVec.getLsbD_and]
  · exact List.countP_congr fun x hx => by rw [BitVec.getLsbD_and, BitVec.getLsbD_not]; simp [show x < 256 from by simpa using hx]
theorem swap_perm : ∀ k : Nat, k < 8 → ((List.range 256).map fun x => x ^^^ 2 ^ k).Perm (List.range 256) := by decide +kernel
theorem cnt_swap (p : Nat → Bool) (k : Nat) (hk : k < 8) : (List.range 256).countP (fun x => p (x ^^^ 2 ^ k)) = (List.range 256).countP p := by
  rw [← (swap_perm k hk).countP_eq p, List.countP_map]; rfl
theorem swap_wth : ∀ x : Nat, x < 256 → ∀ k : Nat, k < 8 → (wth x k true = if x.testBit k then x else x ^^^ 2 ^ k) ∧ (x ^^^ 2 ^ k).testBit k = !x.testBit k ∧ (x ^^^ 2 ^ k) ^^^ 2 ^ k = x ∧ x ^^^ 2 ^ k < 256 := by decide +kernel
theorem kn_nat {k : Nat} (hk : k < 8) : kn (k : Int) = true := by unfold kn; simp; omega
theorem var_bit {k x : Nat} (hk : k < 8) (hx : x < 256) : (var (k : Int)).getLsbD x = x.testBit k := by
  rw [var_get _ _ hx, kn_nat hk]; simp
theorem cnt_fix (f : T) (k : Nat) (hk : k < 8) : cnt (fix f (k : Int) true) = 2 * cnt (f &&& var (k : Int)) := by
  have h := cnt_half (fix f (k : Int) true) (var (k : Int))
  have e1 : cnt (fix f (k : Int) true &&& var (k : Int)) = cnt (f &&& var (k : Int)) := by
    rw [cnt_eq, cnt_eq]
    refine List.countP_congr fun x hx => ?_
    have hx : x < 256 := by simpa using hx
    rw [BitVec.getLsbD_and, BitVec.getLsbD_and, fix_get hk hx, var_bit hk hx, (swap_wth x hx k hk).1]
    cases x.testBit k <;> simp
  have e2 : cnt (fix f (k : Int) true &&& ~~~ var (k : Int)) = cnt (f &&& var (k : Int)) := by
    rw [cnt_eq, cnt_eq, ← cnt_swap (fun x => (f &&& var (k : Int)).getLsbD x) k hk]
    refine List.countP_congr fun x hx => ?_
    have hx : x < 256 := by simpa using hx
    obtain ⟨h1, h2, h3, h4⟩ := swap_wth x hx k hk
    rw [BitVec.getLsbD_and, BitVec.getLsbD_not, BitVec.getLsbD_and, fix_get hk hx, var_bit hk hx, var_bit hk h4, h1, h2]
    cases x.testBit k <;> simp [hx]
  omega
theorem sup_bit : ∀ n : Nat, n < 256 → ∀ k : Nat, k < 8 → decide ((n / 2 ^ k) &&& 1 = 1) = n.testBit k := by decide +kernel
theorem sup_fix (f : T) (k : Nat) (hk : k < 8) : decide ((support f / 2 ^ k) &&& 1 = 1) = decide (fix f (k : Int) true ≠ fix f (k : Int) false) := by
  rw [sup_bit _ (support_lt f) k hk, support_bit]
  simp only [hk, decide_true, Bool.true_and, decide_eq_decide]
  exact ne_comm
end Tb
end Go.Proofs.Ythbifeoohphnpaa

/-
  A variable set for good, word by word, as the document does it. No program in sight.
-/
namespace Go.Proofs.Ythbifeoohphnpaa
set_option linter.unusedVariables false
namespace Tb
/-- two words are one if their bits are -/
theorem word_ext {F G : T} {c d : Nat} (h : ∀ j, j < 64 → F.getLsbD (64 * c + j) = G.getLsbD (64 * d + j)) : wd F c = wd G d := by
  have h1 := wd_lo F c
  have h2 := wd_lo G d
  have h3 := wd_hi F c
  have h4 := wd_hi G d
  have : (wd F c).toNat = (wd G d).toNat := by
    apply Nat.eq_of_testBit_eq
    intro j
    by_cases hj : j < 64
    · rw [wd_testBit F c j hj, wd_testBit G d j hj, h j hj]
    · have hp : 18446744073709551616 ≤ 2 ^ j := by
        have : 2 ^ 64 ≤ 2 ^ j := Nat.pow_le_pow_right (by omega) (by omega)
        simpa using this
      rw [Nat.testBit_lt_two_pow (by omega), Nat.testBit_lt_two_pow (by omega)]
  omega
theorem high_wth : ∀ c : Nat, c < 4 → ∀ j : Nat, j < 64 →
    wth (64 * c + j) 6 true = 64 * (c ||| 1) + j ∧ wth (64 * c + j) 6 false = 64 * (c - c % 2) + j ∧ wth (64 * c + j) 7 true = 64 * (c ||| 2) + j ∧ wth (64 * c + j) 7 false = 64 * (c % 2) + j := by decide +kernel
theorem fix6 (f : T) (c : Nat) (hc : c < 4) : wd (fix f 6 true) c = wd f (c ||| 1) ∧ wd (fix f 6 false) c = wd f (c - c % 2) ∧ wd (fix f 7 true) c = wd f (c ||| 2) ∧ wd (fix f 7 false) c = wd f (c % 2) := by
  refine ⟨word_ext fun j hj => ?_, word_ext fun j hj => ?_, word_ext fun j hj => ?_, word_ext fun j hj => ?_⟩
  · rw [← (high_wth c hc j hj).1]; exact fix_get (v := 6) (by omega) (by omega)
  · rw [← (high_wth c hc j hj).2.1]; exact fix_get (v := 6) (by omega) (by omega)
  · rw [← (high_wth c hc j hj).2.2.1]; exact fix_get (v := 7) (by omega) (by omega)
  · rw [← (high_wth c hc j hj).2.2.2]; exact fix_get (v := 7) (by omega) (by omega)
/-- the places whose bit v is set, below k -/
def mk (v : Nat) : Nat → Nat
  | 0 => 0
  | k + 1 => if k.testBit v then mk v k ||| 2 ^ k else mk v k
theorem mk_lt (v : Nat) : ∀ k, mk v k < 2 ^ k := by
  intro k
  induction k with
  | zero => simp [mk]
  | succ k ih =>
    have hp : 2 ^ k < 2 ^ (k + 1) := Nat.pow_lt_pow_right (by omega) (by omega)
    unfold mk
    split
    · exact Nat.or_lt_two_pow (by omega) hp
    · omega
theorem mk_bit (v : Nat) : ∀ k j, (mk v k).testBit j = (decide (j < k) && j.testBit v) := by
  intro k
  induction k with
  | zero => intro j; simp [mk]
  | succ k ih =>
    intro j
    unfold mk
    by_cases e : j = k
    · subst e
      split
      · rename_i h; rw [Nat.testBit_or, ih, Nat.testBit_two_pow]; simp [h]
      · rename_i h; rw [ih]; simp at h; simp [h]
    · rw [show decide (j < k + 1) = decide (j < k) from by rw [decide_eq_decide]; omega]
      split
      · rw [Nat.testBit_or, ih, Nat.testBit_two_pow]; simp [show ¬ k = j from fun h => e h.symm]
      · exact ih j
theorem lw1 : ∀ v : Nat, v < 6 → ∀ j : Nat, j < 64 → j.testBit v = true → (j + 2 ^ v).testBit v = false := by decide +kernel
theorem lw2 : ∀ v : Nat, v < 6 → ∀ j : Nat, j < 64 → j.testBit v = false → (j + 2 ^ v).testBit v = true ∧ j + 2 ^ v < 64 := by decide +kernel
theorem lw3 : ∀ v : Nat, v < 6 → ∀ j : Nat, j < 64 → j.testBit v = true → (j - 2 ^ v).testBit v = false ∧ 2 ^ v ≤ j := by decide +kernel
theorem lw4 : ∀ v : Nat, v < 6 → ∀ j : Nat, j < 64 → j.testBit v = false → 2 ^ v ≤ j → (j - 2 ^ v).testBit v = true := by decide +kernel
theorem low_wth2 : ∀ v : Nat, v < 6 → ∀ x : Nat, x < 256 → wth x v true = (if (x % 64).testBit v then x else x + 2 ^ v) ∧ wth x v false = (if (x % 64).testBit v then x - 2 ^ v else x) := by decide +kernel
theorem pow64 : (2 : Nat) ^ 64 = 18446744073709551616 := by decide
theorem high64 {n j : Nat} (hn : n < 18446744073709551616) (hj : ¬ j < 64) : n.testBit j = false := by
  have hp : 18446744073709551616 ≤ 2 ^ j := by
    have : 2 ^ 64 ≤ 2 ^ j := Nat.pow_le_pow_right (by omega) (by omega)
    simpa using this
  exact Nat.testBit_lt_two_pow (by omega)
theorem fix_low_true (f : T) (v c : Nat) (hv : v < 6) (hc : c < 4) :
    bits .or .u64 (bits .and .u64 (wd f c) (mk v 64 : Int)) (bits .and .u64 (wd f c) (mk v 64 : Int) / 2 ^ (2 ^ v)) = wd (fix f (v : Int) true) c := by
  have h1 := wd_lo f c
  have h2 := wd_hi f c
  have h3 := wd_lo (fix f (v : Int) true) c
  have h4 := wd_hi (fix f (v : Int) true) c
  have hm : mk v 64 < 18446744073709551616 := by have := mk_lt v 64; rwa [pow64] at this
  generalize hW : (wd f c).toNat = W
  have hWl : W < 18446744073709551616 := by omega
  rw [show wd f c = (W : Int) from by omega, bits_and_u64_nat W _ hWl hm]
  have hA : W &&& mk v 64 < 18446744073709551616 := Nat.lt_of_le_of_lt Nat.and_le_left hWl
  have hS : (W &&& mk v 64) / 2 ^ 2 ^ v < 18446744073709551616 := Nat.lt_of_le_of_lt (Nat.div_le_self _ _) hA
  have e : (((W &&& mk v 64 : Nat) : Int) / 2 ^ 2 ^ v) = (((W &&& mk v 64) / 2 ^ 2 ^ v : Nat) : Int) := by norm_cast
  rw [e, bits_or_u64_nat _ _ hA hS]
  have : ((W &&& mk v 64) ||| ((W &&& mk v 64) / 2 ^ 2 ^ v)) = (wd (fix f (v : Int) true) c).toNat := by
    apply Nat.eq_of_testBit_eq
    intro j
    by_cases hj : j < 64
    · rw [wd_testBit _ c j hj, fix_get (by omega) (by omega), Nat.testBit_or, Nat.testBit_and, Nat.testBit_div_two_pow, Nat.testBit_and, mk_bit, mk_bit, ← hW]
      have l4 := (low_wth2 v hv (64 * c + j) (by omega)).1
      rw [show (64 * c + j) % 64 = j from by omega] at l4
      rw [l4]
      cases hb : j.testBit v
      · obtain ⟨q1, q2⟩ := lw2 v hv j hj hb
        rw [show j + 2 ^ v = j + 2 ^ v from rfl]
        simp only [q1, q2, Bool.and_false, Bool.false_or, decide_true, Bool.and_true, Bool.false_eq_true, if_false]
        rw [wd_testBit f c _ q2, Nat.add_assoc]
      · have q1 := lw1 v hv j hj hb
        rw [wd_testBit f c j hj]
        by_cases h64 : j + 2 ^ v < 64
        · simp [hj, q1]
        · simp [hj, h64]
    · rw [Nat.testBit_or, high64 hA hj, high64 hS hj, high64 (n := (wd (fix f (v : Int) true) c).toNat) (by omega) hj]; rfl
  omega
theorem fix_low_false (f : T) (v c : Nat) (hv : v < 6) (hc : c < 4) :
    bits .or .u64 (bits .andNot .u64 (wd f c) (mk v 64 : Int)) (IntKind.u64.wrap (bits .andNot .u64 (wd f c) (mk v 64 : Int) * 2 ^ (2 ^ v))) = wd (fix f (v : Int) false) c := by
  have h1 := wd_lo f c
  have h2 := wd_hi f c
  have h3 := wd_lo (fix f (v : Int) false) c
  have h4 := wd_hi (fix f (v : Int) false) c
  have hm : mk v 64 < 18446744073709551616 := by have := mk_lt v 64; rwa [pow64] at this
  generalize hW : (wd f c).toNat = W
  have hWl : W < 18446744073709551616 := by omega
  rw [show wd f c = (W : Int) from by omega, u64_andNot_nat W _ hWl hm]
  have hA : W &&& (18446744073709551615 - mk v 64) < 18446744073709551616 := Nat.lt_of_le_of_lt Nat.and_le_left hWl
  have hS : (W &&& (18446744073709551615 - mk v 64)) * 2 ^ 2 ^ v % 18446744073709551616 < 18446744073709551616 := Nat.mod_lt _ (by decide)
  have e : IntKind.u64.wrap (((W &&& (18446744073709551615 - mk v 64) : Nat) : Int) * 2 ^ 2 ^ v) = (((W &&& (18446744073709551615 - mk v 64)) * 2 ^ 2 ^ v % 18446744073709551616 : Nat) : Int) := by
    rw [IntKind.wrap_u64]; simp only [Int.natCast_emod, Int.natCast_mul, Int.natCast_pow]; rfl
  rw [e, bits_or_u64_nat _ _ hA hS]
  have hcomp : ∀ i, i < 64 → (18446744073709551615 - mk v 64).testBit i = !(i.testBit v) := fun i hi => by
    have := Nat.testBit_two_pow_sub_succ (x := mk v 64) (n := 64) (by rw [pow64]; exact hm) i
    rw [pow64, show 18446744073709551616 - (mk v 64 + 1) = 18446744073709551615 - mk v 64 from by omega] at this
    rw [this, mk_bit]; simp [hi]
  have : ((W &&& (18446744073709551615 - mk v 64)) ||| ((W &&& (18446744073709551615 - mk v 64)) * 2 ^ 2 ^ v % 18446744073709551616)) = (wd (fix f (v : Int) false) c).toNat := by
    apply Nat.eq_of_testBit_eq
    intro j
    by_cases hj : j < 64
    · have hmod : ((W &&& (18446744073709551615 - mk v 64)) * 2 ^ 2 ^ v % 18446744073709551616).testBit j = (decide (2 ^ v ≤ j) && (W &&& (18446744073709551615 - mk v 64)).testBit (j - 2 ^ v)) := by
        rw [← pow64, Nat.testBit_mod_two_pow, Nat.testBit_mul_two_pow]
        simp [hj]
      have l4 := (low_wth2 v hv (64 * c + j) (by omega)).2
      rw [show (64 * c + j) % 64 = j from by omega] at l4
      rw [wd_testBit _ c j hj, fix_get (by omega) (by omega), Nat.testBit_or, hmod, Nat.testBit_and, hcomp j hj, l4]
      cases hb : j.testBit v
      · by_cases hp : 2 ^ v ≤ j
        · have q1 := lw4 v hv j hj hb hp
          rw [Nat.testBit_and, hcomp _ (Nat.lt_of_le_of_lt (Nat.sub_le _ _) hj), q1, ← hW, wd_testBit f c j hj]
          simp
        · rw [← hW, wd_testBit f c j hj]
          simp [hp]
      · obtain ⟨q1, q2⟩ := lw3 v hv j hj hb
        rw [Nat.testBit_and, hcomp _ (Nat.lt_of_le_of_lt (Nat.sub_le _ _) hj), q1, ← hW, wd_testBit f c (j - 2 ^ v) (Nat.lt_of_le_of_lt (Nat.sub_le _ _) hj)]
        rw [show 64 * c + j - 2 ^ v = 64 * c + (j - 2 ^ v) from Nat.add_sub_assoc q2 _]
        simp [q2]
    · rw [Nat.testBit_or, high64 hA hj, high64 hS hj, high64 (n := (wd (fix f (v : Int) false) c).toNat) (by omega) hj]; rfl
  omega
attribute [irreducible] mk
end Tb
end Go.Proofs.Ythbifeoohphnpaa

/-
  The walks of the document's tables, third part: a variable set for good.
-/
namespace Go.Proofs.Ythbifeoohphnpaa
set_option linter.unusedVariables false
open Go.RowKit

set_option maxRecDepth 100000 in
set_option maxHeartbeats 1000000 in
theorem rfix_none (f : Tb.T) (v : Int) (b : Bool) (w : World) (hk : Tb.kn v = false) :
    Calls Try.prog 56 #[Tb.tv f, .int .i64 v, .bool b] w fun e w' => e = .returned (Tb.tv f) ∧ Below w.heap.size w w' := by
  have hv : ¬ (0 ≤ v ∧ v < 8) := by unfold Tb.kn at hk; simp at hk; omega
  clear hk
  by_cases h0 : v < 0
  · clear hv
    go_enter Try.func56, Try.ntmps56
    go_wp2_with fail
    refine bodyPost_ret (v := Tb.tv f) (by simp [results, Try.results56, go_sem]) rfl ⟨rfl, ?_⟩
    (repeat (first | (with_reducible exact Below.refl _ _) | (with_reducible assumption) | (with_reducible refine Below.drew ?_) | (with_reducible refine Below.setCell ?_ ?_ _; rotate_left; (first | omega | (simp <;> omega))) | (with_reducible refine Below.alloc ?_ ?_ _; rotate_left; (first | omega | (simp <;> omega)))))
  · have h8 : v ≥ 8 := by omega
    clear hv
    go_enter Try.func56, Try.ntmps56
    go_wp2_with fail
    refine bodyPost_ret (v := Tb.tv f) (by simp [results, Try.results56, go_sem]) rfl ⟨rfl, ?_⟩
    (repeat (first | (with_reducible exact Below.refl _ _) | (with_reducible assumption) | (with_reducible refine Below.drew ?_) | (with_reducible refine Below.setCell ?_ ?_ _; rotate_left; (first | omega | (simp <;> omega))) | (with_reducible refine Below.alloc ?_ ?_ _; rotate_left; (first | omega | (simp <;> omega)))))

set_option maxRecDepth 100000 in
set_option maxHeartbeats 1000000 in
theorem rfix6true_raw (f : Tb.T) (w : World) :
    Calls Try.prog 56 #[Tb.tv f, .int .i64 6, .bool true] w fun e w' => e = .returned (.agg #[.int .u64 (Tb.wd f 1), .int .u64 (Tb.wd f 1), .int .u64 (Tb.wd f 3), .int .u64 (Tb.wd f 3)]) ∧ Below w.heap.size w w' := by
  have a0 : bits .and .i64 0 1 = 0 := by decide +kernel
  have o0 : bits .or .i64 0 1 = 1 := by decide +kernel
  have a1 : bits .and .i64 1 1 = 1 := by decide +kernel
  have a2 : bits .and .i64 2 1 = 0 := by decide +kernel
  have o2 : bits .or .i64 2 1 = 3 := by decide +kernel
  have a3 : bits .and .i64 3 1 = 1 := by decide +kernel
  go_enter Try.func56, Try.ntmps56
  go_wp2_with fail
  refine wp_loop_rounds 5 ?_
  rw [rounds_succ]
  go_wp2_with fail
  rw [rounds_succ]
  go_wp2_with fail
  rw [rounds_succ]
  go_wp2_with fail
  rw [rounds_succ]
  go_wp2_with fail
  rw [rounds_succ]
  go_wp2_with fail
  refine bodyPost_ret (v := .agg #[.int .u64 (Tb.wd f 1), .int .u64 (Tb.wd f 1), .int .u64 (Tb.wd f 3), .int .u64 (Tb.wd f 3)]) (by simp [results, Try.results56, go_sem]) rfl ⟨rfl, ?_⟩
  (repeat (first | (with_reducible exact Below.refl _ _) | (with_reducible assumption) | (with_reducible refine Below.drew ?_) | (with_reducible refine Below.setCell ?_ ?_ _; rotate_left; (first | omega | (simp <;> omega))) | (with_reducible refine Below.alloc ?_ ?_ _; rotate_left; (first | omega | (simp <;> omega)))))
theorem rfix6true_any (f : Tb.T) (w : World) :
    Calls Try.prog 56 #[Tb.tv f, .int .i64 6, .bool true] w fun e w' => e = .returned (Tb.tv (Tb.fix f 6 true)) ∧ Below w.heap.size w w' := by
  have h := rfix6true_raw f w
  have e0 := (Tb.fix6 f 0 (by omega)).1
  have e1 := (Tb.fix6 f 1 (by omega)).1
  have e2 := (Tb.fix6 f 2 (by omega)).1
  have e3 := (Tb.fix6 f 3 (by omega)).1
  unfold Tb.tv
  rw [e0, e1, e2, e3]
  exact h

set_option maxRecDepth 100000 in
set_option maxHeartbeats 1000000 in
theorem rfix6false_raw (f : Tb.T) (w : World) :
    Calls Try.prog 56 #[Tb.tv f, .int .i64 6, .bool false] w fun e w' => e = .returned (.agg #[.int .u64 (Tb.wd f 0), .int .u64 (Tb.wd f 0), .int .u64 (Tb.wd f 2), .int .u64 (Tb.wd f 2)]) ∧ Below w.heap.size w w' := by
  have a0 : bits .and .i64 0 1 = 0 := by decide +kernel
  have o0 : bits .or .i64 0 1 = 1 := by decide +kernel
  have a1 : bits .and .i64 1 1 = 1 := by decide +kernel
  have a2 : bits .and .i64 2 1 = 0 := by decide +kernel
  have o2 : bits .or .i64 2 1 = 3 := by decide +kernel
  have a3 : bits .and .i64 3 1 = 1 := by decide +kernel
  go_enter Try.func56, Try.ntmps56
  go_wp2_with fail
  refine wp_loop_rounds 5 ?_
  rw [rounds_succ]
  go_wp2_with fail
  rw [rounds_succ]
  go_wp2_with fail
  rw [rounds_succ]
  go_wp2_with fail
  rw [rounds_succ]
  go_wp2_with fail
  rw [rounds_succ]
  go_wp2_with fail
  refine bodyPost_ret (v := .agg #[.int .u64 (Tb.wd f 0), .int .u64 (Tb.wd f 0), .int .u64 (Tb.wd f 2), .int .u64 (Tb.wd f 2)]) (by simp [results, Try.results56, go_sem]) rfl ⟨rfl, ?_⟩
  (repeat (first | (with_reducible exact Below.refl _ _) | (with_reducible assumption) | (with_reducible refine Below.drew ?_) | (with_reducible refine Below.setCell ?_ ?_ _; rotate_left; (first | omega | (simp <;> omega))) | (with_reducible refine Below.alloc ?_ ?_ _; rotate_left; (first | omega | (simp <;> omega)))))
theorem rfix6false_any (f : Tb.T) (w : World) :
    Calls Try.prog 56 #[Tb.tv f, .int .i64 6, .bool false] w fun e w' => e = .returned (Tb.tv (Tb.fix f 6 false)) ∧ Below w.heap.size w w' := by
  have h := rfix6false_raw f w
  have e0 := (Tb.fix6 f 0 (by omega)).2.1
  have e1 := (Tb.fix6 f 1 (by omega)).2.1
  have e2 := (Tb.fix6 f 2 (by omega)).2.1
  have e3 := (Tb.fix6 f 3 (by omega)).2.1
  unfold Tb.tv
  rw [e0, e1, e2, e3]
  exact h

set_option maxRecDepth 100000 in
set_option maxHeartbeats 1000000 in
theorem rfix7true_raw (f : Tb.T) (w : World) :
    Calls Try.prog 56 #[Tb.tv f, .int .i64 7, .bool true] w fun e w' => e = .returned (.agg #[.int .u64 (Tb.wd f 2), .int .u64 (Tb.wd f 3), .int .u64 (Tb.wd f 2), .int .u64 (Tb.wd f 3)]) ∧ Below w.heap.size w w' := by
  have a0 : bits .and .i64 0 2 = 0 := by decide +kernel
  have o0 : bits .or .i64 0 2 = 2 := by decide +kernel
  have a1 : bits .and .i64 1 2 = 0 := by decide +kernel
  have o1 : bits .or .i64 1 2 = 3 := by decide +kernel
  have a2 : bits .and .i64 2 2 = 2 := by decide +kernel
  have a3 : bits .and .i64 3 2 = 2 := by decide +kernel
  go_enter Try.func56, Try.ntmps56
  go_wp2_with fail
  refine wp_loop_rounds 5 ?_
  rw [rounds_succ]
  go_wp2_with fail
  rw [rounds_succ]
  go_wp2_with fail
  rw [rounds_succ]
  go_wp2_with fail
  rw [rounds_succ]
  go_wp2_with fail
  rw [rounds_succ]
  go_wp2_with fail
  refine bodyPost_ret (v := .agg #[.int .u64 (Tb.wd f 2), .int .u64 (Tb.wd f 3), .int .u64 (Tb.wd f 2), .int .u64 (Tb.wd f 3)]) (by simp [results, Try.results56, go_sem]) rfl ⟨rfl, ?_⟩
  (repeat (first | (with_reducible exact Below.refl _ _) | (with_reducible assumption) | (with_reducible refine Below.drew ?_) | (with_reducible refine Below.setCell ?_ ?_ _; rotate_left; (first | omega | (simp <;> omega))) | (with_reducible refine Below.alloc ?_ ?_ _; rotate_left; (first | omega | (simp <;> omega)))))
theorem rfix7true_any (f : Tb.T) (w : World) :
    Calls Try.prog 56 #[Tb.tv f, .int .i64 7, .bool true] w fun e w' => e = .returned (Tb.tv (Tb.fix f 7 true)) ∧ Below w.heap.size w w' := by
  have h := rfix7true_raw f w
  have e0 := (Tb.fix6 f 0 (by omega)).2.2.1
  have e1 := (Tb.fix6 f 1 (by omega)).2.2.1
  have e2 := (Tb.fix6 f 2 (by omega)).2.2.1
  have e3 := (Tb.fix6 f 3 (by omega)).2.2.1
  unfold Tb.tv
  rw [e0, e1, e2, e3]
  exact h

set_option maxRecDepth 100000 in
set_option maxHeartbeats 1000000 in
theorem rfix7false_raw (f : Tb.T) (w : World) :
    Calls Try.prog 56 #[Tb.tv f, .int .i64 7, .bool false] w fun e w' => e = .returned (.agg #[.int .u64 (Tb.wd f 0), .int .u64 (Tb.wd f 1), .int .u64 (Tb.wd f 0), .int .u64 (Tb.wd f 1)]) ∧ Below w.heap.size w w' := by
  have a0 : bits .and .i64 0 2 = 0 := by decide +kernel
  have o0 : bits .or .i64 0 2 = 2 := by decide +kernel
  have a1 : bits .and .i64 1 2 = 0 := by decide +kernel
  have o1 : bits .or .i64 1 2 = 3 := by decide +kernel
  have a2 : bits .and .i64 2 2 = 2 := by decide +kernel
  have a3 : bits .and .i64 3 2 = 2 := by decide +kernel
  go_enter Try.func56, Try.ntmps56
  go_wp2_with fail
  refine wp_loop_rounds 5 ?_
  rw [rounds_succ]
  go_wp2_with fail
  rw [rounds_succ]
  go_wp2_with fail
  rw [rounds_succ]
  go_wp2_with fail
  rw [rounds_succ]
  go_wp2_with fail
  rw [rounds_succ]
  go_wp2_with fail
  refine bodyPost_ret (v := .agg #[.int .u64 (Tb.wd f 0), .int .u64 (Tb.wd f 1), .int .u64 (Tb.wd f 0), .int .u64 (Tb.wd f 1)]) (by simp [results, Try.results56, go_sem]) rfl ⟨rfl, ?_⟩
  (repeat (first | (with_reducible exact Below.refl _ _) | (with_reducible assumption) | (with_reducible refine Below.drew ?_) | (with_reducible refine Below.setCell ?_ ?_ _; rotate_left; (first | omega | (simp <;> omega))) | (with_reducible refine Below.alloc ?_ ?_ _; rotate_left; (first | omega | (simp <;> omega)))))
theorem rfix7false_any (f : Tb.T) (w : World) :
    Calls Try.prog 56 #[Tb.tv f, .int .i64 7, .bool false] w fun e w' => e = .returned (Tb.tv (Tb.fix f 7 false)) ∧ Below w.heap.size w w' := by
  have h := rfix7false_raw f w
  have e0 := (Tb.fix6 f 0 (by omega)).2.2.2
  have e1 := (Tb.fix6 f 1 (by omega)).2.2.2
  have e2 := (Tb.fix6 f 2 (by omega)).2.2.2
  have e3 := (Tb.fix6 f 3 (by omega)).2.2.2
  unfold Tb.tv
  rw [e0, e1, e2, e3]
  exact h
end Go.Proofs.Ythbifeoohphnpaa

/-
  The walks of the document's tables, fourth part: one of the first six variables set for good.
-/
namespace Go.Proofs.Ythbifeoohphnpaa
set_option linter.unusedVariables false
open Go.RowKit
theorem Tb.wrap_pow64 (k : Nat) (hk : k < 64) : IntKind.u64.wrap ((2 : Int) ^ k) = ((2 ^ k : Nat) : Int) := by
  have h : 2 ^ k < 2 ^ 64 := Nat.pow_lt_pow_right (by omega) hk
  rw [Tb.pow64] at h
  rw [IntKind.wrap_u64, show (2 : Int) ^ k = ((2 ^ k : Nat) : Int) from by norm_cast]
  generalize 2 ^ k = t at h ⊢
  omega
theorem Tb.mk_step {v k : Nat} (hk : k < 64) (hb : k.testBit v = true) : bits .or .u64 (Tb.mk v k : Int) ((2 ^ k : Nat) : Int) = (Tb.mk v (k + 1) : Int) := by
  have h : 2 ^ k < 2 ^ 64 := Nat.pow_lt_pow_right (by omega) hk
  rw [Tb.pow64] at h
  have hm := Tb.mk_lt v k
  rw [u64_or_nat _ _ (by omega) h, show Tb.mk v (k + 1) = Tb.mk v k ||| 2 ^ k from by rw [Tb.mk]; simp [hb]]
theorem Tb.mk_stay {v k : Nat} (hb : k.testBit v = false) : (Tb.mk v k : Int) = (Tb.mk v (k + 1) : Int) := by
  rw [show Tb.mk v (k + 1) = Tb.mk v k from by rw [Tb.mk]; simp [hb]]
theorem Tb.and_pow {v k : Nat} (hv : v < 6) (hk : k < 64) : bits .and .u64 (k : Int) ((2 ^ v : Nat) : Int) = if k.testBit v then ((2 ^ v : Nat) : Int) else 0 := by
  have h : 2 ^ v < 2 ^ 64 := Nat.pow_lt_pow_right (by omega) (by omega)
  rw [Tb.pow64] at h
  rw [u64_and_nat _ _ (by omega) h]
  have e : k &&& 2 ^ v = if k.testBit v then 2 ^ v else 0 := by
    apply Nat.eq_of_testBit_eq
    intro i
    rw [Nat.testBit_and, Nat.testBit_two_pow]
    by_cases hi : v = i
    · subst hi; cases hb : k.testBit v <;> simp
    · cases hb : k.testBit v <;> simp [hi]
  rw [e]
  cases k.testBit v <;> rfl

set_option maxRecDepth 100000 in
set_option maxHeartbeats 2000000 in
theorem rfixlow_true (f : Tb.T) (v : Nat) (w : World) (hv : v < 6) :
    Calls Try.prog 56 #[Tb.tv f, .int .i64 (v : Int), .bool true] w fun e w' => e = .returned (Tb.tv (Tb.fix f (v : Int) true)) ∧ Below w.heap.size w w' := by
  have n0 : ¬ ((v : Int) < 0) := by omega
  have n8 : ¬ ((v : Int) ≥ 8) := by omega
  have n6 : ¬ ((v : Int) ≥ 6) := by omega
  have hq2 : IntKind.u64.wrap (v : Int) = (v : Int) := by rw [IntKind.wrap_u64]; omega
  have hs := Tb.wrap_pow64 v (by omega)
  have hsb : 2 ^ v ≤ 32 := by have := Nat.pow_le_pow_right (show 0 < 2 by omega) (show v ≤ 5 by omega); simpa using this
  have hs0 : 0 < 2 ^ v := Nat.two_pow_pos v
  have HA := Bx.mk (fun k (hk : k < 64) => Tb.and_pow hv hk)
  have HF := Bx.mk (fun c (hc : c < 4) => Tb.fix_low_true f v c hv hc)
  generalize hS : 2 ^ v = s at hs hsb hs0 HA HF
  have s1 : ((s : Int) == 0) = false := by rw [beq_eq_false_iff_ne]; omega
  clear hS
  go_enter Try.func56, Try.ntmps56
  go_wp2_with fail
  go_loopw [10, 12] (fun m i wr => ∃ k : Nat, k ≤ 64 ∧ i = .int .u64 k ∧ m = .int .u64 (Tb.mk v k : Int) ∧ wr = ((w.alloc (.cells #[.int .u64 (Tb.wd f 0), .int .u64 (Tb.wd f 1), .int .u64 (Tb.wd f 2), .int .u64 (Tb.wd f 3)] 24)).alloc (.cells #[.int .u64 0, .int .u64 0, .int .u64 0, .int .u64 0] 24))) (fun _ i _ => 64 - (intOf i).toNat)
  case atStart => exact ⟨0, by omega, rfl, by unfold Tb.mk; rfl, rfl⟩
  case round =>
    obtain ⟨k, hk, rfl, rfl, rfl⟩ := hrel
    by_cases hlt : k < 64
    · have ha := HA.out k hlt
      have hq : IntKind.u64.wrap ((k : Int) + 1) = (k : Int) + 1 := by rw [IntKind.wrap_u64]; omega
      cases hb : k.testBit v with
      | false =>
        rw [hb] at ha
        simp only [Bool.false_eq_true, if_false] at ha
        have hm := Bx.mk (Tb.mk_stay hb)
        clear hb
        go_wp2_with fail
        exact ⟨⟨k + 1, by omega, by simp, by rw [hm.out], trivial⟩, by simp [intOf]; omega⟩
      | true =>
        rw [hb] at ha
        simp only [if_true] at ha
        have hm := Bx.mk (Tb.mk_step hlt hb)
        have hw := Bx.mk (Tb.wrap_pow64 k hlt)
        clear hb
        go_wp2_with fail
        exact ⟨⟨k + 1, by omega, by simp, by rw [← hm.out, ← hw.out], trivial⟩, by simp [intOf]; omega⟩
    · obtain rfl : k = 64 := by omega
      clear HA
      have m0 : min s 64 = s := by omega
      go_wp2_with fail
      refine wp_loop_rounds 5 ?_
      rw [rounds_succ]
      go_wp2_with fail
      rw [rounds_succ]
      go_wp2_with fail
      rw [rounds_succ]
      go_wp2_with fail
      rw [rounds_succ]
      go_wp2_with fail
      rw [rounds_succ]
      go_wp2_with fail
      refine bodyPost_ret (v := .agg #[.int .u64 (bits .or .u64 (bits .and .u64 (Tb.wd f 0) (Tb.mk v 64 : Int)) (bits .and .u64 (Tb.wd f 0) (Tb.mk v 64 : Int) / 2 ^ s)), .int .u64 (bits .or .u64 (bits .and .u64 (Tb.wd f 1) (Tb.mk v 64 : Int)) (bits .and .u64 (Tb.wd f 1) (Tb.mk v 64 : Int) / 2 ^ s)), .int .u64 (bits .or .u64 (bits .and .u64 (Tb.wd f 2) (Tb.mk v 64 : Int)) (bits .and .u64 (Tb.wd f 2) (Tb.mk v 64 : Int) / 2 ^ s)), .int .u64 (bits .or .u64 (bits .and .u64 (Tb.wd f 3) (Tb.mk v 64 : Int)) (bits .and .u64 (Tb.wd f 3) (Tb.mk v 64 : Int) / 2 ^ s))]) (by simp [results, Try.results56, go_sem]) rfl ⟨by rw [HF.out 0 (by omega), HF.out 1 (by omega), HF.out 2 (by omega), HF.out 3 (by omega)], ?_⟩
      (repeat (first | (with_reducible exact Below.refl _ _) | (with_reducible assumption) | (with_reducible refine Below.drew ?_) | (with_reducible refine Below.setCell ?_ ?_ _; rotate_left; (first | omega | (simp <;> omega))) | (with_reducible refine Below.alloc ?_ ?_ _; rotate_left; (first | omega | (simp <;> omega)))))
set_option maxRecDepth 100000 in
set_option maxHeartbeats 2000000 in
theorem rfixlow_false (f : Tb.T) (v : Nat) (w : World) (hv : v < 6) :
    Calls Try.prog 56 #[Tb.tv f, .int .i64 (v : Int), .bool false] w fun e w' => e = .returned (Tb.tv (Tb.fix f (v : Int) false)) ∧ Below w.heap.size w w' := by
  have n0 : ¬ ((v : Int) < 0) := by omega
  have n8 : ¬ ((v : Int) ≥ 8) := by omega
  have n6 : ¬ ((v : Int) ≥ 6) := by omega
  have hq2 : IntKind.u64.wrap (v : Int) = (v : Int) := by rw [IntKind.wrap_u64]; omega
  have hs := Tb.wrap_pow64 v (by omega)
  have hsb : 2 ^ v ≤ 32 := by have := Nat.pow_le_pow_right (show 0 < 2 by omega) (show v ≤ 5 by omega); simpa using this
  have hs0 : 0 < 2 ^ v := Nat.two_pow_pos v
  have HA := Bx.mk (fun k (hk : k < 64) => Tb.and_pow hv hk)
  have HF := Bx.mk (fun c (hc : c < 4) => Tb.fix_low_false f v c hv hc)
  generalize hS : 2 ^ v = s at hs hsb hs0 HA HF
  have s1 : ((s : Int) == 0) = false := by rw [beq_eq_false_iff_ne]; omega
  clear hS
  go_enter Try.func56, Try.ntmps56
  go_wp2_with fail
  go_loopw [10, 12] (fun m i wr => ∃ k : Nat, k ≤ 64 ∧ i = .int .u64 k ∧ m = .int .u64 (Tb.mk v k : Int) ∧ wr = ((w.alloc (.cells #[.int .u64 (Tb.wd f 0), .int .u64 (Tb.wd f 1), .int .u64 (Tb.wd f 2), .int .u64 (Tb.wd f 3)] 24)).alloc (.cells #[.int .u64 0, .int .u64 0, .int .u64 0, .int .u64 0] 24))) (fun _ i _ => 64 - (intOf i).toNat)
  case atStart => exact ⟨0, by omega, rfl, by unfold Tb.mk; rfl, rfl⟩
  case round =>
    obtain ⟨k, hk, rfl, rfl, rfl⟩ := hrel
    by_cases hlt : k < 64
    · have ha := HA.out k hlt
      have hq : IntKind.u64.wrap ((k : Int) + 1) = (k : Int) + 1 := by rw [IntKind.wrap_u64]; omega
      cases hb : k.testBit v with
      | false =>
        rw [hb] at ha
        simp only [Bool.false_eq_true, if_false] at ha
        have hm := Bx.mk (Tb.mk_stay hb)
        clear hb
        go_wp2_with fail
        exact ⟨⟨k + 1, by omega, by simp, by rw [hm.out], trivial⟩, by simp [intOf]; omega⟩
      | true =>
        rw [hb] at ha
        simp only [if_true] at ha
        have hm := Bx.mk (Tb.mk_step hlt hb)
        have hw := Bx.mk (Tb.wrap_pow64 k hlt)
        clear hb
        go_wp2_with fail
        exact ⟨⟨k + 1, by omega, by simp, by rw [← hm.out, ← hw.out], trivial⟩, by simp [intOf]; omega⟩
    · obtain rfl : k = 64 := by omega
      clear HA
      have m0 : min s 64 = s := by omega
      go_wp2_with fail
      refine wp_loop_rounds 5 ?_
      rw [rounds_succ]
      go_wp2_with fail
      rw [rounds_succ]
      go_wp2_with fail
      rw [rounds_succ]
      go_wp2_with fail
      rw [rounds_succ]
      go_wp2_with fail
      rw [rounds_succ]
      go_wp2_with fail
      refine bodyPost_ret (v := .agg #[.int .u64 (bits .or .u64 (bits .andNot .u64 (Tb.wd f 0) (Tb.mk v 64 : Int)) (IntKind.u64.wrap (bits .andNot .u64 (Tb.wd f 0) (Tb.mk v 64 : Int) * 2 ^ s))), .int .u64 (bits .or .u64 (bits .andNot .u64 (Tb.wd f 1) (Tb.mk v 64 : Int)) (IntKind.u64.wrap (bits .andNot .u64 (Tb.wd f 1) (Tb.mk v 64 : Int) * 2 ^ s))), .int .u64 (bits .or .u64 (bits .andNot .u64 (Tb.wd f 2) (Tb.mk v 64 : Int)) (IntKind.u64.wrap (bits .andNot .u64 (Tb.wd f 2) (Tb.mk v 64 : Int) * 2 ^ s))), .int .u64 (bits .or .u64 (bits .andNot .u64 (Tb.wd f 3) (Tb.mk v 64 : Int)) (IntKind.u64.wrap (bits .andNot .u64 (Tb.wd f 3) (Tb.mk v 64 : Int) * 2 ^ s)))]) (by simp [results, Try.results56, go_sem]) rfl ⟨by rw [HF.out 0 (by omega), HF.out 1 (by omega), HF.out 2 (by omega), HF.out 3 (by omega)], ?_⟩
      (repeat (first | (with_reducible exact Below.refl _ _) | (with_reducible assumption) | (with_reducible refine Below.drew ?_) | (with_reducible refine Below.setCell ?_ ?_ _; rotate_left; (first | omega | (simp <;> omega))) | (with_reducible refine Below.alloc ?_ ?_ _; rotate_left; (first | omega | (simp <;> omega)))))

theorem rfix_any (f : Tb.T) (v : Int) (b : Bool) (w : World) :
    Calls Try.prog 56 #[Tb.tv f, .int .i64 v, .bool b] w fun e w' => e = .returned (Tb.tv (Tb.fix f v b)) ∧ Below w.heap.size w w' := by
  cases hk : Tb.kn v with
  | false => rw [Tb.fix_no hk]; exact rfix_none f v b w hk
  | true =>
    obtain ⟨h0, h8⟩ := kn_yes hk
    by_cases h6 : v < 6
    · obtain ⟨n, rfl⟩ : ∃ n : Nat, v = (n : Int) := ⟨v.toNat, by omega⟩
      cases b
      · exact rfixlow_false f n w (by omega)
      · exact rfixlow_true f n w (by omega)
    · have : v = 6 ∨ v = 7 := by omega
      rcases this with rfl | rfl <;> cases b
      · exact rfix6false_any f w
      · exact rfix6true_any f w
      · exact rfix7false_any f w
      · exact rfix7true_any f w
end Go.Proofs.Ythbifeoohphnpaa

/-
  The walks of package truth, fourth part: a variable set for good, and what is made of it.
-/
namespace Go.Proofs.Ythbifeoohphnpaa
set_option linter.unusedVariables false
open Go.RowKit

end Go.Proofs.Ythbifeoohphnpaa

/-
  The walks of package truth, fifth part: what is joined of both halves.
-/
namespace Go.Proofs.Ythbifeoohphnpaa
set_option linter.unusedVariables false
open Go.RowKit

end Go.Proofs.Ythbifeoohphnpaa

/-
  Two tables are the same if their words are: what Go makes of == on them.
-/
namespace Go.Proofs.Ythbifeoohphnpaa
set_option linter.unusedVariables false
open Go.RowKit

theorem four_eq (F G : Tb.T) : decide (F = G) = ((Tb.wd F 0 == Tb.wd G 0) && (Tb.wd F 1 == Tb.wd G 1) && (Tb.wd F 2 == Tb.wd G 2) && (Tb.wd F 3 == Tb.wd G 3)) := by
  rw [Bool.eq_iff_iff, decide_eq_true_iff]
  simp only [Bool.and_eq_true, beq_iff_eq]
  exact ⟨fun h => by subst h; simp, fun ⟨⟨⟨h0, h1⟩, h2⟩, h3⟩ => Tb.ext4 h0 h1 h2 h3⟩

theorem run_equal_word (d : Nat) (a b : Int) (w : World) : Sem.run Try.prog (Op.equalIn (d + 1) 22 (.int .u64 a) (.int .u64 b)) w = .ok (a == b) w := by
  simp [Op.equalIn, go_sem]

theorem run_part (F : Tb.T) (w : World) : Sem.run Try.prog (part 22 (Tb.tcells F) (0 * 1)) w = .ok (.int .u64 (Tb.wd F 0)) w ∧ Sem.run Try.prog (part 22 (Tb.tcells F) (1 * 1)) w = .ok (.int .u64 (Tb.wd F 1)) w ∧
    Sem.run Try.prog (part 22 (Tb.tcells F) (2 * 1)) w = .ok (.int .u64 (Tb.wd F 2)) w ∧ Sem.run Try.prog (part 22 (Tb.tcells F) (3 * 1)) w = .ok (.int .u64 (Tb.wd F 3)) w :=
  ⟨by kernel_rfl, by kernel_rfl, by kernel_rfl, by kernel_rfl⟩
theorem run_size (w : World) : Sem.run Try.prog (sizeOf 22) w = .ok 1 w := by kernel_rfl
theorem run_under (w : World) : Sem.run Try.prog (underlying 24) w = .ok (.array 4 22) w := by kernel_rfl

set_option maxHeartbeats 1000000 in
theorem run_equal (d : Nat) (F G : Tb.T) (w : World) : Sem.run Try.prog (Op.equalIn (d + 2) 24 (Tb.tv F) (Tb.tv G)) w = .ok (decide (F = G)) w := by
  obtain ⟨p0, p1, p2, p3⟩ := run_part F w
  obtain ⟨q0, q1, q2, q3⟩ := run_part G w
  rw [four_eq]
  unfold Op.equalIn
  simp only [Sem.run_bind, run_under, Result.andThen_ok, run_size, Std.Legacy.Range.forIn_eq_forIn_range', Std.Legacy.Range.size, show List.range' 0 ((4 - 0 + 1 - 1) / 1) 1 = [0, 1, 2, 3] from rfl, List.forIn_cons, List.forIn_nil, p0, q0, run_equal_word]
  cases h0 : (Tb.wd F 0 == Tb.wd G 0)
  · simp
  cases h1 : (Tb.wd F 1 == Tb.wd G 1)
  · simp [h1, p1, q1, run_equal_word]
  cases h2 : (Tb.wd F 2 == Tb.wd G 2)
  · simp [h1, h2, p1, q1, p2, q2, run_equal_word]
  cases h3 : (Tb.wd F 3 == Tb.wd G 3)
  · simp [h1, h2, h3, p1, q1, p2, q2, p3, q3, run_equal_word]
  · simp [h1, h2, h3, p1, q1, p2, q2, p3, q3, run_equal_word]
theorem run_equal_max {F G : Tb.T} {b : Bool} (h : decide (F = G) = b) (w : World) : Sem.run Try.prog (Op.equalIn 10000 24 (Tb.tv F) (Tb.tv G)) w = .ok b w := by
  rw [← h]; exact run_equal 9998 F G w
end Go.Proofs.Ythbifeoohphnpaa

/-
  A region whose order is open, in whose head loads and calls yield known values and new blocks are made in any order; behind it a tail in one order.
-/
namespace Go.Proofs.Ythbifeoohphnpaa
set_option linter.unusedVariables false
open Go Go.RowKit
section
variable {P : Program} {ops : Array Oper} {Q : Exit → Act → World → Prop}

def dstOf (ops : Array Oper) (k : Nat) : Option Tmp := (ops[k]?).bind (·.dst)
/-- the frame, what is listed laid into it -/
def puts (ops : Array Oper) (listed : Array Bool) (ρ : Nat → Value) : Nat → Act → Act
  | 0, a => a
  | k + 1, a => if listed.getD k false then (puts ops listed ρ k a).put (dstOf ops k) (ρ k) else puts ops listed ρ k a

theorem puts_congr {listed listed' : Array Bool} {ρ ρ' : Nat → Value} : ∀ {k : Nat} {a : Act}, (∀ i, i < k → listed.getD i false = listed'.getD i false) → (∀ i, i < k → listed.getD i false = true → ρ i = ρ' i) → puts ops listed ρ k a = puts ops listed' ρ' k a
  | 0, _, _, _ => rfl
  | k + 1, a, h, h' => by
    have ih := puts_congr (k := k) (a := a) (fun i hi => h i (by omega)) (fun i hi => h' i (by omega))
    unfold puts
    rw [ih, ← h k (by omega)]
    by_cases e : listed.getD k false = true
    · simp only [e, if_true]; rw [h' k (by omega) e]
    · simp [e]

theorem puts_set {listed : Array Bool} {ρ : Nat → Value} {i : Nat} {u : Value} (hi : i < listed.size) (hl : listed.getD i false = false) :
    ∀ {k : Nat} {a : Act}, i < k → (∀ j, j < k → j ≠ i → ∀ t, dstOf ops j = some t → dstOf ops i ≠ some t) →
      puts ops (listed.setIfInBounds i true) (fun j => if j = i then u else ρ j) k a = (puts ops listed ρ k a).put (dstOf ops i) u
  | 0, _, h, _ => by omega
  | k + 1, a, h, hd => by
    by_cases e : i = k
    · subst e
      have h1 : (listed.setIfInBounds i true).getD i false = true := by simp [hi]
      have h2 : puts ops (listed.setIfInBounds i true) (fun j => if j = i then u else ρ j) i a = puts ops listed ρ i a :=
        puts_congr (fun j hj => getD_set_ne false (by omega)) (fun j hj _ => by simp [show j ≠ i from by omega])
      unfold puts
      rw [h1, h2, hl]
      simp
    · have ih := puts_set (ρ := ρ) (u := u) hi hl (k := k) (a := a) (by omega) (fun j hj => hd j (by omega))
      have h1 : (listed.setIfInBounds i true).getD k false = listed.getD k false := getD_set_ne false e
      unfold puts
      rw [h1, ih]
      by_cases e2 : listed.getD k false = true
      · simp only [e2, if_true, show ¬ k = i from fun h => e h.symm, if_false]
        exact Act.put_comm _ _ _ (fun d hdd hk => hd k (by omega) (fun h => e h.symm) d hk hdd)
      · simp only [e2]; rfl

theorem put_tmps (a : Act) (d : Option Tmp) (v : Value) (t : Tmp) : (a.put d v).tmps.getD t undef = if d = some t ∧ t < a.tmps.size then v else a.tmps.getD t undef := by
  cases d with
  | none => simp [Act.put]
  | some x =>
    by_cases e : x = t
    · subst e
      by_cases h : x < a.tmps.size
      · simp [Act.put, h]
      · simp [Act.put, h]
    · simp [Act.put, e]
theorem put_size (a : Act) (d : Option Tmp) (v : Value) : (a.put d v).tmps.size = a.tmps.size := by cases d <;> simp [Act.put]
theorem puts_size {listed : Array Bool} {ρ : Nat → Value} {a : Act} : ∀ {k : Nat}, (puts ops listed ρ k a).tmps.size = a.tmps.size
  | 0 => rfl
  | k + 1 => by unfold puts; split; rw [put_size, puts_size]; exact puts_size
theorem puts_other {listed : Array Bool} {ρ : Nat → Value} {a : Act} {t : Tmp} : ∀ {k : Nat}, (∀ j, j < k → dstOf ops j ≠ some t) → (puts ops listed ρ k a).tmps.getD t undef = a.tmps.getD t undef
  | 0, _ => rfl
  | k + 1, h => by
    unfold puts
    split
    · rw [put_tmps, if_neg (fun h' => h k (by omega) h'.1)]; exact puts_other (fun j hj => h j (by omega))
    · exact puts_other (fun j hj => h j (by omega))
theorem puts_at {listed : Array Bool} {ρ : Nat → Value} {a : Act} {t : Tmp} {i : Nat} (hl : listed.getD i false = true) (hd : dstOf ops i = some t) (ht : t < a.tmps.size) :
    ∀ {k : Nat}, i < k → (∀ j, j < k → j ≠ i → dstOf ops j ≠ some t) → (puts ops listed ρ k a).tmps.getD t undef = ρ i
  | 0, h, _ => by omega
  | k + 1, h, hn => by
    unfold puts
    by_cases e : i = k
    · subst e
      rw [if_pos hl, put_tmps, if_pos ⟨hd, by rw [puts_size]; exact ht⟩]
    · have ih := puts_at (ρ := ρ) (a := a) hl hd ht (k := k) (by omega) (fun j hj => hn j (by omega))
      split
      · rw [put_tmps, if_neg (fun h' => hn k (by omega) (fun h => e h.symm) h'.1)]; exact ih
      · exact ih

/-- how many of the first k are not listed -/
def unl (listed : Array Bool) : Nat → Nat
  | 0 => 0
  | k + 1 => unl listed k + if listed.getD k false then 0 else 1
theorem unl_congr {l l' : Array Bool} : ∀ {k : Nat}, (∀ i, i < k → l.getD i false = l'.getD i false) → unl l k = unl l' k
  | 0, _ => rfl
  | k + 1, h => by unfold unl; rw [unl_congr (fun i hi => h i (by omega)), h k (by omega)]
theorem unl_set {listed : Array Bool} {i : Nat} (hi : i < listed.size) (hl : listed.getD i false = false) : ∀ {k : Nat}, i < k → unl (listed.setIfInBounds i true) k + 1 = unl listed k
  | 0, h => by omega
  | k + 1, h => by
    unfold unl
    by_cases e : i = k
    · subst e
      rw [unl_congr (l' := listed) (fun j hj => getD_set_ne false (by omega)), hl]
      simp [hi]
    · have ih := unl_set hi hl (k := k) (by omega)
      rw [getD_set_ne false e]
      omega
theorem unl_zero {listed : Array Bool} : ∀ {k : Nat}, unl listed k = 0 → ∀ i, i < k → listed.getD i false = true
  | 0, _, i, hi => by omega
  | k + 1, h, i, hi => by
    unfold unl at h
    by_cases e : i = k
    · subst e
      cases e2 : listed.getD i false
      · rw [e2] at h; simp at h
      · rfl
    · exact unl_zero (k := k) (by omega) i (by omega)
theorem unl_none {listed : Array Bool} : ∀ {k : Nat}, (∀ i, i < k → listed.getD i false = false) → unl listed k = k
  | 0, _ => rfl
  | k + 1, h => by unfold unl; rw [unl_none (fun i hi => h i (by omega)), h k (by omega)]; simp

/-- what is asked of each operation of the head; gl: whose value is known to be true -/
def headOk (gl : List Nat) (n : Nat) : Nat → List Oper → Bool
  | _, [] => true
  | i, o :: r => (match o.guard with | none => true | some (j, b) => b && gl.contains j && o.after.any fun e => Region.binds .any e && e.on == j) &&
      (o.after.all fun e => !Region.binds .any e || decide (e.on < i)) && (match o.dst with | some t => decide (t < n) | none => true) && headOk gl n (i + 1) r
/-- no number twice -/
def onceB : List (Option Nat) → Bool
  | [] => true
  | none :: r => onceB r
  | some t :: r => (r.all fun u => u != some t) && onceB r
/-- what is asked of the region's text -/
def floatOk (ops : Array Oper) (gl : List Nat) (m n : Nat) : Bool :=
  decide (m < ops.size) && Region.sinkB .any ops m && Region.chainB .any ops m && headOk gl n 0 (ops.toList.take m) && onceB ((ops.toList.take m).map (·.dst)) && (gl.all fun j => decide (j < m) && (dstOf ops j).isSome) &&
  Region.seqB .any ops (ops.size - m) m (Array.replicate m true ++ Array.replicate (ops.size - m) false)
theorem headOk_spec {gl : List Nat} {n : Nat} : ∀ {l : List Oper} {k : Nat}, headOk gl n k l = true → ∀ j o, l[j]? = some o →
    (∀ g b, o.guard = some (g, b) → b = true ∧ g ∈ gl ∧ ∃ e ∈ o.after, Region.binds .any e = true ∧ e.on = g) ∧ (∀ e ∈ o.after, Region.binds .any e = true → e.on < k + j) ∧ (∀ t, o.dst = some t → t < n)
  | [], _, _, j, o, h => by simp at h
  | o' :: r, k, h, j, o, hj => by
    unfold headOk at h
    simp only [Bool.and_eq_true] at h
    obtain ⟨⟨⟨h1, h2⟩, h3⟩, h4⟩ := h
    cases j with
    | succ j =>
      have := headOk_spec h4 j o (by simpa using hj)
      rw [show k + 1 + j = k + (j + 1) by omega] at this
      exact this
    | zero =>
      simp at hj
      subst hj
      refine ⟨fun g b hg => ?_, fun e he hb => ?_, fun t ht => ?_⟩
      · rw [hg] at h1
        simp only [Bool.and_eq_true, List.contains_iff_mem] at h1
        obtain ⟨⟨a1, a2⟩, a3⟩ := h1
        obtain ⟨e, he, hb⟩ := Array.any_eq_true'.1 a3
        simp only [Bool.and_eq_true, beq_iff_eq] at hb
        exact ⟨a1, a2, e, he, hb.1, hb.2⟩
      · have := Array.all_eq_true_iff_forall_mem.1 h2 e he
        rw [hb] at this
        simpa using this
      · rw [ht] at h3
        simpa using h3
theorem onceB_spec : ∀ {l : List (Option Nat)}, onceB l = true → ∀ (i j t : Nat), l[i]? = some (some t) → l[j]? = some (some t) → i = j
  | [], _, i, j, t, hi, _ => by simp at hi
  | none :: r, h, i, j, t, hi, hj => by
    cases i with
    | zero => simp at hi
    | succ i =>
      cases j with
      | zero => simp at hj
      | succ j => have := onceB_spec (l := r) h i j t (by simpa using hi) (by simpa using hj); omega
  | some u :: r, h, i, j, t, hi, hj => by
    unfold onceB at h
    simp only [Bool.and_eq_true] at h
    have hall : ∀ (k : Nat), r[k]? = some (some u) → False := fun k hk => by
      have := List.all_eq_true.1 h.1 _ (List.mem_of_getElem? hk)
      simp at this
    cases i with
    | zero =>
      cases j with
      | zero => rfl
      | succ j => simp at hi hj; subst hi; exact (hall j hj).elim
    | succ i =>
      cases j with
      | zero => simp at hi hj; subst hj; exact (hall i hi).elim
      | succ j => have := onceB_spec (l := r) h.2 i j t (by simpa using hi) (by simpa using hj); omega

/-- of what the head makes -/
structure FInv (P : Program) (ops : Array Oper) (m : Nat) (a0 : Act) (v : Nat → Value) (fl : Nat → Option (TypeId × Array Value)) (S : World → Prop) (B : Nat) (w : World) (listed : Array Bool) (ρ : Nat → Value) : Prop where
  s_ : S w
  b_ : B ≤ w.heap.size
  val : ∀ i, i < m → listed.getD i false = true → fl i = none → ρ i = v i
  ptr : ∀ i ty z, i < m → listed.getD i false = true → fl i = some (ty, z) → ∃ p, ρ i = .pointer (some ⟨p, 0, none⟩) ∧ B ≤ p ∧ Blk w p ty z
  dis : ∀ i j, i < m → j < m → i ≠ j → listed.getD i false = true → listed.getD j false = true → (fl i).isSome = true → (fl j).isSome = true → ρ i ≠ ρ j

theorem floatOk_spec {gl : List Nat} {m n : Nat} (h : floatOk ops gl m n = true) : m < ops.size ∧ Region.sinkB .any ops m = true ∧ Region.chainB .any ops m = true ∧
    (∀ i, i < m → ∃ o, ops[i]? = some o ∧ (∀ g b, o.guard = some (g, b) → b = true ∧ g ∈ gl ∧ ∃ e ∈ o.after, Region.binds .any e = true ∧ e.on = g) ∧ (∀ e ∈ o.after, Region.binds .any e = true → e.on < i) ∧ (∀ t, o.dst = some t → t < n ∧ ∀ j, j < m → j ≠ i → dstOf ops j ≠ some t)) ∧
    Region.seqB .any ops (ops.size - m) m (Array.replicate m true ++ Array.replicate (ops.size - m) false) = true ∧ (∀ g ∈ gl, g < m ∧ ∃ t, dstOf ops g = some t) := by
  unfold floatOk at h
  simp only [Bool.and_eq_true, decide_eq_true_eq] at h
  obtain ⟨⟨⟨⟨⟨⟨h1, h2⟩, h3⟩, h4⟩, h5⟩, h6⟩, h7⟩ := h
  have hget : ∀ j, j < m → ∃ o, ops[j]? = some o ∧ (ops.toList.take m)[j]? = some o := fun j hj => by
    refine ⟨ops[j], by simp [show j < ops.size from by omega], ?_⟩
    rw [List.getElem?_take, if_pos hj]
    simp [show j < ops.size from by omega]
  refine ⟨h1, h2, h3, fun i hi => ?_, h7, fun g hg => ?_⟩
  · obtain ⟨o, ho, hl⟩ := hget i hi
    obtain ⟨a1, a2, a3⟩ := headOk_spec h4 i o hl
    rw [Nat.zero_add] at a2
    refine ⟨o, ho, a1, a2, fun t ht => ⟨a3 t ht, fun j hj hji hd => ?_⟩⟩
    obtain ⟨o', ho', hl'⟩ := hget j hj
    have hd' : o'.dst = some t := by unfold dstOf at hd; rw [ho'] at hd; exact hd
    exact hji (onceB_spec h5 j i t (by rw [List.getElem?_map, hl', Option.map_some, hd']) (by rw [List.getElem?_map, hl, Option.map_some, ht]))
  · have := List.all_eq_true.1 h6 g hg
    simp only [Bool.and_eq_true, decide_eq_true_eq, Option.isSome_iff_exists] at this
    exact this

/-- a cell block that is there stays -/
theorem FInv.keep {m : Nat} {a0 : Act} {v : Nat → Value} {fl : Nat → Option (TypeId × Array Value)} {S : World → Prop} {B : Nat} {w w' : World} {listed : Array Bool} {ρ : Nat → Value}
    (h : FInv P ops m a0 v fl S B w listed ρ) (hS : S w') (hb : Below w.heap.size w w') : FInv P ops m a0 v fl S B w' listed ρ :=
  ⟨hS, Nat.le_trans h.b_ hb.size, h.val, fun i ty z hi hl hf => by
    obtain ⟨p, h1, h2, h3⟩ := h.ptr i ty z hi hl hf
    exact ⟨p, h1, h2, h3.below hb h3.lt⟩, h.dis⟩

variable {m : Nat} {a0 : Act} {v : Nat → Value} {fl : Nat → Option (TypeId × Array Value)} {S : World → Prop} {B : Nat}

theorem float_any {gl : List Nat} (hok : floatOk ops gl m a0.tmps.size = true) (hgl : ∀ g ∈ gl, fl g = none ∧ v g = .bool true) (hSal : ∀ w o, S w → S (w.alloc o))
    (hval : ∀ i, i < m → fl i = none → ∀ o, ops[i]? = some o → ∀ a w, S w → B ≤ w.heap.size →
      (∀ d t, Region.waitsFor .any ops i d = true → fl d = none → dstOf ops d = some t → a.tmps.getD t undef = v d) →
      (∀ t, (∀ j, j < m → dstOf ops j ≠ some t) → a.tmps.getD t undef = a0.tmps.getD t undef) →
      ∀ K : Act → World → Prop, (∀ w', S w' → Below w.heap.size w w' → K (a.put o.dst (v i)) w') → o.wp P a w K Q)
    (hflt : ∀ i, i < m → ∀ ty z, fl i = some (ty, z) → ∀ o, ops[i]? = some o → ∀ a w, ∀ K : Act → World → Prop, K (a.put o.dst (.pointer (some ⟨w.heap.size, 0, none⟩))) (w.alloc (.cells z ty)) → o.wp P a w K Q)
    (htail : ∀ ρ w, FInv P ops m a0 v fl S B w (Array.replicate m true) ρ → wpList P ops Q (ops.toList.drop m) (puts ops (Array.replicate m true) ρ m a0) w) :
    ∀ (h : Nat) (listed : Array Bool) (b : Act) (w : World) (ρ : Nat → Value), HeadInv .any ops m listed → unl listed m = h → FInv P ops m a0 v fl S B w listed ρ → b = puts ops listed ρ m a0 →
      wpAny P .any ops Q (h + (ops.size - m)) listed b w := by
  obtain ⟨hm, hs, hc, hops, hseq, hgd⟩ := floatOk_spec hok
  intro h
  induction h with
  | zero =>
    rintro listed b w ρ inv hu hF rfl
    have hall := unl_zero hu
    have hrep : ∀ i, i < m → (Array.replicate m true).getD i false = true := fun i hi => by simp [hi]
    have hL : listed = Array.replicate m true ++ Array.replicate (ops.size - m) false := by
      apply Array.ext
      · simp [inv.size]; omega
      · intro i h1 h2
        by_cases e : i < m
        · have := hall i e
          simp [h1] at this
          rw [this, Array.getElem_append_left (by simpa using e)]
          simp
        · have := inv.tail i (by omega) (by rw [← inv.size]; exact h1)
          simp [h1] at this
          rw [this, Array.getElem_append_right (by simp; omega)]
          simp
    have hpc : puts ops listed ρ m a0 = puts ops (Array.replicate m true) ρ m a0 := puts_congr (fun i hi => by rw [hall i hi, hrep i hi]) (fun _ _ _ => rfl)
    have hF' : FInv P ops m a0 v fl S B w (Array.replicate m true) ρ :=
      ⟨hF.s_, hF.b_, fun i hi _ => hF.val i hi (hall i hi), fun i ty z hi _ => hF.ptr i ty z hi (hall i hi), fun i j hi hj hne _ _ => hF.dis i j hi hj hne (hall i hi) (hall j hj)⟩
    rw [hpc, Nat.zero_add]
    have hlen : (ops.toList.drop m).length = ops.size - m := by simp
    have := wpAny_of_seq (P := P) (Q' := Q) (md := .any) (ops := ops) (ops.toList.drop m) m listed (puts ops (Array.replicate m true) ρ m a0) w (fun j => by simp [List.getElem?_drop]) (by rw [hlen, hL]; exact hseq) (htail ρ w hF')
    rwa [hlen] at this
  | succ h ih =>
    rintro listed b w ρ inv hu hF rfl
    -- somebody of the head is not listed
    have hex : ∃ i, i < m ∧ listed.getD i false = false := by
      by_cases he : ∃ i, i < m ∧ listed.getD i false = false
      · exact he
      · exfalso
        have : unl listed m = 0 := by
          have hrep : ∀ i, i < m → listed.getD i false = (Array.replicate m true).getD i false := fun i hi => by
            cases e : listed.getD i false
            · exact absurd ⟨i, hi, e⟩ he
            · simp [hi]
          rw [unl_congr hrep]
          have : ∀ k, k ≤ m → unl (Array.replicate m true) k = 0 := by
            intro k
            induction k with
            | zero => intro _; rfl
            | succ k ihk => intro hk; unfold unl; rw [ihk (by omega)]; simp [show k < m from by omega]
          exact this m (Nat.le_refl _)
        omega
    obtain ⟨i0, hi0, hun0⟩ := hex
    have hsz : ∀ i, i < m → i < listed.size := fun i hi => by rw [inv.size]; omega
    have hready : ∀ n i, i ≤ n → i < m → listed.getD i false = false → ∃ j, j ∈ Region.ready .any ops listed := by
      intro n
      induction n with
      | zero =>
        intro i hin hi hl
        obtain ⟨o, ho, hg, haf, _⟩ := hops i hi
        exact ⟨i, mem_ready.2 ⟨getD_in (hsz i hi) hl, o, ho, fun e he hb => by have := haf e he hb; omega⟩⟩
      | succ n ihn =>
        intro i hin hi hl
        obtain ⟨o, ho, hg, haf, _⟩ := hops i hi
        by_cases hd : ∀ e ∈ o.after, Region.binds .any e = true → listed.getD e.on false = true
        · exact ⟨i, mem_ready.2 ⟨getD_in (hsz i hi) hl, o, ho, hd⟩⟩
        · simp only [Classical.not_forall] at hd
          obtain ⟨e, he, hb, hne⟩ := hd
          have := haf e he hb
          exact ihn e.on (by omega) (by omega) (by simpa using hne)
    obtain ⟨j0, hj0⟩ := hready i0 i0 (Nat.le_refl _) hi0 hun0
    rw [show h + 1 + (ops.size - m) = (h + (ops.size - m)) + 1 by omega]
    refine ⟨fun h0 => (by rw [h0] at hj0; cases hj0), fun i hi => ?_⟩
    have him : i < m := by
      rcases Nat.lt_or_ge i m with h' | h'
      · exact h'
      · exact absurd hi (tail_waits hs hc hm inv _ i0 rfl hi0 (getD_in (hsz i0 hi0) hun0) i h')
    obtain ⟨hun, o', ho', hdeps⟩ := mem_ready.1 hi
    have hunf := getD_both hun
    obtain ⟨o, ho, hg, haf, hdst⟩ := hops i him
    have e' : o = o' := Option.some.inj (ho.symm.trans ho')
    subst e'
    have hdo : dstOf ops i = o.dst := by unfold dstOf; rw [ho]; rfl
    have hset : ∀ u, (puts ops listed ρ m a0).put o.dst u = puts ops (listed.setIfInBounds i true) (fun j => if j = i then u else ρ j) m a0 := fun u => by
      rw [← hdo]
      refine (puts_set (hsz i him) hunf him fun j hj hji t htj hti => ?_).symm
      rw [hdo] at hti
      exact (hdst t hti).2 j hj hji htj
    have inv' := inv.set hi him
    have hu' : unl (listed.setIfInBounds i true) m = h := by have := unl_set (hsz i him) hunf him; omega
    have hget : ∀ j, (listed.setIfInBounds i true).getD j false = true → j = i ∨ listed.getD j false = true := fun j hj => by
      by_cases e : j = i
      · exact .inl e
      · rw [getD_set_ne false (fun h => e h.symm)] at hj; exact .inr hj
    unfold wpOp
    simp only [ho]
    have hw : Region.wanted o (yielded ops (puts ops listed ρ m a0).tmps) = true := by
      unfold Region.wanted
      cases hge : o.guard with
      | none => rfl
      | some gb =>
        obtain ⟨g, b⟩ := gb
        obtain ⟨rfl, hgg, e, he, hb, hon⟩ := hg g b hge
        obtain ⟨hgm, t, ht⟩ := hgd g hgg
        have hlg : listed.getD g false = true := by have := hdeps e he hb; rwa [hon] at this
        obtain ⟨og, hog, _, _, hdg⟩ := hops g hgm
        have hdt : og.dst = some t := by have h := ht; unfold dstOf at h; rw [hog] at h; exact h
        have h1 := puts_at (ops := ops) (listed := listed) (ρ := ρ) (a := a0) hlg ht (hdg t hdt).1 hgm (fun j hj hjd => (hdg t hdt).2 j hj hjd)
        rw [hF.val g hgm hlg (hgl g hgg).1, (hgl g hgg).2] at h1
        have h2 : (puts ops listed ρ m a0).tmps[t]? = some (.bool true) := by
          have hlt : t < (puts ops listed ρ m a0).tmps.size := by rw [puts_size]; exact (hdg t hdt).1
          rw [Array.getD_eq_getD_getElem?, Array.getElem?_eq_getElem hlt] at h1
          rw [Array.getElem?_eq_getElem hlt]
          exact congrArg some h1
        have h3 : ((ops[g]?).bind (·.dst)) = some t := ht
        simp only [yielded, h3, Option.bind_some, h2]
        rfl
    rw [if_pos hw]
    refine .inl ?_
    cases hf : fl i with
    | none =>
      refine hval i him hf o ho _ w hF.s_ hF.b_ (fun d t hwt hfd htd => ?_) (fun t ht => puts_other ht) _ (fun w' hS' hb' => ?_)
      · obtain ⟨o2, ho2, e, he, hb, hon⟩ := Region.waitsFor_spec hwt
        have e2 : o = o2 := Option.some.inj (ho.symm.trans ho2)
        subst e2
        have hld : listed.getD d false = true := by have := hdeps e he hb; rwa [hon] at this
        have hdm : d < m := by have := haf e he hb; omega
        obtain ⟨od, hod, _, _, hdd⟩ := hops d hdm
        have hdd' : od.dst = some t := by have h := htd; unfold dstOf at h; rw [hod] at h; exact h
        rw [puts_at hld htd (hdd t hdd').1 hdm (fun j hj hjd => (hdd t hdd').2 j hj hjd)]
        exact hF.val d hdm hld hfd
      · rw [hset]
        have hK := hF.keep hS' hb'
        refine ih _ _ w' _ inv' hu' ⟨hK.s_, hK.b_, fun j hj hl hfj => ?_, fun j ty z hj hl hfj => ?_, fun j k hj hk hne hlj hlk hfj hfk => ?_⟩ rfl
        · show (if j = i then v i else ρ j) = v j
          by_cases e : j = i
          · subst e; simp
          · rw [if_neg e]; exact hK.val j hj ((hget j hl).resolve_left e) hfj
        · have e : j ≠ i := fun e => by subst e; rw [hf] at hfj; cases hfj
          obtain ⟨p, h1, h2, h3⟩ := hK.ptr j ty z hj ((hget j hl).resolve_left e) hfj
          exact ⟨p, by show (if j = i then v i else ρ j) = _; rw [if_neg e]; exact h1, h2, h3⟩
        · have ej : j ≠ i := fun e => by subst e; rw [hf] at hfj; cases hfj
          have ek : k ≠ i := fun e => by subst e; rw [hf] at hfk; cases hfk
          show (if j = i then v i else ρ j) ≠ (if k = i then v i else ρ k)
          rw [if_neg ej, if_neg ek]
          exact hK.dis j k hj hk hne ((hget j hlj).resolve_left ej) ((hget k hlk).resolve_left ek) hfj hfk
    | some tz =>
      obtain ⟨ty, z⟩ := tz
      refine hflt i him ty z hf o ho _ w _ ?_
      rw [hset]
      have hK := hF.keep (hSal w (.cells z ty) hF.s_) ((Below.refl _ _).alloc (Nat.le_refl _) (.cells z ty))
      have hold : ∀ j, j < m → listed.getD j false = true → (fl j).isSome = true → ρ j ≠ .pointer (some ⟨w.heap.size, 0, none⟩) := fun j hj hl hfj => by
        cases hfe : fl j with
        | none => rw [hfe] at hfj; cases hfj
        | some tz =>
          obtain ⟨p, h1, h2, h3⟩ := hF.ptr j tz.1 tz.2 hj hl hfe
          rw [h1]
          intro e
          have hlt := h3.lt
          simp only [Value.pointer.injEq, Option.some.injEq, Addr.mk.injEq, and_true] at e
          omega
      refine ih _ _ _ _ inv' hu' ⟨hK.s_, hK.b_, fun j hj hl hfj => ?_, fun j ty' z' hj hl hfj => ?_, fun j k hj hk hne hlj hlk hfj hfk => ?_⟩ rfl
      · have e : j ≠ i := fun e => by subst e; rw [hf] at hfj; cases hfj
        show (if j = i then _ else ρ j) = v j
        rw [if_neg e]; exact hK.val j hj ((hget j hl).resolve_left e) hfj
      · by_cases e : j = i
        · subst e
          rw [hf] at hfj
          cases hfj
          exact ⟨w.heap.size, by simp, hF.b_, Blk.new _ _ _⟩
        · obtain ⟨p, h1, h2, h3⟩ := hK.ptr j ty' z' hj ((hget j hl).resolve_left e) hfj
          exact ⟨p, by show (if j = i then _ else ρ j) = _; rw [if_neg e]; exact h1, h2, h3⟩
      · show (if j = i then _ else ρ j) ≠ (if k = i then _ else ρ k)
        by_cases ej : j = i
        · have ek : k ≠ i := fun e => hne (ej.trans e.symm)
          rw [if_pos ej, if_neg ek]
          exact (hold k hk ((hget k hlk).resolve_left ek) hfk).symm
        · rw [if_neg ej]
          by_cases ek : k = i
          · rw [if_pos ek]; exact hold j hj ((hget j hlj).resolve_left ej) hfj
          · rw [if_neg ek]; exact hK.dis j k hj hk hne ((hget j hlj).resolve_left ej) ((hget k hlk).resolve_left ek) hfj hfk

/-- THE REGION. -/
theorem region_float {id : Nat} {w : World} (gl : List Nat) (m : Nat) (v : Nat → Value) (fl : Nat → Option (TypeId × Array Value)) (S : World → Prop) (B : Nat) (hm : P.follows .mixedOrders = true) (hok : floatOk ops gl m a0.tmps.size = true) (hgl : ∀ g ∈ gl, fl g = none ∧ v g = .bool true) (hS : S w.drew) (hB : B ≤ w.heap.size)
    (hSal : ∀ w o, S w → S (w.alloc o))
    (hval : ∀ i, i < m → fl i = none → ∀ o, ops[i]? = some o → ∀ a w, S w → B ≤ w.heap.size →
      (∀ d t, Region.waitsFor .any ops i d = true → fl d = none → dstOf ops d = some t → a.tmps.getD t undef = v d) →
      (∀ t, (∀ j, j < m → dstOf ops j ≠ some t) → a.tmps.getD t undef = a0.tmps.getD t undef) →
      ∀ K : Act → World → Prop, (∀ w', S w' → Below w.heap.size w w' → K (a.put o.dst (v i)) w') → o.wp P a w K Q)
    (hflt : ∀ i, i < m → ∀ ty z, fl i = some (ty, z) → ∀ o, ops[i]? = some o → ∀ a w, ∀ K : Act → World → Prop, K (a.put o.dst (.pointer (some ⟨w.heap.size, 0, none⟩))) (w.alloc (.cells z ty)) → o.wp P a w K Q)
    (htail : ∀ ρ w, FInv P ops m a0 v fl S B w (Array.replicate m true) ρ → wpList P ops Q (ops.toList.drop m) (puts ops (Array.replicate m true) ρ m a0) w) :
    (Code.region id ops true).wp P Q a0 w := by
  refine wp_region_any hm ?_
  obtain ⟨hml, _⟩ := floatOk_spec hok
  have hnone : ∀ i, (Array.replicate ops.size false).getD i false = false := getD_replicate_false _
  have inv0 : HeadInv .any ops m (Array.replicate ops.size false) :=
    ⟨by simp, fun j oj _ hl => (by rw [hnone] at hl; cases hl), fun t _ ht => getD_in (by simpa using ht) (hnone _)⟩
  have key := float_any (P := P) (Q := Q) (v := v) (fl := fl) (S := S) (B := B) hok hgl hSal hval hflt htail m (Array.replicate ops.size false) a0 w.drew (fun _ => undef) inv0 (unl_none fun i _ => hnone i)
    ⟨hS, hB, fun i _ hl => (by rw [hnone] at hl; cases hl), fun i _ _ _ hl => (by rw [hnone] at hl; cases hl), fun i j _ _ _ hl => (by rw [hnone] at hl; cases hl)⟩
    (by
      have : ∀ k, puts ops (Array.replicate ops.size false) (fun _ => undef) k a0 = a0 := by
        intro k
        induction k with
        | zero => rfl
        | succ k ih => unfold puts; rw [hnone, ih]; rfl
      exact (this m).symm)
  rw [show m + (ops.size - m) = ops.size by omega] at key
  exact key
end
end Go.Proofs.Ythbifeoohphnpaa
