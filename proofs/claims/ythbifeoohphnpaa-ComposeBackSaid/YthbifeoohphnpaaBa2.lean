/-
  Texts on which the laws of this seat rest, part 2 of 11.
-/
import Derived.Test.YthbifeoohphnpaaBa1
import Derived.Test.YthbifeoohphnpaaProg
import Derived.Maps.RangeWalk
import Derived.Maps.OwnSet
import Derived.Maps.OwnOps
/-
  Package cache: a line read, a line written, step by step.
-/
namespace Go.Proofs.Ythbifeoohphnpaa
set_option linter.unusedVariables false
open Go.RowKit
section
variable {a : Act} {u : World} {o : Oper} {x y : Operand}
theorem exec_ld_W {p off : Nat} {v : Value} (hop : o.op = .load 22 x) (hx : a.eval x = .pointer (some ⟨p, off, none⟩)) (hc : u.cell? ⟨p, off, none⟩ = some v) :
    (execOp a.eval o).run Try.prog u = .ok (.value v) u := by
  unfold execOp
  simp only [hop, hx]
  go_simp
theorem exec_ld_B {p off : Nat} {v : Value} (hop : o.op = .load 4 x) (hx : a.eval x = .pointer (some ⟨p, off, none⟩)) (hc : u.cell? ⟨p, off, none⟩ = some v) :
    (execOp a.eval o).run Try.prog u = .ok (.value v) u := by
  unfold execOp
  simp only [hop, hx]
  go_simp
theorem exec_ld_M {p off : Nat} {v : Value} (hop : o.op = .load 86 x) (hx : a.eval x = .pointer (some ⟨p, off, none⟩)) (hc : u.cell? ⟨p, off, none⟩ = some v) :
    (execOp a.eval o).run Try.prog u = .ok (.value v) u := by
  unfold execOp
  simp only [hop, hx]
  go_simp
theorem exec_addk {m n k : Nat} (hn : k = m + n) (h : k < 1000000) (hop : o.op = .binOp .add 3 x y 3) (hx : a.eval x = .int .i64 (m : Int)) (hy : a.eval y = .int .i64 (n : Int)) :
    (execOp a.eval o).run Try.prog u = .ok (.value (.int .i64 (k : Int))) u := by
  subst hn
  unfold execOp
  simp only [hop, hx, hy]
  go_simp
  rw [IntKind.wrap_i64]
  omega
theorem exec_neW {m n : Nat} {d : Bool} (hd : d = decide (m ≠ n)) (hop : o.op = .binOp .neq 22 x y 22) (hx : a.eval x = .int .u64 (m : Int)) (hy : a.eval y = .int .u64 (n : Int)) :
    (execOp a.eval o).run Try.prog u = .ok (.value (.bool d)) u := by
  unfold execOp
  simp only [hop, hx, hy]
  subst hd
  by_cases e : m = n
  · subst e
    go_simp
  · have e2 : ((m : Int) == (n : Int)) = false := by rw [beq_eq_false_iff_ne]; omega
    have e3 : ¬ (m : Int) = (n : Int) := by omega
    go_simp
theorem exec_eqW {m n : Nat} {d : Bool} (hd : d = decide (m = n)) (hop : o.op = .binOp .eql 22 x y 22) (hx : a.eval x = .int .u64 (m : Int)) (hy : a.eval y = .int .u64 (n : Int)) :
    (execOp a.eval o).run Try.prog u = .ok (.value (.bool d)) u := by
  unfold execOp
  simp only [hop, hx, hy]
  subst hd
  by_cases e : m = n
  · subst e
    go_simp
  · have e2 : ((m : Int) == (n : Int)) = false := by rw [beq_eq_false_iff_ne]; omega
    go_simp
end
/-- what is under way -/
abbrev ActV (m at_ key val ver : Nat) (nx : Value) (done ok : Bool) (got : Nat) : Array Value :=
  #[.pointer (some ⟨m, 0, none⟩), .int .i64 (at_ : Int), .int .u64 (key : Int), .int .u64 (val : Int), .int .u64 (ver : Int), nx, .bool done, .bool ok, .int .u64 (got : Int)]
abbrev aFn (k b : Nat) : Value := .func (.func k) #[.pointer (some ⟨b, 0, none⟩)] #[]
set_option maxRecDepth 100000 in
set_option maxHeartbeats 2000000 in
/-- it reads a line's version -/
theorem looks_any (b m c at_ key val ver got v q : Nat) (nx : Value) (ok : Bool) (ys : List Nat) (w : World) (h : Blk w b 203 (ActV m at_ key val ver nx false ok got)) (hm : MemAt w m c ys) (hne : b ≠ m ∧ b ≠ c) (hx : ys[at_]? = some v) (hq : bits .and .u64 (v : Int) 3 = (q : Int)) :
    Calls Try.prog 127 #[.pointer (some ⟨b, 0, none⟩)] w fun e w' => e = .returned (.tuple #[]) ∧ Blk w' b 203 (ActV m at_ key val v (aFn 129 b) ((q : Int) != 2) ok got) ∧ MemAt w' m c ys ∧ Fr [b, m] w w' := by
  go_enter Try.func127, Try.ntmps127
  go_wp2_with fail
-- ⟦LOOKS
  refine region_any 100 (fun u => ∃ q, Blk u b 203 (ActV m at_ key val q nx false ok got)) (by kernel_rfl) ?_
  generalize hu : World.drew _ = u0
  have hb0 := h.drew
  have hm0 := hm.drew
  have hf0 := (Fr.refl [] w).drew
  rw [hu] at hb0 hm0 hf0
  have hS0 : (fun u => ∃ q, Blk u b 203 (ActV m at_ key val q nx false ok got)) u0 := ⟨_, hb0⟩
  clear hu
  refine any_take (i := 0) (.pointer (some ⟨b, 0, none⟩)) rfl rfl (by kernel_rfl) (by kernel_rfl) (by kernel_rfl) (by kernel_rfl) (fun _ _ d _ _ h => by cases d <;> exact h) (fun u hS => rfl) hS0 ?_
  (try simp only [Act.put]); (try simp only [List.getElem_toArray]); (try simp only [List.getElem_cons_succ]); (try simp only [List.getElem_cons_zero]); (try simp only [List.setIfInBounds_toArray]); (try simp only [List.set_cons_succ]); (try simp only [List.set_cons_zero])
  refine any_take (i := 1) (.pointer (some ⟨b, 0, none⟩)) rfl rfl (by kernel_rfl) (by kernel_rfl) (by kernel_rfl) (by kernel_rfl) (fun _ _ d _ _ h => by cases d <;> exact h) (fun u hS => rfl) hS0 ?_
  (try simp only [Act.put]); (try simp only [List.getElem_toArray]); (try simp only [List.getElem_cons_succ]); (try simp only [List.getElem_cons_zero]); (try simp only [List.setIfInBounds_toArray]); (try simp only [List.set_cons_succ]); (try simp only [List.set_cons_zero])
  refine any_take (i := 2) (.pointer (some ⟨b, 0, none⟩)) rfl rfl (by kernel_rfl) (by kernel_rfl) (by kernel_rfl) (by kernel_rfl) (fun _ _ d _ _ h => by cases d <;> exact h) (fun u hS => rfl) hS0 ?_
  (try simp only [Act.put]); (try simp only [List.getElem_toArray]); (try simp only [List.getElem_cons_succ]); (try simp only [List.getElem_cons_zero]); (try simp only [List.setIfInBounds_toArray]); (try simp only [List.set_cons_succ]); (try simp only [List.set_cons_zero])
  refine any_take (i := 3) (.pointer (some ⟨b, 0, none⟩)) rfl rfl (by kernel_rfl) (by kernel_rfl) (by kernel_rfl) (by kernel_rfl) (fun _ _ d _ _ h => by cases d <;> exact h) (fun u hS => rfl) hS0 ?_
  (try simp only [Act.put]); (try simp only [List.getElem_toArray]); (try simp only [List.getElem_cons_succ]); (try simp only [List.getElem_cons_zero]); (try simp only [List.setIfInBounds_toArray]); (try simp only [List.set_cons_succ]); (try simp only [List.set_cons_zero])
  refine any_take (i := 4) (.pointer (some ⟨m, 0, none⟩)) rfl rfl (by kernel_rfl) (by kernel_rfl) (by kernel_rfl) (by kernel_rfl) (fun _ _ d _ _ h => by cases d <;> exact h) (fun u hS => exec_ld_M rfl rfl (hS.elim fun _ h => h.cell 0)) hS0 ?_
  (try simp only [Act.put]); (try simp only [List.getElem_toArray]); (try simp only [List.getElem_cons_succ]); (try simp only [List.getElem_cons_zero]); (try simp only [List.setIfInBounds_toArray]); (try simp only [List.set_cons_succ]); (try simp only [List.set_cons_zero])
  refine any_take (i := 5) (.pointer (some ⟨b, 0, none⟩)) rfl rfl (by kernel_rfl) (by kernel_rfl) (by kernel_rfl) (by kernel_rfl) (fun _ _ d _ _ h => by cases d <;> exact h) (fun u hS => rfl) hS0 ?_
  (try simp only [Act.put]); (try simp only [List.getElem_toArray]); (try simp only [List.getElem_cons_succ]); (try simp only [List.getElem_cons_zero]); (try simp only [List.setIfInBounds_toArray]); (try simp only [List.set_cons_succ]); (try simp only [List.set_cons_zero])
  refine any_take (i := 6) (.pointer (some ⟨b, 0, none⟩)) rfl rfl (by kernel_rfl) (by kernel_rfl) (by kernel_rfl) (by kernel_rfl) (fun _ _ d _ _ h => by cases d <;> exact h) (fun u hS => rfl) hS0 ?_
  (try simp only [Act.put]); (try simp only [List.getElem_toArray]); (try simp only [List.getElem_cons_succ]); (try simp only [List.getElem_cons_zero]); (try simp only [List.setIfInBounds_toArray]); (try simp only [List.set_cons_succ]); (try simp only [List.set_cons_zero])
  refine any_take (i := 7) (.pointer (some ⟨b, 1, none⟩)) rfl rfl (by kernel_rfl) (by kernel_rfl) (by kernel_rfl) (by kernel_rfl) (fun _ _ d _ _ h => by cases d <;> exact h) (fun u hS => rfl) hS0 ?_
  (try simp only [Act.put]); (try simp only [List.getElem_toArray]); (try simp only [List.getElem_cons_succ]); (try simp only [List.getElem_cons_zero]); (try simp only [List.setIfInBounds_toArray]); (try simp only [List.set_cons_succ]); (try simp only [List.set_cons_zero])
  refine any_take (i := 8) (.int .i64 (at_ : Int)) rfl rfl (by kernel_rfl) (by kernel_rfl) (by kernel_rfl) (by kernel_rfl) (fun _ _ d _ _ h => by cases d <;> exact h) (fun u hS => exec_ld_I rfl rfl (hS.elim fun _ h => h.cell 1)) hS0 ?_
  (try simp only [Act.put]); (try simp only [List.getElem_toArray]); (try simp only [List.getElem_cons_succ]); (try simp only [List.getElem_cons_zero]); (try simp only [List.setIfInBounds_toArray]); (try simp only [List.set_cons_succ]); (try simp only [List.set_cons_zero])
  refine any_branch [9] (by kernel_rfl) rfl fun ix hix => ?_
  simp only [List.mem_cons, List.not_mem_nil, or_false] at hix
  subst hix
  refine any_op rfl rfl fun K hK => ?_
  go_simp
  refine (mem_load_any m c at_ v ys _ hm0 hx).mono ?_
  rintro e u1 ⟨rfl, hm1, hf1⟩
  have hb1 := hb0.fr hf1 (by simp; omega)
  have hS1 : (fun u => ∃ q, Blk u b 203 (ActV m at_ key val q nx false ok got)) u1 := ⟨_, hb1⟩
  refine hK _ _ (fun _ => hS1) ?_
  (try simp only [Act.put]); (try simp only [List.getElem_toArray]); (try simp only [List.getElem_cons_succ]); (try simp only [List.getElem_cons_zero]); (try simp only [List.setIfInBounds_toArray]); (try simp only [List.set_cons_succ]); (try simp only [List.set_cons_zero])
  clear hK
  refine any_take (i := 10) (.pointer (some ⟨b, 0, none⟩)) rfl rfl (by kernel_rfl) (by kernel_rfl) (by kernel_rfl) (by kernel_rfl) (fun _ _ d _ _ h => by cases d <;> exact h) (fun u hS => rfl) hS1 ?_
  (try simp only [Act.put]); (try simp only [List.getElem_toArray]); (try simp only [List.getElem_cons_succ]); (try simp only [List.getElem_cons_zero]); (try simp only [List.setIfInBounds_toArray]); (try simp only [List.set_cons_succ]); (try simp only [List.set_cons_zero])
  refine any_take (i := 11) (.pointer (some ⟨b, 4, none⟩)) rfl rfl (by kernel_rfl) (by kernel_rfl) (by kernel_rfl) (by kernel_rfl) (fun _ _ d _ _ h => by cases d <;> exact h) (fun u hS => rfl) hS1 ?_
  (try simp only [Act.put]); (try simp only [List.getElem_toArray]); (try simp only [List.getElem_cons_succ]); (try simp only [List.getElem_cons_zero]); (try simp only [List.setIfInBounds_toArray]); (try simp only [List.set_cons_succ]); (try simp only [List.set_cons_zero])
  refine any_branch [12] (by kernel_rfl) rfl fun ix hix => ?_
  simp only [List.mem_cons, List.not_mem_nil, or_false] at hix
  subst hix
  refine any_op rfl rfl fun K hK => ?_
  have hz := hb1.frozen 4
  have hc := hb1.cell 4
  go_simp
  have hb2 : Blk (u1.setCell ⟨b, 4, none⟩ (.int .u64 (v : Int))) b 203 (ActV m at_ key val v nx false ok got) := hb1.set_same 4 _ rfl
  have hf2 : Fr [b] u1 (u1.setCell ⟨b, 4, none⟩ (.int .u64 (v : Int))) := (Fr.refl [b] _).setCell (fun _ => by simp) _
  have hS2 : (fun u => ∃ q, Blk u b 203 (ActV m at_ key val q nx false ok got)) (u1.setCell ⟨b, 4, none⟩ (.int .u64 (v : Int))) := ⟨_, hb2⟩
  refine hK _ _ (fun _ => hS2) ?_
  (try simp only [Act.put]); (try simp only [List.getElem_toArray]); (try simp only [List.getElem_cons_succ]); (try simp only [List.getElem_cons_zero]); (try simp only [List.setIfInBounds_toArray]); (try simp only [List.set_cons_succ]); (try simp only [List.set_cons_zero])
  clear hK
  refine any_end (by kernel_rfl) ?_
  -- ⟧
  have hfw := (((hf0.mono (S' := [b, m]) (by simp)).trans hf1 (by simp)).trans hf2 (by simp))
  have hm2 := hm1.fr hf2 (by simp; omega) (by simp; omega)
  clear hS0 hS1 hS2 hb0 hb1 hm0 hm1 hf0 hf1 hf2 hz hc
  generalize World.setCell u1 _ _ = u2 at *
  have z5 := hb2.frozen 5
  have z6 := hb2.frozen 6
  have hb3 : Blk ((u2.setCell ⟨b, 5, none⟩ (aFn 129 b)).setCell ⟨b, 6, none⟩ (.bool ((q : Int) != 2))) b 203 (ActV m at_ key val v (aFn 129 b) ((q : Int) != 2) ok got) := (hb2.set_ 5 _).set_same 6 _ rfl
  have hf3 : Fr [b] u2 ((u2.setCell ⟨b, 5, none⟩ (aFn 129 b)).setCell ⟨b, 6, none⟩ (.bool ((q : Int) != 2))) := (((Fr.refl [b] u2).setCell (fun _ => by simp) _).setCell (fun _ => by simp) _)
  have hm3 := hm2.fr hf3 (by simp; omega) (by simp; omega)
  have HE : Bx (_ ∧ _ ∧ _) := ⟨hb3, hm3, hfw.trans hf3 (by simp)⟩
  obtain ⟨c0, c1, c2, c3, c4, c5, c6, c7, c8⟩ := cells9 hb2
  clear hb3 hf3 hm3 hfw hm2
  go_wp2_with fail
  go_end0
  exact ⟨rfl, HE.out⟩
set_option maxRecDepth 100000 in
set_option maxHeartbeats 2000000 in
/-- it reads a line's version, to write it -/
theorem opens_any (b m c at_ key val ver got v q : Nat) (nx : Value) (ok : Bool) (ys : List Nat) (w : World) (h : Blk w b 203 (ActV m at_ key val ver nx false ok got)) (hm : MemAt w m c ys) (hne : b ≠ m ∧ b ≠ c) (hx : ys[at_]? = some v) (hq : bits .and .u64 (v : Int) 1 = (q : Int)) :
    Calls Try.prog 128 #[.pointer (some ⟨b, 0, none⟩)] w fun e w' => e = .returned (.tuple #[]) ∧ Blk w' b 203 (ActV m at_ key val v (aFn 130 b) ((q : Int) != 0) ok got) ∧ MemAt w' m c ys ∧ Fr [b, m] w w' := by
  go_enter Try.func128, Try.ntmps128
  go_wp2_with fail
-- ⟦OPENS
  refine region_any 100 (fun u => ∃ q, Blk u b 203 (ActV m at_ key val q nx false ok got)) (by kernel_rfl) ?_
  generalize hu : World.drew _ = u0
  have hb0 := h.drew
  have hm0 := hm.drew
  have hf0 := (Fr.refl [] w).drew
  rw [hu] at hb0 hm0 hf0
  have hS0 : (fun u => ∃ q, Blk u b 203 (ActV m at_ key val q nx false ok got)) u0 := ⟨_, hb0⟩
  clear hu
  refine any_take (i := 0) (.pointer (some ⟨b, 0, none⟩)) rfl rfl (by kernel_rfl) (by kernel_rfl) (by kernel_rfl) (by kernel_rfl) (fun _ _ d _ _ h => by cases d <;> exact h) (fun u hS => rfl) hS0 ?_
  (try simp only [Act.put]); (try simp only [List.getElem_toArray]); (try simp only [List.getElem_cons_succ]); (try simp only [List.getElem_cons_zero]); (try simp only [List.setIfInBounds_toArray]); (try simp only [List.set_cons_succ]); (try simp only [List.set_cons_zero])
  refine any_take (i := 1) (.pointer (some ⟨b, 0, none⟩)) rfl rfl (by kernel_rfl) (by kernel_rfl) (by kernel_rfl) (by kernel_rfl) (fun _ _ d _ _ h => by cases d <;> exact h) (fun u hS => rfl) hS0 ?_
  (try simp only [Act.put]); (try simp only [List.getElem_toArray]); (try simp only [List.getElem_cons_succ]); (try simp only [List.getElem_cons_zero]); (try simp only [List.setIfInBounds_toArray]); (try simp only [List.set_cons_succ]); (try simp only [List.set_cons_zero])
  refine any_take (i := 2) (.pointer (some ⟨b, 0, none⟩)) rfl rfl (by kernel_rfl) (by kernel_rfl) (by kernel_rfl) (by kernel_rfl) (fun _ _ d _ _ h => by cases d <;> exact h) (fun u hS => rfl) hS0 ?_
  (try simp only [Act.put]); (try simp only [List.getElem_toArray]); (try simp only [List.getElem_cons_succ]); (try simp only [List.getElem_cons_zero]); (try simp only [List.setIfInBounds_toArray]); (try simp only [List.set_cons_succ]); (try simp only [List.set_cons_zero])
  refine any_take (i := 3) (.pointer (some ⟨b, 0, none⟩)) rfl rfl (by kernel_rfl) (by kernel_rfl) (by kernel_rfl) (by kernel_rfl) (fun _ _ d _ _ h => by cases d <;> exact h) (fun u hS => rfl) hS0 ?_
  (try simp only [Act.put]); (try simp only [List.getElem_toArray]); (try simp only [List.getElem_cons_succ]); (try simp only [List.getElem_cons_zero]); (try simp only [List.setIfInBounds_toArray]); (try simp only [List.set_cons_succ]); (try simp only [List.set_cons_zero])
  refine any_take (i := 4) (.pointer (some ⟨m, 0, none⟩)) rfl rfl (by kernel_rfl) (by kernel_rfl) (by kernel_rfl) (by kernel_rfl) (fun _ _ d _ _ h => by cases d <;> exact h) (fun u hS => exec_ld_M rfl rfl (hS.elim fun _ h => h.cell 0)) hS0 ?_
  (try simp only [Act.put]); (try simp only [List.getElem_toArray]); (try simp only [List.getElem_cons_succ]); (try simp only [List.getElem_cons_zero]); (try simp only [List.setIfInBounds_toArray]); (try simp only [List.set_cons_succ]); (try simp only [List.set_cons_zero])
  refine any_take (i := 5) (.pointer (some ⟨b, 0, none⟩)) rfl rfl (by kernel_rfl) (by kernel_rfl) (by kernel_rfl) (by kernel_rfl) (fun _ _ d _ _ h => by cases d <;> exact h) (fun u hS => rfl) hS0 ?_
  (try simp only [Act.put]); (try simp only [List.getElem_toArray]); (try simp only [List.getElem_cons_succ]); (try simp only [List.getElem_cons_zero]); (try simp only [List.setIfInBounds_toArray]); (try simp only [List.set_cons_succ]); (try simp only [List.set_cons_zero])
  refine any_take (i := 6) (.pointer (some ⟨b, 0, none⟩)) rfl rfl (by kernel_rfl) (by kernel_rfl) (by kernel_rfl) (by kernel_rfl) (fun _ _ d _ _ h => by cases d <;> exact h) (fun u hS => rfl) hS0 ?_
  (try simp only [Act.put]); (try simp only [List.getElem_toArray]); (try simp only [List.getElem_cons_succ]); (try simp only [List.getElem_cons_zero]); (try simp only [List.setIfInBounds_toArray]); (try simp only [List.set_cons_succ]); (try simp only [List.set_cons_zero])
  refine any_take (i := 7) (.pointer (some ⟨b, 1, none⟩)) rfl rfl (by kernel_rfl) (by kernel_rfl) (by kernel_rfl) (by kernel_rfl) (fun _ _ d _ _ h => by cases d <;> exact h) (fun u hS => rfl) hS0 ?_
  (try simp only [Act.put]); (try simp only [List.getElem_toArray]); (try simp only [List.getElem_cons_succ]); (try simp only [List.getElem_cons_zero]); (try simp only [List.setIfInBounds_toArray]); (try simp only [List.set_cons_succ]); (try simp only [List.set_cons_zero])
  refine any_take (i := 8) (.int .i64 (at_ : Int)) rfl rfl (by kernel_rfl) (by kernel_rfl) (by kernel_rfl) (by kernel_rfl) (fun _ _ d _ _ h => by cases d <;> exact h) (fun u hS => exec_ld_I rfl rfl (hS.elim fun _ h => h.cell 1)) hS0 ?_
  (try simp only [Act.put]); (try simp only [List.getElem_toArray]); (try simp only [List.getElem_cons_succ]); (try simp only [List.getElem_cons_zero]); (try simp only [List.setIfInBounds_toArray]); (try simp only [List.set_cons_succ]); (try simp only [List.set_cons_zero])
  refine any_branch [9] (by kernel_rfl) rfl fun ix hix => ?_
  simp only [List.mem_cons, List.not_mem_nil, or_false] at hix
  subst hix
  refine any_op rfl rfl fun K hK => ?_
  go_simp
  refine (mem_load_any m c at_ v ys _ hm0 hx).mono ?_
  rintro e u1 ⟨rfl, hm1, hf1⟩
  have hb1 := hb0.fr hf1 (by simp; omega)
  have hS1 : (fun u => ∃ q, Blk u b 203 (ActV m at_ key val q nx false ok got)) u1 := ⟨_, hb1⟩
  refine hK _ _ (fun _ => hS1) ?_
  (try simp only [Act.put]); (try simp only [List.getElem_toArray]); (try simp only [List.getElem_cons_succ]); (try simp only [List.getElem_cons_zero]); (try simp only [List.setIfInBounds_toArray]); (try simp only [List.set_cons_succ]); (try simp only [List.set_cons_zero])
  clear hK
  refine any_take (i := 10) (.pointer (some ⟨b, 0, none⟩)) rfl rfl (by kernel_rfl) (by kernel_rfl) (by kernel_rfl) (by kernel_rfl) (fun _ _ d _ _ h => by cases d <;> exact h) (fun u hS => rfl) hS1 ?_
  (try simp only [Act.put]); (try simp only [List.getElem_toArray]); (try simp only [List.getElem_cons_succ]); (try simp only [List.getElem_cons_zero]); (try simp only [List.setIfInBounds_toArray]); (try simp only [List.set_cons_succ]); (try simp only [List.set_cons_zero])
  refine any_take (i := 11) (.pointer (some ⟨b, 4, none⟩)) rfl rfl (by kernel_rfl) (by kernel_rfl) (by kernel_rfl) (by kernel_rfl) (fun _ _ d _ _ h => by cases d <;> exact h) (fun u hS => rfl) hS1 ?_
  (try simp only [Act.put]); (try simp only [List.getElem_toArray]); (try simp only [List.getElem_cons_succ]); (try simp only [List.getElem_cons_zero]); (try simp only [List.setIfInBounds_toArray]); (try simp only [List.set_cons_succ]); (try simp only [List.set_cons_zero])
  refine any_branch [12] (by kernel_rfl) rfl fun ix hix => ?_
  simp only [List.mem_cons, List.not_mem_nil, or_false] at hix
  subst hix
  refine any_op rfl rfl fun K hK => ?_
  have hz := hb1.frozen 4
  have hc := hb1.cell 4
  go_simp
  have hb2 : Blk (u1.setCell ⟨b, 4, none⟩ (.int .u64 (v : Int))) b 203 (ActV m at_ key val v nx false ok got) := hb1.set_same 4 _ rfl
  have hf2 : Fr [b] u1 (u1.setCell ⟨b, 4, none⟩ (.int .u64 (v : Int))) := (Fr.refl [b] _).setCell (fun _ => by simp) _
  have hS2 : (fun u => ∃ q, Blk u b 203 (ActV m at_ key val q nx false ok got)) (u1.setCell ⟨b, 4, none⟩ (.int .u64 (v : Int))) := ⟨_, hb2⟩
  refine hK _ _ (fun _ => hS2) ?_
  (try simp only [Act.put]); (try simp only [List.getElem_toArray]); (try simp only [List.getElem_cons_succ]); (try simp only [List.getElem_cons_zero]); (try simp only [List.setIfInBounds_toArray]); (try simp only [List.set_cons_succ]); (try simp only [List.set_cons_zero])
  clear hK
  refine any_end (by kernel_rfl) ?_
  -- ⟧
  have hfw := (((hf0.mono (S' := [b, m]) (by simp)).trans hf1 (by simp)).trans hf2 (by simp))
  have hm2 := hm1.fr hf2 (by simp; omega) (by simp; omega)
  clear hS0 hS1 hS2 hb0 hb1 hm0 hm1 hf0 hf1 hf2 hz hc
  generalize World.setCell u1 _ _ = u2 at *
  have z5 := hb2.frozen 5
  have z6 := hb2.frozen 6
  have hb3 : Blk ((u2.setCell ⟨b, 5, none⟩ (aFn 130 b)).setCell ⟨b, 6, none⟩ (.bool ((q : Int) != 0))) b 203 (ActV m at_ key val v (aFn 130 b) ((q : Int) != 0) ok got) := (hb2.set_ 5 _).set_same 6 _ rfl
  have hf3 : Fr [b] u2 ((u2.setCell ⟨b, 5, none⟩ (aFn 130 b)).setCell ⟨b, 6, none⟩ (.bool ((q : Int) != 0))) := (((Fr.refl [b] u2).setCell (fun _ => by simp) _).setCell (fun _ => by simp) _)
  have hm3 := hm2.fr hf3 (by simp; omega) (by simp; omega)
  have HE : Bx (_ ∧ _ ∧ _) := ⟨hb3, hm3, hfw.trans hf3 (by simp)⟩
  obtain ⟨c0, c1, c2, c3, c4, c5, c6, c7, c8⟩ := cells9 hb2
  clear hb3 hf3 hm3 hfw hm2
  go_wp2_with fail
  go_end0
  exact ⟨rfl, HE.out⟩
set_option maxRecDepth 100000 in
set_option maxHeartbeats 2000000 in
/-- it compares the key -/
theorem compares_any (b m c at_ key val ver got k : Nat) (nx : Value) (ok : Bool) (ys : List Nat) (w : World) (h : Blk w b 203 (ActV m at_ key val ver nx false ok got)) (hm : MemAt w m c ys) (hne : b ≠ m ∧ b ≠ c) (hat : at_ < 100000) (hx : ys[at_ + 1]? = some k) (d : Bool) (hd : d = decide (k ≠ key)) :
    Calls Try.prog 129 #[.pointer (some ⟨b, 0, none⟩)] w fun e w' => e = .returned (.tuple #[]) ∧ Blk w' b 203 (ActV m at_ key val ver (aFn 131 b) d ok got) ∧ MemAt w' m c ys ∧ Fr [b, m] w w' := by
  have HD := Bx.mk hd
  clear hd
  go_enter Try.func129, Try.ntmps129
  go_wp2_with fail
-- ⟦COMPARES
  refine region_any 100 (fun u => ∃ q, Blk u b 203 (ActV m at_ key val ver nx q ok got)) (by kernel_rfl) ?_
  generalize hu : World.drew _ = u0
  have hb0 := h.drew
  have hm0 := hm.drew
  have hf0 := (Fr.refl [] w).drew
  rw [hu] at hb0 hm0 hf0
  have hS0 : (fun u => ∃ q, Blk u b 203 (ActV m at_ key val ver nx q ok got)) u0 := ⟨_, hb0⟩
  clear hu
  refine any_take (i := 0) (.pointer (some ⟨b, 0, none⟩)) rfl rfl (by kernel_rfl) (by kernel_rfl) (by kernel_rfl) (by kernel_rfl) (fun _ _ d _ _ h => by cases d <;> exact h) (fun u hS => rfl) hS0 ?_
  (try simp only [Act.put]); (try simp only [List.getElem_toArray]); (try simp only [List.getElem_cons_succ]); (try simp only [List.getElem_cons_zero]); (try simp only [List.setIfInBounds_toArray]); (try simp only [List.set_cons_succ]); (try simp only [List.set_cons_zero])
  refine any_take (i := 1) (.pointer (some ⟨b, 0, none⟩)) rfl rfl (by kernel_rfl) (by kernel_rfl) (by kernel_rfl) (by kernel_rfl) (fun _ _ d _ _ h => by cases d <;> exact h) (fun u hS => rfl) hS0 ?_
  (try simp only [Act.put]); (try simp only [List.getElem_toArray]); (try simp only [List.getElem_cons_succ]); (try simp only [List.getElem_cons_zero]); (try simp only [List.setIfInBounds_toArray]); (try simp only [List.set_cons_succ]); (try simp only [List.set_cons_zero])
  refine any_take (i := 2) (.pointer (some ⟨b, 0, none⟩)) rfl rfl (by kernel_rfl) (by kernel_rfl) (by kernel_rfl) (by kernel_rfl) (fun _ _ d _ _ h => by cases d <;> exact h) (fun u hS => rfl) hS0 ?_
  (try simp only [Act.put]); (try simp only [List.getElem_toArray]); (try simp only [List.getElem_cons_succ]); (try simp only [List.getElem_cons_zero]); (try simp only [List.setIfInBounds_toArray]); (try simp only [List.set_cons_succ]); (try simp only [List.set_cons_zero])
  refine any_take (i := 3) (.pointer (some ⟨b, 0, none⟩)) rfl rfl (by kernel_rfl) (by kernel_rfl) (by kernel_rfl) (by kernel_rfl) (fun _ _ d _ _ h => by cases d <;> exact h) (fun u hS => rfl) hS0 ?_
  (try simp only [Act.put]); (try simp only [List.getElem_toArray]); (try simp only [List.getElem_cons_succ]); (try simp only [List.getElem_cons_zero]); (try simp only [List.setIfInBounds_toArray]); (try simp only [List.set_cons_succ]); (try simp only [List.set_cons_zero])
  refine any_take (i := 4) (.pointer (some ⟨m, 0, none⟩)) rfl rfl (by kernel_rfl) (by kernel_rfl) (by kernel_rfl) (by kernel_rfl) (fun _ _ d _ _ h => by cases d <;> exact h) (fun u hS => exec_ld_M rfl rfl (hS.elim fun _ h => h.cell 0)) hS0 ?_
  (try simp only [Act.put]); (try simp only [List.getElem_toArray]); (try simp only [List.getElem_cons_succ]); (try simp only [List.getElem_cons_zero]); (try simp only [List.setIfInBounds_toArray]); (try simp only [List.set_cons_succ]); (try simp only [List.set_cons_zero])
  refine any_take (i := 5) (.pointer (some ⟨b, 0, none⟩)) rfl rfl (by kernel_rfl) (by kernel_rfl) (by kernel_rfl) (by kernel_rfl) (fun _ _ d _ _ h => by cases d <;> exact h) (fun u hS => rfl) hS0 ?_
  (try simp only [Act.put]); (try simp only [List.getElem_toArray]); (try simp only [List.getElem_cons_succ]); (try simp only [List.getElem_cons_zero]); (try simp only [List.setIfInBounds_toArray]); (try simp only [List.set_cons_succ]); (try simp only [List.set_cons_zero])
  refine any_take (i := 6) (.pointer (some ⟨b, 0, none⟩)) rfl rfl (by kernel_rfl) (by kernel_rfl) (by kernel_rfl) (by kernel_rfl) (fun _ _ d _ _ h => by cases d <;> exact h) (fun u hS => rfl) hS0 ?_
  (try simp only [Act.put]); (try simp only [List.getElem_toArray]); (try simp only [List.getElem_cons_succ]); (try simp only [List.getElem_cons_zero]); (try simp only [List.setIfInBounds_toArray]); (try simp only [List.set_cons_succ]); (try simp only [List.set_cons_zero])
  refine any_take (i := 7) (.pointer (some ⟨b, 1, none⟩)) rfl rfl (by kernel_rfl) (by kernel_rfl) (by kernel_rfl) (by kernel_rfl) (fun _ _ d _ _ h => by cases d <;> exact h) (fun u hS => rfl) hS0 ?_
  (try simp only [Act.put]); (try simp only [List.getElem_toArray]); (try simp only [List.getElem_cons_succ]); (try simp only [List.getElem_cons_zero]); (try simp only [List.setIfInBounds_toArray]); (try simp only [List.set_cons_succ]); (try simp only [List.set_cons_zero])
  refine any_take (i := 8) (.int .i64 (at_ : Int)) rfl rfl (by kernel_rfl) (by kernel_rfl) (by kernel_rfl) (by kernel_rfl) (fun _ _ d _ _ h => by cases d <;> exact h) (fun u hS => exec_ld_I rfl rfl (hS.elim fun _ h => h.cell 1)) hS0 ?_
  (try simp only [Act.put]); (try simp only [List.getElem_toArray]); (try simp only [List.getElem_cons_succ]); (try simp only [List.getElem_cons_zero]); (try simp only [List.setIfInBounds_toArray]); (try simp only [List.set_cons_succ]); (try simp only [List.set_cons_zero])
  refine any_take (i := 9) (.int .i64 ((at_ + 1 : Nat) : Int)) rfl rfl (by kernel_rfl) (by kernel_rfl) (by kernel_rfl) (by kernel_rfl) (fun _ _ d _ _ h => by cases d <;> exact h) (fun u hS => exec_addk (m := at_) (n := 1) rfl (by omega) rfl rfl rfl) hS0 ?_
  (try simp only [Act.put]); (try simp only [List.getElem_toArray]); (try simp only [List.getElem_cons_succ]); (try simp only [List.getElem_cons_zero]); (try simp only [List.setIfInBounds_toArray]); (try simp only [List.set_cons_succ]); (try simp only [List.set_cons_zero])
  refine any_take (i := 11) (.pointer (some ⟨b, 0, none⟩)) rfl rfl (by kernel_rfl) (by kernel_rfl) (by kernel_rfl) (by kernel_rfl) (fun _ _ d _ _ h => by cases d <;> exact h) (fun u hS => rfl) hS0 ?_
  (try simp only [Act.put]); (try simp only [List.getElem_toArray]); (try simp only [List.getElem_cons_succ]); (try simp only [List.getElem_cons_zero]); (try simp only [List.setIfInBounds_toArray]); (try simp only [List.set_cons_succ]); (try simp only [List.set_cons_zero])
  refine any_take (i := 12) (.pointer (some ⟨b, 0, none⟩)) rfl rfl (by kernel_rfl) (by kernel_rfl) (by kernel_rfl) (by kernel_rfl) (fun _ _ d _ _ h => by cases d <;> exact h) (fun u hS => rfl) hS0 ?_
  (try simp only [Act.put]); (try simp only [List.getElem_toArray]); (try simp only [List.getElem_cons_succ]); (try simp only [List.getElem_cons_zero]); (try simp only [List.setIfInBounds_toArray]); (try simp only [List.set_cons_succ]); (try simp only [List.set_cons_zero])
  refine any_take (i := 13) (.pointer (some ⟨b, 2, none⟩)) rfl rfl (by kernel_rfl) (by kernel_rfl) (by kernel_rfl) (by kernel_rfl) (fun _ _ d _ _ h => by cases d <;> exact h) (fun u hS => rfl) hS0 ?_
  (try simp only [Act.put]); (try simp only [List.getElem_toArray]); (try simp only [List.getElem_cons_succ]); (try simp only [List.getElem_cons_zero]); (try simp only [List.setIfInBounds_toArray]); (try simp only [List.set_cons_succ]); (try simp only [List.set_cons_zero])
  refine any_take (i := 14) (.int .u64 (key : Int)) rfl rfl (by kernel_rfl) (by kernel_rfl) (by kernel_rfl) (by kernel_rfl) (fun _ _ d _ _ h => by cases d <;> exact h) (fun u hS => exec_ld_W rfl rfl (hS.elim fun _ h => h.cell 2)) hS0 ?_
  (try simp only [Act.put]); (try simp only [List.getElem_toArray]); (try simp only [List.getElem_cons_succ]); (try simp only [List.getElem_cons_zero]); (try simp only [List.setIfInBounds_toArray]); (try simp only [List.set_cons_succ]); (try simp only [List.set_cons_zero])
  refine any_branch [10] (by kernel_rfl) rfl fun ix hix => ?_
  simp only [List.mem_cons, List.not_mem_nil, or_false] at hix
  subst hix
  refine any_op rfl rfl fun K hK => ?_
  go_simp
  refine (mem_load_any m c (at_ + 1) k ys _ hm0 hx).mono ?_
  rintro e u1 ⟨rfl, hm1, hf1⟩
  have hb1 := hb0.fr hf1 (by simp; omega)
  have hS1 : (fun u => ∃ q, Blk u b 203 (ActV m at_ key val ver nx q ok got)) u1 := ⟨_, hb1⟩
  refine hK _ _ (fun _ => hS1) ?_
  (try simp only [Act.put]); (try simp only [List.getElem_toArray]); (try simp only [List.getElem_cons_succ]); (try simp only [List.getElem_cons_zero]); (try simp only [List.setIfInBounds_toArray]); (try simp only [List.set_cons_succ]); (try simp only [List.set_cons_zero])
  clear hK
  refine any_take (i := 15) (.bool d) rfl rfl (by kernel_rfl) (by kernel_rfl) (by kernel_rfl) (by kernel_rfl) (fun _ _ d _ _ h => by cases d <;> exact h) (fun u hS => exec_neW HD.out rfl rfl rfl) hS1 ?_
  (try simp only [Act.put]); (try simp only [List.getElem_toArray]); (try simp only [List.getElem_cons_succ]); (try simp only [List.getElem_cons_zero]); (try simp only [List.setIfInBounds_toArray]); (try simp only [List.set_cons_succ]); (try simp only [List.set_cons_zero])
  refine any_take (i := 16) (.pointer (some ⟨b, 0, none⟩)) rfl rfl (by kernel_rfl) (by kernel_rfl) (by kernel_rfl) (by kernel_rfl) (fun _ _ d _ _ h => by cases d <;> exact h) (fun u hS => rfl) hS1 ?_
  (try simp only [Act.put]); (try simp only [List.getElem_toArray]); (try simp only [List.getElem_cons_succ]); (try simp only [List.getElem_cons_zero]); (try simp only [List.setIfInBounds_toArray]); (try simp only [List.set_cons_succ]); (try simp only [List.set_cons_zero])
  refine any_take (i := 17) (.pointer (some ⟨b, 6, none⟩)) rfl rfl (by kernel_rfl) (by kernel_rfl) (by kernel_rfl) (by kernel_rfl) (fun _ _ d _ _ h => by cases d <;> exact h) (fun u hS => rfl) hS1 ?_
  (try simp only [Act.put]); (try simp only [List.getElem_toArray]); (try simp only [List.getElem_cons_succ]); (try simp only [List.getElem_cons_zero]); (try simp only [List.setIfInBounds_toArray]); (try simp only [List.set_cons_succ]); (try simp only [List.set_cons_zero])
  refine any_branch [18] (by kernel_rfl) rfl fun ix hix => ?_
  simp only [List.mem_cons, List.not_mem_nil, or_false] at hix
  subst hix
  refine any_op rfl rfl fun K hK => ?_
  have hz := hb1.frozen 6
  have hc := hb1.cell 6
  go_simp
  have hb2 : Blk (u1.setCell ⟨b, 6, none⟩ (.bool d)) b 203 (ActV m at_ key val ver nx d ok got) := hb1.set_same 6 _ rfl
  have hf2 : Fr [b] u1 (u1.setCell ⟨b, 6, none⟩ (.bool d)) := (Fr.refl [b] _).setCell (fun _ => by simp) _
  have hS2 : (fun u => ∃ q, Blk u b 203 (ActV m at_ key val ver nx q ok got)) (u1.setCell ⟨b, 6, none⟩ (.bool d)) := ⟨_, hb2⟩
  refine hK _ _ (fun _ => hS2) ?_
  (try simp only [Act.put]); (try simp only [List.getElem_toArray]); (try simp only [List.getElem_cons_succ]); (try simp only [List.getElem_cons_zero]); (try simp only [List.setIfInBounds_toArray]); (try simp only [List.set_cons_succ]); (try simp only [List.set_cons_zero])
  clear hK
  refine any_end (by kernel_rfl) ?_
  -- ⟧
  have hfw := (((hf0.mono (S' := [b, m]) (by simp)).trans hf1 (by simp)).trans hf2 (by simp))
  have hm2 := hm1.fr hf2 (by simp; omega) (by simp; omega)
  clear hS0 hS1 hS2 hb0 hb1 hm0 hm1 hf0 hf1 hf2 hz hc
  generalize World.setCell u1 _ _ = u2 at *
  have z5 := hb2.frozen 5
  have hb3 : Blk (u2.setCell ⟨b, 5, none⟩ (aFn 131 b)) b 203 (ActV m at_ key val ver (aFn 131 b) d ok got) := hb2.set_same 5 _ rfl
  have hf3 : Fr [b] u2 (u2.setCell ⟨b, 5, none⟩ (aFn 131 b)) := ((Fr.refl [b] u2).setCell (fun _ => by simp) _)
  have hm3 := hm2.fr hf3 (by simp; omega) (by simp; omega)
  have HE : Bx (_ ∧ _ ∧ _) := ⟨hb3, hm3, hfw.trans hf3 (by simp)⟩
  obtain ⟨c0, c1, c2, c3, c4, c5, c6, c7, c8⟩ := cells9 hb2
  clear hb3 hf3 hm3 hfw hm2
  go_wp2_with fail
  go_end0
  exact ⟨rfl, HE.out⟩
set_option maxRecDepth 100000 in
set_option maxHeartbeats 2000000 in
/-- it reads the value -/
theorem reads_any (b m c at_ key val ver got x : Nat) (nx : Value) (ok : Bool) (ys : List Nat) (w : World) (h : Blk w b 203 (ActV m at_ key val ver nx false ok got)) (hm : MemAt w m c ys) (hne : b ≠ m ∧ b ≠ c) (hat : at_ < 100000) (hx : ys[at_ + 2]? = some x) :
    Calls Try.prog 131 #[.pointer (some ⟨b, 0, none⟩)] w fun e w' => e = .returned (.tuple #[]) ∧ Blk w' b 203 (ActV m at_ key val ver (aFn 133 b) false ok x) ∧ MemAt w' m c ys ∧ Fr [b, m] w w' := by
  go_enter Try.func131, Try.ntmps131
  go_wp2_with fail
-- ⟦READS
  refine region_any 100 (fun u => ∃ q, Blk u b 203 (ActV m at_ key val ver nx false ok q)) (by kernel_rfl) ?_
  generalize hu : World.drew _ = u0
  have hb0 := h.drew
  have hm0 := hm.drew
  have hf0 := (Fr.refl [] w).drew
  rw [hu] at hb0 hm0 hf0
  have hS0 : (fun u => ∃ q, Blk u b 203 (ActV m at_ key val ver nx false ok q)) u0 := ⟨_, hb0⟩
  clear hu
  refine any_take (i := 0) (.pointer (some ⟨b, 0, none⟩)) rfl rfl (by kernel_rfl) (by kernel_rfl) (by kernel_rfl) (by kernel_rfl) (fun _ _ d _ _ h => by cases d <;> exact h) (fun u hS => rfl) hS0 ?_
  (try simp only [Act.put]); (try simp only [List.getElem_toArray]); (try simp only [List.getElem_cons_succ]); (try simp only [List.getElem_cons_zero]); (try simp only [List.setIfInBounds_toArray]); (try simp only [List.set_cons_succ]); (try simp only [List.set_cons_zero])
  refine any_take (i := 1) (.pointer (some ⟨b, 0, none⟩)) rfl rfl (by kernel_rfl) (by kernel_rfl) (by kernel_rfl) (by kernel_rfl) (fun _ _ d _ _ h => by cases d <;> exact h) (fun u hS => rfl) hS0 ?_
  (try simp only [Act.put]); (try simp only [List.getElem_toArray]); (try simp only [List.getElem_cons_succ]); (try simp only [List.getElem_cons_zero]); (try simp only [List.setIfInBounds_toArray]); (try simp only [List.set_cons_succ]); (try simp only [List.set_cons_zero])
  refine any_take (i := 2) (.pointer (some ⟨b, 0, none⟩)) rfl rfl (by kernel_rfl) (by kernel_rfl) (by kernel_rfl) (by kernel_rfl) (fun _ _ d _ _ h => by cases d <;> exact h) (fun u hS => rfl) hS0 ?_
  (try simp only [Act.put]); (try simp only [List.getElem_toArray]); (try simp only [List.getElem_cons_succ]); (try simp only [List.getElem_cons_zero]); (try simp only [List.setIfInBounds_toArray]); (try simp only [List.set_cons_succ]); (try simp only [List.set_cons_zero])
  refine any_take (i := 3) (.pointer (some ⟨b, 0, none⟩)) rfl rfl (by kernel_rfl) (by kernel_rfl) (by kernel_rfl) (by kernel_rfl) (fun _ _ d _ _ h => by cases d <;> exact h) (fun u hS => rfl) hS0 ?_
  (try simp only [Act.put]); (try simp only [List.getElem_toArray]); (try simp only [List.getElem_cons_succ]); (try simp only [List.getElem_cons_zero]); (try simp only [List.setIfInBounds_toArray]); (try simp only [List.set_cons_succ]); (try simp only [List.set_cons_zero])
  refine any_take (i := 4) (.pointer (some ⟨m, 0, none⟩)) rfl rfl (by kernel_rfl) (by kernel_rfl) (by kernel_rfl) (by kernel_rfl) (fun _ _ d _ _ h => by cases d <;> exact h) (fun u hS => exec_ld_M rfl rfl (hS.elim fun _ h => h.cell 0)) hS0 ?_
  (try simp only [Act.put]); (try simp only [List.getElem_toArray]); (try simp only [List.getElem_cons_succ]); (try simp only [List.getElem_cons_zero]); (try simp only [List.setIfInBounds_toArray]); (try simp only [List.set_cons_succ]); (try simp only [List.set_cons_zero])
  refine any_take (i := 5) (.pointer (some ⟨b, 0, none⟩)) rfl rfl (by kernel_rfl) (by kernel_rfl) (by kernel_rfl) (by kernel_rfl) (fun _ _ d _ _ h => by cases d <;> exact h) (fun u hS => rfl) hS0 ?_
  (try simp only [Act.put]); (try simp only [List.getElem_toArray]); (try simp only [List.getElem_cons_succ]); (try simp only [List.getElem_cons_zero]); (try simp only [List.setIfInBounds_toArray]); (try simp only [List.set_cons_succ]); (try simp only [List.set_cons_zero])
  refine any_take (i := 6) (.pointer (some ⟨b, 0, none⟩)) rfl rfl (by kernel_rfl) (by kernel_rfl) (by kernel_rfl) (by kernel_rfl) (fun _ _ d _ _ h => by cases d <;> exact h) (fun u hS => rfl) hS0 ?_
  (try simp only [Act.put]); (try simp only [List.getElem_toArray]); (try simp only [List.getElem_cons_succ]); (try simp only [List.getElem_cons_zero]); (try simp only [List.setIfInBounds_toArray]); (try simp only [List.set_cons_succ]); (try simp only [List.set_cons_zero])
  refine any_take (i := 7) (.pointer (some ⟨b, 1, none⟩)) rfl rfl (by kernel_rfl) (by kernel_rfl) (by kernel_rfl) (by kernel_rfl) (fun _ _ d _ _ h => by cases d <;> exact h) (fun u hS => rfl) hS0 ?_
  (try simp only [Act.put]); (try simp only [List.getElem_toArray]); (try simp only [List.getElem_cons_succ]); (try simp only [List.getElem_cons_zero]); (try simp only [List.setIfInBounds_toArray]); (try simp only [List.set_cons_succ]); (try simp only [List.set_cons_zero])
  refine any_take (i := 8) (.int .i64 (at_ : Int)) rfl rfl (by kernel_rfl) (by kernel_rfl) (by kernel_rfl) (by kernel_rfl) (fun _ _ d _ _ h => by cases d <;> exact h) (fun u hS => exec_ld_I rfl rfl (hS.elim fun _ h => h.cell 1)) hS0 ?_
  (try simp only [Act.put]); (try simp only [List.getElem_toArray]); (try simp only [List.getElem_cons_succ]); (try simp only [List.getElem_cons_zero]); (try simp only [List.setIfInBounds_toArray]); (try simp only [List.set_cons_succ]); (try simp only [List.set_cons_zero])
  refine any_take (i := 9) (.int .i64 ((at_ + 2 : Nat) : Int)) rfl rfl (by kernel_rfl) (by kernel_rfl) (by kernel_rfl) (by kernel_rfl) (fun _ _ d _ _ h => by cases d <;> exact h) (fun u hS => exec_addk (m := at_) (n := 2) rfl (by omega) rfl rfl rfl) hS0 ?_
  (try simp only [Act.put]); (try simp only [List.getElem_toArray]); (try simp only [List.getElem_cons_succ]); (try simp only [List.getElem_cons_zero]); (try simp only [List.setIfInBounds_toArray]); (try simp only [List.set_cons_succ]); (try simp only [List.set_cons_zero])
  refine any_branch [10] (by kernel_rfl) rfl fun ix hix => ?_
  simp only [List.mem_cons, List.not_mem_nil, or_false] at hix
  subst hix
  refine any_op rfl rfl fun K hK => ?_
  go_simp
  refine (mem_load_any m c (at_ + 2) x ys _ hm0 hx).mono ?_
  rintro e u1 ⟨rfl, hm1, hf1⟩
  have hb1 := hb0.fr hf1 (by simp; omega)
  have hS1 : (fun u => ∃ q, Blk u b 203 (ActV m at_ key val ver nx false ok q)) u1 := ⟨_, hb1⟩
  refine hK _ _ (fun _ => hS1) ?_
  (try simp only [Act.put]); (try simp only [List.getElem_toArray]); (try simp only [List.getElem_cons_succ]); (try simp only [List.getElem_cons_zero]); (try simp only [List.setIfInBounds_toArray]); (try simp only [List.set_cons_succ]); (try simp only [List.set_cons_zero])
  clear hK
  refine any_take (i := 11) (.pointer (some ⟨b, 0, none⟩)) rfl rfl (by kernel_rfl) (by kernel_rfl) (by kernel_rfl) (by kernel_rfl) (fun _ _ d _ _ h => by cases d <;> exact h) (fun u hS => rfl) hS1 ?_
  (try simp only [Act.put]); (try simp only [List.getElem_toArray]); (try simp only [List.getElem_cons_succ]); (try simp only [List.getElem_cons_zero]); (try simp only [List.setIfInBounds_toArray]); (try simp only [List.set_cons_succ]); (try simp only [List.set_cons_zero])
  refine any_take (i := 12) (.pointer (some ⟨b, 8, none⟩)) rfl rfl (by kernel_rfl) (by kernel_rfl) (by kernel_rfl) (by kernel_rfl) (fun _ _ d _ _ h => by cases d <;> exact h) (fun u hS => rfl) hS1 ?_
  (try simp only [Act.put]); (try simp only [List.getElem_toArray]); (try simp only [List.getElem_cons_succ]); (try simp only [List.getElem_cons_zero]); (try simp only [List.setIfInBounds_toArray]); (try simp only [List.set_cons_succ]); (try simp only [List.set_cons_zero])
  refine any_branch [13] (by kernel_rfl) rfl fun ix hix => ?_
  simp only [List.mem_cons, List.not_mem_nil, or_false] at hix
  subst hix
  refine any_op rfl rfl fun K hK => ?_
  have hz := hb1.frozen 8
  have hc := hb1.cell 8
  go_simp
  have hb2 : Blk (u1.setCell ⟨b, 8, none⟩ (.int .u64 (x : Int))) b 203 (ActV m at_ key val ver nx false ok x) := hb1.set_same 8 _ rfl
  have hf2 : Fr [b] u1 (u1.setCell ⟨b, 8, none⟩ (.int .u64 (x : Int))) := (Fr.refl [b] _).setCell (fun _ => by simp) _
  have hS2 : (fun u => ∃ q, Blk u b 203 (ActV m at_ key val ver nx false ok q)) (u1.setCell ⟨b, 8, none⟩ (.int .u64 (x : Int))) := ⟨_, hb2⟩
  refine hK _ _ (fun _ => hS2) ?_
  (try simp only [Act.put]); (try simp only [List.getElem_toArray]); (try simp only [List.getElem_cons_succ]); (try simp only [List.getElem_cons_zero]); (try simp only [List.setIfInBounds_toArray]); (try simp only [List.set_cons_succ]); (try simp only [List.set_cons_zero])
  clear hK
  refine any_end (by kernel_rfl) ?_
  -- ⟧
  have hfw := (((hf0.mono (S' := [b, m]) (by simp)).trans hf1 (by simp)).trans hf2 (by simp))
  have hm2 := hm1.fr hf2 (by simp; omega) (by simp; omega)
  clear hS0 hS1 hS2 hb0 hb1 hm0 hm1 hf0 hf1 hf2 hz hc
  generalize World.setCell u1 _ _ = u2 at *
  have z5 := hb2.frozen 5
  have hb3 : Blk (u2.setCell ⟨b, 5, none⟩ (aFn 133 b)) b 203 (ActV m at_ key val ver (aFn 133 b) false ok x) := hb2.set_same 5 _ rfl
  have hf3 : Fr [b] u2 (u2.setCell ⟨b, 5, none⟩ (aFn 133 b)) := ((Fr.refl [b] u2).setCell (fun _ => by simp) _)
  have hm3 := hm2.fr hf3 (by simp; omega) (by simp; omega)
  have HE : Bx (_ ∧ _ ∧ _) := ⟨hb3, hm3, hfw.trans hf3 (by simp)⟩
  obtain ⟨c0, c1, c2, c3, c4, c5, c6, c7, c8⟩ := cells9 hb2
  clear hb3 hf3 hm3 hfw hm2
  go_wp2_with fail
  go_end0
  exact ⟨rfl, HE.out⟩
set_option maxRecDepth 100000 in
set_option maxHeartbeats 2000000 in
/-- it looks whether the line is what it was -/
theorem trusts_any (b m c at_ key val ver got v : Nat) (nx : Value) (ok : Bool) (ys : List Nat) (w : World) (h : Blk w b 203 (ActV m at_ key val ver nx false ok got)) (hm : MemAt w m c ys) (hne : b ≠ m ∧ b ≠ c) (hx : ys[at_]? = some v) (d : Bool) (hd : d = decide (v = ver)) :
    Calls Try.prog 133 #[.pointer (some ⟨b, 0, none⟩)] w fun e w' => e = .returned (.tuple #[]) ∧ Blk w' b 203 (ActV m at_ key val ver nx true d got) ∧ MemAt w' m c ys ∧ Fr [b, m] w w' := by
  have HD := Bx.mk hd
  clear hd
  go_enter Try.func133, Try.ntmps133
  go_wp2_with fail
-- ⟦TRUSTS
  refine region_any 100 (fun u => ∃ q, Blk u b 203 (ActV m at_ key val ver nx false q got)) (by kernel_rfl) ?_
  generalize hu : World.drew _ = u0
  have hb0 := h.drew
  have hm0 := hm.drew
  have hf0 := (Fr.refl [] w).drew
  rw [hu] at hb0 hm0 hf0
  have hS0 : (fun u => ∃ q, Blk u b 203 (ActV m at_ key val ver nx false q got)) u0 := ⟨_, hb0⟩
  clear hu
  refine any_take (i := 0) (.pointer (some ⟨b, 0, none⟩)) rfl rfl (by kernel_rfl) (by kernel_rfl) (by kernel_rfl) (by kernel_rfl) (fun _ _ d _ _ h => by cases d <;> exact h) (fun u hS => rfl) hS0 ?_
  (try simp only [Act.put]); (try simp only [List.getElem_toArray]); (try simp only [List.getElem_cons_succ]); (try simp only [List.getElem_cons_zero]); (try simp only [List.setIfInBounds_toArray]); (try simp only [List.set_cons_succ]); (try simp only [List.set_cons_zero])
  refine any_take (i := 1) (.pointer (some ⟨b, 0, none⟩)) rfl rfl (by kernel_rfl) (by kernel_rfl) (by kernel_rfl) (by kernel_rfl) (fun _ _ d _ _ h => by cases d <;> exact h) (fun u hS => rfl) hS0 ?_
  (try simp only [Act.put]); (try simp only [List.getElem_toArray]); (try simp only [List.getElem_cons_succ]); (try simp only [List.getElem_cons_zero]); (try simp only [List.setIfInBounds_toArray]); (try simp only [List.set_cons_succ]); (try simp only [List.set_cons_zero])
  refine any_take (i := 2) (.pointer (some ⟨b, 0, none⟩)) rfl rfl (by kernel_rfl) (by kernel_rfl) (by kernel_rfl) (by kernel_rfl) (fun _ _ d _ _ h => by cases d <;> exact h) (fun u hS => rfl) hS0 ?_
  (try simp only [Act.put]); (try simp only [List.getElem_toArray]); (try simp only [List.getElem_cons_succ]); (try simp only [List.getElem_cons_zero]); (try simp only [List.setIfInBounds_toArray]); (try simp only [List.set_cons_succ]); (try simp only [List.set_cons_zero])
  refine any_take (i := 3) (.pointer (some ⟨b, 0, none⟩)) rfl rfl (by kernel_rfl) (by kernel_rfl) (by kernel_rfl) (by kernel_rfl) (fun _ _ d _ _ h => by cases d <;> exact h) (fun u hS => rfl) hS0 ?_
  (try simp only [Act.put]); (try simp only [List.getElem_toArray]); (try simp only [List.getElem_cons_succ]); (try simp only [List.getElem_cons_zero]); (try simp only [List.setIfInBounds_toArray]); (try simp only [List.set_cons_succ]); (try simp only [List.set_cons_zero])
  refine any_take (i := 4) (.pointer (some ⟨m, 0, none⟩)) rfl rfl (by kernel_rfl) (by kernel_rfl) (by kernel_rfl) (by kernel_rfl) (fun _ _ d _ _ h => by cases d <;> exact h) (fun u hS => exec_ld_M rfl rfl (hS.elim fun _ h => h.cell 0)) hS0 ?_
  (try simp only [Act.put]); (try simp only [List.getElem_toArray]); (try simp only [List.getElem_cons_succ]); (try simp only [List.getElem_cons_zero]); (try simp only [List.setIfInBounds_toArray]); (try simp only [List.set_cons_succ]); (try simp only [List.set_cons_zero])
  refine any_take (i := 5) (.pointer (some ⟨b, 0, none⟩)) rfl rfl (by kernel_rfl) (by kernel_rfl) (by kernel_rfl) (by kernel_rfl) (fun _ _ d _ _ h => by cases d <;> exact h) (fun u hS => rfl) hS0 ?_
  (try simp only [Act.put]); (try simp only [List.getElem_toArray]); (try simp only [List.getElem_cons_succ]); (try simp only [List.getElem_cons_zero]); (try simp only [List.setIfInBounds_toArray]); (try simp only [List.set_cons_succ]); (try simp only [List.set_cons_zero])
  refine any_take (i := 6) (.pointer (some ⟨b, 0, none⟩)) rfl rfl (by kernel_rfl) (by kernel_rfl) (by kernel_rfl) (by kernel_rfl) (fun _ _ d _ _ h => by cases d <;> exact h) (fun u hS => rfl) hS0 ?_
  (try simp only [Act.put]); (try simp only [List.getElem_toArray]); (try simp only [List.getElem_cons_succ]); (try simp only [List.getElem_cons_zero]); (try simp only [List.setIfInBounds_toArray]); (try simp only [List.set_cons_succ]); (try simp only [List.set_cons_zero])
  refine any_take (i := 7) (.pointer (some ⟨b, 1, none⟩)) rfl rfl (by kernel_rfl) (by kernel_rfl) (by kernel_rfl) (by kernel_rfl) (fun _ _ d _ _ h => by cases d <;> exact h) (fun u hS => rfl) hS0 ?_
  (try simp only [Act.put]); (try simp only [List.getElem_toArray]); (try simp only [List.getElem_cons_succ]); (try simp only [List.getElem_cons_zero]); (try simp only [List.setIfInBounds_toArray]); (try simp only [List.set_cons_succ]); (try simp only [List.set_cons_zero])
  refine any_take (i := 8) (.int .i64 (at_ : Int)) rfl rfl (by kernel_rfl) (by kernel_rfl) (by kernel_rfl) (by kernel_rfl) (fun _ _ d _ _ h => by cases d <;> exact h) (fun u hS => exec_ld_I rfl rfl (hS.elim fun _ h => h.cell 1)) hS0 ?_
  (try simp only [Act.put]); (try simp only [List.getElem_toArray]); (try simp only [List.getElem_cons_succ]); (try simp only [List.getElem_cons_zero]); (try simp only [List.setIfInBounds_toArray]); (try simp only [List.set_cons_succ]); (try simp only [List.set_cons_zero])
  refine any_take (i := 10) (.pointer (some ⟨b, 0, none⟩)) rfl rfl (by kernel_rfl) (by kernel_rfl) (by kernel_rfl) (by kernel_rfl) (fun _ _ d _ _ h => by cases d <;> exact h) (fun u hS => rfl) hS0 ?_
  (try simp only [Act.put]); (try simp only [List.getElem_toArray]); (try simp only [List.getElem_cons_succ]); (try simp only [List.getElem_cons_zero]); (try simp only [List.setIfInBounds_toArray]); (try simp only [List.set_cons_succ]); (try simp only [List.set_cons_zero])
  refine any_take (i := 11) (.pointer (some ⟨b, 0, none⟩)) rfl rfl (by kernel_rfl) (by kernel_rfl) (by kernel_rfl) (by kernel_rfl) (fun _ _ d _ _ h => by cases d <;> exact h) (fun u hS => rfl) hS0 ?_
  (try simp only [Act.put]); (try simp only [List.getElem_toArray]); (try simp only [List.getElem_cons_succ]); (try simp only [List.getElem_cons_zero]); (try simp only [List.setIfInBounds_toArray]); (try simp only [List.set_cons_succ]); (try simp only [List.set_cons_zero])
  refine any_take (i := 12) (.pointer (some ⟨b, 4, none⟩)) rfl rfl (by kernel_rfl) (by kernel_rfl) (by kernel_rfl) (by kernel_rfl) (fun _ _ d _ _ h => by cases d <;> exact h) (fun u hS => rfl) hS0 ?_
  (try simp only [Act.put]); (try simp only [List.getElem_toArray]); (try simp only [List.getElem_cons_succ]); (try simp only [List.getElem_cons_zero]); (try simp only [List.setIfInBounds_toArray]); (try simp only [List.set_cons_succ]); (try simp only [List.set_cons_zero])
  refine any_take (i := 13) (.int .u64 (ver : Int)) rfl rfl (by kernel_rfl) (by kernel_rfl) (by kernel_rfl) (by kernel_rfl) (fun _ _ d _ _ h => by cases d <;> exact h) (fun u hS => exec_ld_W rfl rfl (hS.elim fun _ h => h.cell 4)) hS0 ?_
  (try simp only [Act.put]); (try simp only [List.getElem_toArray]); (try simp only [List.getElem_cons_succ]); (try simp only [List.getElem_cons_zero]); (try simp only [List.setIfInBounds_toArray]); (try simp only [List.set_cons_succ]); (try simp only [List.set_cons_zero])
  refine any_branch [9] (by kernel_rfl) rfl fun ix hix => ?_
  simp only [List.mem_cons, List.not_mem_nil, or_false] at hix
  subst hix
  refine any_op rfl rfl fun K hK => ?_
  go_simp
  refine (mem_load_any m c at_ v ys _ hm0 hx).mono ?_
  rintro e u1 ⟨rfl, hm1, hf1⟩
  have hb1 := hb0.fr hf1 (by simp; omega)
  have hS1 : (fun u => ∃ q, Blk u b 203 (ActV m at_ key val ver nx false q got)) u1 := ⟨_, hb1⟩
  refine hK _ _ (fun _ => hS1) ?_
  (try simp only [Act.put]); (try simp only [List.getElem_toArray]); (try simp only [List.getElem_cons_succ]); (try simp only [List.getElem_cons_zero]); (try simp only [List.setIfInBounds_toArray]); (try simp only [List.set_cons_succ]); (try simp only [List.set_cons_zero])
  clear hK
  refine any_take (i := 14) (.bool d) rfl rfl (by kernel_rfl) (by kernel_rfl) (by kernel_rfl) (by kernel_rfl) (fun _ _ d _ _ h => by cases d <;> exact h) (fun u hS => exec_eqW HD.out rfl rfl rfl) hS1 ?_
  (try simp only [Act.put]); (try simp only [List.getElem_toArray]); (try simp only [List.getElem_cons_succ]); (try simp only [List.getElem_cons_zero]); (try simp only [List.setIfInBounds_toArray]); (try simp only [List.set_cons_succ]); (try simp only [List.set_cons_zero])
  refine any_take (i := 15) (.pointer (some ⟨b, 0, none⟩)) rfl rfl (by kernel_rfl) (by kernel_rfl) (by kernel_rfl) (by kernel_rfl) (fun _ _ d _ _ h => by cases d <;> exact h) (fun u hS => rfl) hS1 ?_
  (try simp only [Act.put]); (try simp only [List.getElem_toArray]); (try simp only [List.getElem_cons_succ]); (try simp only [List.getElem_cons_zero]); (try simp only [List.setIfInBounds_toArray]); (try simp only [List.set_cons_succ]); (try simp only [List.set_cons_zero])
  refine any_take (i := 16) (.pointer (some ⟨b, 7, none⟩)) rfl rfl (by kernel_rfl) (by kernel_rfl) (by kernel_rfl) (by kernel_rfl) (fun _ _ d _ _ h => by cases d <;> exact h) (fun u hS => rfl) hS1 ?_
  (try simp only [Act.put]); (try simp only [List.getElem_toArray]); (try simp only [List.getElem_cons_succ]); (try simp only [List.getElem_cons_zero]); (try simp only [List.setIfInBounds_toArray]); (try simp only [List.set_cons_succ]); (try simp only [List.set_cons_zero])
  refine any_branch [17] (by kernel_rfl) rfl fun ix hix => ?_
  simp only [List.mem_cons, List.not_mem_nil, or_false] at hix
  subst hix
  refine any_op rfl rfl fun K hK => ?_
  have hz := hb1.frozen 7
  have hc := hb1.cell 7
  go_simp
  have hb2 : Blk (u1.setCell ⟨b, 7, none⟩ (.bool d)) b 203 (ActV m at_ key val ver nx false d got) := hb1.set_same 7 _ rfl
  have hf2 : Fr [b] u1 (u1.setCell ⟨b, 7, none⟩ (.bool d)) := (Fr.refl [b] _).setCell (fun _ => by simp) _
  have hS2 : (fun u => ∃ q, Blk u b 203 (ActV m at_ key val ver nx false q got)) (u1.setCell ⟨b, 7, none⟩ (.bool d)) := ⟨_, hb2⟩
  refine hK _ _ (fun _ => hS2) ?_
  (try simp only [Act.put]); (try simp only [List.getElem_toArray]); (try simp only [List.getElem_cons_succ]); (try simp only [List.getElem_cons_zero]); (try simp only [List.setIfInBounds_toArray]); (try simp only [List.set_cons_succ]); (try simp only [List.set_cons_zero])
  clear hK
  refine any_end (by kernel_rfl) ?_
  -- ⟧
  have hfw := (((hf0.mono (S' := [b, m]) (by simp)).trans hf1 (by simp)).trans hf2 (by simp))
  have hm2 := hm1.fr hf2 (by simp; omega) (by simp; omega)
  clear hS0 hS1 hS2 hb0 hb1 hm0 hm1 hf0 hf1 hf2 hz hc
  generalize World.setCell u1 _ _ = u2 at *
  have z6 := hb2.frozen 6
  have hb3 : Blk (u2.setCell ⟨b, 6, none⟩ (.bool true)) b 203 (ActV m at_ key val ver nx true d got) := hb2.set_same 6 _ rfl
  have hf3 : Fr [b] u2 (u2.setCell ⟨b, 6, none⟩ (.bool true)) := ((Fr.refl [b] u2).setCell (fun _ => by simp) _)
  have hm3 := hm2.fr hf3 (by simp; omega) (by simp; omega)
  have HE : Bx (_ ∧ _ ∧ _) := ⟨hb3, hm3, hfw.trans hf3 (by simp)⟩
  obtain ⟨c0, c1, c2, c3, c4, c5, c6, c7, c8⟩ := cells9 hb2
  clear hb3 hf3 hm3 hfw hm2
  go_wp2_with fail
  go_end0
  exact ⟨rfl, HE.out⟩
end Go.Proofs.Ythbifeoohphnpaa

/-
  Package cache: a line written, step by step.
-/
namespace Go.Proofs.Ythbifeoohphnpaa
set_option linter.unusedVariables false
open Go.RowKit
section
variable {a : Act} {u : World} {o : Oper} {x y : Operand}
theorem exec_or1W {m r : Nat} (hr : bits .or .u64 (m : Int) 1 = (r : Int)) (hop : o.op = .binOp .or 22 x y 22) (hx : a.eval x = .int .u64 (m : Int)) (hy : a.eval y = .int .u64 1) :
    (execOp a.eval o).run Try.prog u = .ok (.value (.int .u64 (r : Int))) u := by
  unfold execOp
  simp only [hop, hx, hy]
  go_simp
end
set_option maxRecDepth 100000 in
set_option maxHeartbeats 2000000 in
/-- it writes the key -/
theorem keys_any (b m c at_ key val ver got k : Nat) (nx : Value) (ok : Bool) (ys : List Nat) (w : World) (h : Blk w b 203 (ActV m at_ key val ver nx false ok got)) (hm : MemAt w m c ys) (hne : b ≠ m ∧ b ≠ c) (hat : at_ < 100000) (hx : ys[at_ + 1]? = some k) :
    Calls Try.prog 132 #[.pointer (some ⟨b, 0, none⟩)] w fun e w' => e = .returned (.tuple #[]) ∧ Blk w' b 203 (ActV m at_ key val ver (aFn 135 b) false ok got) ∧ MemAt w' m c (ys.set (at_ + 1) key) ∧ Fr [b, m, c] w w' := by
  obtain ⟨c0, c1, c2, c3, c4, c5, c6, c7, c8⟩ := cells9 h
  have hwi : IntKind.i64.wrap ((at_ : Int) + 1) = ((at_ + 1 : Nat) : Int) := by rw [wi64 (by omega) (by omega)]; omega
  go_enter Try.func132, Try.ntmps132
  go_wp2_with fail
  go_still_tail 13, (by kernel_rfl)
  go_wp2_with fail
  refine (mem_store_any m c (at_ + 1) k ys key _ hm.drew hx).mono ?_
  rintro e w1 ⟨rfl, hm1, hf1⟩
  have hfw : Fr [b, m, c] w w1 := ((Fr.refl [b, m, c] w).drew).trans hf1 (by simp)
  have h1 := (h.drew).fr hf1 (by simp; omega)
  have hb1 : Blk (w1.setCell ⟨b, 5, none⟩ (aFn 135 b)) b 203 (ActV m at_ key val ver (aFn 135 b) false ok got) := h1.set_same 5 _ rfl
  have hf2 : Fr [b] w1 (w1.setCell ⟨b, 5, none⟩ (aFn 135 b)) := (Fr.refl _ _).setCell (fun _ => by simp) _
  have hm2 := hm1.fr hf2 (by simp; omega) (by simp; omega)
  have HE : Bx (_ ∧ _ ∧ _) := ⟨hb1, hm2, hfw.trans hf2 (by simp)⟩
  have z5 := h1.frozen 5
  clear c0 c1 c2 c3 c4 c5 c6 c7 c8 hm1 hf1 hfw hb1 hf2 hm2
  obtain ⟨c0, c1, c2, c3, c4, c5, c6, c7, c8⟩ := cells9 h1
  go_wp2_with fail
  go_end0
  exact ⟨rfl, HE.out⟩
set_option maxRecDepth 100000 in
set_option maxHeartbeats 2000000 in
/-- it writes the value -/
theorem vals_any (b m c at_ key val ver got k : Nat) (nx : Value) (ok : Bool) (ys : List Nat) (w : World) (h : Blk w b 203 (ActV m at_ key val ver nx false ok got)) (hm : MemAt w m c ys) (hne : b ≠ m ∧ b ≠ c) (hat : at_ < 100000) (hx : ys[at_ + 2]? = some k) :
    Calls Try.prog 135 #[.pointer (some ⟨b, 0, none⟩)] w fun e w' => e = .returned (.tuple #[]) ∧ Blk w' b 203 (ActV m at_ key val ver (aFn 137 b) false ok got) ∧ MemAt w' m c (ys.set (at_ + 2) val) ∧ Fr [b, m, c] w w' := by
  obtain ⟨c0, c1, c2, c3, c4, c5, c6, c7, c8⟩ := cells9 h
  have hwi : IntKind.i64.wrap ((at_ : Int) + 2) = ((at_ + 2 : Nat) : Int) := by rw [wi64 (by omega) (by omega)]; omega
  go_enter Try.func135, Try.ntmps135
  go_wp2_with fail
  go_still_tail 13, (by kernel_rfl)
  go_wp2_with fail
  refine (mem_store_any m c (at_ + 2) k ys val _ hm.drew hx).mono ?_
  rintro e w1 ⟨rfl, hm1, hf1⟩
  have hfw : Fr [b, m, c] w w1 := ((Fr.refl [b, m, c] w).drew).trans hf1 (by simp)
  have h1 := (h.drew).fr hf1 (by simp; omega)
  have hb1 : Blk (w1.setCell ⟨b, 5, none⟩ (aFn 137 b)) b 203 (ActV m at_ key val ver (aFn 137 b) false ok got) := h1.set_same 5 _ rfl
  have hf2 : Fr [b] w1 (w1.setCell ⟨b, 5, none⟩ (aFn 137 b)) := (Fr.refl _ _).setCell (fun _ => by simp) _
  have hm2 := hm1.fr hf2 (by simp; omega) (by simp; omega)
  have HE : Bx (_ ∧ _ ∧ _) := ⟨hb1, hm2, hfw.trans hf2 (by simp)⟩
  have z5 := h1.frozen 5
  clear c0 c1 c2 c3 c4 c5 c6 c7 c8 hm1 hf1 hfw hb1 hf2 hm2
  obtain ⟨c0, c1, c2, c3, c4, c5, c6, c7, c8⟩ := cells9 h1
  go_wp2_with fail
  go_end0
  exact ⟨rfl, HE.out⟩
set_option maxRecDepth 100000 in
set_option maxHeartbeats 2000000 in
/-- it lets the line be free -/
theorem again_any (b m c at_ key val ver got k r r2 : Nat) (nx : Value) (ok : Bool) (ys : List Nat) (w : World) (h : Blk w b 203 (ActV m at_ key val ver nx false ok got)) (hm : MemAt w m c ys) (hne : b ≠ m ∧ b ≠ c) (hx : ys[at_]? = some k) (hr : bits .or .u64 (ver : Int) 2 = (r : Int)) (hr2 : IntKind.u64.wrap ((r : Int) + 4) = (r2 : Int)) :
    Calls Try.prog 137 #[.pointer (some ⟨b, 0, none⟩)] w fun e w' => e = .returned (.tuple #[]) ∧ Blk w' b 203 (ActV m at_ key val ver nx true ok got) ∧ MemAt w' m c (ys.set at_ r2) ∧ Fr [b, m, c] w w' := by
  obtain ⟨c0, c1, c2, c3, c4, c5, c6, c7, c8⟩ := cells9 h
  go_enter Try.func137, Try.ntmps137
  go_wp2_with fail
  go_still_tail 14, (by kernel_rfl)
  go_wp2_with fail
  refine (mem_store_any m c at_ k ys r2 _ hm.drew hx).mono ?_
  rintro e w1 ⟨rfl, hm1, hf1⟩
  have hfw : Fr [b, m, c] w w1 := ((Fr.refl [b, m, c] w).drew).trans hf1 (by simp)
  have h1 := (h.drew).fr hf1 (by simp; omega)
  have hb1 : Blk (w1.setCell ⟨b, 6, none⟩ (.bool true)) b 203 (ActV m at_ key val ver nx true ok got) := h1.set_same 6 _ rfl
  have hf2 : Fr [b] w1 (w1.setCell ⟨b, 6, none⟩ (.bool true)) := (Fr.refl _ _).setCell (fun _ => by simp) _
  have hm2 := hm1.fr hf2 (by simp; omega) (by simp; omega)
  have HE : Bx (_ ∧ _ ∧ _) := ⟨hb1, hm2, hfw.trans hf2 (by simp)⟩
  have z6 := h1.frozen 6
  clear c0 c1 c2 c3 c4 c5 c6 c7 c8 hm1 hf1 hfw hb1 hf2 hm2
  obtain ⟨c0, c1, c2, c3, c4, c5, c6, c7, c8⟩ := cells9 h1
  go_wp2_with fail
  go_end0
  exact ⟨rfl, HE.out⟩
set_option maxRecDepth 100000 in
set_option maxHeartbeats 2000000 in
/-- it locks the line -/
theorem locks_any (b m c at_ key val ver got r : Nat) (nx : Value) (ok : Bool) (ys : List Nat) (w : World) (h : Blk w b 203 (ActV m at_ key val ver nx false ok got)) (hm : MemAt w m c ys) (hne : b ≠ m ∧ b ≠ c) (hx : ys[at_]? = some ver) (hr : bits .or .u64 (ver : Int) 1 = (r : Int)) :
    Calls Try.prog 130 #[.pointer (some ⟨b, 0, none⟩)] w fun e w' => e = .returned (.tuple #[]) ∧ Blk w' b 203 (ActV m at_ key val ver (aFn 132 b) false ok got) ∧ MemAt w' m c (ys.set at_ r) ∧ Fr [b, m, c] w w' := by
  have h5 : Blk (w.setCell ⟨b, 5, none⟩ (aFn 132 b)) b 203 (ActV m at_ key val ver (aFn 132 b) false ok got) := h.set_same 5 _ rfl
  have hf5 : Fr [b] w (w.setCell ⟨b, 5, none⟩ (aFn 132 b)) := (Fr.refl _ _).setCell (fun _ => by simp) _
  have hm5 := hm.fr hf5 (by simp; omega) (by simp; omega)
  obtain ⟨c0, c1, c2, c3, c4, c5, c6, c7, c8⟩ := cells9 h
  have z5 := h.frozen 5
  have HR := Bx.mk hr
  clear hr
  go_enter Try.func130, Try.ntmps130
  go_wp2_with fail
  generalize w.setCell ⟨b, 5, none⟩ (aFn 132 b) = w5 at *
  clear c0 c1 c2 c3 c4 c5 c6 c7 c8 z5 h hm
  obtain ⟨nx2, hnx⟩ : ∃ nx2, Bx (nx2 = aFn 132 b) := ⟨_, ⟨rfl⟩⟩
  rw [← hnx.out] at h5
  have h := h5
  have hm := hm5
-- ⟦LOCKS
  refine region_any 100 (fun u => ∃ q, Blk u b 203 (ActV m at_ key val ver nx2 q ok got)) (by kernel_rfl) ?_
  generalize hu : World.drew _ = u0
  have hb0 := h.drew
  have hm0 := hm.drew
  have hf0 := (Fr.refl [] w5).drew
  rw [hu] at hb0 hm0 hf0
  have hS0 : (fun u => ∃ q, Blk u b 203 (ActV m at_ key val ver nx2 q ok got)) u0 := ⟨_, hb0⟩
  clear hu
  refine any_take (i := 0) (.pointer (some ⟨b, 0, none⟩)) rfl rfl (by kernel_rfl) (by kernel_rfl) (by kernel_rfl) (by kernel_rfl) (fun _ _ d _ _ h => by cases d <;> exact h) (fun u hS => rfl) hS0 ?_
  (try simp only [Act.put]); (try simp only [List.getElem_toArray]); (try simp only [List.getElem_cons_succ]); (try simp only [List.getElem_cons_zero]); (try simp only [List.setIfInBounds_toArray]); (try simp only [List.set_cons_succ]); (try simp only [List.set_cons_zero])
  refine any_take (i := 1) (.pointer (some ⟨b, 0, none⟩)) rfl rfl (by kernel_rfl) (by kernel_rfl) (by kernel_rfl) (by kernel_rfl) (fun _ _ d _ _ h => by cases d <;> exact h) (fun u hS => rfl) hS0 ?_
  (try simp only [Act.put]); (try simp only [List.getElem_toArray]); (try simp only [List.getElem_cons_succ]); (try simp only [List.getElem_cons_zero]); (try simp only [List.setIfInBounds_toArray]); (try simp only [List.set_cons_succ]); (try simp only [List.set_cons_zero])
  refine any_take (i := 2) (.pointer (some ⟨b, 0, none⟩)) rfl rfl (by kernel_rfl) (by kernel_rfl) (by kernel_rfl) (by kernel_rfl) (fun _ _ d _ _ h => by cases d <;> exact h) (fun u hS => rfl) hS0 ?_
  (try simp only [Act.put]); (try simp only [List.getElem_toArray]); (try simp only [List.getElem_cons_succ]); (try simp only [List.getElem_cons_zero]); (try simp only [List.setIfInBounds_toArray]); (try simp only [List.set_cons_succ]); (try simp only [List.set_cons_zero])
  refine any_take (i := 3) (.pointer (some ⟨b, 0, none⟩)) rfl rfl (by kernel_rfl) (by kernel_rfl) (by kernel_rfl) (by kernel_rfl) (fun _ _ d _ _ h => by cases d <;> exact h) (fun u hS => rfl) hS0 ?_
  (try simp only [Act.put]); (try simp only [List.getElem_toArray]); (try simp only [List.getElem_cons_succ]); (try simp only [List.getElem_cons_zero]); (try simp only [List.setIfInBounds_toArray]); (try simp only [List.set_cons_succ]); (try simp only [List.set_cons_zero])
  refine any_take (i := 4) (.pointer (some ⟨m, 0, none⟩)) rfl rfl (by kernel_rfl) (by kernel_rfl) (by kernel_rfl) (by kernel_rfl) (fun _ _ d _ _ h => by cases d <;> exact h) (fun u hS => exec_ld_M rfl rfl (hS.elim fun _ h => h.cell 0)) hS0 ?_
  (try simp only [Act.put]); (try simp only [List.getElem_toArray]); (try simp only [List.getElem_cons_succ]); (try simp only [List.getElem_cons_zero]); (try simp only [List.setIfInBounds_toArray]); (try simp only [List.set_cons_succ]); (try simp only [List.set_cons_zero])
  refine any_take (i := 5) (.pointer (some ⟨b, 0, none⟩)) rfl rfl (by kernel_rfl) (by kernel_rfl) (by kernel_rfl) (by kernel_rfl) (fun _ _ d _ _ h => by cases d <;> exact h) (fun u hS => rfl) hS0 ?_
  (try simp only [Act.put]); (try simp only [List.getElem_toArray]); (try simp only [List.getElem_cons_succ]); (try simp only [List.getElem_cons_zero]); (try simp only [List.setIfInBounds_toArray]); (try simp only [List.set_cons_succ]); (try simp only [List.set_cons_zero])
  refine any_take (i := 6) (.pointer (some ⟨b, 0, none⟩)) rfl rfl (by kernel_rfl) (by kernel_rfl) (by kernel_rfl) (by kernel_rfl) (fun _ _ d _ _ h => by cases d <;> exact h) (fun u hS => rfl) hS0 ?_
  (try simp only [Act.put]); (try simp only [List.getElem_toArray]); (try simp only [List.getElem_cons_succ]); (try simp only [List.getElem_cons_zero]); (try simp only [List.setIfInBounds_toArray]); (try simp only [List.set_cons_succ]); (try simp only [List.set_cons_zero])
  refine any_take (i := 7) (.pointer (some ⟨b, 1, none⟩)) rfl rfl (by kernel_rfl) (by kernel_rfl) (by kernel_rfl) (by kernel_rfl) (fun _ _ d _ _ h => by cases d <;> exact h) (fun u hS => rfl) hS0 ?_
  (try simp only [Act.put]); (try simp only [List.getElem_toArray]); (try simp only [List.getElem_cons_succ]); (try simp only [List.getElem_cons_zero]); (try simp only [List.setIfInBounds_toArray]); (try simp only [List.set_cons_succ]); (try simp only [List.set_cons_zero])
  refine any_take (i := 8) (.int .i64 (at_ : Int)) rfl rfl (by kernel_rfl) (by kernel_rfl) (by kernel_rfl) (by kernel_rfl) (fun _ _ d _ _ h => by cases d <;> exact h) (fun u hS => exec_ld_I rfl rfl (hS.elim fun _ h => h.cell 1)) hS0 ?_
  (try simp only [Act.put]); (try simp only [List.getElem_toArray]); (try simp only [List.getElem_cons_succ]); (try simp only [List.getElem_cons_zero]); (try simp only [List.setIfInBounds_toArray]); (try simp only [List.set_cons_succ]); (try simp only [List.set_cons_zero])
  refine any_take (i := 9) (.pointer (some ⟨b, 0, none⟩)) rfl rfl (by kernel_rfl) (by kernel_rfl) (by kernel_rfl) (by kernel_rfl) (fun _ _ d _ _ h => by cases d <;> exact h) (fun u hS => rfl) hS0 ?_
  (try simp only [Act.put]); (try simp only [List.getElem_toArray]); (try simp only [List.getElem_cons_succ]); (try simp only [List.getElem_cons_zero]); (try simp only [List.setIfInBounds_toArray]); (try simp only [List.set_cons_succ]); (try simp only [List.set_cons_zero])
  refine any_take (i := 10) (.pointer (some ⟨b, 0, none⟩)) rfl rfl (by kernel_rfl) (by kernel_rfl) (by kernel_rfl) (by kernel_rfl) (fun _ _ d _ _ h => by cases d <;> exact h) (fun u hS => rfl) hS0 ?_
  (try simp only [Act.put]); (try simp only [List.getElem_toArray]); (try simp only [List.getElem_cons_succ]); (try simp only [List.getElem_cons_zero]); (try simp only [List.setIfInBounds_toArray]); (try simp only [List.set_cons_succ]); (try simp only [List.set_cons_zero])
  refine any_take (i := 11) (.pointer (some ⟨b, 4, none⟩)) rfl rfl (by kernel_rfl) (by kernel_rfl) (by kernel_rfl) (by kernel_rfl) (fun _ _ d _ _ h => by cases d <;> exact h) (fun u hS => rfl) hS0 ?_
  (try simp only [Act.put]); (try simp only [List.getElem_toArray]); (try simp only [List.getElem_cons_succ]); (try simp only [List.getElem_cons_zero]); (try simp only [List.setIfInBounds_toArray]); (try simp only [List.set_cons_succ]); (try simp only [List.set_cons_zero])
  refine any_take (i := 12) (.int .u64 (ver : Int)) rfl rfl (by kernel_rfl) (by kernel_rfl) (by kernel_rfl) (by kernel_rfl) (fun _ _ d _ _ h => by cases d <;> exact h) (fun u hS => exec_ld_W rfl rfl (hS.elim fun _ h => h.cell 4)) hS0 ?_
  (try simp only [Act.put]); (try simp only [List.getElem_toArray]); (try simp only [List.getElem_cons_succ]); (try simp only [List.getElem_cons_zero]); (try simp only [List.setIfInBounds_toArray]); (try simp only [List.set_cons_succ]); (try simp only [List.set_cons_zero])
  refine any_take (i := 13) (.pointer (some ⟨b, 0, none⟩)) rfl rfl (by kernel_rfl) (by kernel_rfl) (by kernel_rfl) (by kernel_rfl) (fun _ _ d _ _ h => by cases d <;> exact h) (fun u hS => rfl) hS0 ?_
  (try simp only [Act.put]); (try simp only [List.getElem_toArray]); (try simp only [List.getElem_cons_succ]); (try simp only [List.getElem_cons_zero]); (try simp only [List.setIfInBounds_toArray]); (try simp only [List.set_cons_succ]); (try simp only [List.set_cons_zero])
  refine any_take (i := 14) (.pointer (some ⟨b, 0, none⟩)) rfl rfl (by kernel_rfl) (by kernel_rfl) (by kernel_rfl) (by kernel_rfl) (fun _ _ d _ _ h => by cases d <;> exact h) (fun u hS => rfl) hS0 ?_
  (try simp only [Act.put]); (try simp only [List.getElem_toArray]); (try simp only [List.getElem_cons_succ]); (try simp only [List.getElem_cons_zero]); (try simp only [List.setIfInBounds_toArray]); (try simp only [List.set_cons_succ]); (try simp only [List.set_cons_zero])
  refine any_take (i := 15) (.pointer (some ⟨b, 4, none⟩)) rfl rfl (by kernel_rfl) (by kernel_rfl) (by kernel_rfl) (by kernel_rfl) (fun _ _ d _ _ h => by cases d <;> exact h) (fun u hS => rfl) hS0 ?_
  (try simp only [Act.put]); (try simp only [List.getElem_toArray]); (try simp only [List.getElem_cons_succ]); (try simp only [List.getElem_cons_zero]); (try simp only [List.setIfInBounds_toArray]); (try simp only [List.set_cons_succ]); (try simp only [List.set_cons_zero])
  refine any_take (i := 16) (.int .u64 (ver : Int)) rfl rfl (by kernel_rfl) (by kernel_rfl) (by kernel_rfl) (by kernel_rfl) (fun _ _ d _ _ h => by cases d <;> exact h) (fun u hS => exec_ld_W rfl rfl (hS.elim fun _ h => h.cell 4)) hS0 ?_
  (try simp only [Act.put]); (try simp only [List.getElem_toArray]); (try simp only [List.getElem_cons_succ]); (try simp only [List.getElem_cons_zero]); (try simp only [List.setIfInBounds_toArray]); (try simp only [List.set_cons_succ]); (try simp only [List.set_cons_zero])
  refine any_take (i := 17) (.int .u64 (r : Int)) rfl rfl (by kernel_rfl) (by kernel_rfl) (by kernel_rfl) (by kernel_rfl) (fun _ _ d _ _ h => by cases d <;> exact h) (fun u hS => exec_or1W HR.out rfl rfl rfl) hS0 ?_
  (try simp only [Act.put]); (try simp only [List.getElem_toArray]); (try simp only [List.getElem_cons_succ]); (try simp only [List.getElem_cons_zero]); (try simp only [List.setIfInBounds_toArray]); (try simp only [List.set_cons_succ]); (try simp only [List.set_cons_zero])
  refine any_branch [18] (by kernel_rfl) rfl fun ix hix => ?_
  simp only [List.mem_cons, List.not_mem_nil, or_false] at hix
  subst hix
  refine any_op rfl rfl fun K hK => ?_
  go_simp
  refine (mem_cas_any m c at_ ver ys r _ hm0 hx).mono ?_
  rintro e u1 ⟨rfl, hm1, hf1⟩
  have hb1 := hb0.fr hf1 (by simp; omega)
  have hS1 : (fun u => ∃ q, Blk u b 203 (ActV m at_ key val ver nx2 q ok got)) u1 := ⟨_, hb1⟩
  refine hK _ _ (fun _ => hS1) ?_
  (try simp only [Act.put]); (try simp only [List.getElem_toArray]); (try simp only [List.getElem_cons_succ]); (try simp only [List.getElem_cons_zero]); (try simp only [List.setIfInBounds_toArray]); (try simp only [List.set_cons_succ]); (try simp only [List.set_cons_zero])
  clear hK
  refine any_take (i := 19) (.bool false) rfl rfl (by kernel_rfl) (by kernel_rfl) (by kernel_rfl) (by kernel_rfl) (fun _ _ d _ _ h => by cases d <;> exact h) (fun u hS => rfl) hS1 ?_
  (try simp only [Act.put]); (try simp only [List.getElem_toArray]); (try simp only [List.getElem_cons_succ]); (try simp only [List.getElem_cons_zero]); (try simp only [List.setIfInBounds_toArray]); (try simp only [List.set_cons_succ]); (try simp only [List.set_cons_zero])
  refine any_take (i := 20) (.pointer (some ⟨b, 0, none⟩)) rfl rfl (by kernel_rfl) (by kernel_rfl) (by kernel_rfl) (by kernel_rfl) (fun _ _ d _ _ h => by cases d <;> exact h) (fun u hS => rfl) hS1 ?_
  (try simp only [Act.put]); (try simp only [List.getElem_toArray]); (try simp only [List.getElem_cons_succ]); (try simp only [List.getElem_cons_zero]); (try simp only [List.setIfInBounds_toArray]); (try simp only [List.set_cons_succ]); (try simp only [List.set_cons_zero])
  refine any_take (i := 21) (.pointer (some ⟨b, 6, none⟩)) rfl rfl (by kernel_rfl) (by kernel_rfl) (by kernel_rfl) (by kernel_rfl) (fun _ _ d _ _ h => by cases d <;> exact h) (fun u hS => rfl) hS1 ?_
  (try simp only [Act.put]); (try simp only [List.getElem_toArray]); (try simp only [List.getElem_cons_succ]); (try simp only [List.getElem_cons_zero]); (try simp only [List.setIfInBounds_toArray]); (try simp only [List.set_cons_succ]); (try simp only [List.set_cons_zero])
  refine any_branch [22] (by kernel_rfl) rfl fun ix hix => ?_
  simp only [List.mem_cons, List.not_mem_nil, or_false] at hix
  subst hix
  refine any_op rfl rfl fun K hK => ?_
  have hz := hb1.frozen 6
  have hc := hb1.cell 6
  go_simp
  have hb2 : Blk (u1.setCell ⟨b, 6, none⟩ (.bool false)) b 203 (ActV m at_ key val ver nx2 false ok got) := hb1.set_same 6 _ rfl
  have hf2 : Fr [b] u1 (u1.setCell ⟨b, 6, none⟩ (.bool false)) := (Fr.refl [b] _).setCell (fun _ => by simp) _
  have hS2 : (fun u => ∃ q, Blk u b 203 (ActV m at_ key val ver nx2 q ok got)) (u1.setCell ⟨b, 6, none⟩ (.bool false)) := ⟨_, hb2⟩
  refine hK _ _ (fun _ => hS2) ?_
  (try simp only [Act.put]); (try simp only [List.getElem_toArray]); (try simp only [List.getElem_cons_succ]); (try simp only [List.getElem_cons_zero]); (try simp only [List.setIfInBounds_toArray]); (try simp only [List.set_cons_succ]); (try simp only [List.set_cons_zero])
  clear hK
  refine any_end (by kernel_rfl) ?_
  -- ⟧
  have hfw := ((hf5.mono (S' := [b, m, c]) (by simp)).trans ((hf0.mono (S' := [b, m, c]) (by simp)).trans hf1 (by simp)) (by simp)).trans hf2 (by simp)
  have hm2 := hm1.fr hf2 (by simp; omega) (by simp; omega)
  go_wp2_with fail
  go_end0
  rw [hnx.out] at hb2
  exact ⟨rfl, hb2, hm2, hfw⟩
end Go.Proofs.Ythbifeoohphnpaa

/-
  Package cache: a Get, a Put made; one step; what was got.
-/
namespace Go.Proofs.Ythbifeoohphnpaa
set_option linter.unusedVariables false
open Go.RowKit
abbrev CacV (m : Nat) : Array Value := #[.pointer (some ⟨m, 0, none⟩), .int .i64 0, .int .i64 256]
section
variable {a : Act} {u : World} {o : Oper} {x0 x1 x2 x3 : Operand}
theorem exec_bldG {m key at_ : Nat} (hop : o.op = .build 203 #[(0, x0), (1, x1), (2, x2)]) (h0 : a.eval x0 = .pointer (some ⟨m, 0, none⟩)) (h1 : a.eval x1 = .int .i64 (at_ : Int)) (h2 : a.eval x2 = .int .u64 (key : Int)) :
    (execOp a.eval o).run Try.prog u = .ok (.value (.agg (ActV m at_ key 0 0 .nilFunc false false 0))) u := by
  unfold execOp
  simp only [hop, List.map_toArray, List.map_cons, List.map_nil, h0, h1, h2]
  go_simp
theorem exec_bldP {m key at_ val : Nat} (hop : o.op = .build 203 #[(0, x0), (1, x1), (2, x2), (3, x3)]) (h0 : a.eval x0 = .pointer (some ⟨m, 0, none⟩)) (h1 : a.eval x1 = .int .i64 (at_ : Int)) (h2 : a.eval x2 = .int .u64 (key : Int)) (h3 : a.eval x3 = .int .u64 (val : Int)) :
    (execOp a.eval o).run Try.prog u = .ok (.value (.agg (ActV m at_ key val 0 .nilFunc false false 0))) u := by
  unfold execOp
  simp only [hop, List.map_toArray, List.map_cons, List.map_nil, h0, h1, h2, h3]
  go_simp
end
/-- a key's line -/
def Ca.line (key : Nat) : Nat := 3 * Ut.home key 256
theorem Ca.line_lt (key : Nat) : Ca.line key + 2 < 768 := by have := Ut.home_lt (x := key) (show 0 < 256 by omega); unfold Ca.line; omega
set_option maxRecDepth 100000 in
set_option maxHeartbeats 1000000 in
theorem line_any (ca m key : Nat) (w : World) (h : Blk w ca 128 (CacV m)) (hk : key < 18446744073709551616) :
    Calls Try.prog 126 #[.pointer (some ⟨ca, 0, none⟩), .int .u64 (key : Int)] w fun e w' => e = .returned (.int .i64 (Ca.line key : Int)) ∧ ∃ n, w' = w.drewN n := by
  obtain ⟨c0, c1, c2⟩ := cells3 h
  have HH := Bx.mk fun u => home_nat key 256 u hk (by omega) (by omega)
  have hh := Ut.home_lt (x := key) (show 0 < 256 by omega)
  have HL : Bx (3 * (Ut.home key 256 : Int) = (Ca.line key : Int)) := ⟨by unfold Ca.line; omega⟩
  have hl := Ca.line_lt key
  clear hk
  generalize Ut.home key 256 = h0 at *
  generalize Ca.line key = ln at *
  go_enter Try.func126, Try.ntmps126
  go_wp2_with fail
  refine wp_region_still_tail 12 (by kernel_rfl) (by kernel_rfl) ?_
  simp only [List.take_succ_cons, List.take_zero, List.drop_succ_cons, List.drop_zero]
  repeat still_step
  still_call (HH.out _)
  have hw1 : IntKind.i64.wrap (3 * (h0 : Int)) = (ln : Int) := by rw [wi64 (by omega) (by omega)]; exact HL.out
  have hw2 : IntKind.i64.wrap (ln : Int) = (ln : Int) := wi64 (by omega) (by omega)
  repeat still_step
  refine wpStill_nil ?_
  clear hw1 hw2
  go_wp2_with fail
  go_ret
  exact ⟨rfl, 1, rfl⟩
set_option maxRecDepth 100000 in
set_option maxHeartbeats 2000000 in
theorem get_any (ca m key : Nat) (w : World) (h : Blk w ca 128 (CacV m)) (hk : key < 18446744073709551616) :
    Calls Try.prog 120 #[.pointer (some ⟨ca, 0, none⟩), .int .u64 (key : Int)] w fun e w' => e = .returned (.pointer (some ⟨w.heap.size, 0, none⟩)) ∧ Blk w' w.heap.size 203 (ActV m (Ca.line key) key 0 0 (aFn 127 w.heap.size) false false 0) ∧ Fr [] w w' ∧ w.heap.size < w'.heap.size := by
  go_enter Try.func120, Try.ntmps120
  go_wp2_with fail
-- ⟦GET
  refine region_any 100 (fun u => Blk u ca 128 (CacV m)) (by kernel_rfl) ?_
  generalize hu : World.drew _ = u0
  have hS0 : Blk u0 ca 128 (CacV m) := by rw [← hu]; exact h.drew
  refine any_take (i := 0) (.pointer (some ⟨ca, 0, none⟩)) rfl rfl (by kernel_rfl) (by kernel_rfl) (by kernel_rfl) (by kernel_rfl) (fun _ _ d _ _ h => by cases d <;> exact h) (fun u hS => rfl) hS0 ?_
  (try simp only [Act.put]); (try simp only [List.getElem_toArray]); (try simp only [List.getElem_cons_succ]); (try simp only [List.getElem_cons_zero]); (try simp only [List.setIfInBounds_toArray]); (try simp only [List.set_cons_succ]); (try simp only [List.set_cons_zero])
  refine any_take (i := 1) (.pointer (some ⟨ca, 0, none⟩)) rfl rfl (by kernel_rfl) (by kernel_rfl) (by kernel_rfl) (by kernel_rfl) (fun _ _ d _ _ h => by cases d <;> exact h) (fun u hS => rfl) hS0 ?_
  (try simp only [Act.put]); (try simp only [List.getElem_toArray]); (try simp only [List.getElem_cons_succ]); (try simp only [List.getElem_cons_zero]); (try simp only [List.setIfInBounds_toArray]); (try simp only [List.set_cons_succ]); (try simp only [List.set_cons_zero])
  refine any_take (i := 2) (.pointer (some ⟨ca, 0, none⟩)) rfl rfl (by kernel_rfl) (by kernel_rfl) (by kernel_rfl) (by kernel_rfl) (fun _ _ d _ _ h => by cases d <;> exact h) (fun u hS => rfl) hS0 ?_
  (try simp only [Act.put]); (try simp only [List.getElem_toArray]); (try simp only [List.getElem_cons_succ]); (try simp only [List.getElem_cons_zero]); (try simp only [List.setIfInBounds_toArray]); (try simp only [List.set_cons_succ]); (try simp only [List.set_cons_zero])
  refine any_take (i := 3) (.pointer (some ⟨m, 0, none⟩)) rfl rfl (by kernel_rfl) (by kernel_rfl) (by kernel_rfl) (by kernel_rfl) (fun _ _ d _ _ h => by cases d <;> exact h) (fun u hS => exec_ld_M rfl rfl (hS.cell 0)) hS0 ?_
  (try simp only [Act.put]); (try simp only [List.getElem_toArray]); (try simp only [List.getElem_cons_succ]); (try simp only [List.getElem_cons_zero]); (try simp only [List.setIfInBounds_toArray]); (try simp only [List.set_cons_succ]); (try simp only [List.set_cons_zero])
  refine any_take (i := 4) (.pointer (some ⟨ca, 0, none⟩)) rfl rfl (by kernel_rfl) (by kernel_rfl) (by kernel_rfl) (by kernel_rfl) (fun _ _ d _ _ h => by cases d <;> exact h) (fun u hS => rfl) hS0 ?_
  (try simp only [Act.put]); (try simp only [List.getElem_toArray]); (try simp only [List.getElem_cons_succ]); (try simp only [List.getElem_cons_zero]); (try simp only [List.setIfInBounds_toArray]); (try simp only [List.set_cons_succ]); (try simp only [List.set_cons_zero])
  refine any_take (i := 5) (.int .u64 (key : Int)) rfl rfl (by kernel_rfl) (by kernel_rfl) (by kernel_rfl) (by kernel_rfl) (fun _ _ d _ _ h => by cases d <;> exact h) (fun u hS => rfl) hS0 ?_
  (try simp only [Act.put]); (try simp only [List.getElem_toArray]); (try simp only [List.getElem_cons_succ]); (try simp only [List.getElem_cons_zero]); (try simp only [List.setIfInBounds_toArray]); (try simp only [List.set_cons_succ]); (try simp only [List.set_cons_zero])
  refine any_take (i := 7) (.int .u64 (key : Int)) rfl rfl (by kernel_rfl) (by kernel_rfl) (by kernel_rfl) (by kernel_rfl) (fun _ _ d _ _ h => by cases d <;> exact h) (fun u hS => rfl) hS0 ?_
  (try simp only [Act.put]); (try simp only [List.getElem_toArray]); (try simp only [List.getElem_cons_succ]); (try simp only [List.getElem_cons_zero]); (try simp only [List.setIfInBounds_toArray]); (try simp only [List.set_cons_succ]); (try simp only [List.set_cons_zero])
  refine any_branch [6] (by kernel_rfl) rfl fun ix hix => ?_
  simp only [List.mem_cons, List.not_mem_nil, or_false] at hix
  subst hix
  refine any_op rfl rfl fun K hK => ?_
  go_simp
  refine (line_any ca m key _ hS0 hk).mono ?_
  rintro e u1 ⟨rfl, nq, rfl⟩
  have hS1 := hS0.drewN nq
  refine hK _ _ (fun _ => hS1) ?_
  (try simp only [Act.put]); (try simp only [List.getElem_toArray]); (try simp only [List.getElem_cons_succ]); (try simp only [List.getElem_cons_zero]); (try simp only [List.setIfInBounds_toArray]); (try simp only [List.set_cons_succ]); (try simp only [List.set_cons_zero])
  clear hK
  refine any_take (i := 8) (.agg (ActV m (Ca.line key) key 0 0 .nilFunc false false 0)) rfl rfl (by kernel_rfl) (by kernel_rfl) (by kernel_rfl) (by kernel_rfl) (fun _ _ d _ _ h => by cases d <;> exact h) (fun u hS => exec_bldG rfl rfl rfl rfl) hS1 ?_
  (try simp only [Act.put]); (try simp only [List.getElem_toArray]); (try simp only [List.getElem_cons_succ]); (try simp only [List.getElem_cons_zero]); (try simp only [List.setIfInBounds_toArray]); (try simp only [List.set_cons_succ]); (try simp only [List.set_cons_zero])
  refine any_branch [9] (by kernel_rfl) rfl fun ix hix => ?_
  simp only [List.mem_cons, List.not_mem_nil, or_false] at hix
  subst hix
  refine any_op rfl rfl fun K hK => ?_
  go_simp
  have hS2 := hS1.alloc (.cells (ActV m (Ca.line key) key 0 0 .nilFunc false false 0) 203)
  refine hK _ _ (fun _ => hS2) ?_
  (try simp only [Act.put]); (try simp only [List.getElem_toArray]); (try simp only [List.getElem_cons_succ]); (try simp only [List.getElem_cons_zero]); (try simp only [List.setIfInBounds_toArray]); (try simp only [List.set_cons_succ]); (try simp only [List.set_cons_zero])
  clear hK
  refine any_take (i := 10) (.pointer (some ⟨u0.heap.size, 0, none⟩)) rfl rfl (by kernel_rfl) (by kernel_rfl) (by kernel_rfl) (by kernel_rfl) (fun _ _ d _ _ h => by cases d <;> exact h) (fun u hS => rfl) hS2 ?_
  (try simp only [Act.put]); (try simp only [List.getElem_toArray]); (try simp only [List.getElem_cons_succ]); (try simp only [List.getElem_cons_zero]); (try simp only [List.setIfInBounds_toArray]); (try simp only [List.set_cons_succ]); (try simp only [List.set_cons_zero])
  refine any_end (by kernel_rfl) ?_
  -- ⟧
  have hzz : u0.heap.size = w.heap.size := by rw [← hu]; rfl
  have hB := Blk.new (u0.drewN nq) 203 (ActV m (Ca.line key) key 0 0 .nilFunc false false 0)
  have hf1 : Fr [] w ((u0.drewN nq).alloc (.cells (ActV m (Ca.line key) key 0 0 .nilFunc false false 0) 203)) := by rw [← hu]; exact (((Fr.refl [] w).drew).drewN nq).alloc _
  have hlt : w.heap.size < ((u0.drewN nq).alloc (.cells (ActV m (Ca.line key) key 0 0 .nilFunc false false 0) 203)).heap.size := by rw [← hu]; simp
  rw [show (u0.drewN nq).heap.size = u0.heap.size from rfl] at hB
  clear hS0 hS1 hS2 hu
  generalize World.alloc (u0.drewN nq) _ = u2 at *
  generalize u0.heap.size = b at *
  have z5 := hB.frozen 5
  have hb5 : Blk (u2.setCell ⟨b, 5, none⟩ (aFn 127 b)) b 203 (ActV m (Ca.line key) key 0 0 (aFn 127 b) false false 0) := hB.set_same 5 _ rfl
  have hf5 := hf1.setCell (p := ⟨b, 5, none⟩) (fun h => absurd h (by rw [hzz]; exact Nat.lt_irrefl _)) (aFn 127 b)
  obtain ⟨c0, c1, c2, c3, c4, c5, c6, c7, c8⟩ := cells9 hB
  have HE : Bx (_ ∧ _ ∧ _) := ⟨hb5, hf5, show w.heap.size < (u2.setCell ⟨b, 5, none⟩ (aFn 127 b)).heap.size by simp [World.setCell]; exact hlt⟩
  have HZ := Bx.mk hzz
  clear hb5 hf5 hf1 hlt hB hzz
  go_wp2_with fail
  go_ret
  obtain rfl := HZ.out
  exact ⟨rfl, HE.out.1, HE.out.2.1, by simpa [World.setCell] using HE.out.2.2⟩
set_option maxRecDepth 100000 in
set_option maxHeartbeats 2000000 in
theorem put_any (ca m key val : Nat) (w : World) (h : Blk w ca 128 (CacV m)) (hk : key < 18446744073709551616) :
    Calls Try.prog 125 #[.pointer (some ⟨ca, 0, none⟩), .int .u64 (key : Int), .int .u64 (val : Int)] w fun e w' => e = .returned (.pointer (some ⟨w.heap.size, 0, none⟩)) ∧ Blk w' w.heap.size 203 (ActV m (Ca.line key) key val 0 (aFn 128 w.heap.size) false false 0) ∧ Fr [] w w' ∧ w.heap.size < w'.heap.size := by
  go_enter Try.func125, Try.ntmps125
  go_wp2_with fail
-- ⟦PUT
  refine region_any 100 (fun u => Blk u ca 128 (CacV m)) (by kernel_rfl) ?_
  generalize hu : World.drew _ = u0
  have hS0 : Blk u0 ca 128 (CacV m) := by rw [← hu]; exact h.drew
  refine any_take (i := 0) (.pointer (some ⟨ca, 0, none⟩)) rfl rfl (by kernel_rfl) (by kernel_rfl) (by kernel_rfl) (by kernel_rfl) (fun _ _ d _ _ h => by cases d <;> exact h) (fun u hS => rfl) hS0 ?_
  (try simp only [Act.put]); (try simp only [List.getElem_toArray]); (try simp only [List.getElem_cons_succ]); (try simp only [List.getElem_cons_zero]); (try simp only [List.setIfInBounds_toArray]); (try simp only [List.set_cons_succ]); (try simp only [List.set_cons_zero])
  refine any_take (i := 1) (.pointer (some ⟨ca, 0, none⟩)) rfl rfl (by kernel_rfl) (by kernel_rfl) (by kernel_rfl) (by kernel_rfl) (fun _ _ d _ _ h => by cases d <;> exact h) (fun u hS => rfl) hS0 ?_
  (try simp only [Act.put]); (try simp only [List.getElem_toArray]); (try simp only [List.getElem_cons_succ]); (try simp only [List.getElem_cons_zero]); (try simp only [List.setIfInBounds_toArray]); (try simp only [List.set_cons_succ]); (try simp only [List.set_cons_zero])
  refine any_take (i := 2) (.pointer (some ⟨ca, 0, none⟩)) rfl rfl (by kernel_rfl) (by kernel_rfl) (by kernel_rfl) (by kernel_rfl) (fun _ _ d _ _ h => by cases d <;> exact h) (fun u hS => rfl) hS0 ?_
  (try simp only [Act.put]); (try simp only [List.getElem_toArray]); (try simp only [List.getElem_cons_succ]); (try simp only [List.getElem_cons_zero]); (try simp only [List.setIfInBounds_toArray]); (try simp only [List.set_cons_succ]); (try simp only [List.set_cons_zero])
  refine any_take (i := 3) (.pointer (some ⟨m, 0, none⟩)) rfl rfl (by kernel_rfl) (by kernel_rfl) (by kernel_rfl) (by kernel_rfl) (fun _ _ d _ _ h => by cases d <;> exact h) (fun u hS => exec_ld_M rfl rfl (hS.cell 0)) hS0 ?_
  (try simp only [Act.put]); (try simp only [List.getElem_toArray]); (try simp only [List.getElem_cons_succ]); (try simp only [List.getElem_cons_zero]); (try simp only [List.setIfInBounds_toArray]); (try simp only [List.set_cons_succ]); (try simp only [List.set_cons_zero])
  refine any_take (i := 4) (.pointer (some ⟨ca, 0, none⟩)) rfl rfl (by kernel_rfl) (by kernel_rfl) (by kernel_rfl) (by kernel_rfl) (fun _ _ d _ _ h => by cases d <;> exact h) (fun u hS => rfl) hS0 ?_
  (try simp only [Act.put]); (try simp only [List.getElem_toArray]); (try simp only [List.getElem_cons_succ]); (try simp only [List.getElem_cons_zero]); (try simp only [List.setIfInBounds_toArray]); (try simp only [List.set_cons_succ]); (try simp only [List.set_cons_zero])
  refine any_take (i := 5) (.int .u64 (key : Int)) rfl rfl (by kernel_rfl) (by kernel_rfl) (by kernel_rfl) (by kernel_rfl) (fun _ _ d _ _ h => by cases d <;> exact h) (fun u hS => rfl) hS0 ?_
  (try simp only [Act.put]); (try simp only [List.getElem_toArray]); (try simp only [List.getElem_cons_succ]); (try simp only [List.getElem_cons_zero]); (try simp only [List.setIfInBounds_toArray]); (try simp only [List.set_cons_succ]); (try simp only [List.set_cons_zero])
  refine any_take (i := 7) (.int .u64 (key : Int)) rfl rfl (by kernel_rfl) (by kernel_rfl) (by kernel_rfl) (by kernel_rfl) (fun _ _ d _ _ h => by cases d <;> exact h) (fun u hS => rfl) hS0 ?_
  (try simp only [Act.put]); (try simp only [List.getElem_toArray]); (try simp only [List.getElem_cons_succ]); (try simp only [List.getElem_cons_zero]); (try simp only [List.setIfInBounds_toArray]); (try simp only [List.set_cons_succ]); (try simp only [List.set_cons_zero])
  refine any_take (i := 8) (.int .u64 (val : Int)) rfl rfl (by kernel_rfl) (by kernel_rfl) (by kernel_rfl) (by kernel_rfl) (fun _ _ d _ _ h => by cases d <;> exact h) (fun u hS => rfl) hS0 ?_
  (try simp only [Act.put]); (try simp only [List.getElem_toArray]); (try simp only [List.getElem_cons_succ]); (try simp only [List.getElem_cons_zero]); (try simp only [List.setIfInBounds_toArray]); (try simp only [List.set_cons_succ]); (try simp only [List.set_cons_zero])
  refine any_branch [6] (by kernel_rfl) rfl fun ix hix => ?_
  simp only [List.mem_cons, List.not_mem_nil, or_false] at hix
  subst hix
  refine any_op rfl rfl fun K hK => ?_
  go_simp
  refine (line_any ca m key _ hS0 hk).mono ?_
  rintro e u1 ⟨rfl, nq, rfl⟩
  have hS1 := hS0.drewN nq
  refine hK _ _ (fun _ => hS1) ?_
  (try simp only [Act.put]); (try simp only [List.getElem_toArray]); (try simp only [List.getElem_cons_succ]); (try simp only [List.getElem_cons_zero]); (try simp only [List.setIfInBounds_toArray]); (try simp only [List.set_cons_succ]); (try simp only [List.set_cons_zero])
  clear hK
  refine any_take (i := 9) (.agg (ActV m (Ca.line key) key val 0 .nilFunc false false 0)) rfl rfl (by kernel_rfl) (by kernel_rfl) (by kernel_rfl) (by kernel_rfl) (fun _ _ d _ _ h => by cases d <;> exact h) (fun u hS => exec_bldP rfl rfl rfl rfl rfl) hS1 ?_
  (try simp only [Act.put]); (try simp only [List.getElem_toArray]); (try simp only [List.getElem_cons_succ]); (try simp only [List.getElem_cons_zero]); (try simp only [List.setIfInBounds_toArray]); (try simp only [List.set_cons_succ]); (try simp only [List.set_cons_zero])
  refine any_branch [10] (by kernel_rfl) rfl fun ix hix => ?_
  simp only [List.mem_cons, List.not_mem_nil, or_false] at hix
  subst hix
  refine any_op rfl rfl fun K hK => ?_
  go_simp
  have hS2 := hS1.alloc (.cells (ActV m (Ca.line key) key val 0 .nilFunc false false 0) 203)
  refine hK _ _ (fun _ => hS2) ?_
  (try simp only [Act.put]); (try simp only [List.getElem_toArray]); (try simp only [List.getElem_cons_succ]); (try simp only [List.getElem_cons_zero]); (try simp only [List.setIfInBounds_toArray]); (try simp only [List.set_cons_succ]); (try simp only [List.set_cons_zero])
  clear hK
  refine any_take (i := 11) (.pointer (some ⟨u0.heap.size, 0, none⟩)) rfl rfl (by kernel_rfl) (by kernel_rfl) (by kernel_rfl) (by kernel_rfl) (fun _ _ d _ _ h => by cases d <;> exact h) (fun u hS => rfl) hS2 ?_
  (try simp only [Act.put]); (try simp only [List.getElem_toArray]); (try simp only [List.getElem_cons_succ]); (try simp only [List.getElem_cons_zero]); (try simp only [List.setIfInBounds_toArray]); (try simp only [List.set_cons_succ]); (try simp only [List.set_cons_zero])
  refine any_end (by kernel_rfl) ?_
  -- ⟧
  have hzz : u0.heap.size = w.heap.size := by rw [← hu]; rfl
  have hB := Blk.new (u0.drewN nq) 203 (ActV m (Ca.line key) key val 0 .nilFunc false false 0)
  have hf1 : Fr [] w ((u0.drewN nq).alloc (.cells (ActV m (Ca.line key) key val 0 .nilFunc false false 0) 203)) := by rw [← hu]; exact (((Fr.refl [] w).drew).drewN nq).alloc _
  have hlt : w.heap.size < ((u0.drewN nq).alloc (.cells (ActV m (Ca.line key) key val 0 .nilFunc false false 0) 203)).heap.size := by rw [← hu]; simp
  rw [show (u0.drewN nq).heap.size = u0.heap.size from rfl] at hB
  clear hS0 hS1 hS2 hu
  generalize World.alloc (u0.drewN nq) _ = u2 at *
  generalize u0.heap.size = b at *
  have z5 := hB.frozen 5
  have hb5 : Blk (u2.setCell ⟨b, 5, none⟩ (aFn 128 b)) b 203 (ActV m (Ca.line key) key val 0 (aFn 128 b) false false 0) := hB.set_same 5 _ rfl
  have hf5 := hf1.setCell (p := ⟨b, 5, none⟩) (fun h => absurd h (by rw [hzz]; exact Nat.lt_irrefl _)) (aFn 128 b)
  obtain ⟨c0, c1, c2, c3, c4, c5, c6, c7, c8⟩ := cells9 hB
  have HE : Bx (_ ∧ _ ∧ _) := ⟨hb5, hf5, show w.heap.size < (u2.setCell ⟨b, 5, none⟩ (aFn 128 b)).heap.size by simp [World.setCell]; exact hlt⟩
  have HZ := Bx.mk hzz
  clear hb5 hf5 hf1 hlt hB hzz
  go_wp2_with fail
  go_ret
  obtain rfl := HZ.out
  exact ⟨rfl, HE.out.1, HE.out.2.1, by simpa [World.setCell] using HE.out.2.2⟩
set_option maxRecDepth 100000 in
set_option maxHeartbeats 1000000 in
/-- one step, whatever is next -/
theorem astep_any (b m at_ key val ver got k : Nat) (ok : Bool) (w : World) (h : Blk w b 203 (ActV m at_ key val ver (.func (.func k) #[.pointer (some ⟨b, 0, none⟩)] #[]) false ok got)) (R : World → Prop) (d : Bool) (hcf : ∀ args w, (callFunc k args).run Try.prog w = .ok (.enter k args) w)
    (hc : Calls Try.prog k #[.pointer (some ⟨b, 0, none⟩)] w fun e w' => e = .returned (.tuple #[]) ∧ R w') (hR : ∀ w', R w' → w'.cell? ⟨b, 6, none⟩ = some (.bool d)) :
    Calls Try.prog 122 #[.pointer (some ⟨b, 0, none⟩)] w fun e w' => e = .returned (.bool d) ∧ R w' := by
  obtain ⟨c0, c1, c2, c3, c4, c5, c6, c7, c8⟩ := cells9 h
  have HC := Bx.mk hc
  have HR := Bx.mk hR
  clear hc hR
  go_enter Try.func122, Try.ntmps122
  go_wp2_with fail
  refine HC.out.mono ?_
  rintro e w1 ⟨rfl, hr⟩
  have g5 := HR.out _ hr
  have HRW := Bx.mk hr
  clear c0 c1 c2 c3 c4 c5 c6 c7 c8 hr
  go_wp2_with fail
  go_ret
  exact ⟨rfl, HRW.out⟩
theorem got_yes (b m at_ key val ver got : Nat) (nx : Value) (w : World) (h : Blk w b 203 (ActV m at_ key val ver nx true true got)) :
    Calls Try.prog 123 #[.pointer (some ⟨b, 0, none⟩)] w fun e w' => e = .returned (.tuple #[.int .u64 (got : Int), .bool true]) ∧ w' = w := by
  obtain ⟨c0, c1, c2, c3, c4, c5, c6, c7, c8⟩ := cells9 h
  go_enter Try.func123, Try.ntmps123
  go_wp2_with fail
  go_ret2
  exact ⟨rfl, rfl⟩
theorem got_no (b m at_ key val ver got : Nat) (nx : Value) (w : World) (h : Blk w b 203 (ActV m at_ key val ver nx true false got)) :
    Calls Try.prog 123 #[.pointer (some ⟨b, 0, none⟩)] w fun e w' => e = .returned (.tuple #[.int .u64 0, .bool false]) ∧ w' = w := by
  obtain ⟨c0, c1, c2, c3, c4, c5, c6, c7, c8⟩ := cells9 h
  go_enter Try.func123, Try.ntmps123
  go_wp2_with fail
  go_ret2
  exact ⟨rfl, rfl⟩
end Go.Proofs.Ythbifeoohphnpaa

/-
  The table of nodes, plain: keys in slots, each on its way.
-/
namespace Go.Proofs.Ythbifeoohphnpaa
set_option linter.unusedVariables false
theorem least_of {P : Nat → Prop} [DecidablePred P] : ∀ n, P n → ∃ d, d ≤ n ∧ P d ∧ ∀ i, i < d → ¬ P i
  | 0, h => ⟨0, Nat.le_refl _, h, fun i hi => absurd hi (by omega)⟩
  | n + 1, h => by
    by_cases hex : ∃ i, i ≤ n ∧ P i
    · obtain ⟨i, hi, hp⟩ := hex
      obtain ⟨d, hd, h1, h2⟩ := least_of i hp
      exact ⟨d, by omega, h1, h2⟩
    · exact ⟨n + 1, Nat.le_refl _, h, fun i hi hp => hex ⟨i, by omega, hp⟩⟩
  termination_by n => n
/-- how many cells are taken -/
def nz (xs : List Nat) : Nat := xs.countP (fun x => decide (x ≠ 0))
theorem nz_zero (n : Nat) : nz (List.replicate n 0) = 0 := by
  unfold nz
  rw [List.countP_eq_zero]
  intro x hx
  have := (List.mem_replicate.1 hx).2
  simp [this]
theorem nz_set : ∀ {xs : List Nat} {q key : Nat}, xs[q]? = some 0 → key ≠ 0 → nz (xs.set q key) = nz xs + 1
  | [], q, key, h, _ => by simp at h
  | x :: xs, 0, key, h, hk => by
    simp at h; subst h
    unfold nz
    simp [List.countP_cons, hk]
  | x :: xs, q + 1, key, h, hk => by
    have ih := nz_set (xs := xs) (q := q) (key := key) (by simpa using h) hk
    unfold nz at ih ⊢
    rw [List.set_cons_succ, List.countP_cons, List.countP_cons, ih]
    omega
theorem nz_hole : ∀ {xs : List Nat}, nz xs < xs.length → ∃ q : Nat, xs[q]? = some 0
  | [], h => by simp [nz] at h
  | x :: xs, h => by
    by_cases hx : x = 0
    · exact ⟨0, by simp [hx]⟩
    · have : nz xs < xs.length := by
        unfold nz at h ⊢
        rw [List.countP_cons, if_pos (by simp [hx]), List.length_cons] at h
        omega
      obtain ⟨q, hq⟩ := nz_hole this
      exact ⟨q + 1, by simpa using hq⟩
theorem slot_onto (h n q : Nat) (hq : q < n) : ∃ i, i < n ∧ (h + i) % n = q := by
  have hh : h % n < n := Nat.mod_lt _ (by omega)
  by_cases hle : h % n ≤ q
  · refine ⟨q - h % n, by omega, ?_⟩
    rw [Nat.add_mod, Nat.mod_eq_of_lt (show q - h % n < n by omega), show h % n + (q - h % n) = q by omega, Nat.mod_eq_of_lt hq]
  · refine ⟨n - h % n + q, by omega, ?_⟩
    rw [Nat.add_mod, Nat.mod_eq_of_lt (show n - h % n + q < n by omega), show h % n + (n - h % n + q) = n + q by omega, Nat.add_mod_left, Nat.mod_eq_of_lt hq]
/-- a key's way ends: at the key, or at a hole -/
theorem way_ends {xs : List Nat} (key : Nat) (h : nz xs < xs.length) : ∃ d q, UtPath xs key d q ∧ (xs[q]? = some key ∨ xs[q]? = some 0) := by
  obtain ⟨q0, hq0⟩ := nz_hole h
  have hl := (List.getElem?_eq_some_iff.1 hq0).1
  obtain ⟨i, hi, hs⟩ := slot_onto (Ut.home key xs.length) xs.length q0 hl
  obtain ⟨d, hd, h1, h2⟩ := least_of (P := fun i => xs[(Ut.home key xs.length + i) % xs.length]? = some key ∨ xs[(Ut.home key xs.length + i) % xs.length]? = some 0) i (.inr (by rw [hs]; exact hq0))
  refine ⟨d, _, ⟨by omega, rfl, fun j hj => ?_⟩, h1⟩
  have hlt : (Ut.home key xs.length + j) % xs.length < xs.length := Nat.mod_lt _ (by omega)
  refine ⟨_, List.getElem?_eq_getElem hlt, fun e => h2 j hj (.inl ?_), fun e => h2 j hj (.inr ?_)⟩
  · rw [List.getElem?_eq_getElem hlt, e]
  · rw [List.getElem?_eq_getElem hlt, e]
theorem UtPath.set_ {xs : List Nat} {key d q q' k' : Nat} (h : UtPath xs key d q) (h0 : xs[q']? = some 0) : UtPath (xs.set q' k') key d q := by
  refine ⟨by rw [List.length_set]; exact h.lt, by rw [List.length_set]; exact h.at_, fun i hi => ?_⟩
  obtain ⟨x, hx, h1, h2⟩ := h.way i hi
  refine ⟨x, ?_, h1, h2⟩
  rw [List.length_set, List.getElem?_set_ne]
  · exact hx
  · intro e
    rw [← e, h0] at hx
    exact h2 (Option.some.inj hx).symm
/-- a table that holds keys, each with its handle -/
structure TabOk (xs : List Nat) (f : Nat → Option Nat) (L : List (Nat × Nat)) : Prop where
  nd : (L.map Prod.snd).Nodup
  pos : ∀ p ∈ L, p.2 ≠ 0
  there : ∀ p ∈ L, ∃ d q, UtPath xs p.2 d q ∧ xs[q]? = some p.2 ∧ f q = some p.1
  only : ∀ q k : Nat, xs[q]? = some k → k ≠ 0 → ∃ h, (h, k) ∈ L
  cnt : nz xs ≤ L.length
  fdom : ∀ q, f q ≠ none → q < xs.length
theorem TabOk.empty (n : Nat) : TabOk (List.replicate n 0) (fun _ => none) [] :=
  ⟨List.nodup_nil, by simp, by simp, fun q k h hk => by
    have := List.mem_replicate.1 (List.mem_of_getElem? h)
    exact absurd this.2 hk, by rw [nz_zero]; simp, fun q h => absurd rfl h⟩
/-- laid anew -/
theorem TabOk.lay {xs : List Nat} {f : Nat → Option Nat} {L : List (Nat × Nat)} (h : TabOk xs f L) {key : Nat} (hd : Nat) (hk : key ≠ 0) (hn : key ∉ L.map Prod.snd) (hr : L.length < xs.length) :
    ∃ d q, UtPath xs key d q ∧ xs[q]? = some 0 ∧ TabOk (xs.set q key) (fun y => if y = q then some hd else f y) ((hd, key) :: L) := by
  obtain ⟨d, q, hp, hq⟩ := way_ends key (Nat.lt_of_le_of_lt h.cnt hr)
  have hq0 : xs[q]? = some 0 := by
    rcases hq with hq | hq
    · obtain ⟨h', hm⟩ := h.only q key hq hk
      exact absurd (List.mem_map.2 ⟨_, hm, rfl⟩) hn
    · exact hq
  have hql := (List.getElem?_eq_some_iff.1 hq0).1
  refine ⟨d, q, hp, hq0, ⟨?_, ?_, ?_, ?_, ?_, ?_⟩⟩
  · rw [List.map_cons, List.nodup_cons]; exact ⟨hn, h.nd⟩
  · intro p hp'
    rcases List.mem_cons.1 hp' with rfl | hp'
    · exact hk
    · exact h.pos p hp'
  · intro p hp'
    rcases List.mem_cons.1 hp' with rfl | hp'
    · exact ⟨d, q, hp.set_ hq0, by rw [List.getElem?_set_self hql], by simp⟩
    · obtain ⟨d', q', h1, h2, h3⟩ := h.there p hp'
      have hne : q' ≠ q := fun e => by
        rw [e, hq0] at h2
        exact h.pos p hp' (Option.some.inj h2).symm
      exact ⟨d', q', h1.set_ hq0, by rw [List.getElem?_set_ne (fun e => hne e.symm)]; exact h2, by simp [hne]; exact h3⟩
  · intro q' k hx hk'
    by_cases e : q' = q
    · subst e
      rw [List.getElem?_set_self hql] at hx
      exact ⟨hd, by rw [Option.some.inj hx]; simp⟩
    · rw [List.getElem?_set_ne (fun h => e h.symm)] at hx
      obtain ⟨h', hm⟩ := h.only q' k hx hk'
      exact ⟨h', by simp [hm]⟩
  · rw [nz_set hq0 hk, List.length_cons]
    have := h.cnt
    omega
  · intro q' hq'
    rw [List.length_set]
    by_cases e : q' = q
    · omega
    · simp only [if_neg e] at hq'
      exact h.fdom q' hq'
/-- looked for -/
theorem TabOk.look {xs : List Nat} {f : Nat → Option Nat} {L : List (Nat × Nat)} (h : TabOk xs f L) (key : Nat) (hk : key ≠ 0) (hr : L.length < xs.length) :
    ∃ d q, UtPath xs key d q ∧ ((∃ hd, (hd, key) ∈ L ∧ xs[q]? = some key ∧ f q = some hd) ∨ (key ∉ L.map Prod.snd ∧ xs[q]? = some 0)) := by
  by_cases hm : key ∈ L.map Prod.snd
  · obtain ⟨p, hp, rfl⟩ := List.mem_map.1 hm
    obtain ⟨d, q, h1, h2, h3⟩ := h.there p hp
    exact ⟨d, q, h1, .inl ⟨p.1, hp, h2, h3⟩⟩
  · obtain ⟨d, q, hp, hq⟩ := way_ends key (Nat.lt_of_le_of_lt h.cnt hr)
    refine ⟨d, q, hp, .inr ⟨hm, ?_⟩⟩
    rcases hq with hq | hq
    · obtain ⟨h', hm'⟩ := h.only q key hq hk
      exact absurd (List.mem_map.2 ⟨_, hm', rfl⟩) hm
    · exact hq
end Go.Proofs.Ythbifeoohphnpaa

/-
  Maps of the call's own with whole numbers for keys: to whole numbers, to nothing.
-/
namespace Go.Proofs.Ythbifeoohphnpaa
set_option linter.unusedVariables false
open Go.RowKit
open Go.Maps (Keyed int_keyed keyOf_int_mk)
theorem nodup_le : ∀ (K : Nat) (l : List Nat), l.Nodup → (∀ x ∈ l, x < K) → l.length ≤ K
  | 0, l, _, h => by
    cases l with
    | nil => simp
    | cons x l => exact absurd (h x (by simp)) (by omega)
  | K + 1, l, hd, h => by
    have h1 := nodup_le K (l.erase K) (hd.erase K) (fun x hx => by
      have h2 := h x (List.mem_of_mem_erase hx)
      have h3 : x ≠ K := fun e => by subst e; exact (hd.not_mem_erase) hx
      omega)
    by_cases hm : K ∈ l
    · rw [List.length_erase_of_mem hm] at h1
      omega
    · rw [List.erase_of_not_mem hm] at h1
      omega
/-- the number in a key -/
def litNat : Lit → Nat
  | .int _ x => x.toNat
  | _ => 0
abbrev MD := DataW Unit
theorem tidy_small {D : MD} {q : IntKind} (ht : ∃ es, D = .map es ∧ es.Pairwise (fun p q => p.1 ≠ q.1) ∧ ∀ p ∈ es, WideAt.IsKeyLit p.1) (h : ∀ kl, Maps.has D kl = true → ∃ x : Nat, x < 4294967296 ∧ kl = .int q (x : Int)) : Maps.size D ≤ 4294967296 := by
  obtain ⟨es, rfl, hp, hkl⟩ := ht
  have hk : ∀ p ∈ es, ∃ x : Nat, x < 4294967296 ∧ p.1 = .int q (x : Int) := fun p hp => by
    obtain ⟨x, hx, e⟩ := h p.1 (by
      rw [Maps.has_eq, List.any_eq_true]
      exact ⟨p, hp, WideAt.sameKey_self (hkl p hp)⟩)
    exact ⟨x, hx, e⟩
  rw [Maps.size_eq]
  have e : (es.map fun p => litNat p.1).length = es.length := List.length_map _
  rw [← e]
  refine nodup_le _ _ ?_ ?_
  · rw [List.Nodup, List.pairwise_map]
    refine hp.imp_of_mem fun ha hb hne hab => hne ?_
    obtain ⟨x, _, hx⟩ := hk _ ha
    obtain ⟨y, _, hy⟩ := hk _ hb
    rw [hx, hy] at hab ⊢
    simp only [litNat, Int.toNat_natCast] at hab
    rw [hab]
  · intro x hx
    obtain ⟨p, hp, rfl⟩ := List.mem_map.1 hx
    obtain ⟨x, h1, h2⟩ := hk p hp
    rw [h2]
    simpa [litNat] using h1
section
variable {kt et : TypeId} {kq eq : IntKind}
/-- block b is a map from numbers to numbers -/
structure MapI (kt et : TypeId) (kq eq : IntKind) (w : World) (b : Nat) (f : Nat → Option Nat) : Prop where
  ex : ∃ D : MD, w.ownsMap Try.prog kt (plainElem Try.prog et) b (Maps.size D) D ∧ (∀ kl, Maps.has D kl = true → ∃ x : Nat, x < 4294967296 ∧ kl = .int kq (x : Int)) ∧
    (∀ x : Nat, x < 4294967296 → Maps.has D (.int kq (x : Int)) = (f x).isSome) ∧ (∀ x v : Nat, f x = some v → ∀ z, D.atKey (.int kq (x : Int)) z = .lit (.int eq (v : Int)))
  dom : ∀ x, f x ≠ none → x < 4294967296
theorem ownsMap_tight {w : World} {b n : Nat} {D : MD} {R : Value → Option (MD × List MemPlace)} (h : w.ownsMap Try.prog kt R b n D) : w.ownsMap Try.prog kt R b (Maps.size D) D := by
  obtain ⟨es, clock, hb, F, hs, rfl⟩ := h
  exact ⟨es, clock, hb, F, by simp [Maps.size, length_read], rfl⟩
theorem ownsMap_fr {w w' : World} {b n : Nat} {D : MD} {R : Value → Option (MD × List MemPlace)} {S : List Nat} (h : w.ownsMap Try.prog kt R b n D) (hf : Fr S w w') (hb : b ∉ S) : w'.ownsMap Try.prog kt R b n D := by
  have hl := h.lt
  obtain ⟨es, clock, h1, F, hs, hD⟩ := h
  exact ⟨es, clock, (hf.block b hl hb).trans h1, F, hs, hD⟩
variable {w w' : World} {b : Nat} {f : Nat → Option Nat}
theorem MapI.lt (h : MapI kt et kq eq w b f) : b < w.heap.size := by obtain ⟨D, h1, _⟩ := h.ex; exact h1.lt
theorem MapI.fr {S : List Nat} (h : MapI kt et kq eq w b f) (hf : Fr S w w') (hb : b ∉ S) : MapI kt et kq eq w' b f := by
  obtain ⟨D, h1, h2⟩ := h.ex
  exact ⟨⟨D, ownsMap_fr h1 hf hb, h2⟩, h.dom⟩
theorem MapI.new (kt et : TypeId) (kq eq : IntKind) (w : World) : MapI kt et kq eq (w.alloc (.map #[] 0)) w.heap.size (fun _ => none) :=
  ⟨⟨.map [], World.ownsMap_made _ _ _ _, fun kl h => by simp [Maps.has] at h, fun x _ => rfl, fun x v h => by cases h⟩, fun x h => absurd rfl h⟩
/-- 'm[x]' -/
theorem MapI.run_get {t : TypeId} (h : MapI kt et kq eq w b f) (ht : Try.prog.underlying t = some (.map kt et)) (hk : Try.prog.underlying kt = some (.int kq)) (he : Try.prog.underlying et = some (.int eq)) (hz : (zeroValue et).run Try.prog w = .ok (.int eq 0) w)
    {x v : Nat} (hx : f x = some v) (hw : (Lit.int kq (x : Int)).wf = true) : (Instr.lookup t (.map (some b)) (.int kq (x : Int)) false).run Try.prog w = .ok (.int eq (v : Int)) w := by
  obtain ⟨D, h1, _, _, h4⟩ := h.ex
  obtain ⟨c, hr, hat, hwf⟩ := h1.lookup_int (int_keyed hk) ht he hz (keyOf_int_mk hk hw)
  rw [h4 x v hx] at hat
  simp only [DataW.lit.injEq, Lit.int.injEq, true_and] at hat
  rw [hat]; exact hr
/-- 'v, ok := m[x]' -/
theorem MapI.run_ok {t : TypeId} (h : MapI kt et kq eq w b f) (ht : Try.prog.underlying t = some (.map kt et)) (hk : Try.prog.underlying kt = some (.int kq)) (he : Try.prog.underlying et = some (.int eq)) (hz : (zeroValue et).run Try.prog w = .ok (.int eq 0) w)
    (x : Nat) (hx : x < 4294967296) (hw : (Lit.int kq (x : Int)).wf = true) :
    ∃ v : Nat, (f x = some v ∨ f x = none) ∧ (Instr.lookup t (.map (some b)) (.int kq (x : Int)) true).run Try.prog w = .ok (.tuple #[.int eq (v : Int), .bool (f x).isSome]) w := by
  obtain ⟨D, h1, _, h3, h4⟩ := h.ex
  have hw0 : (Lit.int eq 0).wf = true := by cases eq <;> decide
  obtain ⟨v, ps, hr, hv⟩ := h1.look_ok (int_keyed hk) ht hz (plainElem_int he hw0) (keyOf_int_mk hk hw)
  obtain ⟨c, rfl, hc, hwf⟩ := plainElem_int_inv he hv
  rw [h3 x hx] at hr
  cases hfx : f x with
  | none =>
    have hno : Maps.has D (.int kq (x : Int)) = false := by rw [h3 x hx, hfx]; rfl
    rw [Maps.atKey_of_not_has hno] at hc
    simp only [Prod.mk.injEq, DataW.lit.injEq, Lit.int.injEq, true_and] at hc
    obtain ⟨hc, _⟩ := hc
    subst hc
    rw [hfx] at hr
    exact ⟨0, .inr rfl, hr⟩
  | some u =>
    rw [h4 x u hfx] at hc
    simp only [Prod.mk.injEq, DataW.lit.injEq, Lit.int.injEq, true_and] at hc
    obtain ⟨hc, _⟩ := hc
    subst hc
    rw [hfx] at hr
    exact ⟨u, .inl rfl, hr⟩
/-- 'm[x] = v' -/
theorem MapI.run_set {t : TypeId} (h : MapI kt et kq eq w b f) (ht : Try.prog.underlying t = some (.map kt et)) (hk : Try.prog.underlying kt = some (.int kq)) (he : Try.prog.underlying et = some (.int eq))
    (x v : Nat) (hx : x < 4294967296) (hw : (Lit.int kq (x : Int)).wf = true) (hv : (Lit.int eq (v : Int)).wf = true) :
    ∃ w', (Instr.mapUpdate t (.map (some b)) (.int kq (x : Int)) (.int eq (v : Int))).run Try.prog w = .ok () w' ∧ MapI kt et kq eq w' b (fun y => if y = x then some v else f y) ∧ Fr [b] w w' ∧ w'.heap.size = w.heap.size := by
  obtain ⟨D, h1, h2, h3, h4⟩ := h.ex
  have hsz := tidy_small (h1.entries (int_keyed hk)) h2
  obtain ⟨w', hr, h5, h6⟩ := h1.store (int_keyed hk) ht (by unfold maxLen; omega) (keyOf_int_mk hk hw) (plainElem_int he hv)
  have hkl : WideAt.IsKeyLit (.int kq (x : Int)) := (int_keyed hk).key (keyOf_int_mk hk hw)
  have hgr := h6.grown
  refine ⟨w', hr, ⟨⟨_, ownsMap_tight h5, fun kl hk2 => ?_, fun y hy => ?_, fun y u hyu z => ?_⟩, fun y hy => ?_⟩, ⟨hgr.os, hgr.tape, hgr.output, hgr.size, fun k hk hn => hgr.block k hk (by simpa using hn)⟩, ?_⟩
  · by_cases e : kl = .int kq (x : Int)
    · exact ⟨x, hx, e⟩
    · rw [Maps.has_put_other e] at hk2
      exact h2 kl hk2
  · by_cases e : y = x
    · subst e
      rw [Maps.has_put_same h1.isMap hkl]
      simp
    · rw [Maps.has_put_other (fun h => e (by simp only [Lit.int.injEq, true_and] at h; omega)), h3 y hy, if_neg e]
  · by_cases e : y = x
    · subst e
      rw [Maps.atKey_put_same h1.isMap hkl]
      simp only [if_true, Option.some.injEq] at hyu
      rw [hyu]
    · rw [if_neg e] at hyu
      rw [Maps.atKey_put_other (fun h => e (by simp only [Lit.int.injEq, true_and] at h; omega))]
      exact h4 y u hyu z
  · by_cases e : y = x
    · omega
    · simp only [if_neg e] at hy
      exact h.dom y hy
  · obtain ⟨es, clock, es', clock', _, rfl⟩ := h6
    simp [ChangeMaps.setBlock]
/-- a number put into a set -/
def addN (x : Nat) (S : List Nat) : List Nat := if x ∈ S then S else x :: S
theorem mem_addN {x y : Nat} {S : List Nat} : y ∈ addN x S ↔ y = x ∨ y ∈ S := by
  unfold addN
  split
  · rename_i h; exact ⟨.inr, fun h' => h'.elim (fun e => e ▸ h) id⟩
  · simp
theorem nodup_addN {x : Nat} {S : List Nat} (h : S.Nodup) : (addN x S).Nodup := by
  unfold addN; split
  · exact h
  · rename_i h'; exact List.nodup_cons.2 ⟨h', h⟩
/-- block b is a set of numbers -/
structure SetI (kt : TypeId) (kq : IntKind) (w : World) (b : Nat) (S : List Nat) : Prop where
  ex : ∃ D : MD, w.ownsMap Try.prog kt unitElem b (Maps.size D) D ∧ (∀ kl, Maps.has D kl = true → ∃ x : Nat, x < 4294967296 ∧ kl = .int kq (x : Int)) ∧
    (∀ x : Nat, x < 4294967296 → Maps.has D (.int kq (x : Int)) = decide (x ∈ S)) ∧ Maps.size D = S.length
  dom : ∀ x ∈ S, x < 4294967296
  nd : S.Nodup
variable {S : List Nat}
theorem SetI.lt (h : SetI kt kq w b S) : b < w.heap.size := by obtain ⟨D, h1, _⟩ := h.ex; exact h1.lt
theorem SetI.fr {L : List Nat} (h : SetI kt kq w b S) (hf : Fr L w w') (hb : b ∉ L) : SetI kt kq w' b S := by
  obtain ⟨D, h1, h2⟩ := h.ex
  exact ⟨⟨D, ownsMap_fr h1 hf hb, h2⟩, h.dom, h.nd⟩
theorem SetI.new (kt : TypeId) (kq : IntKind) (w : World) : SetI kt kq (w.alloc (.map #[] 0)) w.heap.size [] :=
  ⟨⟨.map [], World.ownsMap_made _ _ _ _, fun kl h => by simp [Maps.has] at h, fun x _ => rfl, rfl⟩, by simp, List.nodup_nil⟩
/-- '_, ok := m[x]' -/
theorem SetI.run_ok {t et : TypeId} (h : SetI kt kq w b S) (ht : Try.prog.underlying t = some (.map kt et)) (hk : Try.prog.underlying kt = some (.int kq)) (hz : (zeroValue et).run Try.prog w = .ok (.agg #[]) w)
    (x : Nat) (hx : x < 4294967296) (hw : (Lit.int kq (x : Int)).wf = true) :
    (Instr.lookup t (.map (some b)) (.int kq (x : Int)) true).run Try.prog w = .ok (.tuple #[.agg #[], .bool (decide (x ∈ S))]) w := by
  obtain ⟨D, h1, _, h3, _⟩ := h.ex
  obtain ⟨v, ps, hr, hv⟩ := h1.look_ok (int_keyed hk) ht hz unitElem_mk (keyOf_int_mk hk hw)
  obtain ⟨rfl, _⟩ := unitElem_inv hv
  rw [h3 x hx] at hr
  exact hr
/-- 'm[x] = struct{}{}' -/
theorem SetI.run_set {t et : TypeId} (h : SetI kt kq w b S) (ht : Try.prog.underlying t = some (.map kt et)) (hk : Try.prog.underlying kt = some (.int kq))
    (x : Nat) (hx : x < 4294967296) (hw : (Lit.int kq (x : Int)).wf = true) :
    ∃ w', (Instr.mapUpdate t (.map (some b)) (.int kq (x : Int)) (.agg #[])).run Try.prog w = .ok () w' ∧ SetI kt kq w' b (addN x S) ∧ Fr [b] w w' ∧ w'.heap.size = w.heap.size := by
  obtain ⟨D, h1, h2, h3, h4⟩ := h.ex
  have hsz := tidy_small (h1.entries (int_keyed hk)) h2
  obtain ⟨w', hr, h5, h6⟩ := h1.store (int_keyed hk) ht (by unfold maxLen; omega) (keyOf_int_mk hk hw) unitElem_mk
  have hkl : WideAt.IsKeyLit (.int kq (x : Int)) := (int_keyed hk).key (keyOf_int_mk hk hw)
  have hgr := h6.grown
  refine ⟨w', hr, ⟨⟨_, ownsMap_tight h5, fun kl hk2 => ?_, fun y hy => ?_, ?_⟩, fun y hy => ?_, nodup_addN h.nd⟩, ⟨hgr.os, hgr.tape, hgr.output, hgr.size, fun k hk hn => hgr.block k hk (by simpa using hn)⟩, ?_⟩
  · by_cases e : kl = .int kq (x : Int)
    · exact ⟨x, hx, e⟩
    · rw [Maps.has_put_other e] at hk2
      exact h2 kl hk2
  · by_cases e : y = x
    · subst e
      rw [Maps.has_put_same h1.isMap hkl]
      simp [mem_addN]
    · rw [Maps.has_put_other (fun h => e (by simp only [Lit.int.injEq, true_and] at h; omega)), h3 y hy]
      simp [mem_addN, e]
  · rw [Maps.size_put (h1.tidy (int_keyed hk)), h3 x hx, h4]
    unfold addN
    by_cases e : x ∈ S <;> simp [e]
  · rcases mem_addN.1 hy with rfl | hy
    · exact hx
    · exact h.dom y hy
  · obtain ⟨es, clock, es', clock', _, rfl⟩ := h6
    simp [ChangeMaps.setBlock]
/-- 'len(m)' -/
theorem SetI.run_len {t et : TypeId} (h : SetI kt kq w b S) (ht : Try.prog.underlying t = some (.map kt et)) (ty : TypeId) : (Builtin.len_ #[t] ty #[.map (some b)]).run Try.prog w = .ok (.int .i64 (S.length : Int)) w := by
  obtain ⟨D, h1, _, _, h4⟩ := h.ex
  rw [← h4]
  exact h1.len ht ty
end
end Go.Proofs.Ythbifeoohphnpaa

/-
  Package utable: a table made, a slot's cell; package nodes: a key laid, a key looked for.
-/
namespace Go.Proofs.Ythbifeoohphnpaa
set_option linter.unusedVariables false
open Go.RowKit
theorem slots_any (t m n : Nat) (w : World) (h : Blk w t 152 (TabV m n)) :
    Calls Try.prog 77 #[.pointer (some ⟨t, 0, none⟩)] w fun e w' => e = .returned (.int .i64 (n : Int)) ∧ w' = w := by
  obtain ⟨t0, t1, t2⟩ := cells3 h
  go_enter Try.func77, Try.ntmps77
  go_wp2_with fail
  go_ret
  exact ⟨rfl, rfl⟩
set_option maxRecDepth 100000 in
theorem tabat_any (t m c i x : Nat) (xs : List Nat) (w : World) (h : UtAt w t m c xs) (hx : xs[i]? = some x) :
    Calls Try.prog 102 #[.pointer (some ⟨t, 0, none⟩), .int .i64 (i : Int)] w fun e w' => e = .returned (.int .u64 (x : Int)) ∧ UtAt w' t m c xs ∧ Fr [m] w w' := by
  obtain ⟨t0, t1, t2⟩ := cells3 h.tab
  have hi : i < xs.length := (List.getElem?_eq_some_iff.1 hx).1
  have hl := h.len.2
  have q : (i : Int) < (xs.length : Int) := by omega
  have q0 : ¬ (i : Int) < 0 := by omega
  have q1 : (0 : Int) ≤ (i : Int) := by omega
  have HQ : Bx ((i : Int) < 1000000) := ⟨by omega⟩
  have HX := Bx.mk hx
  have HH := Bx.mk h
  clear h hx hl
  generalize xs.length = n at *
  go_enter Try.func102, Try.ntmps102
  go_wp2_with fail
  have q2 := HQ.out
  go_still_tail 10, (by kernel_rfl)
  go_wp2_with fail
  refine (mem_load_any m c i x xs _ HH.out.drew.mem HX.out).mono ?_
  rintro e w1 ⟨rfl, hm1, hf1⟩
  have hfw : Fr [m] w w1 := (Fr.refl [m] w).drew.trans hf1 (fun b hb _ => hb)
  have h1 : Bx (UtAt w1 t m c xs) := ⟨⟨HH.out.tab.fr hfw (by simp; exact HH.out.ne.1), hm1, HH.out.ne, HH.out.len⟩⟩
  clear t0 t1 t2 hm1 hf1
  go_wp2_with fail
  go_ret
  exact ⟨rfl, h1.out, hfw⟩
set_option maxRecDepth 100000 in
theorem tabnew_any (m c : Nat) (xs : List Nat) (w : World) (h : MemAt w m c xs) (hn : 0 < xs.length) (hn2 : xs.length < 1000000) :
    Calls Try.prog 71 #[.pointer (some ⟨m, 0, none⟩), .int .i64 0, .int .i64 (xs.length : Int)] w fun e w' => e = .returned (.tuple #[.pointer (some ⟨w.heap.size, 0, none⟩), .int .i64 0]) ∧ UtAt w' w.heap.size m c xs ∧ Fr [] w w' ∧ w'.heap.size = w.heap.size + 1 := by
  have hl := fun u => mem_len_any m c xs u
  have hml : m < w.heap.size := by obtain ⟨_, _, hb⟩ := h.hd; exact hb.lt
  have hcl := h.row.lt
  have HL := Bx.mk (mem_len_any m c xs w h)
  have hu : UtAt (w.alloc (.cells (TabV m xs.length) 152)) w.heap.size m c xs := ⟨Blk.new _ _ _, h.fr ((Fr.refl [] _).alloc _) (by simp) (by simp), by omega, hn, hn2⟩
  have hf : Fr [] w (w.alloc (.cells (TabV m xs.length) 152)) := (Fr.refl [] _).alloc _
  have HU := Bx.mk hu
  clear hl h hu
  generalize hxl : xs.length = n at *
  have HXL := Bx.mk hxl
  clear hxl
  have q0 : ¬ (n : Int) < 1 := by omega
  have q1 : (0 : Int) ≤ (n : Int) := by omega
  have q2 : ¬ (0 : Int) > (n : Int) := by omega
  have b1 : decide ((n : Int) < 0) = false := by simp
  have w1 : Bx (wrap64 (n : Int) = (n : Int)) := ⟨by unfold wrap64; omega⟩
  have HQ : Bx ((n : Int) < 1000000) := ⟨by omega⟩
  clear hn2
  go_enter Try.func71, Try.ntmps71
  go_wp2_with fail
  refine HL.out.mono ?_
  rintro e w1 ⟨rfl, rfl⟩
  go_wp2_with fail
  refine HL.out.mono ?_
  rintro e wx ⟨rfl, rfl⟩
  have w2 := w1.out
  go_wp2_with fail
  go_ret2
  exact ⟨rfl, HU.out, hf, by simp⟩
end Go.Proofs.Ythbifeoohphnpaa
