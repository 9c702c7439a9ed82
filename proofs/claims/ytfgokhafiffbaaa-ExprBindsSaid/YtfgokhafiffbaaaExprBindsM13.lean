/-
  Texts on which the law ExprBinds rests, part 13 of 22.
-/
import Derived.Test.YtfgokhafiffbaaaExprBindsM12
/-
  What the walks of the laws over tables are made of, more: numbers, bools, empty tables.
-/
namespace Go.Proofs.Ytfgokhafiffbaaa
set_option linter.unusedVariables false
open Go.RowKit

section
variable {P : Program} {a : Act} {u : World} {o : Oper} {x y : Operand}
theorem exec_bin {op : BinOp} {t t' : TypeId} {p q r : Value} (hop : o.op = .binOp op t x y t') (hx : a.eval x = p) (hy : a.eval y = q) (hg : (eqGuard op t x y p q).run P u = .ok () u) (h : (binOp op t p q).run P u = .ok r u) :
    (execOp a.eval o).run P u = .ok (.value r) u := by
  unfold execOp
  simp only [hop, hx, hy]
  simp [Sem.run_bind, hg, h]
theorem exec_un {op : UnOp} {t : TypeId} {p r : Value} (hop : o.op = .unOp op t x) (hx : a.eval x = p) (h : (Op.unary op p).run P u = .ok r u) :
    (execOp a.eval o).run P u = .ok (.value r) u := by
  unfold execOp
  simp only [hop, hx]
  simp [h]
theorem exec_assign {v : Value} (hop : o.op = .assign x) (hx : a.eval x = v) : (execOp a.eval o).run P u = .ok (.value v) u := by
  unfold execOp
  simp only [hop, hx]
  rfl
theorem exec_pick_and {c : Operand} {p q : Bool} (hop : o.op = .pick c x y) (hc : a.eval c = .bool p) (hx : a.eval x = bif p then .bool q else undef) (hy : a.eval y = .bool false) : (execOp a.eval o).run P u = .ok (.value (.bool (p && q))) u := by
  unfold execOp
  simp only [hop, hc, hx, hy]
  cases p <;> rfl
theorem exec_pick_or {c : Operand} {p q : Bool} (hop : o.op = .pick c x y) (hc : a.eval c = .bool p) (hx : a.eval x = .bool true) (hy : a.eval y = bif p then undef else .bool q) : (execOp a.eval o).run P u = .ok (.value (.bool (p || q))) u := by
  unfold execOp
  simp only [hop, hc, hx, hy]
  cases p <;> rfl
theorem guard_int {op : BinOp} {t : TypeId} {k k' : IntKind} {p q : Int} (P : Program) (u : World) : (eqGuard op t x y (.int k p) (.int k' q)).run P u = .ok () u := by
  unfold eqGuard
  cases op <;> rfl
theorem guard_bool {op : BinOp} {t : TypeId} {p q : Bool} (P : Program) (u : World) : (eqGuard op t x y (.bool p) (.bool q)).run P u = .ok () u := by
  unfold eqGuard
  cases op <;> rfl
end
section
variable {t : TypeId} (P : Program) (u : World)
theorem bin_or8 {m n : Nat} (hm : m < 256) (hn : n < 256) (P : Program) (u : World) : (binOp .or t (.int .u8 (m : Int)) (.int .u8 (n : Int))).run P u = .ok (.int .u8 ((m ||| n : Nat) : Int)) u := by
  rw [← u8_or_nat m n hm hn]; rfl
theorem bin_and8 {m n : Nat} (hm : m < 256) (hn : n < 256) (P : Program) (u : World) : (binOp .and t (.int .u8 (m : Int)) (.int .u8 (n : Int))).run P u = .ok (.int .u8 ((m &&& n : Nat) : Int)) u := by
  rw [← u8_and_nat m n hm hn]; rfl
theorem bin_andNot8 {m n : Nat} (hm : m < 256) (hn : n < 256) (P : Program) (u : World) : (binOp .andNot t (.int .u8 (m : Int)) (.int .u8 (n : Int))).run P u = .ok (.int .u8 ((m &&& (255 - n) : Nat) : Int)) u := by
  rw [← u8_andNot_nat m n hm hn]; rfl
theorem bin_shr8 {m k : Nat} {kk : IntKind} (hm : m < 256) (hk : k < 8) (P : Program) (u : World) : (binOp .shr t (.int .u8 (m : Int)) (.int kk (k : Int))).run P u = .ok (.int .u8 ((m / 2 ^ k : Nat) : Int)) u := by
  have e : (m : Int).fdiv (2 ^ min ((k : Int)).toNat IntKind.u8.bits) = ((m / 2 ^ k : Nat) : Int) := by
    rw [show min ((k : Int)).toNat IntKind.u8.bits = k from by simp [IntKind.bits]; omega]
    rw [Int.fdiv_eq_ediv_of_nonneg _ (by exact_mod_cast Nat.zero_le (2 ^ k))]
    norm_cast
  simp only [binOp, Op.shift]
  rw [if_neg (by omega), e]; rfl
theorem bin_add64 {m n : Nat} (hm : m < 4294967296) (hn : n < 4294967296) (P : Program) (u : World) : (binOp .add t (.int .i64 (m : Int)) (.int .i64 (n : Int))).run P u = .ok (.int .i64 ((m + n : Nat) : Int)) u := by
  have e : IntKind.i64.wrap ((m : Int) + n) = ((m + n : Nat) : Int) := by rw [IntKind.wrap_i64]; omega
  rw [← e]; rfl
theorem bin_mul64 {m n : Nat} (hm : m < 65536) (hn : n < 65536) (P : Program) (u : World) : (binOp .mul t (.int .i64 (m : Int)) (.int .i64 (n : Int))).run P u = .ok (.int .i64 ((m * n : Nat) : Int)) u := by
  have h : m * n < 65536 * 65536 := Nat.mul_lt_mul'' hm hn
  have e : IntKind.i64.wrap ((m : Int) * n) = ((m * n : Nat) : Int) := by rw [IntKind.wrap_i64, ← Int.natCast_mul]; omega
  rw [← e]; rfl
theorem bin_eqN {k : IntKind} {m n : Nat} (P : Program) (u : World) : (binOp .eql t (.int k (m : Int)) (.int k (n : Int))).run P u = .ok (.bool (decide (m = n))) u := by
  have e : decide (m = n) = ((m : Int) == (n : Int)) := by
    rw [Bool.eq_iff_iff, decide_eq_true_iff, beq_iff_eq]; omega
  rw [e]
  simp [binOp, go_sem]
theorem bin_eqN1 {k : IntKind} {m n : Nat} (h : m = n) (P : Program) (u : World) : (binOp .eql t (.int k (m : Int)) (.int k (n : Int))).run P u = .ok (.bool true) u := by
  rw [bin_eqN]; simp [h]
theorem un_not {b : Bool} (P : Program) (u : World) : (Op.unary .not (.bool b)).run P u = .ok (.bool (!b)) u := rfl
end
theorem equal_bool (d : Nat) (p q : Bool) (w : World) : Sem.run Try.prog (Op.equalIn (d + 1) 4 (.bool p) (.bool q)) w = .ok (p == q) w := by
  simp [Op.equalIn, go_sem]
theorem bin_eqB {p q : Bool} (u : World) : (binOp .eql 4 (.bool p) (.bool q)).run Try.prog u = .ok (.bool (p == q)) u := by
  have h := equal_bool 9999 p q u
  simp [binOp, Op.equal, Op.maxDepth, h]
theorem bin_neB {p q : Bool} (u : World) : (binOp .neq 4 (.bool p) (.bool q)).run Try.prog u = .ok (.bool (!(p == q))) u := by
  have h := equal_bool 9999 p q u
  simp [binOp, Op.equal, Op.maxDepth, h]
theorem bin_eqB1 {p q : Bool} (h : p = q) (u : World) : (binOp .eql 4 (.bool p) (.bool q)).run Try.prog u = .ok (.bool true) u := by
  rw [bin_eqB, h]; simp
theorem exec_neT {a : Act} {u : World} {o : Oper} {x y : Operand} {F G : Tb.T} (hop : o.op = .binOp .neq 29 x y 29) (hx : a.eval x = Tb.tv F) (hy : a.eval y = Tb.tv G) :
    (execOp a.eval o).run Try.prog u = .ok (.value (.bool (decide (F ≠ G)))) u := by
  have heq := run_equal_max (F := F) (G := G) rfl
  unfold execOp
  simp only [hop, hx, hy]
  go_simp
theorem exec_conv {a : Act} {u : World} {o : Oper} {x : Operand} {m : Nat} (hop : o.op = .convert 5 3 x) (hx : a.eval x = .int .u8 (m : Int)) (hm : m < 256) :
    (execOp a.eval o).run Try.prog u = .ok (.value (.int .i64 (m : Int))) u := by
  have hw : IntKind.i64.wrap (m : Int) = (m : Int) := by rw [IntKind.wrap_i64]; omega
  unfold execOp
  simp only [hop, hx]
  go_simp
theorem exec_zero {a : Act} {u : World} {o : Oper} (hop : o.op = .build 29 #[]) :
    (execOp a.eval o).run Try.prog u = .ok (.value (Tb.tv 0#256)) u := by
  unfold Tb.tv
  rw [Tb.wd_zero, Tb.wd_zero, Tb.wd_zero, Tb.wd_zero]
  unfold execOp
  simp only [hop]
  go_simp
end Go.Proofs.Ytfgokhafiffbaaa

/-
  Formulas: tables, what it hands back.
-/
namespace Go.Proofs.Ytfgokhafiffbaaa
set_option linter.unusedVariables false
open Go.RowKit

set_option maxHeartbeats 4000000 in
theorem tables1_any (f g : Tb.T) (w : World) : Calls Try.prog 74 #[Tb.tv f, Tb.tv g] w fun e w' => e = .returned (Tb.tv ((~~~f) ||| g)) ∧ Below w.heap.size w w' := by
  have hK := (((Keep.nil w).new f).new g).new 0#256
  simp only [List.cons_append, List.nil_append, alloc_size] at hK
  have HK := Bx.mk hK
  clear hK
  go_enter Try.func74, Try.ntmps74
  go_wp2_with fail
  refine region_any 4 (fun u => Keep w u [(w.heap.size, f), (w.heap.size + 1, g), (w.heap.size + 1 + 1, 0#256)]) (by kernel_rfl) ?_
  rw [zeros_tab]
  generalize hu : World.drew _ = u0
  have hS0 : Keep w u0 [(w.heap.size, f), (w.heap.size + 1, g), (w.heap.size + 1 + 1, 0#256)] := by rw [← hu]; exact HK.out.drew
  clear hu HK
  refine any_take (i := 0) (Tb.tv f) rfl rfl (by kernel_rfl) (by kernel_rfl) (by kernel_rfl) (by kernel_rfl) (fun _ _ d _ _ h => by cases d <;> exact h) (fun u hS => exec_load rfl rfl (hS.at_ 0 _ _ rfl)) hS0 ?_
  (try simp only [Act.put]); (try simp only [List.getElem_toArray]); (try simp only [List.getElem_cons_succ]); (try simp only [List.getElem_cons_zero]); (try simp only [List.setIfInBounds_toArray]); (try simp only [List.set_cons_succ]); (try simp only [List.set_cons_zero])
  refine any_take (i := 2) (Tb.tv g) rfl rfl (by kernel_rfl) (by kernel_rfl) (by kernel_rfl) (by kernel_rfl) (fun _ _ d _ _ h => by cases d <;> exact h) (fun u hS => exec_load rfl rfl (hS.at_ 1 _ _ rfl)) hS0 ?_
  (try simp only [Act.put]); (try simp only [List.getElem_toArray]); (try simp only [List.getElem_cons_succ]); (try simp only [List.getElem_cons_zero]); (try simp only [List.setIfInBounds_toArray]); (try simp only [List.set_cons_succ]); (try simp only [List.set_cons_zero])
  refine any_branch [1] (by kernel_rfl) rfl fun ix hix => ?_
  simp only [List.mem_cons, List.not_mem_nil, or_false] at hix
  subst hix
  refine any_op rfl rfl fun K hK => ?_
  go_simp
  refine (not_any f _).mono ?_
  rintro e u1 ⟨rfl, hb1⟩
  have hS1 := hS0.step hb1
  refine hK _ _ (fun _ => hS1) ?_
  (try simp only [Act.put]); (try simp only [List.getElem_toArray]); (try simp only [List.getElem_cons_succ]); (try simp only [List.getElem_cons_zero]); (try simp only [List.setIfInBounds_toArray]); (try simp only [List.set_cons_succ]); (try simp only [List.set_cons_zero])
  clear hK
  refine any_branch [3] (by kernel_rfl) rfl fun ix hix => ?_
  simp only [List.mem_cons, List.not_mem_nil, or_false] at hix
  subst hix
  refine any_op rfl rfl fun K hK => ?_
  go_simp
  refine (or_any (~~~f) g _).mono ?_
  rintro e u2 ⟨rfl, hb2⟩
  have hS2 := hS1.step hb2
  refine hK _ _ (fun _ => hS2) ?_
  (try simp only [Act.put]); (try simp only [List.getElem_toArray]); (try simp only [List.getElem_cons_succ]); (try simp only [List.getElem_cons_zero]); (try simp only [List.setIfInBounds_toArray]); (try simp only [List.set_cons_succ]); (try simp only [List.set_cons_zero])
  clear hK
  refine any_branch [4] (by kernel_rfl) rfl fun ix hix => ?_
  simp only [List.mem_cons, List.not_mem_nil, or_false] at hix
  subst hix
  refine any_op rfl rfl fun K hK => ?_
  obtain ⟨⟨r0, r1, r2, r3⟩, g0, g1, g2, g3⟩ := tfacts (hS2.at_ 2 _ _ rfl)
  unfold Tb.tv
  go_simp
  refine hK _ _ (fun h => absurd rfl h) ?_
  (try simp only [Act.put]); (try simp only [List.getElem_toArray]); (try simp only [List.getElem_cons_succ]); (try simp only [List.getElem_cons_zero]); (try simp only [List.setIfInBounds_toArray]); (try simp only [List.set_cons_succ]); (try simp only [List.set_cons_zero])
  clear hK
  refine any_end (by kernel_rfl) ?_
  have HSf := Bx.mk (hS2.store 2 ((~~~f) ||| g) rfl (by omega))
  clear r0 r1 r2 r3 g0 g1 g2 g3 hS0 hS1 hS2 hb1 hb2
  go_wp2_with fail
  have hE := HSf.out.at_ 2 _ _ rfl
  obtain ⟨⟨r0, r1, r2, r3⟩, _, _, _, _⟩ := tfacts hE
  refine bodyPost_ret (v := Tb.tv ((~~~f) ||| g)) (by simp [results, Try.results74, go_sem, r0, r1, r2, r3] <;> rfl) rfl ⟨rfl, HSf.out.below⟩

set_option maxHeartbeats 4000000 in
theorem tables2_any (f g : Tb.T) (w : World) : Calls Try.prog 75 #[Tb.tv f, Tb.tv g] w fun e w' => e = .returned (Tb.tv (~~~(f ^^^ g))) ∧ Below w.heap.size w w' := by
  have hK := (((Keep.nil w).new f).new g).new 0#256
  simp only [List.cons_append, List.nil_append, alloc_size] at hK
  have HK := Bx.mk hK
  clear hK
  go_enter Try.func75, Try.ntmps75
  go_wp2_with fail
  rw [zeros_tab]
  refine (xor_any f g _).mono ?_
  rintro e u1 ⟨rfl, hb1⟩
  have HS1 := Bx.mk (HK.out.step hb1)
  clear hb1
  go_wp2_with fail
  refine (not_any (f ^^^ g) _).mono ?_
  rintro e u2 ⟨rfl, hb2⟩
  have hS2 := HS1.out.step hb2
  obtain ⟨⟨r0, r1, r2, r3⟩, g0, g1, g2, g3⟩ := tfacts (hS2.at_ 2 _ _ rfl)
  have HSf := Bx.mk (hS2.store 2 (~~~(f ^^^ g)) rfl (by omega))
  clear hb2 hS2
  unfold Tb.tv
  go_wp2_with fail
  clear r0 r1 r2 r3 g0 g1 g2 g3
  have hE := HSf.out.at_ 2 _ _ rfl
  obtain ⟨⟨r0, r1, r2, r3⟩, _, _, _, _⟩ := tfacts hE
  refine bodyPost_ret (v := Tb.tv (~~~(f ^^^ g))) (by simp [results, Try.results75, go_sem, r0, r1, r2, r3] <;> rfl) rfl ⟨rfl, HSf.out.below⟩

theorem tables_4 (w : World) : Calls Try.prog 51 #[.int .i64 4] w fun e w' => e = .returned (.func (.func 71) #[] #[]) ∧ w' = w := by
  go_enter Try.func51, Try.ntmps51
  go_wp2_with fail
  go_ret
  exact ⟨rfl, rfl⟩

theorem tables_5 (w : World) : Calls Try.prog 51 #[.int .i64 5] w fun e w' => e = .returned (.func (.func 70) #[] #[]) ∧ w' = w := by
  go_enter Try.func51, Try.ntmps51
  go_wp2_with fail
  go_ret
  exact ⟨rfl, rfl⟩

theorem tables_6 (w : World) : Calls Try.prog 51 #[.int .i64 6] w fun e w' => e = .returned (.func (.func 73) #[] #[]) ∧ w' = w := by
  go_enter Try.func51, Try.ntmps51
  go_wp2_with fail
  go_ret
  exact ⟨rfl, rfl⟩

theorem tables_7 (w : World) : Calls Try.prog 51 #[.int .i64 7] w fun e w' => e = .returned (.func (.func 74) #[] #[]) ∧ w' = w := by
  go_enter Try.func51, Try.ntmps51
  go_wp2_with fail
  go_ret
  exact ⟨rfl, rfl⟩

theorem tables_8 (w : World) : Calls Try.prog 51 #[.int .i64 8] w fun e w' => e = .returned (.func (.func 75) #[] #[]) ∧ w' = w := by
  go_enter Try.func51, Try.ntmps51
  go_wp2_with fail
  go_ret
  exact ⟨rfl, rfl⟩

end Go.Proofs.Ytfgokhafiffbaaa

/-
  Formulas: table.
-/
namespace Go.Proofs.Ytfgokhafiffbaaa
set_option linter.unusedVariables false
open Go.RowKit

/-- the cells of three tables -/
def lc (f g h : Tb.T) : Array Value := #[.int .u64 (Tb.wd f 0), .int .u64 (Tb.wd f 1), .int .u64 (Tb.wd f 2), .int .u64 (Tb.wd f 3), .int .u64 (Tb.wd g 0), .int .u64 (Tb.wd g 1), .int .u64 (Tb.wd g 2), .int .u64 (Tb.wd g 3), .int .u64 (Tb.wd h 0), .int .u64 (Tb.wd h 1), .int .u64 (Tb.wd h 2), .int .u64 (Tb.wd h 3)]
/-- the table of a node, of the tables of its kids -/
def Ex.tabk (k v : Int) (l : List Tb.T) : Tb.T :=
  if k = 1 then Tb.var v else if k = 2 then Tb.cst (decide (v = 1)) else if k = 3 then ~~~ (l.getD 0 0#256)
  else if k = 4 then l.getD 0 0#256 &&& l.getD 1 0#256 else if k = 5 then l.getD 0 0#256 ||| l.getD 1 0#256 else if k = 6 then l.getD 0 0#256 ^^^ l.getD 1 0#256
  else if k = 7 then (~~~ (l.getD 0 0#256)) ||| l.getD 1 0#256 else if k = 8 then ~~~ (l.getD 0 0#256 ^^^ l.getD 1 0#256)
  else if k = 9 then (l.getD 0 0#256 &&& l.getD 1 0#256) ||| (~~~ (l.getD 0 0#256) &&& l.getD 2 0#256)
  else if k = 10 then Tb.halves (fun F G => F &&& G) (l.getD 0 0#256) (2 ^ v.toNat) else Tb.halves (fun F G => F ||| G) (l.getD 0 0#256) (2 ^ v.toNat)
def Fo.tabs : Fo → List Tb.T
  | .nil => []
  | .cons k _ v kids rest => Ex.tabk k v kids.tabs :: rest.tabs
def Ex.table (t : Tr) : Tb.T := Ex.tabk t.k t.v t.kids.tabs
/-- where table stands -/
structure TS (w wr : World) (k a v : Int) (sl : Value) (f g h : Tb.T) : Prop where
  be : Below w.heap.size w wr
  e : Blk wr w.heap.size 36 #[.int .i64 k, .int .i64 a, .int .i64 v, sl]
  r : Blk wr (w.heap.size + 1) 29 (Tb.tcells 0#256)
  l : Blk wr (w.heap.size + 2) 67 (lc f g h)
theorem TS.size {w wr : World} {k a v : Int} {sl : Value} {f g h : Tb.T} (s : TS w wr k a v sl f g h) : w.heap.size + 3 ≤ wr.heap.size := s.l.lt
theorem TS.step {w wr u : World} {k a v : Int} {sl : Value} {f g h : Tb.T} (s : TS w wr k a v sl f g h) (hb : Below wr.heap.size wr u) : TS w u k a v sl f g h := by
  have hz := s.size
  exact ⟨s.be.trans (hb.mono s.be.size), s.e.below hb (by omega), s.r.below hb (by omega), s.l.below hb (by omega)⟩
theorem TS.alloc {w wr : World} {k a v : Int} {sl : Value} {f g h : Tb.T} (s : TS w wr k a v sl f g h) (o : Obj) : TS w (wr.alloc o) k a v sl f g h := s.step ((Below.refl _ _).alloc (Nat.le_refl _) o)
theorem lc_zero : (#[.int .u64 0, .int .u64 0, .int .u64 0, .int .u64 0, .int .u64 0, .int .u64 0, .int .u64 0, .int .u64 0, .int .u64 0, .int .u64 0, .int .u64 0, .int .u64 0] : Array Value) = lc 0#256 0#256 0#256 := by
  unfold lc
  rw [Tb.wd_zero 0, Tb.wd_zero 1, Tb.wd_zero 2, Tb.wd_zero 3]
theorem TS.start (w : World) (k a v : Int) (sl : Value) : TS w (((w.alloc (.cells #[.int .i64 k, .int .i64 a, .int .i64 v, sl] 36)).alloc (.cells (Tb.tcells 0#256) 29)).alloc (.cells (lc 0#256 0#256 0#256) 67)) k a v sl 0#256 0#256 0#256 := by
  have h1 := Blk.new w 36 #[.int .i64 k, .int .i64 a, .int .i64 v, sl]
  have h2 := Blk.new (w.alloc (.cells #[.int .i64 k, .int .i64 a, .int .i64 v, sl] 36)) 29 (Tb.tcells 0#256)
  have h3 := Blk.new ((w.alloc (.cells #[.int .i64 k, .int .i64 a, .int .i64 v, sl] 36)).alloc (.cells (Tb.tcells 0#256) 29)) 67 (lc 0#256 0#256 0#256)
  rw [alloc_size] at h2
  rw [alloc_size, alloc_size] at h3
  exact ⟨(((Below.refl _ _).alloc (Nat.le_refl _) _).alloc (by rw [alloc_size]; omega) _).alloc (by rw [alloc_size, alloc_size]; omega) _, (h1.alloc _).alloc _, h2.alloc _, h3⟩

theorem TS.put0 {w wr : World} {k a v : Int} {sl : Value} {f g h : Tb.T} (s : TS w wr k a v sl f g h) (F : Tb.T) : TS w ((((wr.setCell ⟨w.heap.size + 2, 0, none⟩ (.int .u64 (Tb.wd F 0))).setCell ⟨w.heap.size + 2, 1, none⟩ (.int .u64 (Tb.wd F 1))).setCell ⟨w.heap.size + 2, 2, none⟩ (.int .u64 (Tb.wd F 2))).setCell ⟨w.heap.size + 2, 3, none⟩ (.int .u64 (Tb.wd F 3))) k a v sl F g h :=
  ⟨((((s.be.setCell (p := ⟨w.heap.size + 2, 0, none⟩) (by show w.heap.size ≤ w.heap.size + 2; omega) _).setCell (p := ⟨w.heap.size + 2, 1, none⟩) (by show w.heap.size ≤ w.heap.size + 2; omega) _).setCell (p := ⟨w.heap.size + 2, 2, none⟩) (by show w.heap.size ≤ w.heap.size + 2; omega) _).setCell (p := ⟨w.heap.size + 2, 3, none⟩) (by show w.heap.size ≤ w.heap.size + 2; omega) _), ((((s.e.far (p := ⟨w.heap.size + 2, 0, none⟩) (by first | (show w.heap.size ≠ w.heap.size + 2; omega) | (show w.heap.size + 1 ≠ w.heap.size + 2; omega)) _).far (p := ⟨w.heap.size + 2, 1, none⟩) (by first | (show w.heap.size ≠ w.heap.size + 2; omega) | (show w.heap.size + 1 ≠ w.heap.size + 2; omega)) _).far (p := ⟨w.heap.size + 2, 2, none⟩) (by first | (show w.heap.size ≠ w.heap.size + 2; omega) | (show w.heap.size + 1 ≠ w.heap.size + 2; omega)) _).far (p := ⟨w.heap.size + 2, 3, none⟩) (by first | (show w.heap.size ≠ w.heap.size + 2; omega) | (show w.heap.size + 1 ≠ w.heap.size + 2; omega)) _), ((((s.r.far (p := ⟨w.heap.size + 2, 0, none⟩) (by first | (show w.heap.size ≠ w.heap.size + 2; omega) | (show w.heap.size + 1 ≠ w.heap.size + 2; omega)) _).far (p := ⟨w.heap.size + 2, 1, none⟩) (by first | (show w.heap.size ≠ w.heap.size + 2; omega) | (show w.heap.size + 1 ≠ w.heap.size + 2; omega)) _).far (p := ⟨w.heap.size + 2, 2, none⟩) (by first | (show w.heap.size ≠ w.heap.size + 2; omega) | (show w.heap.size + 1 ≠ w.heap.size + 2; omega)) _).far (p := ⟨w.heap.size + 2, 3, none⟩) (by first | (show w.heap.size ≠ w.heap.size + 2; omega) | (show w.heap.size + 1 ≠ w.heap.size + 2; omega)) _), ((((s.l.set_ 0 (.int .u64 (Tb.wd F 0))).set_ 1 (.int .u64 (Tb.wd F 1))).set_ 2 (.int .u64 (Tb.wd F 2))).set_ 3 (.int .u64 (Tb.wd F 3)))⟩
theorem TS.put1 {w wr : World} {k a v : Int} {sl : Value} {f g h : Tb.T} (s : TS w wr k a v sl f g h) (F : Tb.T) : TS w ((((wr.setCell ⟨w.heap.size + 2, 4, none⟩ (.int .u64 (Tb.wd F 0))).setCell ⟨w.heap.size + 2, 5, none⟩ (.int .u64 (Tb.wd F 1))).setCell ⟨w.heap.size + 2, 6, none⟩ (.int .u64 (Tb.wd F 2))).setCell ⟨w.heap.size + 2, 7, none⟩ (.int .u64 (Tb.wd F 3))) k a v sl f F h :=
  ⟨((((s.be.setCell (p := ⟨w.heap.size + 2, 4, none⟩) (by show w.heap.size ≤ w.heap.size + 2; omega) _).setCell (p := ⟨w.heap.size + 2, 5, none⟩) (by show w.heap.size ≤ w.heap.size + 2; omega) _).setCell (p := ⟨w.heap.size + 2, 6, none⟩) (by show w.heap.size ≤ w.heap.size + 2; omega) _).setCell (p := ⟨w.heap.size + 2, 7, none⟩) (by show w.heap.size ≤ w.heap.size + 2; omega) _), ((((s.e.far (p := ⟨w.heap.size + 2, 4, none⟩) (by first | (show w.heap.size ≠ w.heap.size + 2; omega) | (show w.heap.size + 1 ≠ w.heap.size + 2; omega)) _).far (p := ⟨w.heap.size + 2, 5, none⟩) (by first | (show w.heap.size ≠ w.heap.size + 2; omega) | (show w.heap.size + 1 ≠ w.heap.size + 2; omega)) _).far (p := ⟨w.heap.size + 2, 6, none⟩) (by first | (show w.heap.size ≠ w.heap.size + 2; omega) | (show w.heap.size + 1 ≠ w.heap.size + 2; omega)) _).far (p := ⟨w.heap.size + 2, 7, none⟩) (by first | (show w.heap.size ≠ w.heap.size + 2; omega) | (show w.heap.size + 1 ≠ w.heap.size + 2; omega)) _), ((((s.r.far (p := ⟨w.heap.size + 2, 4, none⟩) (by first | (show w.heap.size ≠ w.heap.size + 2; omega) | (show w.heap.size + 1 ≠ w.heap.size + 2; omega)) _).far (p := ⟨w.heap.size + 2, 5, none⟩) (by first | (show w.heap.size ≠ w.heap.size + 2; omega) | (show w.heap.size + 1 ≠ w.heap.size + 2; omega)) _).far (p := ⟨w.heap.size + 2, 6, none⟩) (by first | (show w.heap.size ≠ w.heap.size + 2; omega) | (show w.heap.size + 1 ≠ w.heap.size + 2; omega)) _).far (p := ⟨w.heap.size + 2, 7, none⟩) (by first | (show w.heap.size ≠ w.heap.size + 2; omega) | (show w.heap.size + 1 ≠ w.heap.size + 2; omega)) _), ((((s.l.set_ 4 (.int .u64 (Tb.wd F 0))).set_ 5 (.int .u64 (Tb.wd F 1))).set_ 6 (.int .u64 (Tb.wd F 2))).set_ 7 (.int .u64 (Tb.wd F 3)))⟩
theorem TS.put2 {w wr : World} {k a v : Int} {sl : Value} {f g h : Tb.T} (s : TS w wr k a v sl f g h) (F : Tb.T) : TS w ((((wr.setCell ⟨w.heap.size + 2, 8, none⟩ (.int .u64 (Tb.wd F 0))).setCell ⟨w.heap.size + 2, 9, none⟩ (.int .u64 (Tb.wd F 1))).setCell ⟨w.heap.size + 2, 10, none⟩ (.int .u64 (Tb.wd F 2))).setCell ⟨w.heap.size + 2, 11, none⟩ (.int .u64 (Tb.wd F 3))) k a v sl f g F :=
  ⟨((((s.be.setCell (p := ⟨w.heap.size + 2, 8, none⟩) (by show w.heap.size ≤ w.heap.size + 2; omega) _).setCell (p := ⟨w.heap.size + 2, 9, none⟩) (by show w.heap.size ≤ w.heap.size + 2; omega) _).setCell (p := ⟨w.heap.size + 2, 10, none⟩) (by show w.heap.size ≤ w.heap.size + 2; omega) _).setCell (p := ⟨w.heap.size + 2, 11, none⟩) (by show w.heap.size ≤ w.heap.size + 2; omega) _), ((((s.e.far (p := ⟨w.heap.size + 2, 8, none⟩) (by first | (show w.heap.size ≠ w.heap.size + 2; omega) | (show w.heap.size + 1 ≠ w.heap.size + 2; omega)) _).far (p := ⟨w.heap.size + 2, 9, none⟩) (by first | (show w.heap.size ≠ w.heap.size + 2; omega) | (show w.heap.size + 1 ≠ w.heap.size + 2; omega)) _).far (p := ⟨w.heap.size + 2, 10, none⟩) (by first | (show w.heap.size ≠ w.heap.size + 2; omega) | (show w.heap.size + 1 ≠ w.heap.size + 2; omega)) _).far (p := ⟨w.heap.size + 2, 11, none⟩) (by first | (show w.heap.size ≠ w.heap.size + 2; omega) | (show w.heap.size + 1 ≠ w.heap.size + 2; omega)) _), ((((s.r.far (p := ⟨w.heap.size + 2, 8, none⟩) (by first | (show w.heap.size ≠ w.heap.size + 2; omega) | (show w.heap.size + 1 ≠ w.heap.size + 2; omega)) _).far (p := ⟨w.heap.size + 2, 9, none⟩) (by first | (show w.heap.size ≠ w.heap.size + 2; omega) | (show w.heap.size + 1 ≠ w.heap.size + 2; omega)) _).far (p := ⟨w.heap.size + 2, 10, none⟩) (by first | (show w.heap.size ≠ w.heap.size + 2; omega) | (show w.heap.size + 1 ≠ w.heap.size + 2; omega)) _).far (p := ⟨w.heap.size + 2, 11, none⟩) (by first | (show w.heap.size ≠ w.heap.size + 2; omega) | (show w.heap.size + 1 ≠ w.heap.size + 2; omega)) _), ((((s.l.set_ 8 (.int .u64 (Tb.wd F 0))).set_ 9 (.int .u64 (Tb.wd F 1))).set_ 10 (.int .u64 (Tb.wd F 2))).set_ 11 (.int .u64 (Tb.wd F 3)))⟩
theorem TS.cells {w wr : World} {k a v : Int} {sl : Value} {f g h : Tb.T} (s : TS w wr k a v sl f g h) :
    (wr.cell? ⟨w.heap.size, 0, none⟩ = some (.int .i64 k) ∧ wr.cell? ⟨w.heap.size, 2, none⟩ = some (.int .i64 v) ∧ wr.cell? ⟨w.heap.size, 3, none⟩ = some sl) ∧
    (wr.cell? ⟨w.heap.size + 2, 0, none⟩ = some (.int .u64 (Tb.wd f 0)) ∧ wr.cell? ⟨w.heap.size + 2, 1, none⟩ = some (.int .u64 (Tb.wd f 1)) ∧ wr.cell? ⟨w.heap.size + 2, 2, none⟩ = some (.int .u64 (Tb.wd f 2)) ∧ wr.cell? ⟨w.heap.size + 2, 3, none⟩ = some (.int .u64 (Tb.wd f 3)) ∧ wr.cell? ⟨w.heap.size + 2, 4, none⟩ = some (.int .u64 (Tb.wd g 0)) ∧ wr.cell? ⟨w.heap.size + 2, 5, none⟩ = some (.int .u64 (Tb.wd g 1)) ∧ wr.cell? ⟨w.heap.size + 2, 6, none⟩ = some (.int .u64 (Tb.wd g 2)) ∧ wr.cell? ⟨w.heap.size + 2, 7, none⟩ = some (.int .u64 (Tb.wd g 3)) ∧ wr.cell? ⟨w.heap.size + 2, 8, none⟩ = some (.int .u64 (Tb.wd h 0)) ∧ wr.cell? ⟨w.heap.size + 2, 9, none⟩ = some (.int .u64 (Tb.wd h 1)) ∧ wr.cell? ⟨w.heap.size + 2, 10, none⟩ = some (.int .u64 (Tb.wd h 2)) ∧ wr.cell? ⟨w.heap.size + 2, 11, none⟩ = some (.int .u64 (Tb.wd h 3))) ∧
    (wr.frozen? ⟨w.heap.size + 2, 0, none⟩ = false ∧ wr.frozen? ⟨w.heap.size + 2, 1, none⟩ = false ∧ wr.frozen? ⟨w.heap.size + 2, 2, none⟩ = false ∧ wr.frozen? ⟨w.heap.size + 2, 3, none⟩ = false ∧ wr.frozen? ⟨w.heap.size + 2, 4, none⟩ = false ∧ wr.frozen? ⟨w.heap.size + 2, 5, none⟩ = false ∧ wr.frozen? ⟨w.heap.size + 2, 6, none⟩ = false ∧ wr.frozen? ⟨w.heap.size + 2, 7, none⟩ = false ∧ wr.frozen? ⟨w.heap.size + 2, 8, none⟩ = false ∧ wr.frozen? ⟨w.heap.size + 2, 9, none⟩ = false ∧ wr.frozen? ⟨w.heap.size + 2, 10, none⟩ = false ∧ wr.frozen? ⟨w.heap.size + 2, 11, none⟩ = false) :=
  ⟨⟨s.e.cell 0, s.e.cell 2, s.e.cell 3⟩, ⟨s.l.cell 0, s.l.cell 1, s.l.cell 2, s.l.cell 3, s.l.cell 4, s.l.cell 5, s.l.cell 6, s.l.cell 7, s.l.cell 8, s.l.cell 9, s.l.cell 10, s.l.cell 11⟩, s.l.frozen 0, s.l.frozen 1, s.l.frozen 2, s.l.frozen 3, s.l.frozen 4, s.l.frozen 5, s.l.frozen 6, s.l.frozen 7, s.l.frozen 8, s.l.frozen 9, s.l.frozen 10, s.l.frozen 11⟩
/-- one kid, where it lies -/
structure Kid (w : World) (b o : Nat) (x : Tr) (sx : Value) : Prop where
  lt : b < w.heap.size
  c0 : w.cell? ⟨b, o, none⟩ = some (.int .i64 x.k)
  c1 : w.cell? ⟨b, o + 1, none⟩ = some (.int .i64 x.a)
  c2 : w.cell? ⟨b, o + 2, none⟩ = some (.int .i64 x.v)
  c3 : w.cell? ⟨b, o + 3, none⟩ = some sx
  sl : SlF w (fun g => g < w.heap.size) sx x.kids
theorem Kid.below {w u : World} {b o : Nat} {x : Tr} {sx : Value} (h : Kid w b o x sx) (hb : Below w.heap.size w u) :
    u.cell? ⟨b, o, none⟩ = some (.int .i64 x.k) ∧ u.cell? ⟨b, o + 1, none⟩ = some (.int .i64 x.a) ∧ u.cell? ⟨b, o + 2, none⟩ = some (.int .i64 x.v) ∧ u.cell? ⟨b, o + 3, none⟩ = some sx ∧ SlF u (fun g => g < w.heap.size) sx x.kids :=
  ⟨(hb.cell (p := ⟨b, o, none⟩) h.lt).trans h.c0, (hb.cell (p := ⟨b, o + 1, none⟩) h.lt).trans h.c1, (hb.cell (p := ⟨b, o + 2, none⟩) h.lt).trans h.c2, (hb.cell (p := ⟨b, o + 3, none⟩) h.lt).trans h.c3, h.sl.kept fun g _ hl => hb.block g hl⟩
theorem pow_lt8 {m : Nat} (hm : m < 8) : 2 ^ m < 256 := by
  have : ∀ m : Nat, m < 8 → 2 ^ m < 256 := by decide
  exact this m hm
section
variable {a : Act} {u : World} {o : Oper} {x y : Operand}
theorem exec_loadL {p off : Nat} {F : Tb.T} (hop : o.op = .load 29 x) (hx : a.eval x = .pointer (some ⟨p, off, none⟩)) (h0 : u.cell? ⟨p, off, none⟩ = some (.int .u64 (Tb.wd F 0))) (h1 : u.cell? ⟨p, off + 1, none⟩ = some (.int .u64 (Tb.wd F 1)))
    (h2 : u.cell? ⟨p, off + 2, none⟩ = some (.int .u64 (Tb.wd F 2))) (h3 : u.cell? ⟨p, off + 3, none⟩ = some (.int .u64 (Tb.wd F 3))) :
    (execOp a.eval o).run Try.prog u = .ok (.value (Tb.tv F)) u := by
  unfold execOp
  simp only [hop, hx]
  go_simp
theorem exec_loadI {p off : Nat} {v : Int} (hop : o.op = .load 3 x) (hx : a.eval x = .pointer (some ⟨p, off, none⟩)) (hc : u.cell? ⟨p, off, none⟩ = some (.int .i64 v)) :
    (execOp a.eval o).run Try.prog u = .ok (.value (.int .i64 v)) u := by
  unfold execOp
  simp only [hop, hx]
  go_simp
theorem exec_shl8 {m : Nat} (hop : o.op = .binOp .shl 5 x y 3) (hx : a.eval x = .int .u8 1) (hy : a.eval y = .int .i64 (m : Int)) (h : m < 8) :
    (execOp a.eval o).run Try.prog u = .ok (.value (.int .u8 ((2 ^ m : Nat) : Int))) u := by
  have hc : m = 0 ∨ m = 1 ∨ m = 2 ∨ m = 3 ∨ m = 4 ∨ m = 5 ∨ m = 6 ∨ m = 7 := by omega
  rcases hc with rfl | rfl | rfl | rfl | rfl | rfl | rfl | rfl
  all_goals
    unfold execOp
    simp only [hop, hx, hy]
    rfl
end
/-- what is known of table for what has so few nodes -/
def Tz (n : Nat) : Prop := ∀ (t : Tr) (sl : Value) (B : Nat → Prop) (u : World), (t.on .nil).nodes ≤ n → (t.on .nil).allPlain = true → SlF u B sl t.kids →
  Calls Try.prog 33 #[Ev t sl] u fun e w' => e = .returned (Tb.tv (Ex.table t)) ∧ Below u.heap.size u w'

set_option maxHeartbeats 8000000 in
theorem table_3 (n : Nat) (ih : Tz n) (a : Int) (v : Int) (b o cap : Nat) (w : World) (x : Tr) (sx : Value) (Kx : Kid w b o x sx) (Nx : (x.on .nil).nodes ≤ n) (Px : (x.on .nil).allPlain = true) :
    Calls Try.prog 33 #[.agg #[.int .i64 3, .int .i64 a, .int .i64 v, .slice (some ⟨b, o, none⟩) 1 cap]] w fun e w' => e = .returned (Tb.tv (Ex.tabk 3 v [Ex.table x])) ∧ Below w.heap.size w w' := by
  have H0 := Bx.mk (TS.start w 3 a v (.slice (some ⟨b, o, none⟩) 1 cap))
  have BKx := Bx.mk Kx
  have BNx := Bx.mk Nx
  have BPx := Bx.mk Px
  have IH := Bx.mk ih
  clear ih Kx Nx Px
  go_enter Try.func33, Try.ntmps33
  go_wp2_with fail
  try rw [zeros_tab]
  try rw [lc_zero]
  generalize hW : World.alloc (World.alloc (World.alloc _ _) _) _ = W0
  have H1 : Bx (TS w W0 3 a v (.slice (some ⟨b, o, none⟩) 1 cap) 0#256 0#256 0#256) := ⟨by rw [← hW]; exact H0.out⟩
  clear hW H0
  refine wp_loop_rounds 2 ?_
  rw [rounds_succ]
  have hk0 := BKx.out.below H1.out.be
  obtain ⟨k0, k1, k2, k3, kS⟩ := hk0
  obtain ⟨px, cx, rfl⟩ := kS.is
  have hA := H1.out.alloc (.cells #[.int .i64 x.k, .int .i64 x.a, .int .i64 x.v, .slice px x.kids.len cx] 36)
  have hI := IH.out x _ _ _ BNx.out BPx.out (kS.alloc (.cells #[.int .i64 x.k, .int .i64 x.a, .int .i64 x.v, .slice px x.kids.len cx] 36))
  have HA := Bx.mk hA
  have HI := Bx.mk hI
  clear hA hI kS
  unfold Ev at HI
  go_wp2_with fail
  refine HI.out.mono ?_
  rintro e u0 ⟨rfl, hb0⟩
  have hT := HA.out.step hb0
  clear k0 k1 k2 k3 HI
  obtain ⟨_, ⟨q0, q1, q2, q3, q4, q5, q6, q7, q8, q9, qa, qb⟩, f0, f1, f2, f3, f4, f5, f6, f7, f8, f9, fa, fb⟩ := hT.cells
  have HT := Bx.mk hT
  clear hT hb0 HA
  generalize hF0 : Ex.table x = F0
  have HF0 := Bx.mk hF0
  clear hF0
  unfold Tb.tv
  go_wp2_with fail
  clear q0 q1 q2 q3 q4 q5 q6 q7 q8 q9 qa qb f0 f1 f2 f3 f4 f5 f6 f7 f8 f9 fa fb
  have H2 := Bx.mk (HT.out.put0 F0)
  obtain ⟨⟨e0, e2, e3⟩, ⟨q0, q1, q2, q3, q4, q5, q6, q7, q8, q9, qa, qb⟩, f0, f1, f2, f3, f4, f5, f6, f7, f8, f9, fa, fb⟩ := H2.out.cells
  rw [rounds_succ]
  go_wp2_with fail
  clear e0 e2 e3 q0 q1 q2 q3 q4 q5 q6 q7 q8 q9 qa qb f0 f1 f2 f3 f4 f5 f6 f7 f8 f9 fa fb
  refine (not_any F0 _).mono ?_
  rintro e u9 ⟨rfl, hb9⟩
  have h9 := H2.out.step hb9
  obtain ⟨⟨r0, r1, r2, r3⟩, g0, g1, g2, g3⟩ := tfacts h9.r
  have HSf := Bx.mk (store4 (F := ~~~F0) h9.r)
  have HBf := Bx.mk (below4 (F := ~~~F0) (p := w.heap.size + 1) h9.be (by omega))
  clear h9 hb9
  generalize hR : ~~~F0 = R at HSf HBf ⊢
  have HR := Bx.mk hR
  clear hR
  unfold Tb.tv
  go_wp2_with fail
  clear r0 r1 r2 r3 g0 g1 g2 g3
  obtain ⟨⟨r0, r1, r2, r3⟩, _, _, _, _⟩ := tfacts HSf.out
  refine bodyPost_ret (v := Tb.tv R) (by simp [results, Try.results33, go_sem, r0, r1, r2, r3] <;> rfl) rfl ⟨?_, HBf.out⟩
  rw [← HR.out, ← HF0.out]
  unfold Ex.tabk
  simp
set_option maxHeartbeats 8000000 in
theorem table_1 (n : Nat) (ih : Tz n) (a : Int) (v : Int) (pp : Option Addr) (cap : Nat) (w : World)  :
    Calls Try.prog 33 #[.agg #[.int .i64 1, .int .i64 a, .int .i64 v, .slice pp 0 cap]] w fun e w' => e = .returned (Tb.tv (Ex.tabk 1 v [])) ∧ Below w.heap.size w w' := by
  have H0 := Bx.mk (TS.start w 1 a v (.slice pp 0 cap))
  have IH := Bx.mk ih
  clear ih
  go_enter Try.func33, Try.ntmps33
  go_wp2_with fail
  try rw [zeros_tab]
  try rw [lc_zero]
  generalize hW : World.alloc (World.alloc (World.alloc _ _) _) _ = W0
  have H1 : Bx (TS w W0 1 a v (.slice pp 0 cap) 0#256 0#256 0#256) := ⟨by rw [← hW]; exact H0.out⟩
  clear hW H0
  refine wp_loop_rounds 1 ?_
  obtain ⟨⟨e0, e2, e3⟩, ⟨q0, q1, q2, q3, q4, q5, q6, q7, q8, q9, qa, qb⟩, f0, f1, f2, f3, f4, f5, f6, f7, f8, f9, fa, fb⟩ := H1.out.cells
  rw [rounds_succ]
  go_wp2_with fail
  clear e0 e2 e3 q0 q1 q2 q3 q4 q5 q6 q7 q8 q9 qa qb f0 f1 f2 f3 f4 f5 f6 f7 f8 f9 fa fb
  refine (var_any v _).mono ?_
  rintro e u9 ⟨rfl, hb9⟩
  have h9 := H1.out.step hb9
  obtain ⟨⟨r0, r1, r2, r3⟩, g0, g1, g2, g3⟩ := tfacts h9.r
  have HSf := Bx.mk (store4 (F := Tb.var v) h9.r)
  have HBf := Bx.mk (below4 (F := Tb.var v) (p := w.heap.size + 1) h9.be (by omega))
  clear h9 hb9
  generalize hR : Tb.var v = R at HSf HBf ⊢
  have HR := Bx.mk hR
  clear hR
  unfold Tb.tv
  go_wp2_with fail
  clear r0 r1 r2 r3 g0 g1 g2 g3
  obtain ⟨⟨r0, r1, r2, r3⟩, _, _, _, _⟩ := tfacts HSf.out
  refine bodyPost_ret (v := Tb.tv R) (by simp [results, Try.results33, go_sem, r0, r1, r2, r3] <;> rfl) rfl ⟨?_, HBf.out⟩
  rw [← HR.out]
  unfold Ex.tabk
  simp
set_option maxHeartbeats 8000000 in
theorem table_2 (n : Nat) (ih : Tz n) (a : Int) (v : Int) (pp : Option Addr) (cap : Nat) (w : World)  :
    Calls Try.prog 33 #[.agg #[.int .i64 2, .int .i64 a, .int .i64 v, .slice pp 0 cap]] w fun e w' => e = .returned (Tb.tv (Ex.tabk 2 v [])) ∧ Below w.heap.size w w' := by
  have H0 := Bx.mk (TS.start w 2 a v (.slice pp 0 cap))
  have IH := Bx.mk ih
  clear ih
  go_enter Try.func33, Try.ntmps33
  go_wp2_with fail
  try rw [zeros_tab]
  try rw [lc_zero]
  generalize hW : World.alloc (World.alloc (World.alloc _ _) _) _ = W0
  have H1 : Bx (TS w W0 2 a v (.slice pp 0 cap) 0#256 0#256 0#256) := ⟨by rw [← hW]; exact H0.out⟩
  clear hW H0
  refine wp_loop_rounds 1 ?_
  obtain ⟨⟨e0, e2, e3⟩, ⟨q0, q1, q2, q3, q4, q5, q6, q7, q8, q9, qa, qb⟩, f0, f1, f2, f3, f4, f5, f6, f7, f8, f9, fa, fb⟩ := H1.out.cells
  rw [rounds_succ]
  go_wp2_with fail
  clear e0 e2 e3 q0 q1 q2 q3 q4 q5 q6 q7 q8 q9 qa qb f0 f1 f2 f3 f4 f5 f6 f7 f8 f9 fa fb
  refine (const_any (decide (v = 1)) _).mono ?_
  rintro e u9 ⟨rfl, hb9⟩
  have h9 := H1.out.step hb9
  obtain ⟨⟨r0, r1, r2, r3⟩, g0, g1, g2, g3⟩ := tfacts h9.r
  have HSf := Bx.mk (store4 (F := Tb.cst (decide (v = 1))) h9.r)
  have HBf := Bx.mk (below4 (F := Tb.cst (decide (v = 1))) (p := w.heap.size + 1) h9.be (by omega))
  clear h9 hb9
  generalize hR : Tb.cst (decide (v = 1)) = R at HSf HBf ⊢
  have HR := Bx.mk hR
  clear hR
  unfold Tb.tv
  go_wp2_with fail
  clear r0 r1 r2 r3 g0 g1 g2 g3
  obtain ⟨⟨r0, r1, r2, r3⟩, _, _, _, _⟩ := tfacts HSf.out
  refine bodyPost_ret (v := Tb.tv R) (by simp [results, Try.results33, go_sem, r0, r1, r2, r3] <;> rfl) rfl ⟨?_, HBf.out⟩
  rw [← HR.out]
  unfold Ex.tabk
  simp
set_option maxHeartbeats 8000000 in
theorem table_9 (n : Nat) (ih : Tz n) (a : Int) (v : Int) (b o cap : Nat) (w : World) (x : Tr) (sx : Value) (Kx : Kid w b o x sx) (Nx : (x.on .nil).nodes ≤ n) (Px : (x.on .nil).allPlain = true) (y : Tr) (sy : Value) (Ky : Kid w b (o + 4) y sy) (Ny : (y.on .nil).nodes ≤ n) (Py : (y.on .nil).allPlain = true) (z : Tr) (sz : Value) (Kz : Kid w b (o + 8) z sz) (Nz : (z.on .nil).nodes ≤ n) (Pz : (z.on .nil).allPlain = true) :
    Calls Try.prog 33 #[.agg #[.int .i64 9, .int .i64 a, .int .i64 v, .slice (some ⟨b, o, none⟩) 3 cap]] w fun e w' => e = .returned (Tb.tv (Ex.tabk 9 v [Ex.table x, Ex.table y, Ex.table z])) ∧ Below w.heap.size w w' := by
  have H0 := Bx.mk (TS.start w 9 a v (.slice (some ⟨b, o, none⟩) 3 cap))
  have BKx := Bx.mk Kx
  have BNx := Bx.mk Nx
  have BPx := Bx.mk Px
  have BKy := Bx.mk Ky
  have BNy := Bx.mk Ny
  have BPy := Bx.mk Py
  have BKz := Bx.mk Kz
  have BNz := Bx.mk Nz
  have BPz := Bx.mk Pz
  have IH := Bx.mk ih
  clear ih Kx Nx Px Ky Ny Py Kz Nz Pz
  go_enter Try.func33, Try.ntmps33
  go_wp2_with fail
  try rw [zeros_tab]
  try rw [lc_zero]
  generalize hW : World.alloc (World.alloc (World.alloc _ _) _) _ = W0
  have H1 : Bx (TS w W0 9 a v (.slice (some ⟨b, o, none⟩) 3 cap) 0#256 0#256 0#256) := ⟨by rw [← hW]; exact H0.out⟩
  clear hW H0
  refine wp_loop_rounds 4 ?_
  rw [rounds_succ]
  have hk0 := BKx.out.below H1.out.be
  obtain ⟨k0, k1, k2, k3, kS⟩ := hk0
  obtain ⟨px, cx, rfl⟩ := kS.is
  have hA := H1.out.alloc (.cells #[.int .i64 x.k, .int .i64 x.a, .int .i64 x.v, .slice px x.kids.len cx] 36)
  have hI := IH.out x _ _ _ BNx.out BPx.out (kS.alloc (.cells #[.int .i64 x.k, .int .i64 x.a, .int .i64 x.v, .slice px x.kids.len cx] 36))
  have HA := Bx.mk hA
  have HI := Bx.mk hI
  clear hA hI kS
  unfold Ev at HI
  go_wp2_with fail
  refine HI.out.mono ?_
  rintro e u0 ⟨rfl, hb0⟩
  have hT := HA.out.step hb0
  clear k0 k1 k2 k3 HI
  obtain ⟨_, ⟨q0, q1, q2, q3, q4, q5, q6, q7, q8, q9, qa, qb⟩, f0, f1, f2, f3, f4, f5, f6, f7, f8, f9, fa, fb⟩ := hT.cells
  have HT := Bx.mk hT
  clear hT hb0 HA
  generalize hF0 : Ex.table x = F0
  have HF0 := Bx.mk hF0
  clear hF0
  unfold Tb.tv
  go_wp2_with fail
  clear q0 q1 q2 q3 q4 q5 q6 q7 q8 q9 qa qb f0 f1 f2 f3 f4 f5 f6 f7 f8 f9 fa fb
  have H2 := Bx.mk (HT.out.put0 F0)
  rw [rounds_succ]
  have hk1 := BKy.out.below H2.out.be
  obtain ⟨k0, k1, k2, k3, kS⟩ := hk1
  obtain ⟨py, cy, rfl⟩ := kS.is
  have hA := H2.out.alloc (.cells #[.int .i64 y.k, .int .i64 y.a, .int .i64 y.v, .slice py y.kids.len cy] 36)
  have hI := IH.out y _ _ _ BNy.out BPy.out (kS.alloc (.cells #[.int .i64 y.k, .int .i64 y.a, .int .i64 y.v, .slice py y.kids.len cy] 36))
  have HA := Bx.mk hA
  have HI := Bx.mk hI
  clear hA hI kS
  unfold Ev at HI
  go_wp2_with fail
  refine HI.out.mono ?_
  rintro e u1 ⟨rfl, hb1⟩
  have hT := HA.out.step hb1
  clear k0 k1 k2 k3 HI
  obtain ⟨_, ⟨q0, q1, q2, q3, q4, q5, q6, q7, q8, q9, qa, qb⟩, f0, f1, f2, f3, f4, f5, f6, f7, f8, f9, fa, fb⟩ := hT.cells
  have HT := Bx.mk hT
  clear hT hb1 HA
  generalize hF1 : Ex.table y = F1
  have HF1 := Bx.mk hF1
  clear hF1
  unfold Tb.tv
  go_wp2_with fail
  clear q0 q1 q2 q3 q4 q5 q6 q7 q8 q9 qa qb f0 f1 f2 f3 f4 f5 f6 f7 f8 f9 fa fb
  have H3 := Bx.mk (HT.out.put1 F1)
  rw [rounds_succ]
  have hk2 := BKz.out.below H3.out.be
  obtain ⟨k0, k1, k2, k3, kS⟩ := hk2
  obtain ⟨pz, cz, rfl⟩ := kS.is
  have hA := H3.out.alloc (.cells #[.int .i64 z.k, .int .i64 z.a, .int .i64 z.v, .slice pz z.kids.len cz] 36)
  have hI := IH.out z _ _ _ BNz.out BPz.out (kS.alloc (.cells #[.int .i64 z.k, .int .i64 z.a, .int .i64 z.v, .slice pz z.kids.len cz] 36))
  have HA := Bx.mk hA
  have HI := Bx.mk hI
  clear hA hI kS
  unfold Ev at HI
  go_wp2_with fail
  refine HI.out.mono ?_
  rintro e u2 ⟨rfl, hb2⟩
  have hT := HA.out.step hb2
  clear k0 k1 k2 k3 HI
  obtain ⟨_, ⟨q0, q1, q2, q3, q4, q5, q6, q7, q8, q9, qa, qb⟩, f0, f1, f2, f3, f4, f5, f6, f7, f8, f9, fa, fb⟩ := hT.cells
  have HT := Bx.mk hT
  clear hT hb2 HA
  generalize hF2 : Ex.table z = F2
  have HF2 := Bx.mk hF2
  clear hF2
  unfold Tb.tv
  go_wp2_with fail
  clear q0 q1 q2 q3 q4 q5 q6 q7 q8 q9 qa qb f0 f1 f2 f3 f4 f5 f6 f7 f8 f9 fa fb
  have H4 := Bx.mk (HT.out.put2 F2)
  obtain ⟨⟨e0, e2, e3⟩, ⟨q0, q1, q2, q3, q4, q5, q6, q7, q8, q9, qa, qb⟩, f0, f1, f2, f3, f4, f5, f6, f7, f8, f9, fa, fb⟩ := H4.out.cells
  rw [rounds_succ]
  go_wp2_with fail
  clear e0 e2 e3 q0 q1 q2 q3 q4 q5 q6 q7 q8 q9 qa qb f0 f1 f2 f3 f4 f5 f6 f7 f8 f9 fa fb
  refine (ite_any F0 F1 F2 _).mono ?_
  rintro e u9 ⟨rfl, hb9⟩
  have h9 := H4.out.step hb9
  obtain ⟨⟨r0, r1, r2, r3⟩, g0, g1, g2, g3⟩ := tfacts h9.r
  have HSf := Bx.mk (store4 (F := (F0 &&& F1) ||| (~~~F0 &&& F2)) h9.r)
  have HBf := Bx.mk (below4 (F := (F0 &&& F1) ||| (~~~F0 &&& F2)) (p := w.heap.size + 1) h9.be (by omega))
  clear h9 hb9
  generalize hR : (F0 &&& F1) ||| (~~~F0 &&& F2) = R at HSf HBf ⊢
  have HR := Bx.mk hR
  clear hR
  unfold Tb.tv
  go_wp2_with fail
  clear r0 r1 r2 r3 g0 g1 g2 g3
  obtain ⟨⟨r0, r1, r2, r3⟩, _, _, _, _⟩ := tfacts HSf.out
  refine bodyPost_ret (v := Tb.tv R) (by simp [results, Try.results33, go_sem, r0, r1, r2, r3] <;> rfl) rfl ⟨?_, HBf.out⟩
  rw [← HR.out, ← HF0.out, ← HF1.out, ← HF2.out]
  unfold Ex.tabk
  simp
set_option maxHeartbeats 8000000 in
theorem table_4 (n : Nat) (ih : Tz n) (a : Int) (v : Int) (b o cap : Nat) (w : World) (x : Tr) (sx : Value) (Kx : Kid w b o x sx) (Nx : (x.on .nil).nodes ≤ n) (Px : (x.on .nil).allPlain = true) (y : Tr) (sy : Value) (Ky : Kid w b (o + 4) y sy) (Ny : (y.on .nil).nodes ≤ n) (Py : (y.on .nil).allPlain = true) :
    Calls Try.prog 33 #[.agg #[.int .i64 4, .int .i64 a, .int .i64 v, .slice (some ⟨b, o, none⟩) 2 cap]] w fun e w' => e = .returned (Tb.tv (Ex.tabk 4 v [Ex.table x, Ex.table y])) ∧ Below w.heap.size w w' := by
  have H0 := Bx.mk (TS.start w 4 a v (.slice (some ⟨b, o, none⟩) 2 cap))
  have BKx := Bx.mk Kx
  have BNx := Bx.mk Nx
  have BPx := Bx.mk Px
  have BKy := Bx.mk Ky
  have BNy := Bx.mk Ny
  have BPy := Bx.mk Py
  have IH := Bx.mk ih
  clear ih Kx Nx Px Ky Ny Py
  go_enter Try.func33, Try.ntmps33
  go_wp2_with fail
  try rw [zeros_tab]
  try rw [lc_zero]
  generalize hW : World.alloc (World.alloc (World.alloc _ _) _) _ = W0
  have H1 : Bx (TS w W0 4 a v (.slice (some ⟨b, o, none⟩) 2 cap) 0#256 0#256 0#256) := ⟨by rw [← hW]; exact H0.out⟩
  clear hW H0
  refine wp_loop_rounds 3 ?_
  rw [rounds_succ]
  have hk0 := BKx.out.below H1.out.be
  obtain ⟨k0, k1, k2, k3, kS⟩ := hk0
  obtain ⟨px, cx, rfl⟩ := kS.is
  have hA := H1.out.alloc (.cells #[.int .i64 x.k, .int .i64 x.a, .int .i64 x.v, .slice px x.kids.len cx] 36)
  have hI := IH.out x _ _ _ BNx.out BPx.out (kS.alloc (.cells #[.int .i64 x.k, .int .i64 x.a, .int .i64 x.v, .slice px x.kids.len cx] 36))
  have HA := Bx.mk hA
  have HI := Bx.mk hI
  clear hA hI kS
  unfold Ev at HI
  go_wp2_with fail
  refine HI.out.mono ?_
  rintro e u0 ⟨rfl, hb0⟩
  have hT := HA.out.step hb0
  clear k0 k1 k2 k3 HI
  obtain ⟨_, ⟨q0, q1, q2, q3, q4, q5, q6, q7, q8, q9, qa, qb⟩, f0, f1, f2, f3, f4, f5, f6, f7, f8, f9, fa, fb⟩ := hT.cells
  have HT := Bx.mk hT
  clear hT hb0 HA
  generalize hF0 : Ex.table x = F0
  have HF0 := Bx.mk hF0
  clear hF0
  unfold Tb.tv
  go_wp2_with fail
  clear q0 q1 q2 q3 q4 q5 q6 q7 q8 q9 qa qb f0 f1 f2 f3 f4 f5 f6 f7 f8 f9 fa fb
  have H2 := Bx.mk (HT.out.put0 F0)
  rw [rounds_succ]
  have hk1 := BKy.out.below H2.out.be
  obtain ⟨k0, k1, k2, k3, kS⟩ := hk1
  obtain ⟨py, cy, rfl⟩ := kS.is
  have hA := H2.out.alloc (.cells #[.int .i64 y.k, .int .i64 y.a, .int .i64 y.v, .slice py y.kids.len cy] 36)
  have hI := IH.out y _ _ _ BNy.out BPy.out (kS.alloc (.cells #[.int .i64 y.k, .int .i64 y.a, .int .i64 y.v, .slice py y.kids.len cy] 36))
  have HA := Bx.mk hA
  have HI := Bx.mk hI
  clear hA hI kS
  unfold Ev at HI
  go_wp2_with fail
  refine HI.out.mono ?_
  rintro e u1 ⟨rfl, hb1⟩
  have hT := HA.out.step hb1
  clear k0 k1 k2 k3 HI
  obtain ⟨_, ⟨q0, q1, q2, q3, q4, q5, q6, q7, q8, q9, qa, qb⟩, f0, f1, f2, f3, f4, f5, f6, f7, f8, f9, fa, fb⟩ := hT.cells
  have HT := Bx.mk hT
  clear hT hb1 HA
  generalize hF1 : Ex.table y = F1
  have HF1 := Bx.mk hF1
  clear hF1
  unfold Tb.tv
  go_wp2_with fail
  clear q0 q1 q2 q3 q4 q5 q6 q7 q8 q9 qa qb f0 f1 f2 f3 f4 f5 f6 f7 f8 f9 fa fb
  have H3 := Bx.mk (HT.out.put1 F1)
  obtain ⟨⟨e0, e2, e3⟩, ⟨q0, q1, q2, q3, q4, q5, q6, q7, q8, q9, qa, qb⟩, f0, f1, f2, f3, f4, f5, f6, f7, f8, f9, fa, fb⟩ := H3.out.cells
  rw [rounds_succ]
  go_wp2_with fail
  clear e0 e2 e3 q0 q1 q2 q3 q4 q5 q6 q7 q8 q9 qa qb f0 f1 f2 f3 f4 f5 f6 f7 f8 f9 fa fb
  refine region_any 8 (fun u => TS w u 4 a v (.slice (some ⟨b, o, none⟩) 2 cap) F0 F1 0#256) (by kernel_rfl) ?_
  generalize hu : World.drew _ = u0
  have hS0 : TS w u0 4 a v (.slice (some ⟨b, o, none⟩) 2 cap) F0 F1 0#256 := by rw [← hu]; exact H3.out.step ((Below.refl _ _).drew)
  clear hu
  refine any_take (i := 0) (.pointer (some ⟨w.heap.size, 0, none⟩)) rfl rfl (by kernel_rfl) (by kernel_rfl) (by kernel_rfl) (by kernel_rfl) (fun _ _ d _ _ h => by cases d <;> exact h) (fun u hS => rfl) hS0 ?_
  (try simp only [Act.put]); (try simp only [List.getElem_toArray]); (try simp only [List.getElem_cons_succ]); (try simp only [List.getElem_cons_zero]); (try simp only [List.setIfInBounds_toArray]); (try simp only [List.set_cons_succ]); (try simp only [List.set_cons_zero])
  refine any_take (i := 1) (.int .i64 4) rfl rfl (by kernel_rfl) (by kernel_rfl) (by kernel_rfl) (by kernel_rfl) (fun _ _ d _ _ h => by cases d <;> exact h) (fun u hS => exec_loadI rfl rfl hS.cells.1.1) hS0 ?_
  (try simp only [Act.put]); (try simp only [List.getElem_toArray]); (try simp only [List.getElem_cons_succ]); (try simp only [List.getElem_cons_zero]); (try simp only [List.setIfInBounds_toArray]); (try simp only [List.set_cons_succ]); (try simp only [List.set_cons_zero])
  refine any_take (i := 3) (.pointer (some ⟨w.heap.size + 2, 0, none⟩)) rfl rfl (by kernel_rfl) (by kernel_rfl) (by kernel_rfl) (by kernel_rfl) (fun _ _ d _ _ h => by cases d <;> exact h) (fun u hS => rfl) hS0 ?_
  (try simp only [Act.put]); (try simp only [List.getElem_toArray]); (try simp only [List.getElem_cons_succ]); (try simp only [List.getElem_cons_zero]); (try simp only [List.setIfInBounds_toArray]); (try simp only [List.set_cons_succ]); (try simp only [List.set_cons_zero])
  refine any_take (i := 4) (Tb.tv F0) rfl rfl (by kernel_rfl) (by kernel_rfl) (by kernel_rfl) (by kernel_rfl) (fun _ _ d _ _ h => by cases d <;> exact h) (fun u hS => exec_loadL rfl rfl hS.cells.2.1.1 hS.cells.2.1.2.1 hS.cells.2.1.2.2.1 hS.cells.2.1.2.2.2.1) hS0 ?_
  (try simp only [Act.put]); (try simp only [List.getElem_toArray]); (try simp only [List.getElem_cons_succ]); (try simp only [List.getElem_cons_zero]); (try simp only [List.setIfInBounds_toArray]); (try simp only [List.set_cons_succ]); (try simp only [List.set_cons_zero])
  refine any_take (i := 5) (.pointer (some ⟨w.heap.size + 2, 4, none⟩)) rfl rfl (by kernel_rfl) (by kernel_rfl) (by kernel_rfl) (by kernel_rfl) (fun _ _ d _ _ h => by cases d <;> exact h) (fun u hS => rfl) hS0 ?_
  (try simp only [Act.put]); (try simp only [List.getElem_toArray]); (try simp only [List.getElem_cons_succ]); (try simp only [List.getElem_cons_zero]); (try simp only [List.setIfInBounds_toArray]); (try simp only [List.set_cons_succ]); (try simp only [List.set_cons_zero])
  refine any_take (i := 6) (Tb.tv F1) rfl rfl (by kernel_rfl) (by kernel_rfl) (by kernel_rfl) (by kernel_rfl) (fun _ _ d _ _ h => by cases d <;> exact h) (fun u hS => exec_loadL rfl rfl hS.cells.2.1.2.2.2.2.1 hS.cells.2.1.2.2.2.2.2.1 hS.cells.2.1.2.2.2.2.2.2.1 hS.cells.2.1.2.2.2.2.2.2.2.1) hS0 ?_
  (try simp only [Act.put]); (try simp only [List.getElem_toArray]); (try simp only [List.getElem_cons_succ]); (try simp only [List.getElem_cons_zero]); (try simp only [List.setIfInBounds_toArray]); (try simp only [List.set_cons_succ]); (try simp only [List.set_cons_zero])
  refine any_branch [2] (by kernel_rfl) rfl fun ix hix => ?_
  simp only [List.mem_cons, List.not_mem_nil, or_false] at hix
  subst hix
  refine any_op rfl rfl fun K hK => ?_
  go_simp
  refine (tables_4 _).mono ?_
  rintro e ut ⟨rfl, rfl⟩
  refine hK _ _ (fun _ => hS0) ?_
  (try simp only [Act.put]); (try simp only [List.getElem_toArray]); (try simp only [List.getElem_cons_succ]); (try simp only [List.getElem_cons_zero]); (try simp only [List.setIfInBounds_toArray]); (try simp only [List.set_cons_succ]); (try simp only [List.set_cons_zero])
  clear hK
  refine any_branch [7] (by kernel_rfl) rfl fun ix hix => ?_
  simp only [List.mem_cons, List.not_mem_nil, or_false] at hix
  subst hix
  refine any_op rfl rfl fun K hK => ?_
  go_simp
  refine (and_any F0 F1 _).mono ?_
  rintro e u9 ⟨rfl, hb9⟩
  have h9 := hS0.step hb9
  refine hK _ _ (fun _ => h9) ?_
  (try simp only [Act.put]); (try simp only [List.getElem_toArray]); (try simp only [List.getElem_cons_succ]); (try simp only [List.getElem_cons_zero]); (try simp only [List.setIfInBounds_toArray]); (try simp only [List.set_cons_succ]); (try simp only [List.set_cons_zero])
  clear hK
  refine any_branch [8] (by kernel_rfl) rfl fun ix hix => ?_
  simp only [List.mem_cons, List.not_mem_nil, or_false] at hix
  subst hix
  refine any_op rfl rfl fun K hK => ?_
  obtain ⟨⟨r0, r1, r2, r3⟩, g0, g1, g2, g3⟩ := tfacts h9.r
  have HSf := Bx.mk (store4 (F := F0 &&& F1) h9.r)
  have HBf := Bx.mk (below4 (F := F0 &&& F1) (p := w.heap.size + 1) h9.be (by omega))
  clear hS0
  generalize hR : F0 &&& F1 = R at HSf HBf ⊢
  have HR := Bx.mk hR
  clear hR
  unfold Tb.tv
  go_simp
  refine hK _ _ (fun h => absurd rfl h) ?_
  (try simp only [Act.put]); (try simp only [List.getElem_toArray]); (try simp only [List.getElem_cons_succ]); (try simp only [List.getElem_cons_zero]); (try simp only [List.setIfInBounds_toArray]); (try simp only [List.set_cons_succ]); (try simp only [List.set_cons_zero])
  clear hK
  refine any_end (by kernel_rfl) ?_
  clear h9 hb9
  go_wp2_with fail
  clear r0 r1 r2 r3 g0 g1 g2 g3
  obtain ⟨⟨r0, r1, r2, r3⟩, _, _, _, _⟩ := tfacts HSf.out
  refine bodyPost_ret (v := Tb.tv R) (by simp [results, Try.results33, go_sem, r0, r1, r2, r3] <;> rfl) rfl ⟨?_, HBf.out⟩
  rw [← HR.out, ← HF0.out, ← HF1.out]
  unfold Ex.tabk
  simp
set_option maxHeartbeats 8000000 in
theorem table_5 (n : Nat) (ih : Tz n) (a : Int) (v : Int) (b o cap : Nat) (w : World) (x : Tr) (sx : Value) (Kx : Kid w b o x sx) (Nx : (x.on .nil).nodes ≤ n) (Px : (x.on .nil).allPlain = true) (y : Tr) (sy : Value) (Ky : Kid w b (o + 4) y sy) (Ny : (y.on .nil).nodes ≤ n) (Py : (y.on .nil).allPlain = true) :
    Calls Try.prog 33 #[.agg #[.int .i64 5, .int .i64 a, .int .i64 v, .slice (some ⟨b, o, none⟩) 2 cap]] w fun e w' => e = .returned (Tb.tv (Ex.tabk 5 v [Ex.table x, Ex.table y])) ∧ Below w.heap.size w w' := by
  have H0 := Bx.mk (TS.start w 5 a v (.slice (some ⟨b, o, none⟩) 2 cap))
  have BKx := Bx.mk Kx
  have BNx := Bx.mk Nx
  have BPx := Bx.mk Px
  have BKy := Bx.mk Ky
  have BNy := Bx.mk Ny
  have BPy := Bx.mk Py
  have IH := Bx.mk ih
  clear ih Kx Nx Px Ky Ny Py
  go_enter Try.func33, Try.ntmps33
  go_wp2_with fail
  try rw [zeros_tab]
  try rw [lc_zero]
  generalize hW : World.alloc (World.alloc (World.alloc _ _) _) _ = W0
  have H1 : Bx (TS w W0 5 a v (.slice (some ⟨b, o, none⟩) 2 cap) 0#256 0#256 0#256) := ⟨by rw [← hW]; exact H0.out⟩
  clear hW H0
  refine wp_loop_rounds 3 ?_
  rw [rounds_succ]
  have hk0 := BKx.out.below H1.out.be
  obtain ⟨k0, k1, k2, k3, kS⟩ := hk0
  obtain ⟨px, cx, rfl⟩ := kS.is
  have hA := H1.out.alloc (.cells #[.int .i64 x.k, .int .i64 x.a, .int .i64 x.v, .slice px x.kids.len cx] 36)
  have hI := IH.out x _ _ _ BNx.out BPx.out (kS.alloc (.cells #[.int .i64 x.k, .int .i64 x.a, .int .i64 x.v, .slice px x.kids.len cx] 36))
  have HA := Bx.mk hA
  have HI := Bx.mk hI
  clear hA hI kS
  unfold Ev at HI
  go_wp2_with fail
  refine HI.out.mono ?_
  rintro e u0 ⟨rfl, hb0⟩
  have hT := HA.out.step hb0
  clear k0 k1 k2 k3 HI
  obtain ⟨_, ⟨q0, q1, q2, q3, q4, q5, q6, q7, q8, q9, qa, qb⟩, f0, f1, f2, f3, f4, f5, f6, f7, f8, f9, fa, fb⟩ := hT.cells
  have HT := Bx.mk hT
  clear hT hb0 HA
  generalize hF0 : Ex.table x = F0
  have HF0 := Bx.mk hF0
  clear hF0
  unfold Tb.tv
  go_wp2_with fail
  clear q0 q1 q2 q3 q4 q5 q6 q7 q8 q9 qa qb f0 f1 f2 f3 f4 f5 f6 f7 f8 f9 fa fb
  have H2 := Bx.mk (HT.out.put0 F0)
  rw [rounds_succ]
  have hk1 := BKy.out.below H2.out.be
  obtain ⟨k0, k1, k2, k3, kS⟩ := hk1
  obtain ⟨py, cy, rfl⟩ := kS.is
  have hA := H2.out.alloc (.cells #[.int .i64 y.k, .int .i64 y.a, .int .i64 y.v, .slice py y.kids.len cy] 36)
  have hI := IH.out y _ _ _ BNy.out BPy.out (kS.alloc (.cells #[.int .i64 y.k, .int .i64 y.a, .int .i64 y.v, .slice py y.kids.len cy] 36))
  have HA := Bx.mk hA
  have HI := Bx.mk hI
  clear hA hI kS
  unfold Ev at HI
  go_wp2_with fail
  refine HI.out.mono ?_
  rintro e u1 ⟨rfl, hb1⟩
  have hT := HA.out.step hb1
  clear k0 k1 k2 k3 HI
  obtain ⟨_, ⟨q0, q1, q2, q3, q4, q5, q6, q7, q8, q9, qa, qb⟩, f0, f1, f2, f3, f4, f5, f6, f7, f8, f9, fa, fb⟩ := hT.cells
  have HT := Bx.mk hT
  clear hT hb1 HA
  generalize hF1 : Ex.table y = F1
  have HF1 := Bx.mk hF1
  clear hF1
  unfold Tb.tv
  go_wp2_with fail
  clear q0 q1 q2 q3 q4 q5 q6 q7 q8 q9 qa qb f0 f1 f2 f3 f4 f5 f6 f7 f8 f9 fa fb
  have H3 := Bx.mk (HT.out.put1 F1)
  obtain ⟨⟨e0, e2, e3⟩, ⟨q0, q1, q2, q3, q4, q5, q6, q7, q8, q9, qa, qb⟩, f0, f1, f2, f3, f4, f5, f6, f7, f8, f9, fa, fb⟩ := H3.out.cells
  rw [rounds_succ]
  go_wp2_with fail
  clear e0 e2 e3 q0 q1 q2 q3 q4 q5 q6 q7 q8 q9 qa qb f0 f1 f2 f3 f4 f5 f6 f7 f8 f9 fa fb
  refine region_any 8 (fun u => TS w u 5 a v (.slice (some ⟨b, o, none⟩) 2 cap) F0 F1 0#256) (by kernel_rfl) ?_
  generalize hu : World.drew _ = u0
  have hS0 : TS w u0 5 a v (.slice (some ⟨b, o, none⟩) 2 cap) F0 F1 0#256 := by rw [← hu]; exact H3.out.step ((Below.refl _ _).drew)
  clear hu
  refine any_take (i := 0) (.pointer (some ⟨w.heap.size, 0, none⟩)) rfl rfl (by kernel_rfl) (by kernel_rfl) (by kernel_rfl) (by kernel_rfl) (fun _ _ d _ _ h => by cases d <;> exact h) (fun u hS => rfl) hS0 ?_
  (try simp only [Act.put]); (try simp only [List.getElem_toArray]); (try simp only [List.getElem_cons_succ]); (try simp only [List.getElem_cons_zero]); (try simp only [List.setIfInBounds_toArray]); (try simp only [List.set_cons_succ]); (try simp only [List.set_cons_zero])
  refine any_take (i := 1) (.int .i64 5) rfl rfl (by kernel_rfl) (by kernel_rfl) (by kernel_rfl) (by kernel_rfl) (fun _ _ d _ _ h => by cases d <;> exact h) (fun u hS => exec_loadI rfl rfl hS.cells.1.1) hS0 ?_
  (try simp only [Act.put]); (try simp only [List.getElem_toArray]); (try simp only [List.getElem_cons_succ]); (try simp only [List.getElem_cons_zero]); (try simp only [List.setIfInBounds_toArray]); (try simp only [List.set_cons_succ]); (try simp only [List.set_cons_zero])
  refine any_take (i := 3) (.pointer (some ⟨w.heap.size + 2, 0, none⟩)) rfl rfl (by kernel_rfl) (by kernel_rfl) (by kernel_rfl) (by kernel_rfl) (fun _ _ d _ _ h => by cases d <;> exact h) (fun u hS => rfl) hS0 ?_
  (try simp only [Act.put]); (try simp only [List.getElem_toArray]); (try simp only [List.getElem_cons_succ]); (try simp only [List.getElem_cons_zero]); (try simp only [List.setIfInBounds_toArray]); (try simp only [List.set_cons_succ]); (try simp only [List.set_cons_zero])
  refine any_take (i := 4) (Tb.tv F0) rfl rfl (by kernel_rfl) (by kernel_rfl) (by kernel_rfl) (by kernel_rfl) (fun _ _ d _ _ h => by cases d <;> exact h) (fun u hS => exec_loadL rfl rfl hS.cells.2.1.1 hS.cells.2.1.2.1 hS.cells.2.1.2.2.1 hS.cells.2.1.2.2.2.1) hS0 ?_
  (try simp only [Act.put]); (try simp only [List.getElem_toArray]); (try simp only [List.getElem_cons_succ]); (try simp only [List.getElem_cons_zero]); (try simp only [List.setIfInBounds_toArray]); (try simp only [List.set_cons_succ]); (try simp only [List.set_cons_zero])
  refine any_take (i := 5) (.pointer (some ⟨w.heap.size + 2, 4, none⟩)) rfl rfl (by kernel_rfl) (by kernel_rfl) (by kernel_rfl) (by kernel_rfl) (fun _ _ d _ _ h => by cases d <;> exact h) (fun u hS => rfl) hS0 ?_
  (try simp only [Act.put]); (try simp only [List.getElem_toArray]); (try simp only [List.getElem_cons_succ]); (try simp only [List.getElem_cons_zero]); (try simp only [List.setIfInBounds_toArray]); (try simp only [List.set_cons_succ]); (try simp only [List.set_cons_zero])
  refine any_take (i := 6) (Tb.tv F1) rfl rfl (by kernel_rfl) (by kernel_rfl) (by kernel_rfl) (by kernel_rfl) (fun _ _ d _ _ h => by cases d <;> exact h) (fun u hS => exec_loadL rfl rfl hS.cells.2.1.2.2.2.2.1 hS.cells.2.1.2.2.2.2.2.1 hS.cells.2.1.2.2.2.2.2.2.1 hS.cells.2.1.2.2.2.2.2.2.2.1) hS0 ?_
  (try simp only [Act.put]); (try simp only [List.getElem_toArray]); (try simp only [List.getElem_cons_succ]); (try simp only [List.getElem_cons_zero]); (try simp only [List.setIfInBounds_toArray]); (try simp only [List.set_cons_succ]); (try simp only [List.set_cons_zero])
  refine any_branch [2] (by kernel_rfl) rfl fun ix hix => ?_
  simp only [List.mem_cons, List.not_mem_nil, or_false] at hix
  subst hix
  refine any_op rfl rfl fun K hK => ?_
  go_simp
  refine (tables_5 _).mono ?_
  rintro e ut ⟨rfl, rfl⟩
  refine hK _ _ (fun _ => hS0) ?_
  (try simp only [Act.put]); (try simp only [List.getElem_toArray]); (try simp only [List.getElem_cons_succ]); (try simp only [List.getElem_cons_zero]); (try simp only [List.setIfInBounds_toArray]); (try simp only [List.set_cons_succ]); (try simp only [List.set_cons_zero])
  clear hK
  refine any_branch [7] (by kernel_rfl) rfl fun ix hix => ?_
  simp only [List.mem_cons, List.not_mem_nil, or_false] at hix
  subst hix
  refine any_op rfl rfl fun K hK => ?_
  go_simp
  refine (or_any F0 F1 _).mono ?_
  rintro e u9 ⟨rfl, hb9⟩
  have h9 := hS0.step hb9
  refine hK _ _ (fun _ => h9) ?_
  (try simp only [Act.put]); (try simp only [List.getElem_toArray]); (try simp only [List.getElem_cons_succ]); (try simp only [List.getElem_cons_zero]); (try simp only [List.setIfInBounds_toArray]); (try simp only [List.set_cons_succ]); (try simp only [List.set_cons_zero])
  clear hK
  refine any_branch [8] (by kernel_rfl) rfl fun ix hix => ?_
  simp only [List.mem_cons, List.not_mem_nil, or_false] at hix
  subst hix
  refine any_op rfl rfl fun K hK => ?_
  obtain ⟨⟨r0, r1, r2, r3⟩, g0, g1, g2, g3⟩ := tfacts h9.r
  have HSf := Bx.mk (store4 (F := F0 ||| F1) h9.r)
  have HBf := Bx.mk (below4 (F := F0 ||| F1) (p := w.heap.size + 1) h9.be (by omega))
  clear hS0
  generalize hR : F0 ||| F1 = R at HSf HBf ⊢
  have HR := Bx.mk hR
  clear hR
  unfold Tb.tv
  go_simp
  refine hK _ _ (fun h => absurd rfl h) ?_
  (try simp only [Act.put]); (try simp only [List.getElem_toArray]); (try simp only [List.getElem_cons_succ]); (try simp only [List.getElem_cons_zero]); (try simp only [List.setIfInBounds_toArray]); (try simp only [List.set_cons_succ]); (try simp only [List.set_cons_zero])
  clear hK
  refine any_end (by kernel_rfl) ?_
  clear h9 hb9
  go_wp2_with fail
  clear r0 r1 r2 r3 g0 g1 g2 g3
  obtain ⟨⟨r0, r1, r2, r3⟩, _, _, _, _⟩ := tfacts HSf.out
  refine bodyPost_ret (v := Tb.tv R) (by simp [results, Try.results33, go_sem, r0, r1, r2, r3] <;> rfl) rfl ⟨?_, HBf.out⟩
  rw [← HR.out, ← HF0.out, ← HF1.out]
  unfold Ex.tabk
  simp
set_option maxHeartbeats 8000000 in
theorem table_6 (n : Nat) (ih : Tz n) (a : Int) (v : Int) (b o cap : Nat) (w : World) (x : Tr) (sx : Value) (Kx : Kid w b o x sx) (Nx : (x.on .nil).nodes ≤ n) (Px : (x.on .nil).allPlain = true) (y : Tr) (sy : Value) (Ky : Kid w b (o + 4) y sy) (Ny : (y.on .nil).nodes ≤ n) (Py : (y.on .nil).allPlain = true) :
    Calls Try.prog 33 #[.agg #[.int .i64 6, .int .i64 a, .int .i64 v, .slice (some ⟨b, o, none⟩) 2 cap]] w fun e w' => e = .returned (Tb.tv (Ex.tabk 6 v [Ex.table x, Ex.table y])) ∧ Below w.heap.size w w' := by
  have H0 := Bx.mk (TS.start w 6 a v (.slice (some ⟨b, o, none⟩) 2 cap))
  have BKx := Bx.mk Kx
  have BNx := Bx.mk Nx
  have BPx := Bx.mk Px
  have BKy := Bx.mk Ky
  have BNy := Bx.mk Ny
  have BPy := Bx.mk Py
  have IH := Bx.mk ih
  clear ih Kx Nx Px Ky Ny Py
  go_enter Try.func33, Try.ntmps33
  go_wp2_with fail
  try rw [zeros_tab]
  try rw [lc_zero]
  generalize hW : World.alloc (World.alloc (World.alloc _ _) _) _ = W0
  have H1 : Bx (TS w W0 6 a v (.slice (some ⟨b, o, none⟩) 2 cap) 0#256 0#256 0#256) := ⟨by rw [← hW]; exact H0.out⟩
  clear hW H0
  refine wp_loop_rounds 3 ?_
  rw [rounds_succ]
  have hk0 := BKx.out.below H1.out.be
  obtain ⟨k0, k1, k2, k3, kS⟩ := hk0
  obtain ⟨px, cx, rfl⟩ := kS.is
  have hA := H1.out.alloc (.cells #[.int .i64 x.k, .int .i64 x.a, .int .i64 x.v, .slice px x.kids.len cx] 36)
  have hI := IH.out x _ _ _ BNx.out BPx.out (kS.alloc (.cells #[.int .i64 x.k, .int .i64 x.a, .int .i64 x.v, .slice px x.kids.len cx] 36))
  have HA := Bx.mk hA
  have HI := Bx.mk hI
  clear hA hI kS
  unfold Ev at HI
  go_wp2_with fail
  refine HI.out.mono ?_
  rintro e u0 ⟨rfl, hb0⟩
  have hT := HA.out.step hb0
  clear k0 k1 k2 k3 HI
  obtain ⟨_, ⟨q0, q1, q2, q3, q4, q5, q6, q7, q8, q9, qa, qb⟩, f0, f1, f2, f3, f4, f5, f6, f7, f8, f9, fa, fb⟩ := hT.cells
  have HT := Bx.mk hT
  clear hT hb0 HA
  generalize hF0 : Ex.table x = F0
  have HF0 := Bx.mk hF0
  clear hF0
  unfold Tb.tv
  go_wp2_with fail
  clear q0 q1 q2 q3 q4 q5 q6 q7 q8 q9 qa qb f0 f1 f2 f3 f4 f5 f6 f7 f8 f9 fa fb
  have H2 := Bx.mk (HT.out.put0 F0)
  rw [rounds_succ]
  have hk1 := BKy.out.below H2.out.be
  obtain ⟨k0, k1, k2, k3, kS⟩ := hk1
  obtain ⟨py, cy, rfl⟩ := kS.is
  have hA := H2.out.alloc (.cells #[.int .i64 y.k, .int .i64 y.a, .int .i64 y.v, .slice py y.kids.len cy] 36)
  have hI := IH.out y _ _ _ BNy.out BPy.out (kS.alloc (.cells #[.int .i64 y.k, .int .i64 y.a, .int .i64 y.v, .slice py y.kids.len cy] 36))
  have HA := Bx.mk hA
  have HI := Bx.mk hI
  clear hA hI kS
  unfold Ev at HI
  go_wp2_with fail
  refine HI.out.mono ?_
  rintro e u1 ⟨rfl, hb1⟩
  have hT := HA.out.step hb1
  clear k0 k1 k2 k3 HI
  obtain ⟨_, ⟨q0, q1, q2, q3, q4, q5, q6, q7, q8, q9, qa, qb⟩, f0, f1, f2, f3, f4, f5, f6, f7, f8, f9, fa, fb⟩ := hT.cells
  have HT := Bx.mk hT
  clear hT hb1 HA
  generalize hF1 : Ex.table y = F1
  have HF1 := Bx.mk hF1
  clear hF1
  unfold Tb.tv
  go_wp2_with fail
  clear q0 q1 q2 q3 q4 q5 q6 q7 q8 q9 qa qb f0 f1 f2 f3 f4 f5 f6 f7 f8 f9 fa fb
  have H3 := Bx.mk (HT.out.put1 F1)
  obtain ⟨⟨e0, e2, e3⟩, ⟨q0, q1, q2, q3, q4, q5, q6, q7, q8, q9, qa, qb⟩, f0, f1, f2, f3, f4, f5, f6, f7, f8, f9, fa, fb⟩ := H3.out.cells
  rw [rounds_succ]
  go_wp2_with fail
  clear e0 e2 e3 q0 q1 q2 q3 q4 q5 q6 q7 q8 q9 qa qb f0 f1 f2 f3 f4 f5 f6 f7 f8 f9 fa fb
  refine region_any 8 (fun u => TS w u 6 a v (.slice (some ⟨b, o, none⟩) 2 cap) F0 F1 0#256) (by kernel_rfl) ?_
  generalize hu : World.drew _ = u0
  have hS0 : TS w u0 6 a v (.slice (some ⟨b, o, none⟩) 2 cap) F0 F1 0#256 := by rw [← hu]; exact H3.out.step ((Below.refl _ _).drew)
  clear hu
  refine any_take (i := 0) (.pointer (some ⟨w.heap.size, 0, none⟩)) rfl rfl (by kernel_rfl) (by kernel_rfl) (by kernel_rfl) (by kernel_rfl) (fun _ _ d _ _ h => by cases d <;> exact h) (fun u hS => rfl) hS0 ?_
  (try simp only [Act.put]); (try simp only [List.getElem_toArray]); (try simp only [List.getElem_cons_succ]); (try simp only [List.getElem_cons_zero]); (try simp only [List.setIfInBounds_toArray]); (try simp only [List.set_cons_succ]); (try simp only [List.set_cons_zero])
  refine any_take (i := 1) (.int .i64 6) rfl rfl (by kernel_rfl) (by kernel_rfl) (by kernel_rfl) (by kernel_rfl) (fun _ _ d _ _ h => by cases d <;> exact h) (fun u hS => exec_loadI rfl rfl hS.cells.1.1) hS0 ?_
  (try simp only [Act.put]); (try simp only [List.getElem_toArray]); (try simp only [List.getElem_cons_succ]); (try simp only [List.getElem_cons_zero]); (try simp only [List.setIfInBounds_toArray]); (try simp only [List.set_cons_succ]); (try simp only [List.set_cons_zero])
  refine any_take (i := 3) (.pointer (some ⟨w.heap.size + 2, 0, none⟩)) rfl rfl (by kernel_rfl) (by kernel_rfl) (by kernel_rfl) (by kernel_rfl) (fun _ _ d _ _ h => by cases d <;> exact h) (fun u hS => rfl) hS0 ?_
  (try simp only [Act.put]); (try simp only [List.getElem_toArray]); (try simp only [List.getElem_cons_succ]); (try simp only [List.getElem_cons_zero]); (try simp only [List.setIfInBounds_toArray]); (try simp only [List.set_cons_succ]); (try simp only [List.set_cons_zero])
  refine any_take (i := 4) (Tb.tv F0) rfl rfl (by kernel_rfl) (by kernel_rfl) (by kernel_rfl) (by kernel_rfl) (fun _ _ d _ _ h => by cases d <;> exact h) (fun u hS => exec_loadL rfl rfl hS.cells.2.1.1 hS.cells.2.1.2.1 hS.cells.2.1.2.2.1 hS.cells.2.1.2.2.2.1) hS0 ?_
  (try simp only [Act.put]); (try simp only [List.getElem_toArray]); (try simp only [List.getElem_cons_succ]); (try simp only [List.getElem_cons_zero]); (try simp only [List.setIfInBounds_toArray]); (try simp only [List.set_cons_succ]); (try simp only [List.set_cons_zero])
  refine any_take (i := 5) (.pointer (some ⟨w.heap.size + 2, 4, none⟩)) rfl rfl (by kernel_rfl) (by kernel_rfl) (by kernel_rfl) (by kernel_rfl) (fun _ _ d _ _ h => by cases d <;> exact h) (fun u hS => rfl) hS0 ?_
  (try simp only [Act.put]); (try simp only [List.getElem_toArray]); (try simp only [List.getElem_cons_succ]); (try simp only [List.getElem_cons_zero]); (try simp only [List.setIfInBounds_toArray]); (try simp only [List.set_cons_succ]); (try simp only [List.set_cons_zero])
  refine any_take (i := 6) (Tb.tv F1) rfl rfl (by kernel_rfl) (by kernel_rfl) (by kernel_rfl) (by kernel_rfl) (fun _ _ d _ _ h => by cases d <;> exact h) (fun u hS => exec_loadL rfl rfl hS.cells.2.1.2.2.2.2.1 hS.cells.2.1.2.2.2.2.2.1 hS.cells.2.1.2.2.2.2.2.2.1 hS.cells.2.1.2.2.2.2.2.2.2.1) hS0 ?_
  (try simp only [Act.put]); (try simp only [List.getElem_toArray]); (try simp only [List.getElem_cons_succ]); (try simp only [List.getElem_cons_zero]); (try simp only [List.setIfInBounds_toArray]); (try simp only [List.set_cons_succ]); (try simp only [List.set_cons_zero])
  refine any_branch [2] (by kernel_rfl) rfl fun ix hix => ?_
  simp only [List.mem_cons, List.not_mem_nil, or_false] at hix
  subst hix
  refine any_op rfl rfl fun K hK => ?_
  go_simp
  refine (tables_6 _).mono ?_
  rintro e ut ⟨rfl, rfl⟩
  refine hK _ _ (fun _ => hS0) ?_
  (try simp only [Act.put]); (try simp only [List.getElem_toArray]); (try simp only [List.getElem_cons_succ]); (try simp only [List.getElem_cons_zero]); (try simp only [List.setIfInBounds_toArray]); (try simp only [List.set_cons_succ]); (try simp only [List.set_cons_zero])
  clear hK
  refine any_branch [7] (by kernel_rfl) rfl fun ix hix => ?_
  simp only [List.mem_cons, List.not_mem_nil, or_false] at hix
  subst hix
  refine any_op rfl rfl fun K hK => ?_
  go_simp
  refine (xor_any F0 F1 _).mono ?_
  rintro e u9 ⟨rfl, hb9⟩
  have h9 := hS0.step hb9
  refine hK _ _ (fun _ => h9) ?_
  (try simp only [Act.put]); (try simp only [List.getElem_toArray]); (try simp only [List.getElem_cons_succ]); (try simp only [List.getElem_cons_zero]); (try simp only [List.setIfInBounds_toArray]); (try simp only [List.set_cons_succ]); (try simp only [List.set_cons_zero])
  clear hK
  refine any_branch [8] (by kernel_rfl) rfl fun ix hix => ?_
  simp only [List.mem_cons, List.not_mem_nil, or_false] at hix
  subst hix
  refine any_op rfl rfl fun K hK => ?_
  obtain ⟨⟨r0, r1, r2, r3⟩, g0, g1, g2, g3⟩ := tfacts h9.r
  have HSf := Bx.mk (store4 (F := F0 ^^^ F1) h9.r)
  have HBf := Bx.mk (below4 (F := F0 ^^^ F1) (p := w.heap.size + 1) h9.be (by omega))
  clear hS0
  generalize hR : F0 ^^^ F1 = R at HSf HBf ⊢
  have HR := Bx.mk hR
  clear hR
  unfold Tb.tv
  go_simp
  refine hK _ _ (fun h => absurd rfl h) ?_
  (try simp only [Act.put]); (try simp only [List.getElem_toArray]); (try simp only [List.getElem_cons_succ]); (try simp only [List.getElem_cons_zero]); (try simp only [List.setIfInBounds_toArray]); (try simp only [List.set_cons_succ]); (try simp only [List.set_cons_zero])
  clear hK
  refine any_end (by kernel_rfl) ?_
  clear h9 hb9
  go_wp2_with fail
  clear r0 r1 r2 r3 g0 g1 g2 g3
  obtain ⟨⟨r0, r1, r2, r3⟩, _, _, _, _⟩ := tfacts HSf.out
  refine bodyPost_ret (v := Tb.tv R) (by simp [results, Try.results33, go_sem, r0, r1, r2, r3] <;> rfl) rfl ⟨?_, HBf.out⟩
  rw [← HR.out, ← HF0.out, ← HF1.out]
  unfold Ex.tabk
  simp
set_option maxHeartbeats 8000000 in
theorem table_7 (n : Nat) (ih : Tz n) (a : Int) (v : Int) (b o cap : Nat) (w : World) (x : Tr) (sx : Value) (Kx : Kid w b o x sx) (Nx : (x.on .nil).nodes ≤ n) (Px : (x.on .nil).allPlain = true) (y : Tr) (sy : Value) (Ky : Kid w b (o + 4) y sy) (Ny : (y.on .nil).nodes ≤ n) (Py : (y.on .nil).allPlain = true) :
    Calls Try.prog 33 #[.agg #[.int .i64 7, .int .i64 a, .int .i64 v, .slice (some ⟨b, o, none⟩) 2 cap]] w fun e w' => e = .returned (Tb.tv (Ex.tabk 7 v [Ex.table x, Ex.table y])) ∧ Below w.heap.size w w' := by
  have H0 := Bx.mk (TS.start w 7 a v (.slice (some ⟨b, o, none⟩) 2 cap))
  have BKx := Bx.mk Kx
  have BNx := Bx.mk Nx
  have BPx := Bx.mk Px
  have BKy := Bx.mk Ky
  have BNy := Bx.mk Ny
  have BPy := Bx.mk Py
  have IH := Bx.mk ih
  clear ih Kx Nx Px Ky Ny Py
  go_enter Try.func33, Try.ntmps33
  go_wp2_with fail
  try rw [zeros_tab]
  try rw [lc_zero]
  generalize hW : World.alloc (World.alloc (World.alloc _ _) _) _ = W0
  have H1 : Bx (TS w W0 7 a v (.slice (some ⟨b, o, none⟩) 2 cap) 0#256 0#256 0#256) := ⟨by rw [← hW]; exact H0.out⟩
  clear hW H0
  refine wp_loop_rounds 3 ?_
  rw [rounds_succ]
  have hk0 := BKx.out.below H1.out.be
  obtain ⟨k0, k1, k2, k3, kS⟩ := hk0
  obtain ⟨px, cx, rfl⟩ := kS.is
  have hA := H1.out.alloc (.cells #[.int .i64 x.k, .int .i64 x.a, .int .i64 x.v, .slice px x.kids.len cx] 36)
  have hI := IH.out x _ _ _ BNx.out BPx.out (kS.alloc (.cells #[.int .i64 x.k, .int .i64 x.a, .int .i64 x.v, .slice px x.kids.len cx] 36))
  have HA := Bx.mk hA
  have HI := Bx.mk hI
  clear hA hI kS
  unfold Ev at HI
  go_wp2_with fail
  refine HI.out.mono ?_
  rintro e u0 ⟨rfl, hb0⟩
  have hT := HA.out.step hb0
  clear k0 k1 k2 k3 HI
  obtain ⟨_, ⟨q0, q1, q2, q3, q4, q5, q6, q7, q8, q9, qa, qb⟩, f0, f1, f2, f3, f4, f5, f6, f7, f8, f9, fa, fb⟩ := hT.cells
  have HT := Bx.mk hT
  clear hT hb0 HA
  generalize hF0 : Ex.table x = F0
  have HF0 := Bx.mk hF0
  clear hF0
  unfold Tb.tv
  go_wp2_with fail
  clear q0 q1 q2 q3 q4 q5 q6 q7 q8 q9 qa qb f0 f1 f2 f3 f4 f5 f6 f7 f8 f9 fa fb
  have H2 := Bx.mk (HT.out.put0 F0)
  rw [rounds_succ]
  have hk1 := BKy.out.below H2.out.be
  obtain ⟨k0, k1, k2, k3, kS⟩ := hk1
  obtain ⟨py, cy, rfl⟩ := kS.is
  have hA := H2.out.alloc (.cells #[.int .i64 y.k, .int .i64 y.a, .int .i64 y.v, .slice py y.kids.len cy] 36)
  have hI := IH.out y _ _ _ BNy.out BPy.out (kS.alloc (.cells #[.int .i64 y.k, .int .i64 y.a, .int .i64 y.v, .slice py y.kids.len cy] 36))
  have HA := Bx.mk hA
  have HI := Bx.mk hI
  clear hA hI kS
  unfold Ev at HI
  go_wp2_with fail
  refine HI.out.mono ?_
  rintro e u1 ⟨rfl, hb1⟩
  have hT := HA.out.step hb1
  clear k0 k1 k2 k3 HI
  obtain ⟨_, ⟨q0, q1, q2, q3, q4, q5, q6, q7, q8, q9, qa, qb⟩, f0, f1, f2, f3, f4, f5, f6, f7, f8, f9, fa, fb⟩ := hT.cells
  have HT := Bx.mk hT
  clear hT hb1 HA
  generalize hF1 : Ex.table y = F1
  have HF1 := Bx.mk hF1
  clear hF1
  unfold Tb.tv
  go_wp2_with fail
  clear q0 q1 q2 q3 q4 q5 q6 q7 q8 q9 qa qb f0 f1 f2 f3 f4 f5 f6 f7 f8 f9 fa fb
  have H3 := Bx.mk (HT.out.put1 F1)
  obtain ⟨⟨e0, e2, e3⟩, ⟨q0, q1, q2, q3, q4, q5, q6, q7, q8, q9, qa, qb⟩, f0, f1, f2, f3, f4, f5, f6, f7, f8, f9, fa, fb⟩ := H3.out.cells
  rw [rounds_succ]
  go_wp2_with fail
  clear e0 e2 e3 q0 q1 q2 q3 q4 q5 q6 q7 q8 q9 qa qb f0 f1 f2 f3 f4 f5 f6 f7 f8 f9 fa fb
  refine region_any 8 (fun u => TS w u 7 a v (.slice (some ⟨b, o, none⟩) 2 cap) F0 F1 0#256) (by kernel_rfl) ?_
  generalize hu : World.drew _ = u0
  have hS0 : TS w u0 7 a v (.slice (some ⟨b, o, none⟩) 2 cap) F0 F1 0#256 := by rw [← hu]; exact H3.out.step ((Below.refl _ _).drew)
  clear hu
  refine any_take (i := 0) (.pointer (some ⟨w.heap.size, 0, none⟩)) rfl rfl (by kernel_rfl) (by kernel_rfl) (by kernel_rfl) (by kernel_rfl) (fun _ _ d _ _ h => by cases d <;> exact h) (fun u hS => rfl) hS0 ?_
  (try simp only [Act.put]); (try simp only [List.getElem_toArray]); (try simp only [List.getElem_cons_succ]); (try simp only [List.getElem_cons_zero]); (try simp only [List.setIfInBounds_toArray]); (try simp only [List.set_cons_succ]); (try simp only [List.set_cons_zero])
  refine any_take (i := 1) (.int .i64 7) rfl rfl (by kernel_rfl) (by kernel_rfl) (by kernel_rfl) (by kernel_rfl) (fun _ _ d _ _ h => by cases d <;> exact h) (fun u hS => exec_loadI rfl rfl hS.cells.1.1) hS0 ?_
  (try simp only [Act.put]); (try simp only [List.getElem_toArray]); (try simp only [List.getElem_cons_succ]); (try simp only [List.getElem_cons_zero]); (try simp only [List.setIfInBounds_toArray]); (try simp only [List.set_cons_succ]); (try simp only [List.set_cons_zero])
  refine any_take (i := 3) (.pointer (some ⟨w.heap.size + 2, 0, none⟩)) rfl rfl (by kernel_rfl) (by kernel_rfl) (by kernel_rfl) (by kernel_rfl) (fun _ _ d _ _ h => by cases d <;> exact h) (fun u hS => rfl) hS0 ?_
  (try simp only [Act.put]); (try simp only [List.getElem_toArray]); (try simp only [List.getElem_cons_succ]); (try simp only [List.getElem_cons_zero]); (try simp only [List.setIfInBounds_toArray]); (try simp only [List.set_cons_succ]); (try simp only [List.set_cons_zero])
  refine any_take (i := 4) (Tb.tv F0) rfl rfl (by kernel_rfl) (by kernel_rfl) (by kernel_rfl) (by kernel_rfl) (fun _ _ d _ _ h => by cases d <;> exact h) (fun u hS => exec_loadL rfl rfl hS.cells.2.1.1 hS.cells.2.1.2.1 hS.cells.2.1.2.2.1 hS.cells.2.1.2.2.2.1) hS0 ?_
  (try simp only [Act.put]); (try simp only [List.getElem_toArray]); (try simp only [List.getElem_cons_succ]); (try simp only [List.getElem_cons_zero]); (try simp only [List.setIfInBounds_toArray]); (try simp only [List.set_cons_succ]); (try simp only [List.set_cons_zero])
  refine any_take (i := 5) (.pointer (some ⟨w.heap.size + 2, 4, none⟩)) rfl rfl (by kernel_rfl) (by kernel_rfl) (by kernel_rfl) (by kernel_rfl) (fun _ _ d _ _ h => by cases d <;> exact h) (fun u hS => rfl) hS0 ?_
  (try simp only [Act.put]); (try simp only [List.getElem_toArray]); (try simp only [List.getElem_cons_succ]); (try simp only [List.getElem_cons_zero]); (try simp only [List.setIfInBounds_toArray]); (try simp only [List.set_cons_succ]); (try simp only [List.set_cons_zero])
  refine any_take (i := 6) (Tb.tv F1) rfl rfl (by kernel_rfl) (by kernel_rfl) (by kernel_rfl) (by kernel_rfl) (fun _ _ d _ _ h => by cases d <;> exact h) (fun u hS => exec_loadL rfl rfl hS.cells.2.1.2.2.2.2.1 hS.cells.2.1.2.2.2.2.2.1 hS.cells.2.1.2.2.2.2.2.2.1 hS.cells.2.1.2.2.2.2.2.2.2.1) hS0 ?_
  (try simp only [Act.put]); (try simp only [List.getElem_toArray]); (try simp only [List.getElem_cons_succ]); (try simp only [List.getElem_cons_zero]); (try simp only [List.setIfInBounds_toArray]); (try simp only [List.set_cons_succ]); (try simp only [List.set_cons_zero])
  refine any_branch [2] (by kernel_rfl) rfl fun ix hix => ?_
  simp only [List.mem_cons, List.not_mem_nil, or_false] at hix
  subst hix
  refine any_op rfl rfl fun K hK => ?_
  go_simp
  refine (tables_7 _).mono ?_
  rintro e ut ⟨rfl, rfl⟩
  refine hK _ _ (fun _ => hS0) ?_
  (try simp only [Act.put]); (try simp only [List.getElem_toArray]); (try simp only [List.getElem_cons_succ]); (try simp only [List.getElem_cons_zero]); (try simp only [List.setIfInBounds_toArray]); (try simp only [List.set_cons_succ]); (try simp only [List.set_cons_zero])
  clear hK
  refine any_branch [7] (by kernel_rfl) rfl fun ix hix => ?_
  simp only [List.mem_cons, List.not_mem_nil, or_false] at hix
  subst hix
  refine any_op rfl rfl fun K hK => ?_
  go_simp
  refine (tables1_any F0 F1 _).mono ?_
  rintro e u9 ⟨rfl, hb9⟩
  have h9 := hS0.step hb9
  refine hK _ _ (fun _ => h9) ?_
  (try simp only [Act.put]); (try simp only [List.getElem_toArray]); (try simp only [List.getElem_cons_succ]); (try simp only [List.getElem_cons_zero]); (try simp only [List.setIfInBounds_toArray]); (try simp only [List.set_cons_succ]); (try simp only [List.set_cons_zero])
  clear hK
  refine any_branch [8] (by kernel_rfl) rfl fun ix hix => ?_
  simp only [List.mem_cons, List.not_mem_nil, or_false] at hix
  subst hix
  refine any_op rfl rfl fun K hK => ?_
  obtain ⟨⟨r0, r1, r2, r3⟩, g0, g1, g2, g3⟩ := tfacts h9.r
  have HSf := Bx.mk (store4 (F := (~~~F0) ||| F1) h9.r)
  have HBf := Bx.mk (below4 (F := (~~~F0) ||| F1) (p := w.heap.size + 1) h9.be (by omega))
  clear hS0
  generalize hR : (~~~F0) ||| F1 = R at HSf HBf ⊢
  have HR := Bx.mk hR
  clear hR
  unfold Tb.tv
  go_simp
  refine hK _ _ (fun h => absurd rfl h) ?_
  (try simp only [Act.put]); (try simp only [List.getElem_toArray]); (try simp only [List.getElem_cons_succ]); (try simp only [List.getElem_cons_zero]); (try simp only [List.setIfInBounds_toArray]); (try simp only [List.set_cons_succ]); (try simp only [List.set_cons_zero])
  clear hK
  refine any_end (by kernel_rfl) ?_
  clear h9 hb9
  go_wp2_with fail
  clear r0 r1 r2 r3 g0 g1 g2 g3
  obtain ⟨⟨r0, r1, r2, r3⟩, _, _, _, _⟩ := tfacts HSf.out
  refine bodyPost_ret (v := Tb.tv R) (by simp [results, Try.results33, go_sem, r0, r1, r2, r3] <;> rfl) rfl ⟨?_, HBf.out⟩
  rw [← HR.out, ← HF0.out, ← HF1.out]
  unfold Ex.tabk
  simp
set_option maxHeartbeats 8000000 in
theorem table_8 (n : Nat) (ih : Tz n) (a : Int) (v : Int) (b o cap : Nat) (w : World) (x : Tr) (sx : Value) (Kx : Kid w b o x sx) (Nx : (x.on .nil).nodes ≤ n) (Px : (x.on .nil).allPlain = true) (y : Tr) (sy : Value) (Ky : Kid w b (o + 4) y sy) (Ny : (y.on .nil).nodes ≤ n) (Py : (y.on .nil).allPlain = true) :
    Calls Try.prog 33 #[.agg #[.int .i64 8, .int .i64 a, .int .i64 v, .slice (some ⟨b, o, none⟩) 2 cap]] w fun e w' => e = .returned (Tb.tv (Ex.tabk 8 v [Ex.table x, Ex.table y])) ∧ Below w.heap.size w w' := by
  have H0 := Bx.mk (TS.start w 8 a v (.slice (some ⟨b, o, none⟩) 2 cap))
  have BKx := Bx.mk Kx
  have BNx := Bx.mk Nx
  have BPx := Bx.mk Px
  have BKy := Bx.mk Ky
  have BNy := Bx.mk Ny
  have BPy := Bx.mk Py
  have IH := Bx.mk ih
  clear ih Kx Nx Px Ky Ny Py
  go_enter Try.func33, Try.ntmps33
  go_wp2_with fail
  try rw [zeros_tab]
  try rw [lc_zero]
  generalize hW : World.alloc (World.alloc (World.alloc _ _) _) _ = W0
  have H1 : Bx (TS w W0 8 a v (.slice (some ⟨b, o, none⟩) 2 cap) 0#256 0#256 0#256) := ⟨by rw [← hW]; exact H0.out⟩
  clear hW H0
  refine wp_loop_rounds 3 ?_
  rw [rounds_succ]
  have hk0 := BKx.out.below H1.out.be
  obtain ⟨k0, k1, k2, k3, kS⟩ := hk0
  obtain ⟨px, cx, rfl⟩ := kS.is
  have hA := H1.out.alloc (.cells #[.int .i64 x.k, .int .i64 x.a, .int .i64 x.v, .slice px x.kids.len cx] 36)
  have hI := IH.out x _ _ _ BNx.out BPx.out (kS.alloc (.cells #[.int .i64 x.k, .int .i64 x.a, .int .i64 x.v, .slice px x.kids.len cx] 36))
  have HA := Bx.mk hA
  have HI := Bx.mk hI
  clear hA hI kS
  unfold Ev at HI
  go_wp2_with fail
  refine HI.out.mono ?_
  rintro e u0 ⟨rfl, hb0⟩
  have hT := HA.out.step hb0
  clear k0 k1 k2 k3 HI
  obtain ⟨_, ⟨q0, q1, q2, q3, q4, q5, q6, q7, q8, q9, qa, qb⟩, f0, f1, f2, f3, f4, f5, f6, f7, f8, f9, fa, fb⟩ := hT.cells
  have HT := Bx.mk hT
  clear hT hb0 HA
  generalize hF0 : Ex.table x = F0
  have HF0 := Bx.mk hF0
  clear hF0
  unfold Tb.tv
  go_wp2_with fail
  clear q0 q1 q2 q3 q4 q5 q6 q7 q8 q9 qa qb f0 f1 f2 f3 f4 f5 f6 f7 f8 f9 fa fb
  have H2 := Bx.mk (HT.out.put0 F0)
  rw [rounds_succ]
  have hk1 := BKy.out.below H2.out.be
  obtain ⟨k0, k1, k2, k3, kS⟩ := hk1
  obtain ⟨py, cy, rfl⟩ := kS.is
  have hA := H2.out.alloc (.cells #[.int .i64 y.k, .int .i64 y.a, .int .i64 y.v, .slice py y.kids.len cy] 36)
  have hI := IH.out y _ _ _ BNy.out BPy.out (kS.alloc (.cells #[.int .i64 y.k, .int .i64 y.a, .int .i64 y.v, .slice py y.kids.len cy] 36))
  have HA := Bx.mk hA
  have HI := Bx.mk hI
  clear hA hI kS
  unfold Ev at HI
  go_wp2_with fail
  refine HI.out.mono ?_
  rintro e u1 ⟨rfl, hb1⟩
  have hT := HA.out.step hb1
  clear k0 k1 k2 k3 HI
  obtain ⟨_, ⟨q0, q1, q2, q3, q4, q5, q6, q7, q8, q9, qa, qb⟩, f0, f1, f2, f3, f4, f5, f6, f7, f8, f9, fa, fb⟩ := hT.cells
  have HT := Bx.mk hT
  clear hT hb1 HA
  generalize hF1 : Ex.table y = F1
  have HF1 := Bx.mk hF1
  clear hF1
  unfold Tb.tv
  go_wp2_with fail
  clear q0 q1 q2 q3 q4 q5 q6 q7 q8 q9 qa qb f0 f1 f2 f3 f4 f5 f6 f7 f8 f9 fa fb
  have H3 := Bx.mk (HT.out.put1 F1)
  obtain ⟨⟨e0, e2, e3⟩, ⟨q0, q1, q2, q3, q4, q5, q6, q7, q8, q9, qa, qb⟩, f0, f1, f2, f3, f4, f5, f6, f7, f8, f9, fa, fb⟩ := H3.out.cells
  rw [rounds_succ]
  go_wp2_with fail
  clear e0 e2 e3 q0 q1 q2 q3 q4 q5 q6 q7 q8 q9 qa qb f0 f1 f2 f3 f4 f5 f6 f7 f8 f9 fa fb
  refine region_any 8 (fun u => TS w u 8 a v (.slice (some ⟨b, o, none⟩) 2 cap) F0 F1 0#256) (by kernel_rfl) ?_
  generalize hu : World.drew _ = u0
  have hS0 : TS w u0 8 a v (.slice (some ⟨b, o, none⟩) 2 cap) F0 F1 0#256 := by rw [← hu]; exact H3.out.step ((Below.refl _ _).drew)
  clear hu
  refine any_take (i := 0) (.pointer (some ⟨w.heap.size, 0, none⟩)) rfl rfl (by kernel_rfl) (by kernel_rfl) (by kernel_rfl) (by kernel_rfl) (fun _ _ d _ _ h => by cases d <;> exact h) (fun u hS => rfl) hS0 ?_
  (try simp only [Act.put]); (try simp only [List.getElem_toArray]); (try simp only [List.getElem_cons_succ]); (try simp only [List.getElem_cons_zero]); (try simp only [List.setIfInBounds_toArray]); (try simp only [List.set_cons_succ]); (try simp only [List.set_cons_zero])
  refine any_take (i := 1) (.int .i64 8) rfl rfl (by kernel_rfl) (by kernel_rfl) (by kernel_rfl) (by kernel_rfl) (fun _ _ d _ _ h => by cases d <;> exact h) (fun u hS => exec_loadI rfl rfl hS.cells.1.1) hS0 ?_
  (try simp only [Act.put]); (try simp only [List.getElem_toArray]); (try simp only [List.getElem_cons_succ]); (try simp only [List.getElem_cons_zero]); (try simp only [List.setIfInBounds_toArray]); (try simp only [List.set_cons_succ]); (try simp only [List.set_cons_zero])
  refine any_take (i := 3) (.pointer (some ⟨w.heap.size + 2, 0, none⟩)) rfl rfl (by kernel_rfl) (by kernel_rfl) (by kernel_rfl) (by kernel_rfl) (fun _ _ d _ _ h => by cases d <;> exact h) (fun u hS => rfl) hS0 ?_
  (try simp only [Act.put]); (try simp only [List.getElem_toArray]); (try simp only [List.getElem_cons_succ]); (try simp only [List.getElem_cons_zero]); (try simp only [List.setIfInBounds_toArray]); (try simp only [List.set_cons_succ]); (try simp only [List.set_cons_zero])
  refine any_take (i := 4) (Tb.tv F0) rfl rfl (by kernel_rfl) (by kernel_rfl) (by kernel_rfl) (by kernel_rfl) (fun _ _ d _ _ h => by cases d <;> exact h) (fun u hS => exec_loadL rfl rfl hS.cells.2.1.1 hS.cells.2.1.2.1 hS.cells.2.1.2.2.1 hS.cells.2.1.2.2.2.1) hS0 ?_
  (try simp only [Act.put]); (try simp only [List.getElem_toArray]); (try simp only [List.getElem_cons_succ]); (try simp only [List.getElem_cons_zero]); (try simp only [List.setIfInBounds_toArray]); (try simp only [List.set_cons_succ]); (try simp only [List.set_cons_zero])
  refine any_take (i := 5) (.pointer (some ⟨w.heap.size + 2, 4, none⟩)) rfl rfl (by kernel_rfl) (by kernel_rfl) (by kernel_rfl) (by kernel_rfl) (fun _ _ d _ _ h => by cases d <;> exact h) (fun u hS => rfl) hS0 ?_
  (try simp only [Act.put]); (try simp only [List.getElem_toArray]); (try simp only [List.getElem_cons_succ]); (try simp only [List.getElem_cons_zero]); (try simp only [List.setIfInBounds_toArray]); (try simp only [List.set_cons_succ]); (try simp only [List.set_cons_zero])
  refine any_take (i := 6) (Tb.tv F1) rfl rfl (by kernel_rfl) (by kernel_rfl) (by kernel_rfl) (by kernel_rfl) (fun _ _ d _ _ h => by cases d <;> exact h) (fun u hS => exec_loadL rfl rfl hS.cells.2.1.2.2.2.2.1 hS.cells.2.1.2.2.2.2.2.1 hS.cells.2.1.2.2.2.2.2.2.1 hS.cells.2.1.2.2.2.2.2.2.2.1) hS0 ?_
  (try simp only [Act.put]); (try simp only [List.getElem_toArray]); (try simp only [List.getElem_cons_succ]); (try simp only [List.getElem_cons_zero]); (try simp only [List.setIfInBounds_toArray]); (try simp only [List.set_cons_succ]); (try simp only [List.set_cons_zero])
  refine any_branch [2] (by kernel_rfl) rfl fun ix hix => ?_
  simp only [List.mem_cons, List.not_mem_nil, or_false] at hix
  subst hix
  refine any_op rfl rfl fun K hK => ?_
  go_simp
  refine (tables_8 _).mono ?_
  rintro e ut ⟨rfl, rfl⟩
  refine hK _ _ (fun _ => hS0) ?_
  (try simp only [Act.put]); (try simp only [List.getElem_toArray]); (try simp only [List.getElem_cons_succ]); (try simp only [List.getElem_cons_zero]); (try simp only [List.setIfInBounds_toArray]); (try simp only [List.set_cons_succ]); (try simp only [List.set_cons_zero])
  clear hK
  refine any_branch [7] (by kernel_rfl) rfl fun ix hix => ?_
  simp only [List.mem_cons, List.not_mem_nil, or_false] at hix
  subst hix
  refine any_op rfl rfl fun K hK => ?_
  go_simp
  refine (tables2_any F0 F1 _).mono ?_
  rintro e u9 ⟨rfl, hb9⟩
  have h9 := hS0.step hb9
  refine hK _ _ (fun _ => h9) ?_
  (try simp only [Act.put]); (try simp only [List.getElem_toArray]); (try simp only [List.getElem_cons_succ]); (try simp only [List.getElem_cons_zero]); (try simp only [List.setIfInBounds_toArray]); (try simp only [List.set_cons_succ]); (try simp only [List.set_cons_zero])
  clear hK
  refine any_branch [8] (by kernel_rfl) rfl fun ix hix => ?_
  simp only [List.mem_cons, List.not_mem_nil, or_false] at hix
  subst hix
  refine any_op rfl rfl fun K hK => ?_
  obtain ⟨⟨r0, r1, r2, r3⟩, g0, g1, g2, g3⟩ := tfacts h9.r
  have HSf := Bx.mk (store4 (F := ~~~(F0 ^^^ F1)) h9.r)
  have HBf := Bx.mk (below4 (F := ~~~(F0 ^^^ F1)) (p := w.heap.size + 1) h9.be (by omega))
  clear hS0
  generalize hR : ~~~(F0 ^^^ F1) = R at HSf HBf ⊢
  have HR := Bx.mk hR
  clear hR
  unfold Tb.tv
  go_simp
  refine hK _ _ (fun h => absurd rfl h) ?_
  (try simp only [Act.put]); (try simp only [List.getElem_toArray]); (try simp only [List.getElem_cons_succ]); (try simp only [List.getElem_cons_zero]); (try simp only [List.setIfInBounds_toArray]); (try simp only [List.set_cons_succ]); (try simp only [List.set_cons_zero])
  clear hK
  refine any_end (by kernel_rfl) ?_
  clear h9 hb9
  go_wp2_with fail
  clear r0 r1 r2 r3 g0 g1 g2 g3
  obtain ⟨⟨r0, r1, r2, r3⟩, _, _, _, _⟩ := tfacts HSf.out
  refine bodyPost_ret (v := Tb.tv R) (by simp [results, Try.results33, go_sem, r0, r1, r2, r3] <;> rfl) rfl ⟨?_, HBf.out⟩
  rw [← HR.out, ← HF0.out, ← HF1.out]
  unfold Ex.tabk
  simp
set_option maxHeartbeats 8000000 in
theorem table_10 (n : Nat) (ih : Tz n) (a : Int) (m : Nat) (hm : m < 8) (b o cap : Nat) (w : World) (x : Tr) (sx : Value) (Kx : Kid w b o x sx) (Nx : (x.on .nil).nodes ≤ n) (Px : (x.on .nil).allPlain = true) :
    Calls Try.prog 33 #[.agg #[.int .i64 10, .int .i64 a, .int .i64 (m : Int), .slice (some ⟨b, o, none⟩) 1 cap]] w fun e w' => e = .returned (Tb.tv (Ex.tabk 10 (m : Int) [Ex.table x])) ∧ Below w.heap.size w w' := by
  have H0 := Bx.mk (TS.start w 10 a (m : Int) (.slice (some ⟨b, o, none⟩) 1 cap))
  have BKx := Bx.mk Kx
  have BNx := Bx.mk Nx
  have BPx := Bx.mk Px
  have IH := Bx.mk ih
  clear ih Kx Nx Px
  go_enter Try.func33, Try.ntmps33
  go_wp2_with fail
  try rw [zeros_tab]
  try rw [lc_zero]
  generalize hW : World.alloc (World.alloc (World.alloc _ _) _) _ = W0
  have H1 : Bx (TS w W0 10 a (m : Int) (.slice (some ⟨b, o, none⟩) 1 cap) 0#256 0#256 0#256) := ⟨by rw [← hW]; exact H0.out⟩
  clear hW H0
  refine wp_loop_rounds 2 ?_
  rw [rounds_succ]
  have hk0 := BKx.out.below H1.out.be
  obtain ⟨k0, k1, k2, k3, kS⟩ := hk0
  obtain ⟨px, cx, rfl⟩ := kS.is
  have hA := H1.out.alloc (.cells #[.int .i64 x.k, .int .i64 x.a, .int .i64 x.v, .slice px x.kids.len cx] 36)
  have hI := IH.out x _ _ _ BNx.out BPx.out (kS.alloc (.cells #[.int .i64 x.k, .int .i64 x.a, .int .i64 x.v, .slice px x.kids.len cx] 36))
  have HA := Bx.mk hA
  have HI := Bx.mk hI
  clear hA hI kS
  unfold Ev at HI
  go_wp2_with fail
  refine HI.out.mono ?_
  rintro e u0 ⟨rfl, hb0⟩
  have hT := HA.out.step hb0
  clear k0 k1 k2 k3 HI
  obtain ⟨_, ⟨q0, q1, q2, q3, q4, q5, q6, q7, q8, q9, qa, qb⟩, f0, f1, f2, f3, f4, f5, f6, f7, f8, f9, fa, fb⟩ := hT.cells
  have HT := Bx.mk hT
  clear hT hb0 HA
  generalize hF0 : Ex.table x = F0
  have HF0 := Bx.mk hF0
  clear hF0
  unfold Tb.tv
  go_wp2_with fail
  clear q0 q1 q2 q3 q4 q5 q6 q7 q8 q9 qa qb f0 f1 f2 f3 f4 f5 f6 f7 f8 f9 fa fb
  have H2 := Bx.mk (HT.out.put0 F0)
  obtain ⟨⟨e0, e2, e3⟩, ⟨q0, q1, q2, q3, q4, q5, q6, q7, q8, q9, qa, qb⟩, f0, f1, f2, f3, f4, f5, f6, f7, f8, f9, fa, fb⟩ := H2.out.cells
  rw [rounds_succ]
  go_wp2_with fail
  clear e0 e2 e3 q0 q1 q2 q3 q4 q5 q6 q7 q8 q9 qa qb f0 f1 f2 f3 f4 f5 f6 f7 f8 f9 fa fb
  refine region_any 6 (fun u => TS w u 10 a (m : Int) (.slice (some ⟨b, o, none⟩) 1 cap) F0 0#256 0#256) (by kernel_rfl) ?_
  generalize hu : World.drew _ = u0
  have hS0 : TS w u0 10 a (m : Int) (.slice (some ⟨b, o, none⟩) 1 cap) F0 0#256 0#256 := by rw [← hu]; exact H2.out.step ((Below.refl _ _).drew)
  clear hu
  refine any_take (i := 0) (.pointer (some ⟨w.heap.size + 2, 0, none⟩)) rfl rfl (by kernel_rfl) (by kernel_rfl) (by kernel_rfl) (by kernel_rfl) (fun _ _ d _ _ h => by cases d <;> exact h) (fun u hS => rfl) hS0 ?_
  (try simp only [Act.put]); (try simp only [List.getElem_toArray]); (try simp only [List.getElem_cons_succ]); (try simp only [List.getElem_cons_zero]); (try simp only [List.setIfInBounds_toArray]); (try simp only [List.set_cons_succ]); (try simp only [List.set_cons_zero])
  refine any_take (i := 1) (Tb.tv F0) rfl rfl (by kernel_rfl) (by kernel_rfl) (by kernel_rfl) (by kernel_rfl) (fun _ _ d _ _ h => by cases d <;> exact h) (fun u hS => exec_loadL rfl rfl hS.cells.2.1.1 hS.cells.2.1.2.1 hS.cells.2.1.2.2.1 hS.cells.2.1.2.2.2.1) hS0 ?_
  (try simp only [Act.put]); (try simp only [List.getElem_toArray]); (try simp only [List.getElem_cons_succ]); (try simp only [List.getElem_cons_zero]); (try simp only [List.setIfInBounds_toArray]); (try simp only [List.set_cons_succ]); (try simp only [List.set_cons_zero])
  refine any_take (i := 2) (.pointer (some ⟨w.heap.size, 2, none⟩)) rfl rfl (by kernel_rfl) (by kernel_rfl) (by kernel_rfl) (by kernel_rfl) (fun _ _ d _ _ h => by cases d <;> exact h) (fun u hS => rfl) hS0 ?_
  (try simp only [Act.put]); (try simp only [List.getElem_toArray]); (try simp only [List.getElem_cons_succ]); (try simp only [List.getElem_cons_zero]); (try simp only [List.setIfInBounds_toArray]); (try simp only [List.set_cons_succ]); (try simp only [List.set_cons_zero])
  refine any_take (i := 3) (.int .i64 (m : Int)) rfl rfl (by kernel_rfl) (by kernel_rfl) (by kernel_rfl) (by kernel_rfl) (fun _ _ d _ _ h => by cases d <;> exact h) (fun u hS => exec_loadI rfl rfl hS.cells.1.2.1) hS0 ?_
  (try simp only [Act.put]); (try simp only [List.getElem_toArray]); (try simp only [List.getElem_cons_succ]); (try simp only [List.getElem_cons_zero]); (try simp only [List.setIfInBounds_toArray]); (try simp only [List.set_cons_succ]); (try simp only [List.set_cons_zero])
  refine any_take (i := 4) (.int .u8 ((2 ^ m : Nat) : Int)) rfl rfl (by kernel_rfl) (by kernel_rfl) (by kernel_rfl) (by kernel_rfl) (fun _ _ d _ _ h => by cases d <;> exact h) (fun u hS => exec_shl8 rfl rfl rfl hm) hS0 ?_
  (try simp only [Act.put]); (try simp only [List.getElem_toArray]); (try simp only [List.getElem_cons_succ]); (try simp only [List.getElem_cons_zero]); (try simp only [List.setIfInBounds_toArray]); (try simp only [List.set_cons_succ]); (try simp only [List.set_cons_zero])
  refine any_branch [5] (by kernel_rfl) rfl fun ix hix => ?_
  simp only [List.mem_cons, List.not_mem_nil, or_false] at hix
  subst hix
  refine any_op rfl rfl fun K hK => ?_
  go_simp
  refine (forall_any F0 (2 ^ m) _ (pow_lt8 hm)).mono ?_
  rintro e u9 ⟨rfl, hb9⟩
  have h9 := hS0.step hb9
  refine hK _ _ (fun _ => h9) ?_
  (try simp only [Act.put]); (try simp only [List.getElem_toArray]); (try simp only [List.getElem_cons_succ]); (try simp only [List.getElem_cons_zero]); (try simp only [List.setIfInBounds_toArray]); (try simp only [List.set_cons_succ]); (try simp only [List.set_cons_zero])
  clear hK
  refine any_branch [6] (by kernel_rfl) rfl fun ix hix => ?_
  simp only [List.mem_cons, List.not_mem_nil, or_false] at hix
  subst hix
  refine any_op rfl rfl fun K hK => ?_
  obtain ⟨⟨r0, r1, r2, r3⟩, g0, g1, g2, g3⟩ := tfacts h9.r
  have HSf := Bx.mk (store4 (F := Tb.halves (fun F G => F &&& G) F0 (2 ^ m)) h9.r)
  have HBf := Bx.mk (below4 (F := Tb.halves (fun F G => F &&& G) F0 (2 ^ m)) (p := w.heap.size + 1) h9.be (by omega))
  clear hS0
  generalize hR : Tb.halves (fun F G => F &&& G) F0 (2 ^ m) = R at HSf HBf ⊢
  have HR := Bx.mk hR
  clear hR
  unfold Tb.tv
  go_simp
  refine hK _ _ (fun h => absurd rfl h) ?_
  (try simp only [Act.put]); (try simp only [List.getElem_toArray]); (try simp only [List.getElem_cons_succ]); (try simp only [List.getElem_cons_zero]); (try simp only [List.setIfInBounds_toArray]); (try simp only [List.set_cons_succ]); (try simp only [List.set_cons_zero])
  clear hK
  refine any_end (by kernel_rfl) ?_
  clear h9 hb9
  go_wp2_with fail
  clear r0 r1 r2 r3 g0 g1 g2 g3
  obtain ⟨⟨r0, r1, r2, r3⟩, _, _, _, _⟩ := tfacts HSf.out
  refine bodyPost_ret (v := Tb.tv R) (by simp [results, Try.results33, go_sem, r0, r1, r2, r3] <;> rfl) rfl ⟨?_, HBf.out⟩
  rw [← HR.out, ← HF0.out]
  unfold Ex.tabk
  simp
set_option maxHeartbeats 8000000 in
theorem table_11 (n : Nat) (ih : Tz n) (a : Int) (m : Nat) (hm : m < 8) (b o cap : Nat) (w : World) (x : Tr) (sx : Value) (Kx : Kid w b o x sx) (Nx : (x.on .nil).nodes ≤ n) (Px : (x.on .nil).allPlain = true) :
    Calls Try.prog 33 #[.agg #[.int .i64 11, .int .i64 a, .int .i64 (m : Int), .slice (some ⟨b, o, none⟩) 1 cap]] w fun e w' => e = .returned (Tb.tv (Ex.tabk 11 (m : Int) [Ex.table x])) ∧ Below w.heap.size w w' := by
  have H0 := Bx.mk (TS.start w 11 a (m : Int) (.slice (some ⟨b, o, none⟩) 1 cap))
  have BKx := Bx.mk Kx
  have BNx := Bx.mk Nx
  have BPx := Bx.mk Px
  have IH := Bx.mk ih
  clear ih Kx Nx Px
  go_enter Try.func33, Try.ntmps33
  go_wp2_with fail
  try rw [zeros_tab]
  try rw [lc_zero]
  generalize hW : World.alloc (World.alloc (World.alloc _ _) _) _ = W0
  have H1 : Bx (TS w W0 11 a (m : Int) (.slice (some ⟨b, o, none⟩) 1 cap) 0#256 0#256 0#256) := ⟨by rw [← hW]; exact H0.out⟩
  clear hW H0
  refine wp_loop_rounds 2 ?_
  rw [rounds_succ]
  have hk0 := BKx.out.below H1.out.be
  obtain ⟨k0, k1, k2, k3, kS⟩ := hk0
  obtain ⟨px, cx, rfl⟩ := kS.is
  have hA := H1.out.alloc (.cells #[.int .i64 x.k, .int .i64 x.a, .int .i64 x.v, .slice px x.kids.len cx] 36)
  have hI := IH.out x _ _ _ BNx.out BPx.out (kS.alloc (.cells #[.int .i64 x.k, .int .i64 x.a, .int .i64 x.v, .slice px x.kids.len cx] 36))
  have HA := Bx.mk hA
  have HI := Bx.mk hI
  clear hA hI kS
  unfold Ev at HI
  go_wp2_with fail
  refine HI.out.mono ?_
  rintro e u0 ⟨rfl, hb0⟩
  have hT := HA.out.step hb0
  clear k0 k1 k2 k3 HI
  obtain ⟨_, ⟨q0, q1, q2, q3, q4, q5, q6, q7, q8, q9, qa, qb⟩, f0, f1, f2, f3, f4, f5, f6, f7, f8, f9, fa, fb⟩ := hT.cells
  have HT := Bx.mk hT
  clear hT hb0 HA
  generalize hF0 : Ex.table x = F0
  have HF0 := Bx.mk hF0
  clear hF0
  unfold Tb.tv
  go_wp2_with fail
  clear q0 q1 q2 q3 q4 q5 q6 q7 q8 q9 qa qb f0 f1 f2 f3 f4 f5 f6 f7 f8 f9 fa fb
  have H2 := Bx.mk (HT.out.put0 F0)
  obtain ⟨⟨e0, e2, e3⟩, ⟨q0, q1, q2, q3, q4, q5, q6, q7, q8, q9, qa, qb⟩, f0, f1, f2, f3, f4, f5, f6, f7, f8, f9, fa, fb⟩ := H2.out.cells
  rw [rounds_succ]
  go_wp2_with fail
  clear e0 e2 e3 q0 q1 q2 q3 q4 q5 q6 q7 q8 q9 qa qb f0 f1 f2 f3 f4 f5 f6 f7 f8 f9 fa fb
  refine region_any 6 (fun u => TS w u 11 a (m : Int) (.slice (some ⟨b, o, none⟩) 1 cap) F0 0#256 0#256) (by kernel_rfl) ?_
  generalize hu : World.drew _ = u0
  have hS0 : TS w u0 11 a (m : Int) (.slice (some ⟨b, o, none⟩) 1 cap) F0 0#256 0#256 := by rw [← hu]; exact H2.out.step ((Below.refl _ _).drew)
  clear hu
  refine any_take (i := 0) (.pointer (some ⟨w.heap.size + 2, 0, none⟩)) rfl rfl (by kernel_rfl) (by kernel_rfl) (by kernel_rfl) (by kernel_rfl) (fun _ _ d _ _ h => by cases d <;> exact h) (fun u hS => rfl) hS0 ?_
  (try simp only [Act.put]); (try simp only [List.getElem_toArray]); (try simp only [List.getElem_cons_succ]); (try simp only [List.getElem_cons_zero]); (try simp only [List.setIfInBounds_toArray]); (try simp only [List.set_cons_succ]); (try simp only [List.set_cons_zero])
  refine any_take (i := 1) (Tb.tv F0) rfl rfl (by kernel_rfl) (by kernel_rfl) (by kernel_rfl) (by kernel_rfl) (fun _ _ d _ _ h => by cases d <;> exact h) (fun u hS => exec_loadL rfl rfl hS.cells.2.1.1 hS.cells.2.1.2.1 hS.cells.2.1.2.2.1 hS.cells.2.1.2.2.2.1) hS0 ?_
  (try simp only [Act.put]); (try simp only [List.getElem_toArray]); (try simp only [List.getElem_cons_succ]); (try simp only [List.getElem_cons_zero]); (try simp only [List.setIfInBounds_toArray]); (try simp only [List.set_cons_succ]); (try simp only [List.set_cons_zero])
  refine any_take (i := 2) (.pointer (some ⟨w.heap.size, 2, none⟩)) rfl rfl (by kernel_rfl) (by kernel_rfl) (by kernel_rfl) (by kernel_rfl) (fun _ _ d _ _ h => by cases d <;> exact h) (fun u hS => rfl) hS0 ?_
  (try simp only [Act.put]); (try simp only [List.getElem_toArray]); (try simp only [List.getElem_cons_succ]); (try simp only [List.getElem_cons_zero]); (try simp only [List.setIfInBounds_toArray]); (try simp only [List.set_cons_succ]); (try simp only [List.set_cons_zero])
  refine any_take (i := 3) (.int .i64 (m : Int)) rfl rfl (by kernel_rfl) (by kernel_rfl) (by kernel_rfl) (by kernel_rfl) (fun _ _ d _ _ h => by cases d <;> exact h) (fun u hS => exec_loadI rfl rfl hS.cells.1.2.1) hS0 ?_
  (try simp only [Act.put]); (try simp only [List.getElem_toArray]); (try simp only [List.getElem_cons_succ]); (try simp only [List.getElem_cons_zero]); (try simp only [List.setIfInBounds_toArray]); (try simp only [List.set_cons_succ]); (try simp only [List.set_cons_zero])
  refine any_take (i := 4) (.int .u8 ((2 ^ m : Nat) : Int)) rfl rfl (by kernel_rfl) (by kernel_rfl) (by kernel_rfl) (by kernel_rfl) (fun _ _ d _ _ h => by cases d <;> exact h) (fun u hS => exec_shl8 rfl rfl rfl hm) hS0 ?_
  (try simp only [Act.put]); (try simp only [List.getElem_toArray]); (try simp only [List.getElem_cons_succ]); (try simp only [List.getElem_cons_zero]); (try simp only [List.setIfInBounds_toArray]); (try simp only [List.set_cons_succ]); (try simp only [List.set_cons_zero])
  refine any_branch [5] (by kernel_rfl) rfl fun ix hix => ?_
  simp only [List.mem_cons, List.not_mem_nil, or_false] at hix
  subst hix
  refine any_op rfl rfl fun K hK => ?_
  go_simp
  refine (exists_any F0 (2 ^ m) _ (pow_lt8 hm)).mono ?_
  rintro e u9 ⟨rfl, hb9⟩
  have h9 := hS0.step hb9
  refine hK _ _ (fun _ => h9) ?_
  (try simp only [Act.put]); (try simp only [List.getElem_toArray]); (try simp only [List.getElem_cons_succ]); (try simp only [List.getElem_cons_zero]); (try simp only [List.setIfInBounds_toArray]); (try simp only [List.set_cons_succ]); (try simp only [List.set_cons_zero])
  clear hK
  refine any_branch [6] (by kernel_rfl) rfl fun ix hix => ?_
  simp only [List.mem_cons, List.not_mem_nil, or_false] at hix
  subst hix
  refine any_op rfl rfl fun K hK => ?_
  obtain ⟨⟨r0, r1, r2, r3⟩, g0, g1, g2, g3⟩ := tfacts h9.r
  have HSf := Bx.mk (store4 (F := Tb.halves (fun F G => F ||| G) F0 (2 ^ m)) h9.r)
  have HBf := Bx.mk (below4 (F := Tb.halves (fun F G => F ||| G) F0 (2 ^ m)) (p := w.heap.size + 1) h9.be (by omega))
  clear hS0
  generalize hR : Tb.halves (fun F G => F ||| G) F0 (2 ^ m) = R at HSf HBf ⊢
  have HR := Bx.mk hR
  clear hR
  unfold Tb.tv
  go_simp
  refine hK _ _ (fun h => absurd rfl h) ?_
  (try simp only [Act.put]); (try simp only [List.getElem_toArray]); (try simp only [List.getElem_cons_succ]); (try simp only [List.getElem_cons_zero]); (try simp only [List.setIfInBounds_toArray]); (try simp only [List.set_cons_succ]); (try simp only [List.set_cons_zero])
  clear hK
  refine any_end (by kernel_rfl) ?_
  clear h9 hb9
  go_wp2_with fail
  clear r0 r1 r2 r3 g0 g1 g2 g3
  obtain ⟨⟨r0, r1, r2, r3⟩, _, _, _, _⟩ := tfacts HSf.out
  refine bodyPost_ret (v := Tb.tv R) (by simp [results, Try.results33, go_sem, r0, r1, r2, r3] <;> rfl) rfl ⟨?_, HBf.out⟩
  rw [← HR.out, ← HF0.out]
  unfold Ex.tabk
  simp
end Go.Proofs.Ytfgokhafiffbaaa

/-
  Formulas: table whole, Func.
-/
namespace Go.Proofs.Ytfgokhafiffbaaa
set_option linter.unusedVariables false
open Go.RowKit

theorem kid_of {w : World} {B : Nat → Prop} {k a v : Int} {kk rest : Fo} {b o : Nat} (h : RdF w B (.cons k a v kk rest) b o) : ∃ sx, Kid w b o ⟨k, a, v, kk⟩ sx ∧ RdF w B rest b (o + 4) := by
  obtain ⟨hb, h0, h1, h2, ⟨p, cap, b', o', h3, hp, hc, hk⟩, hr⟩ := h
  refine ⟨_, ⟨World.block_lt_of_cell? w _ h0, h0, h1, h2, h3, ?_⟩, hr⟩
  exact SlF.mono' (B := B) ⟨p, cap, b', o', rfl, hp, hc, hk⟩ fun g hg _ => hg
theorem Fo.nodes_on (t : Tr) (r : Fo) : (t.on r).nodes = 1 + t.kids.nodes + r.nodes := rfl
theorem Fo.allPlain_on (t : Tr) (r : Fo) : (t.on r).allPlain = (Ex.plain t && t.kids.allPlain && r.allPlain) := rfl
/-- the kinds of a right node, and its kids -/
theorem plain_shape {t : Tr} (h : Ex.plain t = true) : 1 ≤ t.k ∧ t.k ≤ 11 ∧ t.kids.len = Ex.kids t.k ∧ 0 ≤ t.v ∧ t.v ≤ Ex.top t.k := by
  unfold Ex.plain at h
  simp at h
  exact ⟨h.1.1.1, h.1.1.2, h.1.2, h.2.1, h.2.2⟩
theorem Fo.len0 {F : Fo} (h : F.len = 0) : F = .nil := by cases F with | nil => rfl | cons => simp [Fo.len] at h
theorem Fo.len1 {F : Fo} (h : F.len = 1) : ∃ x : Tr, F = x.on .nil := by
  cases F with
  | nil => simp [Fo.len] at h
  | cons k a v kids rest => exact ⟨⟨k, a, v, kids⟩, by rw [Fo.len0 (F := rest) (by simpa [Fo.len] using h)]; rfl⟩
theorem Fo.len2 {F : Fo} (h : F.len = 2) : ∃ x y : Tr, F = x.on (y.on .nil) := by
  cases F with
  | nil => simp [Fo.len] at h
  | cons k a v kids rest =>
    obtain ⟨y, rfl⟩ := Fo.len1 (F := rest) (by simpa [Fo.len] using h)
    exact ⟨⟨k, a, v, kids⟩, y, rfl⟩
theorem Fo.len3 {F : Fo} (h : F.len = 3) : ∃ x y z : Tr, F = x.on (y.on (z.on .nil)) := by
  cases F with
  | nil => simp [Fo.len] at h
  | cons k a v kids rest =>
    obtain ⟨y, z, rfl⟩ := Fo.len2 (F := rest) (by simpa [Fo.len] using h)
    exact ⟨⟨k, a, v, kids⟩, y, z, rfl⟩
theorem Tz.succ (n : Nat) (ih : Tz n) : Tz (n + 1) := by
  intro t sl B u hn hp hs
  rw [Fo.nodes_on] at hn
  rw [Fo.allPlain_on, Bool.and_eq_true, Bool.and_eq_true] at hp
  obtain ⟨⟨hpl, hka⟩, _⟩ := hp
  obtain ⟨h1, h2, h3, h4, h5⟩ := plain_shape hpl
  obtain ⟨k, a, v, kids⟩ := t
  simp only [] at h1 h2 h3 h4 h5 hn hka hs
  have hnil : (Fo.nil).nodes = 0 := rfl
  rw [hnil] at hn
  obtain ⟨p, cap, b, o, rfl, hpn, hcap, hr⟩ := hs
  unfold Ev Ex.table
  simp only []
  have hc : k = 1 ∨ k = 2 ∨ k = 3 ∨ k = 4 ∨ k = 5 ∨ k = 6 ∨ k = 7 ∨ k = 8 ∨ k = 9 ∨ k = 10 ∨ k = 11 := by omega
  have a0 : (k = 1 ∨ k = 2) → kids = .nil := fun h => Fo.len0 (by rw [h3, Ex.kids0 (by omega)])
  have hone : ∀ (x : Tr), kids = x.on .nil → ∃ sx, p = some ⟨b, o, none⟩ ∧ Kid u b o x sx ∧ (x.on .nil).nodes ≤ n ∧ (x.on .nil).allPlain = true := fun x e => by
    subst e
    obtain ⟨sx, K, _⟩ := kid_of hr
    rw [Fo.nodes_on] at hn
    refine ⟨sx, ?_, K, by rw [Fo.nodes_on]; omega, hka⟩
    rcases hpn with ⟨e, _⟩ | e
    · cases e
    · exact e
  have htwo : ∀ (x y : Tr), kids = x.on (y.on .nil) → ∃ sx sy, p = some ⟨b, o, none⟩ ∧ (Kid u b o x sx ∧ (x.on .nil).nodes ≤ n ∧ (x.on .nil).allPlain = true) ∧ (Kid u b (o + 4) y sy ∧ (y.on .nil).nodes ≤ n ∧ (y.on .nil).allPlain = true) := fun x y e => by
    subst e
    obtain ⟨sx, K, hr2⟩ := kid_of hr
    obtain ⟨sy, K2, _⟩ := kid_of hr2
    rw [Fo.nodes_on, Fo.nodes_on] at hn
    rw [Fo.allPlain_on, Bool.and_eq_true] at hka
    refine ⟨sx, sy, ?_, ⟨K, by rw [Fo.nodes_on]; omega, by rw [Fo.allPlain_on, hka.1]; rfl⟩, ⟨K2, by rw [Fo.nodes_on]; omega, hka.2⟩⟩
    rcases hpn with ⟨e, _⟩ | e
    · cases e
    · exact e
  have hthree : ∀ (x y z : Tr), kids = x.on (y.on (z.on .nil)) → ∃ sx sy sz, p = some ⟨b, o, none⟩ ∧ (Kid u b o x sx ∧ (x.on .nil).nodes ≤ n ∧ (x.on .nil).allPlain = true) ∧ (Kid u b (o + 4) y sy ∧ (y.on .nil).nodes ≤ n ∧ (y.on .nil).allPlain = true) ∧ (Kid u b (o + 4 + 4) z sz ∧ (z.on .nil).nodes ≤ n ∧ (z.on .nil).allPlain = true) := fun x y z e => by
    subst e
    obtain ⟨sx, K, hr2⟩ := kid_of hr
    obtain ⟨sy, K2, hr3⟩ := kid_of hr2
    obtain ⟨sz, K3, _⟩ := kid_of hr3
    rw [Fo.nodes_on, Fo.nodes_on, Fo.nodes_on] at hn
    rw [Fo.allPlain_on, Bool.and_eq_true, Fo.allPlain_on y, Bool.and_eq_true (Ex.plain y && y.kids.allPlain)] at hka
    refine ⟨sx, sy, sz, ?_, ⟨K, by rw [Fo.nodes_on]; omega, by rw [Fo.allPlain_on, hka.1]; rfl⟩, ⟨K2, by rw [Fo.nodes_on]; omega, by rw [Fo.allPlain_on, hka.2.1]; rfl⟩, ⟨K3, by rw [Fo.nodes_on]; omega, hka.2.2⟩⟩
    rcases hpn with ⟨e, _⟩ | e
    · cases e
    · exact e
  have k1 : (k = 3 ∨ k = 10 ∨ k = 11) → kids.len = 1 := fun h => by rw [h3, Ex.kids1 h]
  have k2 : (4 ≤ k ∧ k ≤ 8) → kids.len = 2 := fun h => by rw [h3, Ex.kids2 h]
  have k3 : k = 9 → kids.len = 3 := fun h => by rw [h3, Ex.kids3 h]
  have hv8 : (k = 10 ∨ k = 11) → ∃ m : Nat, v = (m : Int) ∧ m < 8 := fun h => by
    have ht : Ex.top k = 7 := by unfold Ex.top; rw [if_pos (by omega)]
    rw [ht] at h5
    exact ⟨v.toNat, by omega, by omega⟩
  rcases hc with rfl | rfl | rfl | rfl | rfl | rfl | rfl | rfl | rfl | rfl | rfl
  · have e := a0 (.inl rfl); subst e
    exact table_1 n ih a v p cap u
  · have e := a0 (.inr rfl); subst e
    exact table_2 n ih a v p cap u
  · obtain ⟨x, e⟩ := Fo.len1 (k1 (by omega))
    obtain ⟨sx, rfl, K, hx, px⟩ := hone x e
    subst e
    exact table_3 n ih a v b o cap u x sx K hx px
  · obtain ⟨x, y, e⟩ := Fo.len2 (k2 (by omega))
    obtain ⟨sx, sy, rfl, ⟨K, hx, px⟩, K2, hy, py⟩ := htwo x y e
    subst e
    exact table_4 n ih a v b o cap u x sx K hx px y sy K2 hy py
  · obtain ⟨x, y, e⟩ := Fo.len2 (k2 (by omega))
    obtain ⟨sx, sy, rfl, ⟨K, hx, px⟩, K2, hy, py⟩ := htwo x y e
    subst e
    exact table_5 n ih a v b o cap u x sx K hx px y sy K2 hy py
  · obtain ⟨x, y, e⟩ := Fo.len2 (k2 (by omega))
    obtain ⟨sx, sy, rfl, ⟨K, hx, px⟩, K2, hy, py⟩ := htwo x y e
    subst e
    exact table_6 n ih a v b o cap u x sx K hx px y sy K2 hy py
  · obtain ⟨x, y, e⟩ := Fo.len2 (k2 (by omega))
    obtain ⟨sx, sy, rfl, ⟨K, hx, px⟩, K2, hy, py⟩ := htwo x y e
    subst e
    exact table_7 n ih a v b o cap u x sx K hx px y sy K2 hy py
  · obtain ⟨x, y, e⟩ := Fo.len2 (k2 (by omega))
    obtain ⟨sx, sy, rfl, ⟨K, hx, px⟩, K2, hy, py⟩ := htwo x y e
    subst e
    exact table_8 n ih a v b o cap u x sx K hx px y sy K2 hy py
  · obtain ⟨x, y, z, e⟩ := Fo.len3 (k3 rfl)
    obtain ⟨sx, sy, sz, rfl, ⟨K, hx, px⟩, ⟨K2, hy, py⟩, K3, hz, pz⟩ := hthree x y z e
    subst e
    exact table_9 n ih a v b o cap u x sx K hx px y sy K2 hy py z sz K3 hz pz
  · obtain ⟨x, e⟩ := Fo.len1 (k1 (by omega))
    obtain ⟨sx, rfl, K, hx, px⟩ := hone x e
    obtain ⟨m, rfl, hm⟩ := hv8 (.inl rfl)
    subst e
    exact table_10 n ih a m hm b o cap u x sx K hx px
  · obtain ⟨x, e⟩ := Fo.len1 (k1 (by omega))
    obtain ⟨sx, rfl, K, hx, px⟩ := hone x e
    obtain ⟨m, rfl, hm⟩ := hv8 (.inr rfl)
    subst e
    exact table_11 n ih a m hm b o cap u x sx K hx px
theorem Tz.all : ∀ n, Tz n
  | 0 => fun t sl B u h => by rw [Fo.nodes_on] at h; omega
  | n + 1 => Tz.succ n (Tz.all n)
theorem table_any (t : Tr) (sl : Value) (B : Nat → Prop) (u : World) (hp : (t.on .nil).allPlain = true) (hs : SlF u B sl t.kids) :
    Calls Try.prog 33 #[Ev t sl] u fun e w' => e = .returned (Tb.tv (Ex.table t)) ∧ Below u.heap.size u w' := Tz.all _ t sl B u (Nat.le_refl _) hp hs
/-- a formula's function; nought where it is none -/
def Ex.func (t : Tr) : Tb.T := if Ex.is t then Ex.table t else 0#256
set_option maxHeartbeats 4000000 in
theorem func_any (t : Tr) (sl : Value) (B : Nat → Prop) (w : World) (hs : SlF w B sl t.kids) :
    Calls Try.prog 14 #[Ev t sl] w fun e w' => e = .returned (Tb.tv (Ex.func t)) ∧ Below w.heap.size w w' := by
  obtain ⟨pp, cap, rfl⟩ := hs.is
  have hb1 := boxE w t.k t.a t.v (.slice pp t.kids.len cap)
  have hb2 := Blk.new (w.alloc (.cells #[.int .i64 t.k, .int .i64 t.a, .int .i64 t.v, .slice pp t.kids.len cap] 36)) 29 (Tb.tcells 0#256)
  have hs2 := (hs.alloc (.cells #[.int .i64 t.k, .int .i64 t.a, .int .i64 t.v, .slice pp t.kids.len cap] 36)).alloc (.cells (Tb.tcells 0#256) 29)
  have hbe := ((Below.refl w.heap.size w).alloc (Nat.le_refl _) (.cells #[.int .i64 t.k, .int .i64 t.a, .int .i64 t.v, .slice pp t.kids.len cap] 36)).alloc (by rw [alloc_size]; omega) (.cells (Tb.tcells 0#256) 29)
  have hb1' := hb1.alloc (.cells (Tb.tcells 0#256) 29)
  rw [alloc_size] at hb2
  have hI := Bx.mk (is_any t _ B _ hs2)
  have HB1 := Bx.mk hb1'
  have HB2 := Bx.mk hb2
  have HS := Bx.mk hs2
  have HBE := Bx.mk hbe
  clear hb1 hb1' hb2 hs2 hbe hs
  unfold Ev at hI ⊢
  go_enter Try.func14, Try.ntmps14
  go_wp2_with fail
  rw [zeros_tab]
  refine hI.out.mono ?_
  rintro e w1 ⟨rfl, hb⟩
  have h1 := HB1.out.below hb (by rw [alloc_size, alloc_size]; omega)
  have h2 := HB2.out.below hb (by rw [alloc_size, alloc_size]; omega)
  have h3 := HS.out.below hb
  have h4 := HBE.out.trans (hb.mono (by rw [alloc_size, alloc_size]; omega))
  obtain ⟨c0, c1, c2, c3, _, _, _, _⟩ := cells4 h1
  obtain ⟨⟨r0, r1, r2, r3⟩, g0, g1, g2, g3⟩ := tfacts h2
  have H2 := Bx.mk h2
  have H4 := Bx.mk h4
  have z0 := Tb.wd_zero 0
  have z1 := Tb.wd_zero 1
  have z2 := Tb.wd_zero 2
  have z3 := Tb.wd_zero 3
  cases hi : Ex.is t with
  | false =>
    have hF : Ex.func t = 0#256 := by unfold Ex.func; rw [hi]; rfl
    have HF := Bx.mk hF
    have HSf := Bx.mk (store4 (F := 0#256) h2)
    have HBf := Bx.mk (below4 (F := 0#256) (p := w.heap.size + 1) h4 (by omega))
    rw [z0, z1, z2, z3] at HSf HBf
    clear hF h1 h2 h3 h4 hb hi z0 z1 z2 z3
    go_wp2_with fail
    clear r0 r1 r2 r3 g0 g1 g2 g3
    obtain ⟨⟨r0, r1, r2, r3⟩, _, _, _, _⟩ := tfacts HSf.out
    refine bodyPost_ret (v := Tb.tv 0#256) (by simp [results, Try.results14, go_sem, r0, r1, r2, r3] <;> rfl) rfl ⟨by rw [HF.out], HBf.out⟩
  | true =>
    have hF : Ex.func t = Ex.table t := by unfold Ex.func; rw [hi]; rfl
    have HF := Bx.mk hF
    have hp : (t.on .nil).allPlain = true := by unfold Ex.is at hi; rw [Bool.and_eq_true] at hi; exact hi.2
    have HT := Bx.mk (table_any t _ B w1 hp h3)
    unfold Ev at HT
    clear hF h1 h2 h3 h4 hb hi hp z0 z1 z2 z3
    go_wp2_with fail
    refine HT.out.mono ?_
    rintro e w2 ⟨rfl, hb2⟩
    have h5 := H2.out.below hb2 H2.out.lt
    have h6 := H4.out.trans (hb2.mono H4.out.size)
    clear r0 r1 r2 r3 g0 g1 g2 g3
    obtain ⟨⟨r0, r1, r2, r3⟩, g0, g1, g2, g3⟩ := tfacts h5
    generalize Ex.table t = R at HF ⊢
    have HSf := Bx.mk (store4 (F := R) h5)
    have HBf := Bx.mk (below4 (F := R) (p := w.heap.size + 1) h6 (by omega))
    clear h5 h6 hb2
    unfold Tb.tv
    go_wp2_with fail
    clear r0 r1 r2 r3 g0 g1 g2 g3
    obtain ⟨⟨r0, r1, r2, r3⟩, _, _, _, _⟩ := tfacts HSf.out
    refine bodyPost_ret (v := Tb.tv R) (by simp [results, Try.results14, go_sem, r0, r1, r2, r3] <;> rfl) rfl ⟨by rw [HF.out], HBf.out⟩
end Go.Proofs.Ytfgokhafiffbaaa
