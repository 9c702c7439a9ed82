/-
  Formulas: chain.
-/
import Derived.Test.YtfgokhafiffbaaaEx8
import Derived.Test.YtfgokhafiffbaaaAny
namespace Go.Proofs.Ytfgokhafiffbaaa
set_option linter.unusedVariables false
open Go.RowKit

/-- how many signs are left in the parser at block N -/
noncomputable def tleft (N : Nat) (s : ByteArray) (w : World) : Nat := Classical.epsilon fun n => ∃ d st, PS w N d s st ∧ st.ts.length = n
theorem tleft_eq {w : World} {N d : Nat} {s : ByteArray} {st : St} (h : PS w N d s st) : tleft N s w = st.ts.length := by
  have hex : ∃ n, ∃ d st, PS w N d s st ∧ st.ts.length = n := ⟨_, d, st, h, rfl⟩
  obtain ⟨d', st', h', hn⟩ := Classical.epsilon_spec hex
  show Classical.epsilon _ = _
  rw [← hn]
  obtain ⟨c0, c1, c2, _⟩ := pb_cells h.blk
  obtain ⟨e0, e1, e2, _⟩ := pb_cells h'.blk
  rw [c1] at e1
  rw [c2] at e2
  have hnow : st.now = st'.now := Tok.txt_inj (by
    have := congrArg bl (Value.string.inj (Option.some.inj e1))
    rwa [Tok.bl_str, Tok.bl_str] at this)
  have hat : st.at_ = st'.at_ := by
    have := (Value.int.inj (Option.some.inj e2)).2
    omega
  obtain ⟨r, hr, hx⟩ := h.toks
  obtain ⟨r', hr', hx'⟩ := h'.toks
  rw [hr, hr', List.length_cons, List.length_cons]
  by_cases g1 : st.now = .eof
  · rw [(hx'.2 (.inl (hnow ▸ g1))), (hx.2 (.inl g1))]
  by_cases g2 : st.now = .bad
  · rw [(hx'.2 (.inr (hnow ▸ g2))), (hx.2 (.inr g2))]
  rw [hx'.1 (hnow ▸ g1) (hnow ▸ g2), hx.1 g1 g2, hnow, hat]
/-- a sign that stands is taken off -/
theorem St.goes_len {st : St} {t : Tok} (h : st.may t = true) (h1 : t ≠ .eof) : st.goes.ts.length + 1 = st.ts.length := by
  unfold St.may St.now at h
  unfold St.goes
  cases hts : st.ts with
  | nil => rw [hts] at h; simp at h; exact absurd h.2.symm h1
  | cons x r => simp
theorem Blk.alloc_at (w : World) (t : TypeId) (cs : Array Value) (o : Obj) : Blk ((w.alloc (.cells cs t)).alloc o) w.heap.size t cs := (Blk.new w t cs).alloc o

theorem exec_loadE {a : Act} {u : World} {o : Oper} {x : Operand} {p : Nat} {t : TypeId} {v0 v1 v2 v3 : Value} (hop : o.op = .load 36 x) (hx : a.eval x = .pointer (some ⟨p, 0, none⟩)) (hB : Blk u p t #[v0, v1, v2, v3]) :
    (execOp a.eval o).run Try.prog u = .ok (.value (.agg #[v0, v1, v2, v3])) u := by
  obtain ⟨a0, a1, a2, a3, b0, b1, b2, b3⟩ := cells4 hB
  unfold execOp
  simp only [hop, hx]
  go_simp
theorem Ex.chainF_no {n : Nat} {t : Tok} {k : Int} {p : St → Tr × St} {x : Tr} {st : St} (h : st.may t = false) : Ex.chainF n t k p x st = (x, st) := by
  cases n with
  | zero => rfl
  | succ n => rw [Ex.chainF, if_neg (by rw [h]; simp)]
theorem Ex.chainF_fuel {t : Tok} {k : Int} {p : St → Tr × St} (ht : t ≠ .eof) (hmono : ∀ st, (p st).2.ts.length ≤ st.ts.length) : ∀ (n m : Nat) (x : Tr) (st : St), st.ts.length ≤ n → st.ts.length ≤ m → Ex.chainF n t k p x st = Ex.chainF m t k p x st := by
  intro n
  induction n with
  | zero =>
    intro m x st h1 h2
    cases hm : st.may t with
    | false => rw [Ex.chainF_no hm, Ex.chainF_no hm]
    | true => have := St.goes_len hm ht; omega
  | succ n ih =>
    intro m x st h1 h2
    cases hm : st.may t with
    | false => rw [Ex.chainF_no hm, Ex.chainF_no hm]
    | true =>
      have hg := St.goes_len hm ht
      have hp := hmono st.goes
      cases m with
      | zero => omega
      | succ m =>
        rw [Ex.chainF, Ex.chainF, if_pos hm, if_pos hm]
        exact ih m _ _ (by omega) (by omega)
theorem Ex.chainF_yes {t : Tok} {k : Int} {p : St → Tr × St} (ht : t ≠ .eof) (hmono : ∀ st, (p st).2.ts.length ≤ st.ts.length) {x : Tr} {st : St} (h : st.may t = true) :
    Ex.chainF st.ts.length t k p x st = Ex.chainF (p st.goes).2.ts.length t k p (Ex.two k st.at_ x (p st.goes).1) (p st.goes).2 := by
  have hg := St.goes_len h ht
  have hp := hmono st.goes
  rw [← hg, Ex.chainF, if_pos h]
  exact Ex.chainF_fuel ht hmono _ _ _ _ (by omega) (Nat.le_refl _)
/-- two formulas in one new block -/
theorem SlF.pair {u : World} {B : Nat → Prop} {x y : Tr} {sx sy : Value} (t : TypeId) (hx : SlF u B sx x.kids) (hy : SlF u B sy y.kids) (hB : B u.heap.size) :
    SlF (u.alloc (.cells #[.int .i64 x.k, .int .i64 x.a, .int .i64 x.v, sx, .int .i64 y.k, .int .i64 y.a, .int .i64 y.v, sy] t)) B (.slice (some ⟨u.heap.size, 0, none⟩) 2 2) (x.on (y.on .nil)) := by
  have hb := Blk.new u t #[.int .i64 x.k, .int .i64 x.a, .int .i64 x.v, sx, .int .i64 y.k, .int .i64 y.a, .int .i64 y.v, sy]
  have := SlF.mk (w := u.alloc (.cells #[.int .i64 x.k, .int .i64 x.a, .int .i64 x.v, sx, .int .i64 y.k, .int .i64 y.a, .int .i64 y.v, sy] t)) (B := B) (b := u.heap.size) (o := 0) (cap := 2) (F := x.on (y.on .nil)) (Nat.le_refl _)
    (RdF.on hB (hb.cell 0) (hb.cell 1) (hb.cell 2) (hb.cell 3) (hx.alloc _) (RdF.on hB (hb.cell 4) (hb.cell 5) (hb.cell 6) (hb.cell 7) (hy.alloc _) True.intro))
  exact this
theorem SlF.single {u : World} {B : Nat → Prop} {x : Tr} {sx : Value} (t : TypeId) (hx : SlF u B sx x.kids) (hB : B u.heap.size) :
    SlF (u.alloc (.cells #[.int .i64 x.k, .int .i64 x.a, .int .i64 x.v, sx] t)) B (.slice (some ⟨u.heap.size, 0, none⟩) 1 1) (x.on .nil) := by
  have hb := Blk.new u t #[.int .i64 x.k, .int .i64 x.a, .int .i64 x.v, sx]
  have := SlF.mk (w := u.alloc (.cells #[.int .i64 x.k, .int .i64 x.a, .int .i64 x.v, sx] t)) (B := B) (b := u.heap.size) (o := 0) (cap := 1) (F := x.on .nil) (Nat.le_refl _)
    (RdF.on hB (hb.cell 0) (hb.cell 1) (hb.cell 2) (hb.cell 3) (hx.alloc _) True.intro)
  exact this

/-- where the chain's loop stands -/
structure CH (w wr : World) (N d : Nat) (s : ByteArray) (b9 : Nat) (t : Tok) (k : Int) (p : St → Tr × St) (R : Tr × St) (x : Tr) (st : St) (pp : Option Addr) (cap : Nat) : Prop where
  ps : PS wr N d s st
  gb : Gb N w wr
  res : Blk wr w.heap.size 36 #[.int .i64 0, .int .i64 0, .int .i64 0, .slice none 0 0]
  own : Blk wr b9 36 #[.int .i64 x.k, .int .i64 x.a, .int .i64 x.v, .slice pp x.kids.len cap]
  sl : SlF wr (fun g => w.heap.size < g ∧ g ≠ b9) (.slice pp x.kids.len cap) x.kids
  lt : w.heap.size < b9
  rest : Ex.chainF st.ts.length t k p x st = R

set_option maxHeartbeats 8000000 in
theorem chain_any (N d : Nat) (s : ByteArray) (st : St) (w : World) (f : FuncId) (t : Tok) (kk : Int) (txt : ByteArray) (p : St → Tr × St) (hcf : ∀ args w, (callFunc f args).run Try.prog w = .ok (.enter f args) w)
    (hp : Pz f d p) (hmono : ∀ st, (p st).2.ts.length ≤ st.ts.length) (htx : txt = t.str) (ht1 : t ≠ .eof) (ht2 : t ≠ .bad) (h : PS w N d s st) :
    Calls Try.prog 43 #[.pointer (some ⟨N, 0, none⟩), .string txt, .int .i64 kk, .func (.func f) #[] #[]] w (Gives N d s w (Ex.chain t kk p st)) := by
  have hlt := h.lt
  subst htx
  have HP0 := Bx.mk (h.alloc (Obj.cells #[.int .i64 0, .int .i64 0, .int .i64 0, .slice none 0 0] 36))
  clear h
  generalize hR : Ex.chain t kk p st = R
  have HR := Bx.mk hR
  clear hR
  go_enter Try.func43, Try.ntmps43
  go_wp2_with fail
  refine (hp N s st _ HP0.out).mono ?_
  rintro e w1 ⟨sl, rfl, hS1, hP1, hG1⟩
  obtain ⟨pp, cap, rfl⟩ := hS1.is
  have hr := hG1.blk (Blk.new w 36 #[.int .i64 0, .int .i64 0, .int .i64 0, .slice none 0 0]) (by omega)
  have hz := hG1.size
  rw [alloc_size] at hz
  rw [alloc_size] at hS1
  have HP1 := Bx.mk hP1
  have HG1 := Bx.mk (((Gb.refl N w).alloc _).trans hG1)
  have HR1 := Bx.mk hr
  have HS1 := Bx.mk hS1
  clear hP1 hG1 hr hS1
  unfold Ev
  go_wp2_with fail
  have hb9 : w.heap.size < w1.heap.size := by omega
  generalize hq9 : w1.heap.size = b9
  have HQ9 := Bx.mk hq9
  rw [hq9] at hb9
  clear hq9
  go_loopw [10] (fun _ wr => ∃ x st pp cap, CH w wr N d s b9 t kk p R x st pp cap) (fun _ wr => tleft N s wr)
  case atStart =>
    refine ⟨(p st).1, (p st).2, pp, cap, ⟨HP1.out.alloc _, HG1.out.alloc _, HR1.out.alloc _, ?_, ?_, hb9, HR.out⟩⟩
    · have := HQ9.out
      subst this
      exact Blk.new _ _ _
    · exact (HS1.out.mono' fun g hg h1 => by
        unfold Ge at h1
        have := HQ9.out
        exact ⟨by omega, by omega⟩).alloc _
  case round =>
    obtain ⟨x, sx, px, cx, HC⟩ := hrel
    have HC := Bx.mk HC
    have hlt9 := HC.out.ps.lt
    obtain ⟨c0, c1, c2, c3, c4, c5, f1, f2, f3, f4, f5⟩ := pb_cells HC.out.ps.blk
    have hM := may_st N d t t.str s sx wr HC.out.ps rfl ht1 ht2
    clear c0 c1 c3 c4 c5 f1 f2 f3 f4 f5
    have HMo := Bx.mk hmono
    clear hmono
    cases hmay : sx.may t with
    | false =>
      rw [hmay, if_neg (by simp)] at hM
      have HM := Bx.mk hM
      clear hM
      go_wp2_with fail
      refine HM.out.mono ?_
      rintro e w2 ⟨rfl, hP2, hG2⟩
      have hr := hG2.blk HC.out.res (by omega)
      have ho := hG2.blk HC.out.own (by omega)
      obtain ⟨r0, r1, r2, r3, g0, g1, g2, g3⟩ := cells4 hr
      obtain ⟨o0, o1, o2, o3, _, _, _, _⟩ := cells4 ho
      have HP2 := Bx.mk hP2
      have HG2 := Bx.mk hG2
      have HR2 := Bx.mk hr
      clear hP2 hG2 hr ho
      go_wp2_with fail
      have hE := Blk.own4 (HR2.out) (.int .i64 x.k) (.int .i64 x.a) (.int .i64 x.v) (.slice px x.kids.len cx)
      obtain ⟨r0, r1, r2, r3, _, _, _, _⟩ := cells4 hE
      have hRx : (x, sx) = R := by rw [← HC.out.rest, Ex.chainF_no hmay]
      refine bodyPost_ret (v := Ev x (.slice px x.kids.len cx)) (by simp [results, Try.results43, go_sem, r0, r1, r2, r3]; rfl) rfl ?_
      rw [← hRx]
      exact ⟨.slice px x.kids.len cx, rfl, ((HC.out.sl.gbs (fun h => by omega) HG2.out).st4 (R := w.heap.size) (fun h => by omega) _ _ _ _).mono (fun g hg => by unfold Ge; omega), HP2.out.st4 (by omega) _ _ _ _, (HC.out.gb.trans HG2.out).st4 (Nat.le_refl _) _ _ _ _⟩
    | true =>
      rw [hmay, if_pos rfl] at hM
      have HM := Bx.mk hM
      have HY := Bx.mk hmay
      clear hM hmay
      go_wp2_with fail
      refine HM.out.mono ?_
      rintro e w2 ⟨rfl, hP2, hG2⟩
      have ho := hG2.blk HC.out.own (by omega)
      obtain ⟨o0, o1, o2, o3, _, _, _, _⟩ := cells4 ho
      have HP2 := Bx.mk hP2
      have HG2 := Bx.mk hG2
      clear hP2 hG2
      go_wp2_with fail
      refine region_any 8 (fun u => Blk u b9 36 #[.int .i64 x.k, .int .i64 x.a, .int .i64 x.v, .slice px x.kids.len cx]) (by kernel_rfl) ?_
      have hS0 := ho.drew
      have hP3 := HP2.out.drew
      have hG3 := HG2.out.drew
      generalize w2.drew = u0 at hS0 hP3 hG3 ⊢
      clear o0 o1 o2 o3 ho
      refine any_take (i := 0) (.int .i64 kk) rfl rfl (by kernel_rfl) (by kernel_rfl) (by kernel_rfl) (by kernel_rfl) (fun _ _ d _ _ h => by cases d <;> exact h) (fun u hS => rfl) hS0 ?_
      (try simp only [Act.put]); (try simp only [List.getElem_toArray]); (try simp only [List.getElem_cons_succ]); (try simp only [List.getElem_cons_zero]); (try simp only [List.setIfInBounds_toArray]); (try simp only [List.set_cons_succ]); (try simp only [List.set_cons_zero])
      refine any_take (i := 1) (.int .i64 (sx.at_ : Int)) rfl rfl (by kernel_rfl) (by kernel_rfl) (by kernel_rfl) (by kernel_rfl) (fun _ _ d _ _ h => by cases d <;> exact h) (fun u hS => rfl) hS0 ?_
      (try simp only [Act.put]); (try simp only [List.getElem_toArray]); (try simp only [List.getElem_cons_succ]); (try simp only [List.getElem_cons_zero]); (try simp only [List.setIfInBounds_toArray]); (try simp only [List.set_cons_succ]); (try simp only [List.set_cons_zero])
      refine any_take (i := 2) (.agg #[.int .i64 x.k, .int .i64 x.a, .int .i64 x.v, .slice px x.kids.len cx]) rfl rfl (by kernel_rfl) (by kernel_rfl) (by kernel_rfl) (by kernel_rfl) (fun _ _ d _ _ h => by cases d <;> exact h) (fun u hS => exec_loadE rfl rfl hS) hS0 ?_
      (try simp only [Act.put]); (try simp only [List.getElem_toArray]); (try simp only [List.getElem_cons_succ]); (try simp only [List.getElem_cons_zero]); (try simp only [List.setIfInBounds_toArray]); (try simp only [List.set_cons_succ]); (try simp only [List.set_cons_zero])
      refine any_take (i := 3) (.func (.func f) #[] #[]) rfl rfl (by kernel_rfl) (by kernel_rfl) (by kernel_rfl) (by kernel_rfl) (fun _ _ d _ _ h => by cases d <;> exact h) (fun u hS => rfl) hS0 ?_
      (try simp only [Act.put]); (try simp only [List.getElem_toArray]); (try simp only [List.getElem_cons_succ]); (try simp only [List.getElem_cons_zero]); (try simp only [List.setIfInBounds_toArray]); (try simp only [List.set_cons_succ]); (try simp only [List.set_cons_zero])
      refine any_take (i := 4) (.pointer (some ⟨N, 0, none⟩)) rfl rfl (by kernel_rfl) (by kernel_rfl) (by kernel_rfl) (by kernel_rfl) (fun _ _ d _ _ h => by cases d <;> exact h) (fun u hS => rfl) hS0 ?_
      (try simp only [Act.put]); (try simp only [List.getElem_toArray]); (try simp only [List.getElem_cons_succ]); (try simp only [List.getElem_cons_zero]); (try simp only [List.setIfInBounds_toArray]); (try simp only [List.set_cons_succ]); (try simp only [List.set_cons_zero])
      refine any_branch [5] (by kernel_rfl) rfl fun ix hix => ?_
      simp only [List.mem_cons, List.not_mem_nil, or_false] at hix
      subst hix
      refine any_op rfl rfl fun K hK => ?_
      go_simp
      refine (hp N s sx.goes _ hP3).mono ?_
      rintro e u1 ⟨sy, rfl, hSy, hPy, hGy⟩
      obtain ⟨py, cy, rfl⟩ := hSy.is
      have hS1 := hGy.blk hS0 (by omega)
      refine hK _ _ (fun _ => hS1) ?_
      (try simp only [Act.put]); (try simp only [List.getElem_toArray]); (try simp only [List.getElem_cons_succ]); (try simp only [List.getElem_cons_zero]); (try simp only [List.setIfInBounds_toArray]); (try simp only [List.set_cons_succ]); (try simp only [List.set_cons_zero])
      clear hK
      refine any_branch [6] (by kernel_rfl) rfl fun ix hix => ?_
      simp only [List.mem_cons, List.not_mem_nil, or_false] at hix
      subst hix
      refine any_op rfl rfl fun K hK => ?_
      unfold Ev
      go_simp
      have hTx : SlF u1 (fun g => w.heap.size < g ∧ g ≠ b9) (.slice px x.kids.len cx) x.kids := (HC.out.sl.gbs (fun h => by omega) (hG3.trans hGy))
      have hTy : SlF u1 (fun g => w.heap.size < g ∧ g ≠ b9) (.slice py (p sx.goes).1.kids.len cy) (p sx.goes).1.kids := hSy.mono (fun g hg => by unfold Ge at hg; have := hS0.lt; have := HC.out.lt; omega)
      have hz1 : b9 < u1.heap.size := hS1.lt
      have hTn := SlF.pair 36 hTx hTy (by omega)
      have hPn := hPy.alloc (Obj.cells #[.int .i64 x.k, .int .i64 x.a, .int .i64 x.v, .slice px x.kids.len cx, .int .i64 (p sx.goes).1.k, .int .i64 (p sx.goes).1.a, .int .i64 (p sx.goes).1.v, .slice py (p sx.goes).1.kids.len cy] 36)
      have hGn := (HC.out.gb.trans (hG3.trans hGy)).alloc (Obj.cells #[.int .i64 x.k, .int .i64 x.a, .int .i64 x.v, .slice px x.kids.len cx, .int .i64 (p sx.goes).1.k, .int .i64 (p sx.goes).1.a, .int .i64 (p sx.goes).1.v, .slice py (p sx.goes).1.kids.len cy] 36)
      have hSn := hS1.alloc (Obj.cells #[.int .i64 x.k, .int .i64 x.a, .int .i64 x.v, .slice px x.kids.len cx, .int .i64 (p sx.goes).1.k, .int .i64 (p sx.goes).1.a, .int .i64 (p sx.goes).1.v, .slice py (p sx.goes).1.kids.len cy] 36)
      have hRn := ((hG3.trans hGy).blk HC.out.res (by omega)).alloc (Obj.cells #[.int .i64 x.k, .int .i64 x.a, .int .i64 x.v, .slice px x.kids.len cx, .int .i64 (p sx.goes).1.k, .int .i64 (p sx.goes).1.a, .int .i64 (p sx.goes).1.v, .slice py (p sx.goes).1.kids.len cy] 36)
      generalize hpn : u1.heap.size = bn at hTn hz1 ⊢
      generalize u1.alloc (Obj.cells #[.int .i64 x.k, .int .i64 x.a, .int .i64 x.v, .slice px x.kids.len cx, .int .i64 (p sx.goes).1.k, .int .i64 (p sx.goes).1.a, .int .i64 (p sx.goes).1.v, .slice py (p sx.goes).1.kids.len cy] 36) = u2 at hTn hPn hGn hSn hRn ⊢
      refine hK _ _ (fun _ => hSn) ?_
      (try simp only [Act.put]); (try simp only [List.getElem_toArray]); (try simp only [List.getElem_cons_succ]); (try simp only [List.getElem_cons_zero]); (try simp only [List.setIfInBounds_toArray]); (try simp only [List.set_cons_succ]); (try simp only [List.set_cons_zero])
      clear hK hTx hTy hS0 hS1 hP3 hG3 hSy hPy hGy
      refine any_branch [7] (by kernel_rfl) rfl fun ix hix => ?_
      simp only [List.mem_cons, List.not_mem_nil, or_false] at hix
      subst hix
      refine any_op rfl rfl fun K hK => ?_
      go_simp
      refine hK _ _ (fun _ => hSn) ?_
      (try simp only [Act.put]); (try simp only [List.getElem_toArray]); (try simp only [List.getElem_cons_succ]); (try simp only [List.getElem_cons_zero]); (try simp only [List.setIfInBounds_toArray]); (try simp only [List.set_cons_succ]); (try simp only [List.set_cons_zero])
      clear hK
      obtain ⟨o0, o1, o2, o3, g0, g1, g2, g3⟩ := cells4 hSn
      refine any_branch [8] (by kernel_rfl) rfl fun ix hix => ?_
      simp only [List.mem_cons, List.not_mem_nil, or_false] at hix
      subst hix
      refine any_op rfl rfl fun K hK => ?_
      go_simp
      refine hK _ _ (fun h => absurd rfl h) ?_
      (try simp only [Act.put]); (try simp only [List.getElem_toArray]); (try simp only [List.getElem_cons_succ]); (try simp only [List.getElem_cons_zero]); (try simp only [List.setIfInBounds_toArray]); (try simp only [List.set_cons_succ]); (try simp only [List.set_cons_zero])
      clear hK
      refine any_end (by kernel_rfl) ?_
      clear o0 o1 o2 o3 g0 g1 g2 g3
      have HPn := Bx.mk hPn
      have HGn := Bx.mk hGn
      have HSn := Bx.mk hSn
      have HRn := Bx.mk hRn
      have HTn := Bx.mk hTn
      clear hPn hGn hSn hRn hTn
      go_wp2_with fail
      have hPf := HPn.out.st4 (R := b9) (by have := HC.out.lt; omega) (.int .i64 kk) (.int .i64 (sx.at_ : Int)) (.int .i64 0) (.slice (some ⟨bn, 0, none⟩) 2 2)
      refine ⟨⟨Ex.two kk sx.at_ x (p sx.goes).1, (p sx.goes).2, some ⟨bn, 0, none⟩, 2, hPf, HGn.out.st4 (by have := HC.out.lt; omega) _ _ _ _, HRn.out.st4 (by have := HC.out.lt; omega) _ _ _ _, HSn.out.own4 _ _ _ _, HTn.out.st4 (fun h => h.2 rfl) _ _ _ _, HC.out.lt, ?_⟩, ?_⟩
      · rw [← HC.out.rest, Ex.chainF_yes ht1 HMo.out HY.out]
      · rw [tleft_eq hPf, tleft_eq HC.out.ps]
        have e1 := St.goes_len HY.out ht1
        have e2 := HMo.out sx.goes
        omega
end Go.Proofs.Ytfgokhafiffbaaa
