/-
  Texts on which the law ExprBinds rests, part 20 of 22.
-/
import Derived.Test.YtfgokhafiffbaaaExprBindsM19
import Derived.Maps.AppendAt
/-
  ExprBinds, plain: what is read is what is joined sign by sign.
-/
namespace Go.Proofs.Ytfgokhafiffbaaa
set_option linter.unusedVariables false
open Go.RowKit

theorem Bi.mem_lists : ∀ (n : Nat) (l : List Nat), l.length = n → (∀ x ∈ l, x < 5) → l ∈ Bi.lists n
  | 0, [], _, _ => by simp [Bi.lists]
  | n + 1, x :: l, h, h5 => by
    have ih := Bi.mem_lists n l (by simpa using h) (fun y hy => h5 y (List.mem_cons_of_mem _ hy))
    have hx := h5 x List.mem_cons_self
    rw [Bi.lists, List.mem_flatMap]
    refine ⟨l, ih, ?_⟩
    have hc : x = 0 ∨ x = 1 ∨ x = 2 ∨ x = 3 ∨ x = 4 := by omega
    rcases hc with rfl | rfl | rfl | rfl | rfl <;> simp
theorem Bi.good_all (o : List Nat) (hn : o.length ≤ 6) (h5 : ∀ x ∈ o, x < 5) : Bi.good o = true := by
  have small : ∀ n, n ≤ 4 → o.length = n → (Bi.lists n).all Bi.good = true → Bi.good o = true := fun n _ hl h => List.all_eq_true.1 h o (Bi.mem_lists n o hl h5)
  by_cases h0 : o.length = 0
  · exact small 0 (by omega) h0 Bi.l0
  by_cases h1 : o.length = 1
  · exact small 1 (by omega) h1 Bi.l1
  by_cases h2 : o.length = 2
  · exact small 2 (by omega) h2 Bi.l2
  by_cases h3 : o.length = 3
  · exact small 3 (by omega) h3 Bi.l3
  by_cases h4 : o.length = 4
  · exact small 4 (by omega) h4 Bi.l4
  by_cases hl5 : o.length = 5
  · match o, hl5, h5 with
    | a :: l, hl, h5 =>
      have hm := Bi.mem_lists 4 l (by simpa using hl) (fun y hy => h5 y (List.mem_cons_of_mem _ hy))
      have ha := h5 a List.mem_cons_self
      have hc : a = 0 ∨ a = 1 ∨ a = 2 ∨ a = 3 ∨ a = 4 := by omega
      rcases hc with rfl | rfl | rfl | rfl | rfl
      · exact List.all_eq_true.1 Bi.l5_0 l hm
      · exact List.all_eq_true.1 Bi.l5_1 l hm
      · exact List.all_eq_true.1 Bi.l5_2 l hm
      · exact List.all_eq_true.1 Bi.l5_3 l hm
      · exact List.all_eq_true.1 Bi.l5_4 l hm
  · have hl6 : o.length = 6 := by omega
    match o, hl6, h5 with
    | a :: b :: l, hl, h5 =>
      have hm := Bi.mem_lists 4 l (by simpa using hl) (fun y hy => h5 y (List.mem_cons_of_mem _ (List.mem_cons_of_mem _ hy)))
      have ha := h5 a List.mem_cons_self
      have hb := h5 b (List.mem_cons_of_mem _ List.mem_cons_self)
      have hc : a = 0 ∨ a = 1 ∨ a = 2 ∨ a = 3 ∨ a = 4 := by omega
      have hd : b = 0 ∨ b = 1 ∨ b = 2 ∨ b = 3 ∨ b = 4 := by omega
      rcases hc with rfl | rfl | rfl | rfl | rfl <;> rcases hd with rfl | rfl | rfl | rfl | rfl
      · exact List.all_eq_true.1 Bi.l6_00 l hm
      · exact List.all_eq_true.1 Bi.l6_01 l hm
      · exact List.all_eq_true.1 Bi.l6_02 l hm
      · exact List.all_eq_true.1 Bi.l6_03 l hm
      · exact List.all_eq_true.1 Bi.l6_04 l hm
      · exact List.all_eq_true.1 Bi.l6_10 l hm
      · exact List.all_eq_true.1 Bi.l6_11 l hm
      · exact List.all_eq_true.1 Bi.l6_12 l hm
      · exact List.all_eq_true.1 Bi.l6_13 l hm
      · exact List.all_eq_true.1 Bi.l6_14 l hm
      · exact List.all_eq_true.1 Bi.l6_20 l hm
      · exact List.all_eq_true.1 Bi.l6_21 l hm
      · exact List.all_eq_true.1 Bi.l6_22 l hm
      · exact List.all_eq_true.1 Bi.l6_23 l hm
      · exact List.all_eq_true.1 Bi.l6_24 l hm
      · exact List.all_eq_true.1 Bi.l6_30 l hm
      · exact List.all_eq_true.1 Bi.l6_31 l hm
      · exact List.all_eq_true.1 Bi.l6_32 l hm
      · exact List.all_eq_true.1 Bi.l6_33 l hm
      · exact List.all_eq_true.1 Bi.l6_34 l hm
      · exact List.all_eq_true.1 Bi.l6_40 l hm
      · exact List.all_eq_true.1 Bi.l6_41 l hm
      · exact List.all_eq_true.1 Bi.l6_42 l hm
      · exact List.all_eq_true.1 Bi.l6_43 l hm
      · exact List.all_eq_true.1 Bi.l6_44 l hm
/-- the signs' letters -/
def Bi.sgn (k : Nat) : List Nat := match k with | 0 => [38] | 1 => [94] | 2 => [124] | 3 => [45, 62] | _ => [60, 45, 62]
/-- a text of variables with signs between -/
def Bi.txt (v : Nat → Fin 8) : Nat → List Nat → List Nat
  | i, [] => [118, 48 + (v i).val]
  | i, k :: r => [118, 48 + (v i).val] ++ [32] ++ Bi.sgn k ++ [32] ++ Bi.txt v (i + 1) r
def Bi.toks (v : Nat → Fin 8) : Nat → List Nat → List Tok
  | i, [] => [.var (v i)]
  | i, k :: r => .var (v i) :: Bi.op k :: Bi.toks v (i + 1) r
theorem Bi.txt_snoc (v : Nat → Fin 8) (k : Nat) : ∀ (o : List Nat) (i : Nat), Bi.txt v i (o ++ [k]) = Bi.txt v i o ++ [32] ++ Bi.sgn k ++ [32] ++ [118, 48 + (v (i + o.length + 1)).val]
  | [], i => by simp [Bi.txt]
  | x :: o, i => by
    rw [List.cons_append, Bi.txt, Bi.txt_snoc v k o (i + 1), Bi.txt, List.length_cons]
    rw [show i + 1 + o.length + 1 = i + (o.length + 1) + 1 from by omega]
    simp only [List.append_assoc]
theorem Bi.lex_sgn {k : Nat} (hk : k < 5) (r : List Nat) : LexTo (Bi.sgn k ++ r) [Bi.op k] r := by
  have hc : k = 0 ∨ k = 1 ∨ k = 2 ∨ k = 3 ∨ k = 4 := by omega
  rcases hc with rfl | rfl | rfl | rfl | rfl
  · exact LexTo.and r
  · exact LexTo.xor r
  · exact LexTo.or r
  · exact LexTo.imp r
  · exact LexTo.iff r
theorem Bi.lex (v : Nat → Fin 8) : ∀ (o : List Nat) (i : Nat), (∀ x ∈ o, x < 5) → LexTo (Bi.txt v i o) (Bi.toks v i o) []
  | [], i, _ => LexTo.var (v i) Brk.nil
  | k :: r, i, h => by
    rw [Bi.txt, Bi.toks]
    have h1 : LexTo (118 :: (48 + (v i).val) :: (32 :: (Bi.sgn k ++ (32 :: Bi.txt v (i + 1) r)))) [.var (v i)] (32 :: (Bi.sgn k ++ (32 :: Bi.txt v (i + 1) r))) := LexTo.var (v i) (Brk.cons _ (by decide))
    have h2 := h1.trans ((LexTo.blank _).trans ((Bi.lex_sgn (h k List.mem_cons_self) _).trans ((LexTo.blank _).trans (Bi.lex v r (i + 1) fun x hx => h x (List.mem_cons_of_mem _ hx)))))
    simpa using h2
theorem Bi.tks_fst : ∀ (o : List Nat) (i : Nat), (Bi.tks i o).map Prod.fst = Bi.toks (fun j => Fin.ofNat 8 j) i o ++ [.eof]
  | [], i => rfl
  | k :: r, i => by rw [Bi.tks, List.map_cons, List.map_cons, Bi.tks_fst r (i + 1)]; rfl
theorem Bi.op_ren (σ : Fin 8 → Fin 8) (k : Nat) : (Bi.op k).ren σ = Bi.op k := by unfold Bi.op; split <;> rfl
theorem Bi.toks_ren (v : Nat → Fin 8) : ∀ (o : List Nat) (i : Nat), i + o.length < 8 → (Bi.toks (fun j => Fin.ofNat 8 j) i o).map (Tok.ren fun j => v j.val) = Bi.toks v i o
  | [], i, h => by
    have e : (Fin.ofNat 8 i).val = i := Nat.mod_eq_of_lt (by simpa using h)
    simp only [Bi.toks, List.map_cons, List.map_nil, Tok.ren, e]
  | k :: r, i, h => by
    have e : (Fin.ofNat 8 i).val = i := Nat.mod_eq_of_lt (by omega)
    simp only [Bi.toks, List.map_cons, Bi.toks_ren v r (i + 1) (by rw [List.length_cons] at h; omega), Bi.op_ren]
    simp only [Tok.ren, e]
section
variable {α β : Type} {J : Nat → α → α → α} {K : Nat → β → β → β} {F : α → β}
theorem Bi.at_map {k : Nat} (h : ∀ x y, F (J k x y) = K k (F x) (F y)) (i : Nat) (o : List Nat) (f : List α) : Bi.at_ K k i o (f.map F) = ((Bi.at_ J k i o f).1, (Bi.at_ J k i o f).2.map F) := by
  unfold Bi.at_
  simp only [List.getElem?_map]
  cases f[i]? with
  | none => simp
  | some x =>
    cases f[i + 1]? with
    | none => simp
    | some y => simp [h, List.map_take, List.map_drop]
theorem Bi.all_map {k : Nat} (h : ∀ x y, F (J k x y) = K k (F x) (F y)) : ∀ (n : Nat) (o : List Nat) (f : List α), Bi.all K n k o (f.map F) = ((Bi.all J n k o f).1, (Bi.all J n k o f).2.map F)
  | 0, o, f => rfl
  | n + 1, o, f => by
    unfold Bi.all
    cases Bi.first k o with
    | none => rfl
    | some i =>
      simp only []
      rw [Bi.at_map h]
      exact Bi.all_map h n _ _
theorem Bi.red_map (h : ∀ k, k < 5 → ∀ x y, F (J k x y) = K k (F x) (F y)) (o : List Nat) (f : List α) : Bi.red K o (f.map F) = ((Bi.red J o f).1, (Bi.red J o f).2.map F) := by
  unfold Bi.red
  simp only []
  rw [Bi.all_map (h 0 (by omega))]
  simp only []
  rw [Bi.all_map (h 1 (by omega))]
  simp only []
  rw [Bi.all_map (h 2 (by omega))]
  simp only []
  rw [Bi.all_map (h 3 (by omega))]
  simp only []
  rw [Bi.all_map (h 4 (by omega))]
end
theorem Bi.table_join (σ : Fin 8 → Fin 8) (k : Nat) (hk : k < 5) (x y : Tr) : Ex.table ((Bi.join k x y).ren σ) = Bi.joinT k (Ex.table (x.ren σ)) (Ex.table (y.ren σ)) := by
  have hc : k = 0 ∨ k = 1 ∨ k = 2 ∨ k = 3 ∨ k = 4 := by omega
  rcases hc with rfl | rfl | rfl | rfl | rfl <;> rfl
theorem Bi.table_leaf (v : Nat → Fin 8) (i : Nat) (hi : i < 8) : Ex.table ((Bi.leaf i).ren fun j => v j.val) = Tb.var ((v i).val : Int) := by
  have e : (Fin.ofNat 8 i).val = i := Nat.mod_eq_of_lt hi
  unfold Bi.leaf Tr.ren Ex.rv
  simp only [true_or, if_true, Int.toNat_natCast, e]
  rfl
theorem Bi.txt_lt (v : Nat → Fin 8) : ∀ (o : List Nat) (i : Nat), ∀ x ∈ Bi.txt v i o, x < 256
  | [], i, x, hx => by
    have := (v i).isLt
    simp [Bi.txt] at hx
    omega
  | k :: r, i, x, hx => by
    have := (v i).isLt
    rw [Bi.txt, List.mem_append, List.mem_append, List.mem_append, List.mem_append] at hx
    rcases hx with (((hx | hx) | hx) | hx) | hx
    · simp at hx; omega
    · simp at hx; omega
    · unfold Bi.sgn at hx; split at hx <;> simp at hx <;> omega
    · simp at hx; omega
    · exact Bi.txt_lt v r (i + 1) x hx
theorem Bi.txt_len (v : Nat → Fin 8) : ∀ (o : List Nat) (i : Nat), (Bi.txt v i o).length ≤ 2 + 7 * o.length
  | [], i => by simp [Bi.txt]
  | k :: r, i => by
    have := Bi.txt_len v r (i + 1)
    have hs : (Bi.sgn k).length ≤ 3 := by unfold Bi.sgn; split <;> simp
    rw [Bi.txt]
    simp only [List.length_append, List.length_cons, List.length_nil]
    omega
/-- what is read is what is joined sign by sign -/
theorem Bi.law (v : Nat → Fin 8) (o : List Nat) (hn : o.length ≤ 6) (h5 : ∀ x ∈ o, x < 5) :
    (Ex.parse (Bi.txt v 0 o)).2.2 = 0 ∧ (Bi.red Bi.joinT o ((List.range (o.length + 1)).map fun i => Tb.var ((v i).val : Int))).2 = [Ex.func (Ex.parse (Bi.txt v 0 o)).1] := by
  have hg := Bi.good_all o hn h5
  unfold Bi.good at hg
  simp only [Bool.and_eq_true, decide_eq_true_eq] at hg
  obtain ⟨⟨g1, g2⟩, g3⟩ := hg
  have hlen := Bi.txt_len v o 0
  obtain ⟨A, a', hA, hm⟩ := Bi.lex v o 0 h5 0
  have hnil : Lx.lex [] a' = [(.eof, a')] := by
    have hs : Lx.skip [] = 0 := Lx.skip_nil
    rw [Lx.lex_eq, hs, List.drop_zero, Lx.scan_nil, if_pos (.inl rfl)]
    rfl
  have hNS : NS (fun j => v j.val) ⟨Bi.tks 0 o, 0, 0⟩ ⟨Lx.lex (Bi.txt v 0 o) 0, 0, 0⟩ := by
    refine ⟨?_, rfl⟩
    show (Lx.lex (Bi.txt v 0 o) 0).map Prod.fst = ((Bi.tks 0 o).map Prod.fst).map (Tok.ren fun j => v j.val)
    rw [hA, hnil, Bi.tks_fst, List.map_append, List.map_append, hm, Bi.toks_ren v o 0 (by omega)]
    rfl
  have hR := (EnR.all (σ := fun j => v j.val) 30).iff _ _ hNS
  obtain ⟨E1, E2, E3⟩ := Ex.parse_eq (Bi.txt v 0 o) (by omega)
  have hpg := Ex.parse_good (Bi.txt v 0 o) (Bi.txt_lt v o 0) (by omega)
  generalize (Ex.lev 30).iff ⟨Lx.lex (Bi.txt v 0 o) 0, 0, 0⟩ = Q at *
  generalize (Ex.lev 30).iff ⟨Bi.tks 0 o, 0, 0⟩ = R at *
  have q0 : Q.2.e = 0 := by rw [← hR.s.e]; exact g1
  have q1 : Q.2.now = .eof := by rw [hR.s.now, g2]; rfl
  have hp := E1 q0 q1
  rw [hp] at hpg ⊢
  refine ⟨rfl, ?_⟩
  have his := (hpg.1 rfl).2
  have hf : Ex.func Q.1 = Ex.table Q.1 := by unfold Ex.func; rw [if_pos his]
  show _ = [Ex.func Q.1]
  rw [hf, ← (Ex.same_all hR.t).2.1]
  have hmap := Bi.red_map (J := Bi.join) (K := Bi.joinT) (F := fun t => Ex.table (t.ren fun j => v j.val)) (fun k hk x y => Bi.table_join _ k hk x y) o ((List.range (o.length + 1)).map Bi.leaf)
  have hl : ((List.range (o.length + 1)).map Bi.leaf).map (fun t => Ex.table (t.ren fun j => v j.val)) = (List.range (o.length + 1)).map fun i => Tb.var ((v i).val : Int) := by
    rw [List.map_map]
    apply List.map_congr_left
    intro i hi
    have := List.mem_range.1 hi
    exact Bi.table_leaf v i (by omega)
  rw [hl] at hmap
  rw [hmap, g3]
  rfl
end Go.Proofs.Ytfgokhafiffbaaa

/-
  Formulas: Vars.
-/
namespace Go.Proofs.Ytfgokhafiffbaaa
set_option linter.unusedVariables false
open Go.RowKit
theorem Fo.vm_app : ∀ (F G : Fo), (F.app G).vm = F.vm ||| G.vm
  | .nil, G => by simp [Fo.app, Fo.vm]
  | .cons k a v kids rest, G => by simp only [Fo.app, Fo.vm, Fo.vm_app rest G, Nat.or_assoc]
/-- what is pushed, and all else that stays -/
theorem IsL.push2 {w u : World} {G : Fo} {x : Tr} {sx : Value} {g m cap : Nat} (hbe : Below w.heap.size w u) (hown : ∃ L, u.ownsRow w.heap.size 36 4 (.slice (some ⟨g, 0, none⟩) m cap) G.len L ∧ RowF u (fun g => g < w.heap.size) G L)
    (hs : SlF u (fun g => g < w.heap.size) sx x.kids) (hlen : G.len + x.kids.len < 100000) (ty : TypeId) :
    ∃ v' w', (Builtin.append_ #[34, 34] ty #[.slice (some ⟨g, 0, none⟩) m cap, sx]).run Try.prog u = .ok v' w' ∧ Below w.heap.size w w' ∧ u.grownBy w' (some g) ∧
      ∃ L, w'.ownsRow w.heap.size 36 4 v' (G.app x.kids).len L ∧ RowF w' (fun g => g < w.heap.size) (G.app x.kids) L := by
  obtain ⟨L, h1, h2⟩ := hown
  have hg := h1.lt g rfl
  have hsz := hbe.size
  obtain ⟨i0, hi⟩ : ∃ i, Try.prog.info? 36 = some i := ⟨_, rfl⟩
  obtain ⟨p, cx, b, o, rfl, hp, hc, hr⟩ := hs
  rw [Fo.len_app]
  rcases hp with ⟨hk, rfl⟩ | rfl
  · rw [hk]
    have h2' : RowF u (fun g => g < w.heap.size) (G.app .nil) L := by
      have := RowF.app (G := .nil) (M := []) (w := u) (B := fun g => g < w.heap.size) rfl h2
      rwa [List.append_nil] at this
    cases p with
    | none => exact ⟨_, u, run_append_owned_none (P := Try.prog) u w.heap.size 34 ty 36 i0 4 Try.underlying34 hi _ _ _ h1, hbe, World.grownBy.refl u _, L, h1, h2'⟩
    | some a =>
      obtain ⟨v', w', hrun, ho, hgr⟩ := own_app0 h1 a (by omega) hsz ty
      refine ⟨v', w', hrun, hbe.grown hgr hsz (fun k hk => by simp [Value.ownBlock] at hk; omega), hgr, L, ho, ?_⟩
      refine h2'.kept fun j hj hl => hgr.block j hl (fun e => ?_)
      simp [Value.ownBlock] at e
      omega
  · obtain ⟨M, hM, hcell⟩ := hr.row
    obtain ⟨v', w', hrun, ho, hgr, hbk⟩ := own_app h1 b o x.kids.len cx M hM.length (fun e => by simp at e) hcell hM.one (by omega) hsz ty
    refine ⟨v', w', hrun, hbe.grown hgr hsz (fun k hk => by simp [Value.ownBlock] at hk; omega), hgr, L ++ M, ho, ?_⟩
    refine (RowF.app hM h2).kept fun j hj hl => hgr.block j hl (fun e => ?_)
    simp [Value.ownBlock] at e
    omega
section
variable {a : Act} {u : World} {o : Oper} {x y : Operand}
theorem exec_lenE {p : Option Addr} {n c : Nat} (hop : o.op = .call { callee := .builtin .len, args := #[x], argTypes := #[34] }) (hx : a.eval x = .slice p n c) :
    (execOp a.eval o).run Try.prog u = .ok (.value (.int .i64 (n : Int))) u := by
  have hr : (Builtin.len_ #[34] o.type #[.slice p n c]).run Try.prog u = .ok (.int .i64 (n : Int)) u := by go_simp
  unfold execOp
  simp only [hop, resolve, invoke, builtin, Sem.run_bind, Sem.run_pure, Result.andThen_ok, List.map_toArray, List.map_cons, List.map_nil, hx, hr]
theorem exec_sub1 {m n : Nat} (hn : n = m + 1) (h : m < 1000000) (hop : o.op = .binOp .sub 3 x y 3) (hx : a.eval x = .int .i64 (n : Int)) (hy : a.eval y = .int .i64 1) :
    (execOp a.eval o).run Try.prog u = .ok (.value (.int .i64 (m : Int))) u := by
  subst hn
  unfold execOp
  simp only [hop, hx, hy]
  go_simp
  rw [IntKind.wrap_i64]
  omega
theorem exec_cutE {g m n c : Nat} (hm : m ≤ c) (hop : o.op = .slice 34 x none (some y) none) (hx : a.eval x = .slice (some ⟨g, 0, none⟩) n c) (hy : a.eval y = .int .i64 (m : Int)) :
    (execOp a.eval o).run Try.prog u = .ok (.value (.slice (some ⟨g, 0, none⟩) m c)) u := by
  have h1 : (m : Int) ≤ (c : Int) := by omega
  have h0 : (0 : Int) ≤ (m : Int) := by omega
  unfold execOp
  simp only [hop, hx, hy, Option.map_some, Option.map_none]
  go_simp
end
set_option maxHeartbeats 16000000 in
theorem vars_any (t : Tr) (sl : Value) (B : Nat → Prop) (w : World) (hi : Ex.is t = true) (h : SlF w B sl t.kids) : Calls Try.prog 23 #[Ev t sl] w fun e w' => e = .returned (.int .u8 ((Ex.vars t : Nat) : Int)) ∧ Below w.heap.size w w' := by
  obtain ⟨pp, cap, rfl⟩ := h.is
  have hT := h.mono' (B' := fun g => g < w.heap.size) fun g hg _ => hg
  have hb0 := boxE w t.k t.a t.v (.slice pp t.kids.len cap)
  have H0 : Bx (IsL w ((w.alloc (.cells #[.int .i64 t.k, .int .i64 t.a, .int .i64 t.v, .slice pp t.kids.len cap] 36)).alloc (.cells #[.int .i64 t.k, .int .i64 t.a, .int .i64 t.v, .slice pp t.kids.len cap] 36)) (.slice (some ⟨w.heap.size + 1, 0, none⟩) 1 1) 0 (t.on .nil) (Ex.is t)) := by
    refine ⟨⟨((Below.refl _ _).alloc (Nat.le_refl _) _).alloc (by rw [alloc_size]; omega) _, ⟨[.int .i64 t.k, .int .i64 t.a, .int .i64 t.v, .slice pp t.kids.len cap], ?_, ?_⟩, by omega, by simp [Fo.len_on, Fo.len], by unfold Ex.is; rw [Nat.zero_add]⟩⟩
    · have := World.ownsRow_lit (e := 36) (size := 4) (base := w.heap.size) (w.alloc (.cells #[.int .i64 t.k, .int .i64 t.a, .int .i64 t.v, .slice pp t.kids.len cap] 36)) #[.int .i64 t.k, .int .i64 t.a, .int .i64 t.v, .slice pp t.kids.len cap] 1 (by rw [alloc_size]; omega) (by unfold maxLen; omega) rfl
      rw [alloc_size] at this
      exact this
    · exact ⟨_, [], rfl, (hT.alloc _).alloc _, rfl⟩
  rw [hi] at H0
  clear h hT hi
  unfold Ev
  go_enter Try.func23, Try.ntmps23
  go_wp2_with fail
  go_loopw [3, 4, 5] (fun c v n wr => ∃ (k : Nat) (F : Fo) (d : Nat), n = .int .i64 (k : Int) ∧ c = .int .u8 (d : Int) ∧ Bx (d < 256 ∧ Ex.vars t = d ||| F.vm) ∧ IsL w wr v k F true) (fun _ _ n _ => 4001 - (intOf n).toNat)
  case atStart => exact ⟨0, t.on .nil, 0, rfl, rfl, ⟨⟨by omega, by rw [Fo.vm_on]; simp [Fo.vm]⟩⟩, H0.out⟩
  case round =>
    obtain ⟨k, F, d, rfl, rfl, HD, HL⟩ := hrel
    have HL := Bx.mk HL
    by_cases hF : F.len = 0
    · have hn : F = .nil := by cases F with | nil => rfl | cons => simp [Fo.len] at hF
      subst hn
      have HV := Bx.mk (show Ex.vars t = d from by rw [HD.out.2]; simp [Fo.vm])
      obtain ⟨L, h1, h2⟩ := HL.out.own
      have hlen : ∃ p cp, u4 = .slice p 0 cp := by
        rcases h1.2 with ⟨e, _⟩ | ⟨g, cp, cur, e, _⟩
        · exact ⟨_, _, e⟩
        · exact ⟨_, _, e⟩
      obtain ⟨p, cp, rfl⟩ := hlen
      clear h1 h2 hF
      go_wp2_with fail
      go_ret
      exact ⟨by rw [HV.out]; rfl, HL.out.be⟩
    · obtain ⟨G, x, hG⟩ := F.snoc hF
      obtain ⟨g, cp, sx, rfl, hg1, hg2, hcp, hsx, x0, x1, x2, x3, L, hL1, hL2⟩ := HL.out.pop hG
      obtain ⟨px, cx, rfl⟩ := hsx.is
      have hlb := HL.out.len
      have hfew := HL.out.few
      have hval := HL.out.val
      have hln : F.len = G.len + 1 := by rw [hG, Fo.len_app]; rfl
      have hnd : F.nodes = G.nodes + (1 + x.kids.nodes) := by rw [hG, Fo.nodes_app, Fo.nodes_on]; rfl
      have hap : F.allPlain = (G.allPlain && (Ex.plain x && x.kids.allPlain)) := by rw [hG, Fo.allPlain_app, Fo.allPlain_on]; simp [Fo.allPlain]
      rw [hap, hnd] at hval
      have hval' := hval.symm
      rw [Bool.and_eq_true, Bool.and_eq_true, Bool.and_eq_true] at hval'
      have hk4 : k + (G.nodes + (1 + x.kids.nodes)) ≤ 4000 := of_decide_eq_true hval'.1
      have hpl := hval'.2.2.1
      rw [hln] at hlb
      have HX := Bx.mk hsx
      have HO := Bx.mk (show ∃ L, wr.ownsRow w.heap.size 36 4 (.slice (some ⟨g, 0, none⟩) G.len cp) G.len L ∧ RowF wr (fun g => g < w.heap.size) G L from ⟨L, hL1, hL2⟩)
      have HVM := Bx.mk (show Ex.vars t = (d ||| Ex.vk x.k x.v) ||| (G.app x.kids).vm from by
        rw [HD.out.2, hG, Fo.vm_app, Fo.vm_on, Fo.vm_app]
        show _ = _
        unfold Ex.vars
        simp only [Fo.vm, Nat.or_zero]
        rw [Nat.or_assoc, ← Nat.or_assoc G.vm, Nat.or_comm G.vm (Ex.vk x.k x.v), Nat.or_assoc (Ex.vk x.k x.v)])
      have HVX := Bx.mk (vk_lt hpl)
      have HB := Bx.mk (show G.len ≤ 3 * k ∧ k < 4000 from ⟨by omega, by omega⟩)
      have HKK := Bx.mk (show (true = (decide (k + 1 + (G.app x.kids).nodes ≤ 4000) && (G.app x.kids).allPlain)) ∧ x.kids.len = Ex.kids x.k from
        ⟨by rw [Fo.nodes_app, Fo.allPlain_app, hval'.2.1, hval'.2.2.2, decide_eq_true (by omega)]; rfl, (plain_shape hpl).2.2.1⟩)
      have HSH := Bx.mk (plain_shape hpl)
      have HC := Bx.mk hcp
      have HGl := Bx.mk (show g < wr.heap.size ∧ w.heap.size ≤ g from ⟨hg2, hg1⟩)
      generalize hm : G.len = m at HB HC HO x0 x1 x2 x3
      have HM := Bx.mk hm
      clear hsx hL1 hL2 hG hln hF hlb hfew hcp hg1 hg2 hval hval' hk4 hnd hap hpl
      try rw [hm]
      clear hm
      have hkk : (k : Int) < 4000 := by have := HB.out; omega
      have HW := Bx.mk (show wrap64 (m : Int) = (m : Int) from w64 _ (by have := HB.out; omega))
      have hwn : (wrap64 (m : Int)).toNat = m := by rw [HW.out, Int.toNat_natCast]
      have b1 : 0 ≤ wrap64 (m : Int) := by rw [HW.out]; omega
      have b2 : wrap64 (m : Int) < (m : Int) + 1 := by rw [HW.out]; omega
      rw [← hwn] at x0 x1 x2 x3
      clear hwn
      have hbx := boxE wr x.k x.a x.v (.slice px x.kids.len cx)
      have hbe := HL.out.be.alloc HL.out.be.size (.cells #[.int .i64 x.k, .int .i64 x.a, .int .i64 x.v, .slice px x.kids.len cx] 36)
      have HBX := Bx.mk hbx
      have HBE := Bx.mk hbe
      clear hbx hbe
      obtain ⟨v', w', hr, hbe', hgr', hown'⟩ := IsL.push2 (G := G) (x := x) (u := (wr.alloc (.cells #[.int .i64 x.k, .int .i64 x.a, .int .i64 x.v, .slice px x.kids.len cx] 36)).drew) (HBE.out.drew) (by
          obtain ⟨L, h1, h2⟩ := HO.out
          rw [HM.out]
          exact ⟨L, (h1.kept (World.grownBy_alloc wr (.cells #[.int .i64 x.k, .int .i64 x.a, .int .i64 x.v, .slice px x.kids.len cx] 36) none) (by simp [Value.ownBlock])).kept (below_gr ((Below.refl _ _).drew)) (by simp [Value.ownBlock]), RowF.kept (w' := (wr.alloc (.cells #[.int .i64 x.k, .int .i64 x.a, .int .i64 x.v, .slice px x.kids.len cx] 36)).drew) (fun j _ hl => Below.heap_alloc wr _ j hl) h2⟩)
        ((HX.out.alloc _).drew) (by
          have h4 := Ex.kids_le x.k
          have h5 := HKK.out.2
          have := HB.out; rw [HM.out]; omega) 34
      have HBE' := Bx.mk hbe'
      have HOW' := Bx.mk hown'
      have HBW := Bx.mk (show Blk w' wr.heap.size 36 #[.int .i64 x.k, .int .i64 x.a, .int .i64 x.v, .slice px x.kids.len cx] from
        ⟨(hgr'.block _ (by show wr.heap.size < (wr.alloc _).heap.size; rw [alloc_size]; omega) (fun e => by have := HGl.out; cases e; omega)).trans HBX.out.eq⟩)
      clear hbe' hown' hgr'
      go_wp2_with fail
      refine region_any 100 (fun u => Blk u wr.heap.size 36 #[.int .i64 x.k, .int .i64 x.a, .int .i64 x.v, .slice px x.kids.len cx]) (by kernel_rfl) ?_
      have hq0 := HBX.out.drew
      refine any_take (i := 0) (.slice (some ⟨g, 0, none⟩) (m + 1) cp) rfl rfl (by kernel_rfl) (by kernel_rfl) (by kernel_rfl) (by kernel_rfl) (fun _ _ d _ _ h => by cases d <;> exact h) (fun u hS => rfl) hq0 ?_
      (try simp only [Act.put]); (try simp only [List.getElem_toArray]); (try simp only [List.getElem_cons_succ]); (try simp only [List.getElem_cons_zero]); (try simp only [List.setIfInBounds_toArray]); (try simp only [List.set_cons_succ]); (try simp only [List.set_cons_zero])
      refine any_take (i := 1) (.slice (some ⟨g, 0, none⟩) (m + 1) cp) rfl rfl (by kernel_rfl) (by kernel_rfl) (by kernel_rfl) (by kernel_rfl) (fun _ _ d _ _ h => by cases d <;> exact h) (fun u hS => rfl) hq0 ?_
      (try simp only [Act.put]); (try simp only [List.getElem_toArray]); (try simp only [List.getElem_cons_succ]); (try simp only [List.getElem_cons_zero]); (try simp only [List.setIfInBounds_toArray]); (try simp only [List.set_cons_succ]); (try simp only [List.set_cons_zero])
      refine any_take (i := 2) (.int .i64 ((m + 1 : Nat) : Int)) rfl rfl (by kernel_rfl) (by kernel_rfl) (by kernel_rfl) (by kernel_rfl) (fun _ _ d _ _ h => by cases d <;> exact h) (fun u hS => exec_lenE rfl rfl) hq0 ?_
      (try simp only [Act.put]); (try simp only [List.getElem_toArray]); (try simp only [List.getElem_cons_succ]); (try simp only [List.getElem_cons_zero]); (try simp only [List.setIfInBounds_toArray]); (try simp only [List.set_cons_succ]); (try simp only [List.set_cons_zero])
      refine any_take (i := 3) (.int .i64 (m : Int)) rfl rfl (by kernel_rfl) (by kernel_rfl) (by kernel_rfl) (by kernel_rfl) (fun _ _ d _ _ h => by cases d <;> exact h) (fun u hS => exec_sub1 rfl (by have := HB.out; omega) rfl rfl rfl) hq0 ?_
      (try simp only [Act.put]); (try simp only [List.getElem_toArray]); (try simp only [List.getElem_cons_succ]); (try simp only [List.getElem_cons_zero]); (try simp only [List.setIfInBounds_toArray]); (try simp only [List.set_cons_succ]); (try simp only [List.set_cons_zero])
      refine any_take (i := 4) (.slice (some ⟨g, 0, none⟩) m cp) rfl rfl (by kernel_rfl) (by kernel_rfl) (by kernel_rfl) (by kernel_rfl) (fun _ _ d _ _ h => by cases d <;> exact h) (fun u hS => exec_cutE (by have := HC.out; omega) rfl rfl rfl) hq0 ?_
      (try simp only [Act.put]); (try simp only [List.getElem_toArray]); (try simp only [List.getElem_cons_succ]); (try simp only [List.getElem_cons_zero]); (try simp only [List.setIfInBounds_toArray]); (try simp only [List.set_cons_succ]); (try simp only [List.set_cons_zero])
      refine any_take (i := 5) (.pointer (some ⟨wr.heap.size, 3, none⟩)) rfl rfl (by kernel_rfl) (by kernel_rfl) (by kernel_rfl) (by kernel_rfl) (fun _ _ d _ _ h => by cases d <;> exact h) (fun u hS => rfl) hq0 ?_
      (try simp only [Act.put]); (try simp only [List.getElem_toArray]); (try simp only [List.getElem_cons_succ]); (try simp only [List.getElem_cons_zero]); (try simp only [List.setIfInBounds_toArray]); (try simp only [List.set_cons_succ]); (try simp only [List.set_cons_zero])
      refine any_take (i := 6) (.slice px x.kids.len cx) rfl rfl (by kernel_rfl) (by kernel_rfl) (by kernel_rfl) (by kernel_rfl) (fun _ _ d _ _ h => by cases d <;> exact h) (fun u hS => exec_loadS rfl rfl (hS.cell 3)) hq0 ?_
      (try simp only [Act.put]); (try simp only [List.getElem_toArray]); (try simp only [List.getElem_cons_succ]); (try simp only [List.getElem_cons_zero]); (try simp only [List.setIfInBounds_toArray]); (try simp only [List.set_cons_succ]); (try simp only [List.set_cons_zero])
      refine any_branch [7] (by kernel_rfl) rfl fun ix hix => ?_
      simp only [List.mem_cons, List.not_mem_nil, or_false] at hix
      subst hix
      refine any_op rfl rfl fun K hK => ?_
      refine wp_app _ _ _ _ hr rfl rfl rfl ?_
      have hq1 := HBW.out
      refine hK _ _ (fun _ => hq1) ?_
      (try simp only [Act.put]); (try simp only [List.getElem_toArray]); (try simp only [List.getElem_cons_succ]); (try simp only [List.getElem_cons_zero]); (try simp only [List.setIfInBounds_toArray]); (try simp only [List.set_cons_succ]); (try simp only [List.set_cons_zero])
      clear hK
      refine any_branch [8] (by kernel_rfl) rfl fun ix hix => ?_
      simp only [List.mem_cons, List.not_mem_nil, or_false] at hix
      subst hix
      refine any_op rfl rfl fun K hK => ?_
      go_simp
      refine hK _ _ (fun _ => hq1) ?_
      (try simp only [Act.put]); (try simp only [List.getElem_toArray]); (try simp only [List.getElem_cons_succ]); (try simp only [List.getElem_cons_zero]); (try simp only [List.setIfInBounds_toArray]); (try simp only [List.set_cons_succ]); (try simp only [List.set_cons_zero])
      clear hK
      refine any_end (by kernel_rfl) ?_
      clear hq0 hq1 hr x0 x1 x2 x3
      obtain ⟨c0, c1, c2, c3, _, _, _, _⟩ := cells4 HBW.out
      obtain ⟨s1, s2, s3, s4, s5⟩ := HSH.out
      by_cases hk1 : x.k = 1
      · obtain ⟨m8, hm8, hv8⟩ : ∃ m8 : Nat, m8 < 8 ∧ x.v = (m8 : Int) := by
          have ht : Ex.top x.k = 7 := by unfold Ex.top; rw [if_pos (by omega)]
          exact ⟨x.v.toNat, by omega, by omega⟩
        have HVK := Bx.mk (show Ex.vk x.k x.v = 2 ^ m8 from by unfold Ex.vk; rw [if_pos (by omega), hv8, Int.toNat_natCast])
        have HPW := Bx.mk (pow_lt8 hm8)
        rw [hv8] at c2
        have hmi : (m8 : Int) < 8 := by omega
        have HVM2 := Bx.mk (show Ex.vars t = (d ||| 2 ^ m8) ||| (G.app x.kids).vm from by rw [← HVK.out]; exact HVM.out)
        have HOR := Bx.mk (Bt.or_u8_nat d (2 ^ m8) HD.out.1 HPW.out)
        have q1 : (x.k == 1) = true := by rw [beq_iff_eq]; omega
        have q10 : (x.k == 10) = false := by rw [beq_eq_false_iff_ne]; omega
        have q11 : (x.k == 11) = false := by rw [beq_eq_false_iff_ne]; omega
        clear s1 s2 s3 s4 s5 hv8 hk1
        go_wp2_with fail
        refine ⟨⟨k + 1, G.app x.kids, (d ||| 2 ^ m8), by go_num, congrArg (Value.int .u8) (by rw [pow_mod8 HPW.out]; exact HOR.out), ⟨⟨Nat.or_lt_two_pow (n := 8) HD.out.1 HPW.out, HVM2.out⟩⟩, HBE'.out, HOW'.out, by have := HB.out; omega, by have h4 := Ex.kids_le x.k; have h5 := HKK.out.2; have := HB.out; rw [Fo.len_app, HM.out]; omega, HKK.out.1⟩, by have := HB.out; simp [intOf]; omega⟩
      · by_cases hk10 : x.k = 10
        · obtain ⟨m8, hm8, hv8⟩ : ∃ m8 : Nat, m8 < 8 ∧ x.v = (m8 : Int) := by
            have ht : Ex.top x.k = 7 := by unfold Ex.top; rw [if_pos (by omega)]
            exact ⟨x.v.toNat, by omega, by omega⟩
          have HVK := Bx.mk (show Ex.vk x.k x.v = 2 ^ m8 from by unfold Ex.vk; rw [if_pos (by omega), hv8, Int.toNat_natCast])
          have HPW := Bx.mk (pow_lt8 hm8)
          rw [hv8] at c2
          have hmi : (m8 : Int) < 8 := by omega
          have HVM2 := Bx.mk (show Ex.vars t = (d ||| 2 ^ m8) ||| (G.app x.kids).vm from by rw [← HVK.out]; exact HVM.out)
          have HOR := Bx.mk (Bt.or_u8_nat d (2 ^ m8) HD.out.1 HPW.out)
          have q1 : (x.k == 1) = false := by rw [beq_eq_false_iff_ne]; omega
          have q10 : (x.k == 10) = true := by rw [beq_iff_eq]; omega
          have q11 : (x.k == 11) = false := by rw [beq_eq_false_iff_ne]; omega
          clear s1 s2 s3 s4 s5 hv8 hk1 hk10
          go_wp2_with fail
          refine ⟨⟨k + 1, G.app x.kids, (d ||| 2 ^ m8), by go_num, congrArg (Value.int .u8) (by rw [pow_mod8 HPW.out]; exact HOR.out), ⟨⟨Nat.or_lt_two_pow (n := 8) HD.out.1 HPW.out, HVM2.out⟩⟩, HBE'.out, HOW'.out, by have := HB.out; omega, by have h4 := Ex.kids_le x.k; have h5 := HKK.out.2; have := HB.out; rw [Fo.len_app, HM.out]; omega, HKK.out.1⟩, by have := HB.out; simp [intOf]; omega⟩
        · by_cases hk11 : x.k = 11
          · obtain ⟨m8, hm8, hv8⟩ : ∃ m8 : Nat, m8 < 8 ∧ x.v = (m8 : Int) := by
              have ht : Ex.top x.k = 7 := by unfold Ex.top; rw [if_pos (by omega)]
              exact ⟨x.v.toNat, by omega, by omega⟩
            have HVK := Bx.mk (show Ex.vk x.k x.v = 2 ^ m8 from by unfold Ex.vk; rw [if_pos (by omega), hv8, Int.toNat_natCast])
            have HPW := Bx.mk (pow_lt8 hm8)
            rw [hv8] at c2
            have hmi : (m8 : Int) < 8 := by omega
            have HVM2 := Bx.mk (show Ex.vars t = (d ||| 2 ^ m8) ||| (G.app x.kids).vm from by rw [← HVK.out]; exact HVM.out)
            have HOR := Bx.mk (Bt.or_u8_nat d (2 ^ m8) HD.out.1 HPW.out)
            have q1 : (x.k == 1) = false := by rw [beq_eq_false_iff_ne]; omega
            have q10 : (x.k == 10) = false := by rw [beq_eq_false_iff_ne]; omega
            have q11 : (x.k == 11) = true := by rw [beq_iff_eq]; omega
            clear s1 s2 s3 s4 s5 hv8 hk1 hk10 hk11
            go_wp2_with fail
            refine ⟨⟨k + 1, G.app x.kids, (d ||| 2 ^ m8), by go_num, congrArg (Value.int .u8) (by rw [pow_mod8 HPW.out]; exact HOR.out), ⟨⟨Nat.or_lt_two_pow (n := 8) HD.out.1 HPW.out, HVM2.out⟩⟩, HBE'.out, HOW'.out, by have := HB.out; omega, by have h4 := Ex.kids_le x.k; have h5 := HKK.out.2; have := HB.out; rw [Fo.len_app, HM.out]; omega, HKK.out.1⟩, by have := HB.out; simp [intOf]; omega⟩
          · have HVM2 := Bx.mk (show Ex.vars t = d ||| (G.app x.kids).vm from by have := HVM.out; rw [show Ex.vk x.k x.v = 0 from by unfold Ex.vk; rw [if_neg (by omega)], Nat.or_zero] at this; exact this)
            have q1 : (x.k == 1) = false := by rw [beq_eq_false_iff_ne]; omega
            have q10 : (x.k == 10) = false := by rw [beq_eq_false_iff_ne]; omega
            have q11 : (x.k == 11) = false := by rw [beq_eq_false_iff_ne]; omega
            clear s1 s2 s3 s4 s5 hk1 hk10 hk11
            go_wp2_with fail
            refine ⟨⟨k + 1, G.app x.kids, d, by go_num, rfl, ⟨⟨HD.out.1, HVM2.out⟩⟩, HBE'.out, HOW'.out, by have := HB.out; omega, by have h4 := Ex.kids_le x.k; have h5 := HKK.out.2; have := HB.out; rw [Fo.len_app, HM.out]; omega, HKK.out.1⟩, by have := HB.out; simp [intOf]; omega⟩
end Go.Proofs.Ytfgokhafiffbaaa

/-
  ExprBinds: slices of tables and of ints that the call makes: appended, cut.
-/
namespace Go.Proofs.Ytfgokhafiffbaaa
set_option linter.unusedVariables false
open Go.RowKit

/-! rows of tables -/
def Tb.flt (L : List Tb.T) : List Value := L.flatMap fun F => (Tb.tcells F).toList
theorem Tb.flt_length (L : List Tb.T) : (Tb.flt L).length = L.length * 4 := by
  unfold Tb.flt; induction L with
  | nil => rfl
  | cons F L ih => rw [List.flatMap_cons, List.length_append, ih]; simp; omega
theorem Tb.flt_append (L L' : List Tb.T) : Tb.flt (L ++ L') = Tb.flt L ++ Tb.flt L' := by unfold Tb.flt; simp
theorem Tb.flt_get : ∀ (L : List Tb.T) (j : Nat) (F : Tb.T) (i : Nat), L[j]? = some F → i < 4 → (Tb.flt L)[4 * j + i]? = some (.int .u64 (Tb.wd F i))
  | [], j, F, i, h, _ => by simp at h
  | G :: L, 0, F, i, h, hi => by
    simp at h; subst h
    show (_ ++ Tb.flt L)[4 * 0 + i]? = _
    rw [List.getElem?_append_left (by simp; omega)]
    match i, hi with
    | 0, _ => rfl
    | 1, _ => rfl
    | 2, _ => rfl
    | 3, _ => rfl
  | G :: L, j + 1, F, i, h, hi => by
    show (_ ++ Tb.flt L)[4 * (j + 1) + i]? = _
    rw [List.getElem?_append_right (by simp; omega)]
    rw [show 4 * (j + 1) + i - (Tb.tcells G).toList.length = 4 * j + i from by simp; omega]
    exact Tb.flt_get L j F i (by simpa using h) hi
/-- tables in a block of one's own -/
structure TO (w : World) (base : Nat) (v : Value) (L : List Tb.T) : Prop where
  own : w.ownsRow base 29 4 v L.length (Tb.flt L)
/-- ints in a block of one's own -/
structure IO (w : World) (base : Nat) (v : Value) (L : List Nat) : Prop where
  own : w.ownsRow base 3 1 v L.length (L.map fun (x : Nat) => Value.int .i64 (x : Int))
theorem TO.nil (w : World) (base : Nat) : TO w base (.slice none 0 0) [] := ⟨World.ownsRow_nil w base _ 4⟩
theorem IO.nil (w : World) (base : Nat) : IO w base (.slice none 0 0) [] := ⟨World.ownsRow_nil w base _ 1⟩
theorem TO.kept {w w' : World} {base : Nat} {v : Value} {L : List Tb.T} {row : Option Nat} (h : TO w base v L) (hg : w.grownBy w' row) (hne : v.ownBlock = none ∨ v.ownBlock ≠ row) : TO w' base v L := ⟨h.own.kept hg hne⟩
theorem IO.kept {w w' : World} {base : Nat} {v : Value} {L : List Nat} {row : Option Nat} (h : IO w base v L) (hg : w.grownBy w' row) (hne : v.ownBlock = none ∨ v.ownBlock ≠ row) : IO w' base v L := ⟨h.own.kept hg hne⟩
theorem TO.below {w w' : World} {base : Nat} {v : Value} {L : List Tb.T} (h : TO w base v L) (hb : Below w.heap.size w w') : TO w' base v L := h.kept (below_gr hb) (by cases e : v.ownBlock <;> simp)
theorem IO.below {w w' : World} {base : Nat} {v : Value} {L : List Nat} (h : IO w base v L) (hb : Below w.heap.size w w') : IO w' base v L := h.kept (below_gr hb) (by cases e : v.ownBlock <;> simp)
theorem addr_add {b o k : Nat} : (⟨b, o, none⟩ : Addr).add k = ⟨b, o + k, none⟩ := by
  simp only [Addr.add]
  split
  · rename_i e; subst e; rfl
  · rfl
set_option maxRecDepth 100000 in
/-- tables appended -/
theorem TO.app {w : World} {base : Nat} {v : Value} {L : List Tb.T} (h : TO w base v L) (a : Addr) (c : Nat) (Ms : List Tb.T) (hc : ∀ j F, Ms[j]? = some F → ∀ i, i < 4 → w.cell? (a.add (j * 4 + i)) = some (.int .u64 (Tb.wd F i))) (hn : L.length + Ms.length < 1000000) (hb : base ≤ w.heap.size) (ty : TypeId) :
    ∃ v' w', (Builtin.append_ #[26, 26] ty #[v, .slice (some a) Ms.length c]).run Try.prog w = .ok v' w' ∧ TO w' base v' (L ++ Ms) ∧ w.grownBy w' v.ownBlock ∧
      (v'.ownBlock = v.ownBlock ∨ v'.ownBlock = some w.heap.size) := by
  obtain ⟨i0, hi, hz⟩ : ∃ i, Try.prog.info? 29 = some i ∧ i.zero = some (Tb.tv 0#256) ∧ i.size = 4 ∧ i.bytes = 32 := by
    refine ⟨_, rfl, ?_⟩
    exact ⟨by kernel_rfl, by kernel_rfl, by kernel_rfl⟩
  have hnews : ∀ j u, (Tb.flt Ms)[j]? = some u → w.cell? (a.add j) = some u := fun j u hj => by
    have hl : j < (Tb.flt Ms).length := (List.getElem?_eq_some_iff.1 hj).1
    rw [Tb.flt_length] at hl
    have hjm : j / 4 < Ms.length := by omega
    have e := Tb.flt_get Ms (j / 4) _ (j % 4) (List.getElem?_eq_getElem hjm) (by omega)
    rw [show 4 * (j / 4) + j % 4 = j from by omega] at e
    rw [e] at hj
    obtain rfl := Option.some.inj hj
    have := hc (j / 4) _ (List.getElem?_eq_getElem hjm) (j % 4) (by omega)
    rw [show j / 4 * 4 + j % 4 = j from by omega] at this
    exact this
  have hone : ∀ u ∈ Tb.flt Ms, u.oneCell' = true := fun u hu => by
    obtain ⟨j, hj⟩ := List.getElem?_of_mem hu
    have hl : j < (Tb.flt Ms).length := (List.getElem?_eq_some_iff.1 hj).1
    rw [Tb.flt_length] at hl
    have hjm : j / 4 < Ms.length := by omega
    have e := Tb.flt_get Ms (j / 4) _ (j % 4) (List.getElem?_eq_getElem hjm) (by omega)
    rw [show 4 * (j / 4) + j % 4 = j from by omega] at e
    rw [e] at hj
    obtain rfl := Option.some.inj hj
    rfl
  obtain ⟨v', w', hr, h1, h2, _, h3⟩ := run_append_own_at (P := Try.prog) w base 26 ty 29 i0 _ 4 32 Try.underlying26 hi hz.1 hz.2.1 hz.2.2 rfl (by omega) _ _ _ h.own a Ms.length c (Tb.flt Ms) (Tb.flt_length Ms |>.trans (by omega)) hnews hone (by unfold maxLen; omega) (by omega) hb
  rw [← Tb.flt_append] at h1
  exact ⟨v', w', hr, ⟨by rw [List.length_append]; exact h1⟩, h2, h3⟩
set_option maxRecDepth 100000 in
/-- ints appended -/
theorem IO.app {w : World} {base : Nat} {v : Value} {L : List Nat} (h : IO w base v L) (a : Addr) (c : Nat) (Ms : List Nat) (hc : ∀ j x, Ms[j]? = some x → w.cell? (a.add j) = some (.int .i64 ((x : Nat) : Int))) (hn : L.length + Ms.length < 1000000) (hb : base ≤ w.heap.size) (ty : TypeId) :
    ∃ v' w', (Builtin.append_ #[31, 31] ty #[v, .slice (some a) Ms.length c]).run Try.prog w = .ok v' w' ∧ IO w' base v' (L ++ Ms) ∧ w.grownBy w' v.ownBlock ∧
      (v'.ownBlock = v.ownBlock ∨ v'.ownBlock = some w.heap.size) := by
  obtain ⟨i0, hi, hz⟩ : ∃ i, Try.prog.info? 3 = some i ∧ i.zero = some (.int .i64 0) ∧ i.size = 1 ∧ i.bytes = 8 := by
    refine ⟨_, rfl, ?_⟩
    exact ⟨by kernel_rfl, by kernel_rfl, by kernel_rfl⟩
  obtain ⟨v', w', hr, h1, h2, _, h3⟩ := run_append_own_at (P := Try.prog) w base 31 ty 3 i0 _ 1 8 Try.underlying31 hi hz.1 hz.2.1 hz.2.2 rfl (by omega) _ _ _ h.own a Ms.length c (Ms.map fun (x : Nat) => Value.int .i64 (x : Int)) (by simp)
    (fun j u hj => by
      rw [List.getElem?_map] at hj
      cases hx : Ms[j]? with
      | none => rw [hx] at hj; cases hj
      | some x => rw [hx] at hj; obtain rfl := Option.some.inj hj; exact hc j x hx)
    (fun u hu => by obtain ⟨x, _, rfl⟩ := List.mem_map.1 hu; rfl) (by unfold maxLen; omega) (by omega) hb
  rw [← List.map_append] at h1
  exact ⟨v', w', hr, ⟨by rw [List.length_append]; exact h1⟩, h2, h3⟩
/-- where they lie -/
theorem TO.at_ {w : World} {base : Nat} {v : Value} {L : List Tb.T} (h : TO w base v L) (hne : L ≠ []) : ∃ g cap, v = .slice (some ⟨g, 0, none⟩) L.length cap ∧ base ≤ g ∧ g < w.heap.size ∧ L.length ≤ cap ∧
    ∀ j F, L[j]? = some F → ∀ i, i < 4 → w.cell? ⟨g, j * 4 + i, none⟩ = some (.int .u64 (Tb.wd F i)) := by
  have hb := h.own
  rcases h.own.2 with ⟨_, h0⟩ | ⟨g, cap, cur, rfl, hbg, hg, hnc, hcm, hcs, htake⟩
  · exact absurd (List.eq_nil_of_length_eq_zero h0) hne
  · refine ⟨g, cap, rfl, hbg, (hb.lt g rfl).2, hnc, fun j F hj i hi => ?_⟩
    have := hb.cells (g := g) rfl (4 * j + i) (.int .u64 (Tb.wd F i)) (Tb.flt_get L j F i hj hi)
    rw [addr_add] at this
    rw [← this]
    congr 2
    omega
theorem IO.at_ {w : World} {base : Nat} {v : Value} {L : List Nat} (h : IO w base v L) (hne : L ≠ []) : ∃ g cap, v = .slice (some ⟨g, 0, none⟩) L.length cap ∧ base ≤ g ∧ g < w.heap.size ∧ L.length ≤ cap ∧
    ∀ (j x : Nat), L[j]? = some x → w.cell? ⟨g, j, none⟩ = some (.int .i64 (x : Int)) := by
  have hb := h.own
  rcases h.own.2 with ⟨_, h0⟩ | ⟨g, cap, cur, rfl, hbg, hg, hnc, hcm, hcs, htake⟩
  · exact absurd (List.eq_nil_of_length_eq_zero h0) hne
  · refine ⟨g, cap, rfl, hbg, (hb.lt g rfl).2, hnc, fun j x hj => ?_⟩
    have := hb.cells (g := g) rfl j (.int .i64 (x : Int)) (by rw [List.getElem?_map, hj]; rfl)
    rw [addr_add, Nat.zero_add] at this
    exact this
end Go.Proofs.Ytfgokhafiffbaaa
