/-
  Texts on which the law ExprBinds rests, part 15 of 22.
-/
import Derived.Test.YtfgokhafiffbaaaExprBindsM14
/-
  Formulas: put, what a formula is printed as.
-/
namespace Go.Proofs.Ytfgokhafiffbaaa
set_option linter.unusedVariables false
open Go.RowKit Go.Lib

def Ex.sgn (k : Int) : List UInt8 := if k = 4 then [38] else if k = 5 then [124] else if k = 6 then [94] else if k = 7 then [45, 62] else [60, 45, 62]
def Ex.dig (v : Int) : UInt8 := Nat.toUInt8 (48 + v.toNat)
def Ex.par (l : List UInt8) : List UInt8 := [40] ++ l ++ [41]
/-- a node's print, of the prints of its kids -/
def Ex.prk (k v : Int) (l : List (List UInt8)) : List UInt8 :=
  if k = 1 then [118] ++ [Ex.dig v] else if k = 2 then [Ex.dig v] else if k = 3 then [33] ++ Ex.par (l.getD 0 [])
  else if k = 10 then ([97, 108, 108, 32, 118] ++ [Ex.dig v] ++ [32]) ++ Ex.par (l.getD 0 []) else if k = 11 then ([97, 110, 121, 32, 118] ++ [Ex.dig v] ++ [32]) ++ Ex.par (l.getD 0 [])
  else if k = 9 then [105, 116, 101, 40] ++ Ex.par (l.getD 0 []) ++ [44, 32] ++ Ex.par (l.getD 1 []) ++ [44, 32] ++ Ex.par (l.getD 2 []) ++ [41]
  else [40] ++ Ex.par (l.getD 0 []) ++ ([32] ++ Ex.sgn k ++ [32]) ++ Ex.par (l.getD 1 []) ++ [41]
def Fo.prs : Fo → List (List UInt8)
  | .nil => []
  | .cons k _ v kids rest => Ex.prk k v kids.prs :: rest.prs
def Ex.pr (t : Tr) : List UInt8 := Ex.prk t.k t.v t.kids.prs

/-- all but v's own block, of what was there, is as it was; v' lies where v lay, or in a new block -/
structure Fr (v : Value) (u : World) (v' : Value) (u' : World) : Prop where
  g : u.grownBy u' v.ownBlock
  o : ∀ k, v'.ownBlock = some k → v.ownBlock = some k ∨ u.heap.size ≤ k
theorem Fr.trans {v v' v'' : Value} {a b c : World} (h : Fr v a v' b) (k : Fr v' b v'' c) : Fr v a v'' c := by
  refine ⟨⟨k.g.os.trans h.g.os, k.g.tape.trans h.g.tape, k.g.output.trans h.g.output, Nat.le_trans h.g.size k.g.size, fun i hi hn => ?_⟩, fun i hi => ?_⟩
  · refine (k.g.block i (Nat.lt_of_lt_of_le hi h.g.size) (fun e => ?_)).trans (h.g.block i hi hn)
    rcases h.o i e.symm with e' | e'
    · exact hn e'.symm
    · omega
  · have hs := h.g.size
    rcases k.o i hi with e | e
    · exact h.o i e
    · exact .inr (by omega)
theorem Fr.below {v : Value} {a b : World} (hb : Below a.heap.size a b) : Fr v a v b := ⟨⟨hb.os, hb.tape, hb.output, hb.size, fun g hg _ => hb.block g hg⟩, fun k hk => .inl hk⟩
theorem Fr.low {v v' : Value} {a b : World} {base : Nat} (h : Fr v a v' b) (hv : ∀ k, v.ownBlock = some k → base ≤ k) (hb : base ≤ a.heap.size) (g : Nat) (hg : g < base) : b.heap[g]? = a.heap[g]? :=
  h.g.block g (by omega) (fun e => by have := hv g e.symm; omega)
theorem Fr.to_below {v v' : Value} {a b c : World} {base : Nat} (h : Below base a b) (k : Fr v b v' c) (hv : ∀ x, v.ownBlock = some x → base ≤ x) (hb : base ≤ b.heap.size) : Below base a c :=
  ⟨k.g.os.trans h.os, k.g.tape.trans h.tape, k.g.output.trans h.output, Nat.le_trans h.size k.g.size, fun g hg => (k.low hv hb g hg).trans (h.block g hg)⟩
/-- a string appended, and where -/
theorem OwnB.put_str {w : World} {base : Nat} {v : Value} {l : List UInt8} (h : OwnB w base v l) (s : ByteArray) (hn : l.length + s.size ≤ 1000000) (hb : base ≤ w.heap.size) (ty : TypeId) :
    ∃ v' w', (Builtin.append_ #[22, 9] ty #[v, .string s]).run Try.prog w = .ok v' w' ∧ OwnB w' base v' (l ++ s.data.toList) ∧ Fr v w v' w' := by
  obtain ⟨i, hi, hz, hs, hby⟩ := u8_info
  obtain ⟨v', w', hr, ho, hg, hnil⟩ := run_append_own_string (P := Try.prog) w base 22 9 ty 5 i Try.underlying22 Try.underlying9 hi hz hs hby v l.length _ h s (by unfold maxLen; omega) (by omega) hb
  refine ⟨v', w', hr, ?_, hg, ?_⟩
  · unfold OwnB
    rw [List.length_append, List.map_append, ← strCells_of, show s.data.toList.length = s.size from by simp]
    exact ho
  · have h0 := h
    rcases h0.2 with ⟨rfl, e⟩ | ⟨g, cap, cur, rfl, hbg, hg, hnc, hcm, hcs, htake⟩
    · by_cases hm : s.size = 0
      · have := hnil.2 ⟨rfl, hm⟩
        subst this
        intro k hk
        cases hk
      · have hr2 := run_append_nil_string (P := Try.prog) w 22 9 ty 5 i (.int .u8 0) Try.underlying22 Try.underlying9 hi hz s (by omega) (by omega) (by rw [hby]; omega)
        rw [hr] at hr2
        cases hr2
        intro k hk
        simp [Value.ownBlock] at hk
        omega
    · by_cases hroom : l.length + s.size ≤ cap
      · have hcs' : cur.size = cap := by simpa using hcs
        have hr2 := run_append_room_string (P := Try.prog) w 22 9 ty 5 i Try.underlying22 Try.underlying9 hi hs g l.length cap cur hg s hroom (by omega)
        rw [hr] at hr2
        cases hr2
        intro k hk
        exact .inl hk
      · have holds : ∀ j u, (l.map fun b => (.int .u8 (b.toNat : Int) : Value))[j]? = some u → w.cell? ((⟨g, 0, none⟩ : Addr).add j) = some u := World.ownsRow.cells h (g := g) rfl
        have hr2 := run_append_grow_string (P := Try.prog) w 22 9 ty 5 i (.int .u8 0) Try.underlying22 Try.underlying9 hi hz ⟨g, 0, none⟩ l.length cap _ (by rw [hs]; simp) holds s (by omega) (by omega) (by rw [hby]; exact growslice_fits (by omega) (by omega))
        rw [hr] at hr2
        cases hr2
        intro k hk
        simp [Value.ownBlock] at hk
        omega
/-- one byte appended, and where -/
theorem OwnB.put_one {w : World} {base : Nat} {v : Value} {l : List UInt8} (h : OwnB w base v l) (p c : Nat) (x : UInt8) (hx : w.cell? ⟨p, 0, none⟩ = some (.int .u8 (x.toNat : Int))) (hn : l.length + 1 ≤ 1000000) (hb : base ≤ w.heap.size) (ty : TypeId) :
    ∃ v' w', (Builtin.append_ #[22, 22] ty #[v, .slice (some ⟨p, 0, none⟩) 1 c]).run Try.prog w = .ok v' w' ∧ OwnB w' base v' (l ++ [x]) ∧ Fr v w v' w' := by
  obtain ⟨i, hi, hz, hs, hby⟩ := u8_info
  obtain ⟨v', w', hr, ho, hg, _, hat⟩ := run_append_own_at (P := Try.prog) w base 22 ty 5 i _ 1 1 Try.underlying22 hi hz hs hby rfl (by omega) v l.length _ h ⟨p, 0, none⟩ 1 c [.int .u8 (x.toNat : Int)] rfl
    (fun j u hj => by
      match j, hj with
      | 0, hj => cases hj; exact hx
      | j + 1, hj => simp at hj) (by intro u hu; simp at hu; subst hu; rfl) (by unfold maxLen; omega) (by omega) hb
  refine ⟨v', w', hr, ?_, hg, fun k hk => ?_⟩
  · unfold OwnB
    rw [List.length_append, List.map_append]
    exact ho
  · rcases hat with e | e
    · exact .inl (by rw [← e]; exact hk)
    · rw [e] at hk; cases hk; exact .inr (Nat.le_refl _)
/-- where put stands: w its entry, u now -/
structure PQ (base : Nat) (v0 : Value) (w u : World) (cs : Array Value) (v : Value) (l : List UInt8) : Prop where
  own : OwnB u base v l
  fr : Fr v0 w v u
  e : Blk u w.heap.size 36 cs
  le : base ≤ w.heap.size
  ne : v.ownBlock ≠ some w.heap.size
  o0 : ∀ k, v0.ownBlock = some k → base ≤ k
theorem PQ.next {base : Nat} {v0 : Value} {w u u' : World} {cs : Array Value} {v v' : Value} {l l' : List UInt8} (h : PQ base v0 w u cs v l) (ho : OwnB u' base v' l') (hf : Fr v u v' u') : PQ base v0 w u' cs v' l' :=
  ⟨ho, h.fr.trans hf, ⟨(hf.g.block _ h.e.lt (fun e => h.ne e.symm)).trans h.e.eq⟩, h.le, fun e => by
    have := h.e.lt
    rcases hf.o _ e with e' | e'
    · exact h.ne e'
    · omega, h.o0⟩
theorem PQ.step {base : Nat} {v0 : Value} {w u u' : World} {cs : Array Value} {v : Value} {l : List UInt8} (h : PQ base v0 w u cs v l) (hb : Below u.heap.size u u') : PQ base v0 w u' cs v l := h.next (h.own.below hb) (Fr.below hb)
theorem PQ.sz {base : Nat} {v0 : Value} {w u : World} {cs : Array Value} {v : Value} {l : List UInt8} (h : PQ base v0 w u cs v l) : base ≤ u.heap.size := Nat.le_trans h.le h.fr.g.size
theorem PQ.low {base : Nat} {v0 : Value} {w u : World} {cs : Array Value} {v : Value} {l : List UInt8} (h : PQ base v0 w u cs v l) (g : Nat) (hg : g < base) : u.heap[g]? = w.heap[g]? := h.fr.low h.o0 h.le g hg
theorem PQ.start {base : Nat} {w : World} {k a x : Int} {sl : Value} {v : Value} {l : List UInt8} (ho : OwnB w base v l) (hb : base ≤ w.heap.size) :
    PQ base v w (w.alloc (.cells #[.int .i64 k, .int .i64 a, .int .i64 x, sl] 36)) #[.int .i64 k, .int .i64 a, .int .i64 x, sl] v l :=
  ⟨ho.below ((Below.refl _ _).alloc (Nat.le_refl _) _), Fr.below ((Below.refl _ _).alloc (Nat.le_refl _) _), boxE _ _ _ _ _, hb, fun e => by have := (ho.lt e).2; omega, fun k hk => (ho.lt hk).1⟩
/-- a byte of one's own, that is not v's -/
structure Fl (u : World) (v : Value) (g : Nat) (x : UInt8) : Prop where
  blk : Blk u g 5 #[.int .u8 (x.toNat : Int)]
  ne : v.ownBlock ≠ some g
theorem Fl.next {u u' : World} {v v' : Value} {g : Nat} {x : UInt8} (h : Fl u v g x) (hf : Fr v u v' u') : Fl u' v' g x :=
  ⟨⟨(hf.g.block _ h.blk.lt (fun e => h.ne e.symm)).trans h.blk.eq⟩, fun e => by
    have := h.blk.lt
    rcases hf.o _ e with e' | e'
    · exact h.ne e'
    · omega⟩
theorem Fl.new {u : World} {v : Value} {base : Nat} {l : List UInt8} (ho : OwnB u base v l) (x : UInt8) : Fl (u.alloc (.cells #[.int .u8 (x.toNat : Int)] 5)) v u.heap.size x :=
  ⟨Blk.new _ _ _, fun e => by have := (ho.lt e).2; omega⟩
/-- one kid of what is printed, where it lies -/
structure KidB (w : World) (base b o : Nat) (x : Tr) (sx : Value) : Prop where
  lt : b < base
  c0 : w.cell? ⟨b, o, none⟩ = some (.int .i64 x.k)
  c1 : w.cell? ⟨b, o + 1, none⟩ = some (.int .i64 x.a)
  c2 : w.cell? ⟨b, o + 2, none⟩ = some (.int .i64 x.v)
  c3 : w.cell? ⟨b, o + 3, none⟩ = some sx
  sl : SlF w (fun g => g < base) sx x.kids
theorem KidB.fr {w u : World} {base b o : Nat} {x : Tr} {sx : Value} (h : KidB w base b o x sx) (hf : ∀ g, g < base → u.heap[g]? = w.heap[g]?) : KidB u base b o x sx :=
  ⟨h.lt, (World.cell?_of_block (a := ⟨b, o, none⟩) (hf b h.lt)).trans h.c0, (World.cell?_of_block (a := ⟨b, o + 1, none⟩) (hf b h.lt)).trans h.c1, (World.cell?_of_block (a := ⟨b, o + 2, none⟩) (hf b h.lt)).trans h.c2,
    (World.cell?_of_block (a := ⟨b, o + 3, none⟩) (hf b h.lt)).trans h.c3, h.sl.kept fun g hg _ => hf g hg⟩
/-- what is known of put for what has so few nodes -/
def Pw (n : Nat) : Prop := ∀ (t : Tr) (sl : Value) (base : Nat) (v : Value) (l : List UInt8) (u : World), (t.on .nil).nodes ≤ n → (t.on .nil).allPlain = true → SlF u (fun g => g < base) sl t.kids → OwnB u base v l → base ≤ u.heap.size →
  l.length + 32 * (t.on .nil).nodes ≤ 500000 → Calls Try.prog 35 #[v, Ev t sl] u fun e w' => ∃ v', e = .returned v' ∧ OwnB w' base v' (l ++ Ex.pr t) ∧ Fr v u v' w'
section
variable {a : Act} {u : World} {o : Oper} {x y : Operand}
theorem exec_loadX {p off : Nat} {t : Tr} {sl : Value} (hop : o.op = .load 36 x) (hx : a.eval x = .pointer (some ⟨p, off, none⟩)) (h0 : u.cell? ⟨p, off, none⟩ = some (.int .i64 t.k)) (h1 : u.cell? ⟨p, off + 1, none⟩ = some (.int .i64 t.a))
    (h2 : u.cell? ⟨p, off + 2, none⟩ = some (.int .i64 t.v)) (h3 : u.cell? ⟨p, off + 3, none⟩ = some sl) :
    (execOp a.eval o).run Try.prog u = .ok (.value (Ev t sl)) u := by
  unfold execOp
  simp only [hop, hx]
  go_simp
  rfl
theorem exec_loadS {p off : Nat} {v : Value} (hop : o.op = .load 34 x) (hx : a.eval x = .pointer (some ⟨p, off, none⟩)) (hc : u.cell? ⟨p, off, none⟩ = some v) :
    (execOp a.eval o).run Try.prog u = .ok (.value v) u := by
  unfold execOp
  simp only [hop, hx]
  go_simp
end
theorem sign_any (k : Int) (h : 4 ≤ k ∧ k ≤ 8) (w : World) : Calls Try.prog 55 #[.int .i64 k] w fun e w' => e = .returned (.string ⟨(Ex.sgn k).toArray⟩) ∧ w' = w := by
  have hc : k = 4 ∨ k = 5 ∨ k = 6 ∨ k = 7 ∨ k = 8 := by omega
  rcases hc with rfl | rfl | rfl | rfl | rfl
  all_goals
    (go_enter Try.func55, Try.ntmps55
     go_wp2_with fail
     go_ret
     exact ⟨rfl, rfl⟩)

theorem getD3 : ∀ (L : List (List UInt8)), (L.getD 0 []).length + (L.getD 1 []).length + (L.getD 2 []).length ≤ (L.map List.length).sum
  | [] => by simp
  | [a] => by simp
  | [a, b] => by simp
  | a :: b :: c :: r => by simp; omega
theorem prk_len (k v : Int) (L : List (List UInt8)) : (Ex.prk k v L).length ≤ 16 + (L.map List.length).sum := by
  have h := getD3 L
  have hs : (Ex.sgn k).length ≤ 3 := by unfold Ex.sgn; repeat' split
                                        all_goals simp
  unfold Ex.prk Ex.par
  repeat' split
  all_goals (simp only [List.length_append, List.length_cons, List.length_nil]; omega)
theorem prs_len : ∀ F : Fo, (F.prs.map List.length).sum ≤ 16 * F.nodes
  | .nil => by simp [Fo.prs]
  | .cons k a v kids rest => by
    have h1 := prs_len kids
    have h2 := prs_len rest
    have h3 := prk_len k v kids.prs
    simp only [Fo.prs, Fo.nodes, List.map_cons, List.sum_cons]
    omega
theorem pr_len (t : Tr) : (Ex.pr t).length ≤ 16 * (t.on .nil).nodes := by
  have h1 := prs_len t.kids
  have h3 := prk_len t.k t.v t.kids.prs
  rw [Fo.nodes_on]
  unfold Ex.pr
  omega
theorem str_add' (s t : ByteArray) (h : s.size + t.size ≤ 1000000) (w : World) : (Op.stringOp .add s t).run Try.prog w = .ok (.string (s ++ t)) w := run_string_add_sum w s t (by omega)
theorem strOf_size (l : List Nat) : (strOf l).size = l.length := by unfold strOf; simp [ByteArray.size]
theorem dig_of (m : Nat) : (strOf [48 + m]).data.toList = [Ex.dig (m : Int)] := by unfold strOf Ex.dig; simp
section
variable {a : Act} {u : World} {o : Oper} {x y : Operand}

theorem exec_ix01 {b o_ c : Nat} (hop : o.op = .indexAddr 34 x y) (hx : a.eval x = .slice (some ⟨b, o_, none⟩) 1 c) (hy : a.eval y = .int .i64 0) :
    (execOp a.eval o).run Try.prog u = .ok (.value (.pointer (some ⟨b, o_, none⟩))) u := by
  unfold execOp
  simp only [hop, hx, hy]
  go_simp
theorem exec_ix02 {b o_ c : Nat} (hop : o.op = .indexAddr 34 x y) (hx : a.eval x = .slice (some ⟨b, o_, none⟩) 2 c) (hy : a.eval y = .int .i64 0) :
    (execOp a.eval o).run Try.prog u = .ok (.value (.pointer (some ⟨b, o_, none⟩))) u := by
  unfold execOp
  simp only [hop, hx, hy]
  go_simp
theorem exec_ix12 {b o_ c : Nat} (hop : o.op = .indexAddr 34 x y) (hx : a.eval x = .slice (some ⟨b, o_, none⟩) 2 c) (hy : a.eval y = .int .i64 1) :
    (execOp a.eval o).run Try.prog u = .ok (.value (.pointer (some ⟨b, (o_ + 4), none⟩))) u := by
  unfold execOp
  simp only [hop, hx, hy]
  go_simp
theorem exec_ix03 {b o_ c : Nat} (hop : o.op = .indexAddr 34 x y) (hx : a.eval x = .slice (some ⟨b, o_, none⟩) 3 c) (hy : a.eval y = .int .i64 0) :
    (execOp a.eval o).run Try.prog u = .ok (.value (.pointer (some ⟨b, o_, none⟩))) u := by
  unfold execOp
  simp only [hop, hx, hy]
  go_simp
theorem exec_ix13 {b o_ c : Nat} (hop : o.op = .indexAddr 34 x y) (hx : a.eval x = .slice (some ⟨b, o_, none⟩) 3 c) (hy : a.eval y = .int .i64 1) :
    (execOp a.eval o).run Try.prog u = .ok (.value (.pointer (some ⟨b, (o_ + 4), none⟩))) u := by
  unfold execOp
  simp only [hop, hx, hy]
  go_simp
theorem exec_ix23 {b o_ c : Nat} (hop : o.op = .indexAddr 34 x y) (hx : a.eval x = .slice (some ⟨b, o_, none⟩) 3 c) (hy : a.eval y = .int .i64 2) :
    (execOp a.eval o).run Try.prog u = .ok (.value (.pointer (some ⟨b, (o_ + 8), none⟩))) u := by
  unfold execOp
  simp only [hop, hx, hy]
  go_simp
end
section
variable {a : Act} {u : World} {o : Oper} {x y : Operand}
theorem exec_addS {s t : ByteArray} (hop : o.op = .binOp .add 9 x y 9) (hx : a.eval x = .string s) (hy : a.eval y = .string t) (h : s.size + t.size ≤ 1000000) :
    (execOp a.eval o).run Try.prog u = .ok (.value (.string (s ++ t))) u := by
  have ha := str_add' s t h u
  unfold execOp
  simp only [hop, hx, hy]
  go_simp
end
theorem lst3 (a b c : ByteArray) : ((a ++ b) ++ c).data.toList = a.data.toList ++ b.data.toList ++ c.data.toList := by simp [ByteArray.data_append]
theorem size_lst (a : ByteArray) : a.size = a.data.toList.length := by rw [Array.length_toList]; rfl
theorem sgn_len (k : Int) : (Ex.sgn k).length ≤ 3 := by unfold Ex.sgn; repeat' split
                                                        all_goals simp

theorem OwnB.sl {w : World} {base : Nat} {v : Value} {l : List UInt8} (h : OwnB w base v l) : ∃ p z c, v = .slice p z c := by
  rcases h.2 with ⟨e, _⟩ | ⟨g, c, cu, e, _⟩
  · exact ⟨_, _, _, e⟩
  · exact ⟨_, _, _, e⟩

set_option maxHeartbeats 8000000 in
theorem in_any (n : Nat) (ih : Pw n) (t : Tr) (sl : Value) (base : Nat) (v : Value) (l : List UInt8) (w : World) (hn : (t.on .nil).nodes ≤ n) (hp : (t.on .nil).allPlain = true) (hs : SlF w (fun g => g < base) sl t.kids) (ho : OwnB w base v l) (hb : base ≤ w.heap.size) (hl : l.length + 2 + 32 * (t.on .nil).nodes ≤ 500000) (hlp : (Ex.pr t).length ≤ 16 * (t.on .nil).nodes) :
    Calls Try.prog 53 #[v, Ev t sl] w fun e w' => ∃ v', e = .returned v' ∧ OwnB w' base v' (l ++ Ex.par (Ex.pr t)) ∧ Fr v w v' w' := by
  obtain ⟨pp, cap, rfl⟩ := hs.is
  have hP : PQ base v w (w.alloc (.cells #[.int .i64 t.k, .int .i64 t.a, .int .i64 t.v, .slice pp t.kids.len cap] 36)) #[.int .i64 t.k, .int .i64 t.a, .int .i64 t.v, .slice pp t.kids.len cap] v l := PQ.start ho hb
  have HP := Bx.mk hP
  have HN := Bx.mk hn
  have HA := Bx.mk hp
  have HS := Bx.mk hs
  have HL := Bx.mk hl
  have HLP := Bx.mk hlp
  have IH := Bx.mk ih
  clear hP hn hp hs ho hl hlp ih
  unfold Ev
  go_enter Try.func53, Try.ntmps53
  go_wp2_with fail
  refine region_any 100 (fun u => ∃ v' l', PQ base v w u #[.int .i64 t.k, .int .i64 t.a, .int .i64 t.v, .slice pp t.kids.len cap] v' l') (by kernel_rfl) ?_
  generalize hu : World.drew _ = u0
  have hq0 : PQ base v w u0 #[.int .i64 t.k, .int .i64 t.a, .int .i64 t.v, .slice pp t.kids.len cap] v l := by rw [← hu]; exact HP.out.step ((Below.refl _ _).drew)
  clear hu HP
  refine any_take (i := 0) (v) rfl rfl (by kernel_rfl) (by kernel_rfl) (by kernel_rfl) (by kernel_rfl) (fun _ _ d _ _ h => by cases d <;> exact h) (fun u hS => rfl) ⟨_, _, hq0⟩ ?_
  (try simp only [Act.put]); (try simp only [List.getElem_toArray]); (try simp only [List.getElem_cons_succ]); (try simp only [List.getElem_cons_zero]); (try simp only [List.setIfInBounds_toArray]); (try simp only [List.set_cons_succ]); (try simp only [List.set_cons_zero])
  refine any_take (i := 3) (Ev t (.slice pp t.kids.len cap)) rfl rfl (by kernel_rfl) (by kernel_rfl) (by kernel_rfl) (by kernel_rfl) (fun _ _ d _ _ h => by cases d <;> exact h) (fun u hS => by obtain ⟨v9, l9, q9⟩ := hS; exact exec_loadE rfl rfl q9.e) ⟨_, _, hq0⟩ ?_
  (try simp only [Act.put]); (try simp only [List.getElem_toArray]); (try simp only [List.getElem_cons_succ]); (try simp only [List.getElem_cons_zero]); (try simp only [List.setIfInBounds_toArray]); (try simp only [List.set_cons_succ]); (try simp only [List.set_cons_zero])
  refine any_branch [1, 5] (by kernel_rfl) rfl fun ix hix => ?_
  simp only [List.mem_cons, List.not_mem_nil, or_false] at hix
  rcases hix with rfl | rfl
  · refine any_op rfl rfl fun K hK => ?_
    go_simp
    have hN1 := Fl.new hq0.own 40
    have hf1 := Fr.below (v := v) ((Below.refl u0.heap.size u0).alloc (Nat.le_refl _) (.cells #[.int .u8 40] 5))
    have hq1 := hq0.step ((Below.refl _ _).alloc (Nat.le_refl _) (.cells #[.int .u8 40] 5))
    change Fl (u0.alloc (.cells #[.int .u8 40] 5)) _ _ _ at hN1
    generalize u0.heap.size = pn1 at hN1 ⊢
    generalize u0.alloc (.cells #[.int .u8 40] 5) = u1 at hN1 hq1 hf1 ⊢
    refine hK _ _ (fun _ => ⟨_, _, hq1⟩) ?_
    (try simp only [Act.put]); (try simp only [List.getElem_toArray]); (try simp only [List.getElem_cons_succ]); (try simp only [List.getElem_cons_zero]); (try simp only [List.setIfInBounds_toArray]); (try simp only [List.set_cons_succ]); (try simp only [List.set_cons_zero])
    clear hK
    refine any_branch [2, 5] (by kernel_rfl) rfl fun ix hix => ?_
    simp only [List.mem_cons, List.not_mem_nil, or_false] at hix
    rcases hix with rfl | rfl
    · refine any_op rfl rfl fun K hK => ?_
      obtain ⟨v2, u2, hr2, ho2, hf2⟩ := hq1.own.put_one pn1 1 40 (hN1.blk.cell 0) (by have h0 := HL.out; have hx := HLP.out; (try simp only [Ex.par]); (try simp only [List.length_append]); (try simp only [List.length_cons]); (try simp only [List.length_nil]); omega) hq1.sz 22
      refine wp_app _ _ _ _ hr2 rfl rfl rfl ?_
      have hq2 := hq1.next ho2 hf2
      refine hK _ _ (fun _ => ⟨_, _, hq2⟩) ?_
      (try simp only [Act.put]); (try simp only [List.getElem_toArray]); (try simp only [List.getElem_cons_succ]); (try simp only [List.getElem_cons_zero]); (try simp only [List.setIfInBounds_toArray]); (try simp only [List.set_cons_succ]); (try simp only [List.set_cons_zero])
      clear hK
      refine any_branch [4, 5] (by kernel_rfl) rfl fun ix hix => ?_
      simp only [List.mem_cons, List.not_mem_nil, or_false] at hix
      rcases hix with rfl | rfl
      · refine any_op rfl rfl fun K hK => ?_
        go_simp
        refine (IH.out t _ base _ _ u2 HN.out HA.out (HS.out.kept fun g hg _ => hq2.low g hg) hq2.own hq2.sz (by have h0 := HL.out; have hx := HLP.out; (try simp only [Ex.par]); (try simp only [List.length_append]); (try simp only [List.length_cons]); (try simp only [List.length_nil]); omega)).mono ?_
        rintro e u3 ⟨v3, rfl, ho3, hf3⟩
        have hq3 := hq2.next ho3 hf3
        refine hK _ _ (fun _ => ⟨_, _, hq3⟩) ?_
        (try simp only [Act.put]); (try simp only [List.getElem_toArray]); (try simp only [List.getElem_cons_succ]); (try simp only [List.getElem_cons_zero]); (try simp only [List.setIfInBounds_toArray]); (try simp only [List.set_cons_succ]); (try simp only [List.set_cons_zero])
        clear hK
        refine any_branch [5] (by kernel_rfl) rfl fun ix hix => ?_
        simp only [List.mem_cons, List.not_mem_nil, or_false] at hix
        subst hix
        refine any_op rfl rfl fun K hK => ?_
        go_simp
        have hN4 := Fl.new hq3.own 41
        have hf4 := Fr.below (v := v3) ((Below.refl u3.heap.size u3).alloc (Nat.le_refl _) (.cells #[.int .u8 41] 5))
        have hq4 := hq3.step ((Below.refl _ _).alloc (Nat.le_refl _) (.cells #[.int .u8 41] 5))
        change Fl (u3.alloc (.cells #[.int .u8 41] 5)) _ _ _ at hN4
        generalize u3.heap.size = pn4 at hN4 ⊢
        generalize u3.alloc (.cells #[.int .u8 41] 5) = u4 at hN4 hq4 hf4 ⊢
        refine hK _ _ (fun _ => ⟨_, _, hq4⟩) ?_
        (try simp only [Act.put]); (try simp only [List.getElem_toArray]); (try simp only [List.getElem_cons_succ]); (try simp only [List.getElem_cons_zero]); (try simp only [List.setIfInBounds_toArray]); (try simp only [List.set_cons_succ]); (try simp only [List.set_cons_zero])
        clear hK
        refine any_branch [6] (by kernel_rfl) rfl fun ix hix => ?_
        simp only [List.mem_cons, List.not_mem_nil, or_false] at hix
        subst hix
        refine any_op rfl rfl fun K hK => ?_
        obtain ⟨v5, u5, hr5, ho5, hf5⟩ := hq4.own.put_one pn4 1 41 (hN4.blk.cell 0) (by have h0 := HL.out; have hx := HLP.out; (try simp only [Ex.par]); (try simp only [List.length_append]); (try simp only [List.length_cons]); (try simp only [List.length_nil]); omega) hq4.sz 22
        refine wp_app _ _ _ _ hr5 rfl rfl rfl ?_
        have hq5 := hq4.next ho5 hf5
        refine hK _ _ (fun _ => ⟨_, _, hq5⟩) ?_
        (try simp only [Act.put]); (try simp only [List.getElem_toArray]); (try simp only [List.getElem_cons_succ]); (try simp only [List.getElem_cons_zero]); (try simp only [List.setIfInBounds_toArray]); (try simp only [List.set_cons_succ]); (try simp only [List.set_cons_zero])
        clear hK
        refine any_branch [7] (by kernel_rfl) rfl fun ix hix => ?_
        simp only [List.mem_cons, List.not_mem_nil, or_false] at hix
        subst hix
        refine any_op rfl rfl fun K hK => ?_
        go_simp
        refine hK _ _ (fun _ => ⟨_, _, hq5⟩) ?_
        (try simp only [Act.put]); (try simp only [List.getElem_toArray]); (try simp only [List.getElem_cons_succ]); (try simp only [List.getElem_cons_zero]); (try simp only [List.setIfInBounds_toArray]); (try simp only [List.set_cons_succ]); (try simp only [List.set_cons_zero])
        clear hK
        refine any_end (by kernel_rfl) ?_
        have HQ := Bx.mk hq5
        have hsl := hq5.own.sl
        clear hq0 hq1 hq2 hq3 hq4 hq5 hf1 hf2 hf3 hf4 hf5
        obtain ⟨p9, z9, y9, rfl⟩ := hsl
        go_wp2_with fail
        go_ret
        refine ⟨.slice p9 z9 y9, rfl, ?_, HQ.out.fr⟩
        have h5 := HQ.out.own
        unfold Ex.par
        simpa only [List.append_assoc] using h5
      · refine any_op rfl rfl fun K hK => ?_
        go_simp
        have hN3 := Fl.new hq2.own 41
        have hf3 := Fr.below (v := v2) ((Below.refl u2.heap.size u2).alloc (Nat.le_refl _) (.cells #[.int .u8 41] 5))
        have hq3 := hq2.step ((Below.refl _ _).alloc (Nat.le_refl _) (.cells #[.int .u8 41] 5))
        change Fl (u2.alloc (.cells #[.int .u8 41] 5)) _ _ _ at hN3
        generalize u2.heap.size = pn3 at hN3 ⊢
        generalize u2.alloc (.cells #[.int .u8 41] 5) = u3 at hN3 hq3 hf3 ⊢
        refine hK _ _ (fun _ => ⟨_, _, hq3⟩) ?_
        (try simp only [Act.put]); (try simp only [List.getElem_toArray]); (try simp only [List.getElem_cons_succ]); (try simp only [List.getElem_cons_zero]); (try simp only [List.setIfInBounds_toArray]); (try simp only [List.set_cons_succ]); (try simp only [List.set_cons_zero])
        clear hK
        refine any_branch [4] (by kernel_rfl) rfl fun ix hix => ?_
        simp only [List.mem_cons, List.not_mem_nil, or_false] at hix
        subst hix
        refine any_op rfl rfl fun K hK => ?_
        go_simp
        refine (IH.out t _ base _ _ u3 HN.out HA.out (HS.out.kept fun g hg _ => hq3.low g hg) hq3.own hq3.sz (by have h0 := HL.out; have hx := HLP.out; (try simp only [Ex.par]); (try simp only [List.length_append]); (try simp only [List.length_cons]); (try simp only [List.length_nil]); omega)).mono ?_
        rintro e u4 ⟨v4, rfl, ho4, hf4⟩
        have hq4 := hq3.next ho4 hf4
        have hF5_4 := hN3.next hf4
        refine hK _ _ (fun _ => ⟨_, _, hq4⟩) ?_
        (try simp only [Act.put]); (try simp only [List.getElem_toArray]); (try simp only [List.getElem_cons_succ]); (try simp only [List.getElem_cons_zero]); (try simp only [List.setIfInBounds_toArray]); (try simp only [List.set_cons_succ]); (try simp only [List.set_cons_zero])
        clear hK
        refine any_branch [6] (by kernel_rfl) rfl fun ix hix => ?_
        simp only [List.mem_cons, List.not_mem_nil, or_false] at hix
        subst hix
        refine any_op rfl rfl fun K hK => ?_
        obtain ⟨v5, u5, hr5, ho5, hf5⟩ := hq4.own.put_one pn3 1 41 (hF5_4.blk.cell 0) (by have h0 := HL.out; have hx := HLP.out; (try simp only [Ex.par]); (try simp only [List.length_append]); (try simp only [List.length_cons]); (try simp only [List.length_nil]); omega) hq4.sz 22
        refine wp_app _ _ _ _ hr5 rfl rfl rfl ?_
        have hq5 := hq4.next ho5 hf5
        refine hK _ _ (fun _ => ⟨_, _, hq5⟩) ?_
        (try simp only [Act.put]); (try simp only [List.getElem_toArray]); (try simp only [List.getElem_cons_succ]); (try simp only [List.getElem_cons_zero]); (try simp only [List.setIfInBounds_toArray]); (try simp only [List.set_cons_succ]); (try simp only [List.set_cons_zero])
        clear hK
        refine any_branch [7] (by kernel_rfl) rfl fun ix hix => ?_
        simp only [List.mem_cons, List.not_mem_nil, or_false] at hix
        subst hix
        refine any_op rfl rfl fun K hK => ?_
        go_simp
        refine hK _ _ (fun _ => ⟨_, _, hq5⟩) ?_
        (try simp only [Act.put]); (try simp only [List.getElem_toArray]); (try simp only [List.getElem_cons_succ]); (try simp only [List.getElem_cons_zero]); (try simp only [List.setIfInBounds_toArray]); (try simp only [List.set_cons_succ]); (try simp only [List.set_cons_zero])
        clear hK
        refine any_end (by kernel_rfl) ?_
        have HQ := Bx.mk hq5
        have hsl := hq5.own.sl
        clear hq0 hq1 hq2 hq3 hq4 hq5 hf1 hf2 hf3 hf4 hf5
        obtain ⟨p9, z9, y9, rfl⟩ := hsl
        go_wp2_with fail
        go_ret
        refine ⟨.slice p9 z9 y9, rfl, ?_, HQ.out.fr⟩
        have h5 := HQ.out.own
        unfold Ex.par
        simpa only [List.append_assoc] using h5
    · refine any_op rfl rfl fun K hK => ?_
      go_simp
      have hN2 := Fl.new hq1.own 41
      have hf2 := Fr.below (v := v) ((Below.refl u1.heap.size u1).alloc (Nat.le_refl _) (.cells #[.int .u8 41] 5))
      have hq2 := hq1.step ((Below.refl _ _).alloc (Nat.le_refl _) (.cells #[.int .u8 41] 5))
      change Fl (u1.alloc (.cells #[.int .u8 41] 5)) _ _ _ at hN2
      generalize u1.heap.size = pn2 at hN2 ⊢
      generalize u1.alloc (.cells #[.int .u8 41] 5) = u2 at hN2 hq2 hf2 ⊢
      have hF1_2 := hN1.next hf2
      refine hK _ _ (fun _ => ⟨_, _, hq2⟩) ?_
      (try simp only [Act.put]); (try simp only [List.getElem_toArray]); (try simp only [List.getElem_cons_succ]); (try simp only [List.getElem_cons_zero]); (try simp only [List.setIfInBounds_toArray]); (try simp only [List.set_cons_succ]); (try simp only [List.set_cons_zero])
      clear hK
      refine any_branch [2] (by kernel_rfl) rfl fun ix hix => ?_
      simp only [List.mem_cons, List.not_mem_nil, or_false] at hix
      subst hix
      refine any_op rfl rfl fun K hK => ?_
      obtain ⟨v3, u3, hr3, ho3, hf3⟩ := hq2.own.put_one pn1 1 40 (hF1_2.blk.cell 0) (by have h0 := HL.out; have hx := HLP.out; (try simp only [Ex.par]); (try simp only [List.length_append]); (try simp only [List.length_cons]); (try simp only [List.length_nil]); omega) hq2.sz 22
      refine wp_app _ _ _ _ hr3 rfl rfl rfl ?_
      have hq3 := hq2.next ho3 hf3
      have hF5_3 := hN2.next hf3
      refine hK _ _ (fun _ => ⟨_, _, hq3⟩) ?_
      (try simp only [Act.put]); (try simp only [List.getElem_toArray]); (try simp only [List.getElem_cons_succ]); (try simp only [List.getElem_cons_zero]); (try simp only [List.setIfInBounds_toArray]); (try simp only [List.set_cons_succ]); (try simp only [List.set_cons_zero])
      clear hK
      refine any_branch [4] (by kernel_rfl) rfl fun ix hix => ?_
      simp only [List.mem_cons, List.not_mem_nil, or_false] at hix
      subst hix
      refine any_op rfl rfl fun K hK => ?_
      go_simp
      refine (IH.out t _ base _ _ u3 HN.out HA.out (HS.out.kept fun g hg _ => hq3.low g hg) hq3.own hq3.sz (by have h0 := HL.out; have hx := HLP.out; (try simp only [Ex.par]); (try simp only [List.length_append]); (try simp only [List.length_cons]); (try simp only [List.length_nil]); omega)).mono ?_
      rintro e u4 ⟨v4, rfl, ho4, hf4⟩
      have hq4 := hq3.next ho4 hf4
      have hF5_4 := hF5_3.next hf4
      refine hK _ _ (fun _ => ⟨_, _, hq4⟩) ?_
      (try simp only [Act.put]); (try simp only [List.getElem_toArray]); (try simp only [List.getElem_cons_succ]); (try simp only [List.getElem_cons_zero]); (try simp only [List.setIfInBounds_toArray]); (try simp only [List.set_cons_succ]); (try simp only [List.set_cons_zero])
      clear hK
      refine any_branch [6] (by kernel_rfl) rfl fun ix hix => ?_
      simp only [List.mem_cons, List.not_mem_nil, or_false] at hix
      subst hix
      refine any_op rfl rfl fun K hK => ?_
      obtain ⟨v5, u5, hr5, ho5, hf5⟩ := hq4.own.put_one pn2 1 41 (hF5_4.blk.cell 0) (by have h0 := HL.out; have hx := HLP.out; (try simp only [Ex.par]); (try simp only [List.length_append]); (try simp only [List.length_cons]); (try simp only [List.length_nil]); omega) hq4.sz 22
      refine wp_app _ _ _ _ hr5 rfl rfl rfl ?_
      have hq5 := hq4.next ho5 hf5
      refine hK _ _ (fun _ => ⟨_, _, hq5⟩) ?_
      (try simp only [Act.put]); (try simp only [List.getElem_toArray]); (try simp only [List.getElem_cons_succ]); (try simp only [List.getElem_cons_zero]); (try simp only [List.setIfInBounds_toArray]); (try simp only [List.set_cons_succ]); (try simp only [List.set_cons_zero])
      clear hK
      refine any_branch [7] (by kernel_rfl) rfl fun ix hix => ?_
      simp only [List.mem_cons, List.not_mem_nil, or_false] at hix
      subst hix
      refine any_op rfl rfl fun K hK => ?_
      go_simp
      refine hK _ _ (fun _ => ⟨_, _, hq5⟩) ?_
      (try simp only [Act.put]); (try simp only [List.getElem_toArray]); (try simp only [List.getElem_cons_succ]); (try simp only [List.getElem_cons_zero]); (try simp only [List.setIfInBounds_toArray]); (try simp only [List.set_cons_succ]); (try simp only [List.set_cons_zero])
      clear hK
      refine any_end (by kernel_rfl) ?_
      have HQ := Bx.mk hq5
      have hsl := hq5.own.sl
      clear hq0 hq1 hq2 hq3 hq4 hq5 hf1 hf2 hf3 hf4 hf5
      obtain ⟨p9, z9, y9, rfl⟩ := hsl
      go_wp2_with fail
      go_ret
      refine ⟨.slice p9 z9 y9, rfl, ?_, HQ.out.fr⟩
      have h5 := HQ.out.own
      unfold Ex.par
      simpa only [List.append_assoc] using h5
  · refine any_op rfl rfl fun K hK => ?_
    go_simp
    have hN1 := Fl.new hq0.own 41
    have hf1 := Fr.below (v := v) ((Below.refl u0.heap.size u0).alloc (Nat.le_refl _) (.cells #[.int .u8 41] 5))
    have hq1 := hq0.step ((Below.refl _ _).alloc (Nat.le_refl _) (.cells #[.int .u8 41] 5))
    change Fl (u0.alloc (.cells #[.int .u8 41] 5)) _ _ _ at hN1
    generalize u0.heap.size = pn1 at hN1 ⊢
    generalize u0.alloc (.cells #[.int .u8 41] 5) = u1 at hN1 hq1 hf1 ⊢
    refine hK _ _ (fun _ => ⟨_, _, hq1⟩) ?_
    (try simp only [Act.put]); (try simp only [List.getElem_toArray]); (try simp only [List.getElem_cons_succ]); (try simp only [List.getElem_cons_zero]); (try simp only [List.setIfInBounds_toArray]); (try simp only [List.set_cons_succ]); (try simp only [List.set_cons_zero])
    clear hK
    refine any_branch [1] (by kernel_rfl) rfl fun ix hix => ?_
    simp only [List.mem_cons, List.not_mem_nil, or_false] at hix
    subst hix
    refine any_op rfl rfl fun K hK => ?_
    go_simp
    have hN2 := Fl.new hq1.own 40
    have hf2 := Fr.below (v := v) ((Below.refl u1.heap.size u1).alloc (Nat.le_refl _) (.cells #[.int .u8 40] 5))
    have hq2 := hq1.step ((Below.refl _ _).alloc (Nat.le_refl _) (.cells #[.int .u8 40] 5))
    change Fl (u1.alloc (.cells #[.int .u8 40] 5)) _ _ _ at hN2
    generalize u1.heap.size = pn2 at hN2 ⊢
    generalize u1.alloc (.cells #[.int .u8 40] 5) = u2 at hN2 hq2 hf2 ⊢
    have hF5_2 := hN1.next hf2
    refine hK _ _ (fun _ => ⟨_, _, hq2⟩) ?_
    (try simp only [Act.put]); (try simp only [List.getElem_toArray]); (try simp only [List.getElem_cons_succ]); (try simp only [List.getElem_cons_zero]); (try simp only [List.setIfInBounds_toArray]); (try simp only [List.set_cons_succ]); (try simp only [List.set_cons_zero])
    clear hK
    refine any_branch [2] (by kernel_rfl) rfl fun ix hix => ?_
    simp only [List.mem_cons, List.not_mem_nil, or_false] at hix
    subst hix
    refine any_op rfl rfl fun K hK => ?_
    obtain ⟨v3, u3, hr3, ho3, hf3⟩ := hq2.own.put_one pn2 1 40 (hN2.blk.cell 0) (by have h0 := HL.out; have hx := HLP.out; (try simp only [Ex.par]); (try simp only [List.length_append]); (try simp only [List.length_cons]); (try simp only [List.length_nil]); omega) hq2.sz 22
    refine wp_app _ _ _ _ hr3 rfl rfl rfl ?_
    have hq3 := hq2.next ho3 hf3
    have hF5_3 := hF5_2.next hf3
    refine hK _ _ (fun _ => ⟨_, _, hq3⟩) ?_
    (try simp only [Act.put]); (try simp only [List.getElem_toArray]); (try simp only [List.getElem_cons_succ]); (try simp only [List.getElem_cons_zero]); (try simp only [List.setIfInBounds_toArray]); (try simp only [List.set_cons_succ]); (try simp only [List.set_cons_zero])
    clear hK
    refine any_branch [4] (by kernel_rfl) rfl fun ix hix => ?_
    simp only [List.mem_cons, List.not_mem_nil, or_false] at hix
    subst hix
    refine any_op rfl rfl fun K hK => ?_
    go_simp
    refine (IH.out t _ base _ _ u3 HN.out HA.out (HS.out.kept fun g hg _ => hq3.low g hg) hq3.own hq3.sz (by have h0 := HL.out; have hx := HLP.out; (try simp only [Ex.par]); (try simp only [List.length_append]); (try simp only [List.length_cons]); (try simp only [List.length_nil]); omega)).mono ?_
    rintro e u4 ⟨v4, rfl, ho4, hf4⟩
    have hq4 := hq3.next ho4 hf4
    have hF5_4 := hF5_3.next hf4
    refine hK _ _ (fun _ => ⟨_, _, hq4⟩) ?_
    (try simp only [Act.put]); (try simp only [List.getElem_toArray]); (try simp only [List.getElem_cons_succ]); (try simp only [List.getElem_cons_zero]); (try simp only [List.setIfInBounds_toArray]); (try simp only [List.set_cons_succ]); (try simp only [List.set_cons_zero])
    clear hK
    refine any_branch [6] (by kernel_rfl) rfl fun ix hix => ?_
    simp only [List.mem_cons, List.not_mem_nil, or_false] at hix
    subst hix
    refine any_op rfl rfl fun K hK => ?_
    obtain ⟨v5, u5, hr5, ho5, hf5⟩ := hq4.own.put_one pn1 1 41 (hF5_4.blk.cell 0) (by have h0 := HL.out; have hx := HLP.out; (try simp only [Ex.par]); (try simp only [List.length_append]); (try simp only [List.length_cons]); (try simp only [List.length_nil]); omega) hq4.sz 22
    refine wp_app _ _ _ _ hr5 rfl rfl rfl ?_
    have hq5 := hq4.next ho5 hf5
    refine hK _ _ (fun _ => ⟨_, _, hq5⟩) ?_
    (try simp only [Act.put]); (try simp only [List.getElem_toArray]); (try simp only [List.getElem_cons_succ]); (try simp only [List.getElem_cons_zero]); (try simp only [List.setIfInBounds_toArray]); (try simp only [List.set_cons_succ]); (try simp only [List.set_cons_zero])
    clear hK
    refine any_branch [7] (by kernel_rfl) rfl fun ix hix => ?_
    simp only [List.mem_cons, List.not_mem_nil, or_false] at hix
    subst hix
    refine any_op rfl rfl fun K hK => ?_
    go_simp
    refine hK _ _ (fun _ => ⟨_, _, hq5⟩) ?_
    (try simp only [Act.put]); (try simp only [List.getElem_toArray]); (try simp only [List.getElem_cons_succ]); (try simp only [List.getElem_cons_zero]); (try simp only [List.setIfInBounds_toArray]); (try simp only [List.set_cons_succ]); (try simp only [List.set_cons_zero])
    clear hK
    refine any_end (by kernel_rfl) ?_
    have HQ := Bx.mk hq5
    have hsl := hq5.own.sl
    clear hq0 hq1 hq2 hq3 hq4 hq5 hf1 hf2 hf3 hf4 hf5
    obtain ⟨p9, z9, y9, rfl⟩ := hsl
    go_wp2_with fail
    go_ret
    refine ⟨.slice p9 z9 y9, rfl, ?_, HQ.out.fr⟩
    have h5 := HQ.out.own
    unfold Ex.par
    simpa only [List.append_assoc] using h5
set_option maxHeartbeats 8000000 in
theorem put_3 (n : Nat) (ih : Pw n) (a : Int) (vv : Int) (b o cap : Nat) (base : Nat) (v : Value) (l : List UInt8) (w : World) (x : Tr) (sx : Value) (Kx : KidB w base b o x sx) (Nx : (x.on .nil).nodes ≤ n) (Px : (x.on .nil).allPlain = true) (ho : OwnB w base v l) (hb : base ≤ w.heap.size) (hl : l.length + 32 * (1 + ((x.on .nil).nodes)) ≤ 500000) :
    Calls Try.prog 35 #[v, .agg #[.int .i64 3, .int .i64 a, .int .i64 vv, .slice (some ⟨b, o, none⟩) 1 cap]] w fun e w' => ∃ v', e = .returned v' ∧ OwnB w' base v' (l ++ Ex.prk 3 vv [Ex.pr x]) ∧ Fr v w v' w' := by
  have hP : PQ base v w (w.alloc (.cells #[.int .i64 3, .int .i64 a, .int .i64 vv, .slice (some ⟨b, o, none⟩) 1 cap] 36)) #[.int .i64 3, .int .i64 a, .int .i64 vv, .slice (some ⟨b, o, none⟩) 1 cap] v l := PQ.start ho hb
  obtain ⟨c0, c1, c2, c3, _, _, _, _⟩ := cells4 hP.e
  have HP := Bx.mk hP
  have IH := Bx.mk ih
  have HL := Bx.mk hl
  have BKx := Bx.mk Kx
  have BNx := Bx.mk Nx
  have BPx := Bx.mk Px
  have BLx := Bx.mk (pr_len x)
  clear hP ih ho hl Kx Nx Px
  go_enter Try.func35, Try.ntmps35
  go_wp2_with fail
  refine region_any 100 (fun u => ∃ v' l', PQ base v w u #[.int .i64 3, .int .i64 a, .int .i64 vv, .slice (some ⟨b, o, none⟩) 1 cap] v' l') (by kernel_rfl) ?_
  generalize hu : World.drew _ = u0
  have hq0 := HP.out.step ((Below.refl _ _).drew)
  rw [hu] at hq0
  clear hu HP c0 c1 c2 c3
  refine any_take (i := 0) (.func (.func 53) #[] #[]) rfl rfl (by kernel_rfl) (by kernel_rfl) (by kernel_rfl) (by kernel_rfl) (fun _ _ d _ _ h => by cases d <;> exact h) (fun u hS => rfl) ⟨_, _, hq0⟩ ?_
  (try simp only [Act.put]); (try simp only [List.getElem_toArray]); (try simp only [List.getElem_cons_succ]); (try simp only [List.getElem_cons_zero]); (try simp only [List.setIfInBounds_toArray]); (try simp only [List.set_cons_succ]); (try simp only [List.set_cons_zero])
  refine any_take (i := 1) (v) rfl rfl (by kernel_rfl) (by kernel_rfl) (by kernel_rfl) (by kernel_rfl) (fun _ _ d _ _ h => by cases d <;> exact h) (fun u hS => rfl) ⟨_, _, hq0⟩ ?_
  (try simp only [Act.put]); (try simp only [List.getElem_toArray]); (try simp only [List.getElem_cons_succ]); (try simp only [List.getElem_cons_zero]); (try simp only [List.setIfInBounds_toArray]); (try simp only [List.set_cons_succ]); (try simp only [List.set_cons_zero])
  refine any_take (i := 4) (.pointer (some ⟨w.heap.size, 3, none⟩)) rfl rfl (by kernel_rfl) (by kernel_rfl) (by kernel_rfl) (by kernel_rfl) (fun _ _ d _ _ h => by cases d <;> exact h) (fun u hS => rfl) ⟨_, _, hq0⟩ ?_
  (try simp only [Act.put]); (try simp only [List.getElem_toArray]); (try simp only [List.getElem_cons_succ]); (try simp only [List.getElem_cons_zero]); (try simp only [List.setIfInBounds_toArray]); (try simp only [List.set_cons_succ]); (try simp only [List.set_cons_zero])
  refine any_take (i := 5) (.slice (some ⟨b, o, none⟩) 1 cap) rfl rfl (by kernel_rfl) (by kernel_rfl) (by kernel_rfl) (by kernel_rfl) (fun _ _ d _ _ h => by cases d <;> exact h) (fun u hS => by obtain ⟨v9, l9, q9⟩ := hS; exact exec_loadS rfl rfl (q9.e.cell 3)) ⟨_, _, hq0⟩ ?_
  (try simp only [Act.put]); (try simp only [List.getElem_toArray]); (try simp only [List.getElem_cons_succ]); (try simp only [List.getElem_cons_zero]); (try simp only [List.setIfInBounds_toArray]); (try simp only [List.set_cons_succ]); (try simp only [List.set_cons_zero])
  refine any_take (i := 6) (.pointer (some ⟨b, o, none⟩)) rfl rfl (by kernel_rfl) (by kernel_rfl) (by kernel_rfl) (by kernel_rfl) (fun _ _ d _ _ h => by cases d <;> exact h) (fun u hS => exec_ix01 rfl rfl rfl) ⟨_, _, hq0⟩ ?_
  (try simp only [Act.put]); (try simp only [List.getElem_toArray]); (try simp only [List.getElem_cons_succ]); (try simp only [List.getElem_cons_zero]); (try simp only [List.setIfInBounds_toArray]); (try simp only [List.set_cons_succ]); (try simp only [List.set_cons_zero])
  refine any_take (i := 7) (Ev x sx) rfl rfl (by kernel_rfl) (by kernel_rfl) (by kernel_rfl) (by kernel_rfl) (fun _ _ d _ _ h => by cases d <;> exact h) (fun u hS => by obtain ⟨v9, l9, q9⟩ := hS; have kk := BKx.out.fr q9.low; exact exec_loadX rfl rfl kk.c0 kk.c1 kk.c2 kk.c3) ⟨_, _, hq0⟩ ?_
  (try simp only [Act.put]); (try simp only [List.getElem_toArray]); (try simp only [List.getElem_cons_succ]); (try simp only [List.getElem_cons_zero]); (try simp only [List.setIfInBounds_toArray]); (try simp only [List.set_cons_succ]); (try simp only [List.set_cons_zero])
  refine any_branch [2] (by kernel_rfl) rfl fun ix hix => ?_
  simp only [List.mem_cons, List.not_mem_nil, or_false] at hix
  subst hix
  refine any_op rfl rfl fun K hK => ?_
  go_simp
  have hN1 := Fl.new hq0.own 33
  have hf1 := Fr.below (v := v) ((Below.refl u0.heap.size u0).alloc (Nat.le_refl _) (.cells #[.int .u8 33] 5))
  have hq1 := hq0.step ((Below.refl _ _).alloc (Nat.le_refl _) (.cells #[.int .u8 33] 5))
  change Fl (u0.alloc (.cells #[.int .u8 33] 5)) _ _ _ at hN1
  generalize u0.heap.size = pn1 at hN1 ⊢
  generalize u0.alloc (.cells #[.int .u8 33] 5) = u1 at hN1 hq1 hf1 ⊢
  refine hK _ _ (fun _ => ⟨_, _, hq1⟩) ?_
  (try simp only [Act.put]); (try simp only [List.getElem_toArray]); (try simp only [List.getElem_cons_succ]); (try simp only [List.getElem_cons_zero]); (try simp only [List.setIfInBounds_toArray]); (try simp only [List.set_cons_succ]); (try simp only [List.set_cons_zero])
  clear hK
  refine any_branch [3] (by kernel_rfl) rfl fun ix hix => ?_
  simp only [List.mem_cons, List.not_mem_nil, or_false] at hix
  subst hix
  refine any_op rfl rfl fun K hK => ?_
  obtain ⟨v2, u2, hr2, ho2, hf2⟩ := hq1.own.put_one pn1 1 33 (hN1.blk.cell 0) (by have h0 := HL.out; have hx := BLx.out; (try simp only [Ex.par]); (try simp only [List.length_append]); (try simp only [List.length_cons]); (try simp only [List.length_nil]); omega) hq1.sz 22
  refine wp_app _ _ _ _ hr2 rfl rfl rfl ?_
  have hq2 := hq1.next ho2 hf2
  refine hK _ _ (fun _ => ⟨_, _, hq2⟩) ?_
  (try simp only [Act.put]); (try simp only [List.getElem_toArray]); (try simp only [List.getElem_cons_succ]); (try simp only [List.getElem_cons_zero]); (try simp only [List.setIfInBounds_toArray]); (try simp only [List.set_cons_succ]); (try simp only [List.set_cons_zero])
  clear hK
  refine any_branch [8] (by kernel_rfl) rfl fun ix hix => ?_
  simp only [List.mem_cons, List.not_mem_nil, or_false] at hix
  subst hix
  refine any_op rfl rfl fun K hK => ?_
  go_simp
  refine (in_any n IH.out x _ base _ _ u2 BNx.out BPx.out ((BKx.out.fr hq2.low).sl) hq2.own hq2.sz (by have h0 := HL.out; have hx := BLx.out; (try simp only [Ex.par]); (try simp only [List.length_append]); (try simp only [List.length_cons]); (try simp only [List.length_nil]); omega) BLx.out).mono ?_
  rintro e u3 ⟨v3, rfl, ho3, hf3⟩
  have hq3 := hq2.next ho3 hf3
  refine hK _ _ (fun _ => ⟨_, _, hq3⟩) ?_
  (try simp only [Act.put]); (try simp only [List.getElem_toArray]); (try simp only [List.getElem_cons_succ]); (try simp only [List.getElem_cons_zero]); (try simp only [List.setIfInBounds_toArray]); (try simp only [List.set_cons_succ]); (try simp only [List.set_cons_zero])
  clear hK
  refine any_branch [9] (by kernel_rfl) rfl fun ix hix => ?_
  simp only [List.mem_cons, List.not_mem_nil, or_false] at hix
  subst hix
  refine any_op rfl rfl fun K hK => ?_
  go_simp
  refine hK _ _ (fun _ => ⟨_, _, hq3⟩) ?_
  (try simp only [Act.put]); (try simp only [List.getElem_toArray]); (try simp only [List.getElem_cons_succ]); (try simp only [List.getElem_cons_zero]); (try simp only [List.setIfInBounds_toArray]); (try simp only [List.set_cons_succ]); (try simp only [List.set_cons_zero])
  clear hK
  refine any_end (by kernel_rfl) ?_
  have HP := Bx.mk hq3
  have hsl := hq3.own.sl
  clear hq0 hq1 hq2 hq3 hf1 hf2 hf3 
  obtain ⟨pz, zz, yz, rfl⟩ := hsl
  obtain ⟨c0, c1, c2, c3, _, _, _, _⟩ := cells4 HP.out.e
  go_wp2_with fail
  go_ret
  refine ⟨.slice pz zz yz, rfl, ?_, HP.out.fr⟩
  have h5 := HP.out.own
  unfold Ex.prk
  simp only [List.append_assoc] at h5 ⊢
  simpa using h5
set_option maxHeartbeats 8000000 in
theorem put_1 (n : Nat) (ih : Pw n) (a : Int) (m : Nat) (hm : m < 8) (pp : Option Addr) (cap : Nat) (base : Nat) (v : Value) (l : List UInt8) (w : World)  (ho : OwnB w base v l) (hb : base ≤ w.heap.size) (hl : l.length + 32 * (1 + (0)) ≤ 500000) :
    Calls Try.prog 35 #[v, .agg #[.int .i64 1, .int .i64 a, .int .i64 (m : Int), .slice pp 0 cap]] w fun e w' => ∃ v', e = .returned v' ∧ OwnB w' base v' (l ++ Ex.prk 1 (m : Int) []) ∧ Fr v w v' w' := by
  have hP : PQ base v w (w.alloc (.cells #[.int .i64 1, .int .i64 a, .int .i64 (m : Int), .slice pp 0 cap] 36)) #[.int .i64 1, .int .i64 a, .int .i64 (m : Int), .slice pp 0 cap] v l := PQ.start ho hb
  obtain ⟨c0, c1, c2, c3, _, _, _, _⟩ := cells4 hP.e
  have HP := Bx.mk hP
  have IH := Bx.mk ih
  have HL := Bx.mk hl
  clear hP ih ho hl 
  go_enter Try.func35, Try.ntmps35
  go_wp2_with fail
  refine region_any 100 (fun u => ∃ v' l', PQ base v w u #[.int .i64 1, .int .i64 a, .int .i64 (m : Int), .slice pp 0 cap] v' l') (by kernel_rfl) ?_
  generalize hu : World.drew _ = u0
  have hq0 := HP.out.step ((Below.refl _ _).drew)
  rw [hu] at hq0
  clear hu HP c0 c1 c2 c3
  refine any_take (i := 0) (v) rfl rfl (by kernel_rfl) (by kernel_rfl) (by kernel_rfl) (by kernel_rfl) (fun _ _ d _ _ h => by cases d <;> exact h) (fun u hS => rfl) ⟨_, _, hq0⟩ ?_
  (try simp only [Act.put]); (try simp only [List.getElem_toArray]); (try simp only [List.getElem_cons_succ]); (try simp only [List.getElem_cons_zero]); (try simp only [List.setIfInBounds_toArray]); (try simp only [List.set_cons_succ]); (try simp only [List.set_cons_zero])
  refine any_take (i := 3) (.pointer (some ⟨w.heap.size, 2, none⟩)) rfl rfl (by kernel_rfl) (by kernel_rfl) (by kernel_rfl) (by kernel_rfl) (fun _ _ d _ _ h => by cases d <;> exact h) (fun u hS => rfl) ⟨_, _, hq0⟩ ?_
  (try simp only [Act.put]); (try simp only [List.getElem_toArray]); (try simp only [List.getElem_cons_succ]); (try simp only [List.getElem_cons_zero]); (try simp only [List.setIfInBounds_toArray]); (try simp only [List.set_cons_succ]); (try simp only [List.set_cons_zero])
  refine any_take (i := 4) (.int .i64 (m : Int)) rfl rfl (by kernel_rfl) (by kernel_rfl) (by kernel_rfl) (by kernel_rfl) (fun _ _ d _ _ h => by cases d <;> exact h) (fun u hS => by obtain ⟨v9, l9, q9⟩ := hS; exact exec_loadI rfl rfl (q9.e.cell 2)) ⟨_, _, hq0⟩ ?_
  (try simp only [Act.put]); (try simp only [List.getElem_toArray]); (try simp only [List.getElem_cons_succ]); (try simp only [List.getElem_cons_zero]); (try simp only [List.setIfInBounds_toArray]); (try simp only [List.set_cons_succ]); (try simp only [List.set_cons_zero])
  refine any_branch [1] (by kernel_rfl) rfl fun ix hix => ?_
  simp only [List.mem_cons, List.not_mem_nil, or_false] at hix
  subst hix
  refine any_op rfl rfl fun K hK => ?_
  go_simp
  have hN1 := Fl.new hq0.own 118
  have hf1 := Fr.below (v := v) ((Below.refl u0.heap.size u0).alloc (Nat.le_refl _) (.cells #[.int .u8 118] 5))
  have hq1 := hq0.step ((Below.refl _ _).alloc (Nat.le_refl _) (.cells #[.int .u8 118] 5))
  change Fl (u0.alloc (.cells #[.int .u8 118] 5)) _ _ _ at hN1
  generalize u0.heap.size = pn1 at hN1 ⊢
  generalize u0.alloc (.cells #[.int .u8 118] 5) = u1 at hN1 hq1 hf1 ⊢
  refine hK _ _ (fun _ => ⟨_, _, hq1⟩) ?_
  (try simp only [Act.put]); (try simp only [List.getElem_toArray]); (try simp only [List.getElem_cons_succ]); (try simp only [List.getElem_cons_zero]); (try simp only [List.setIfInBounds_toArray]); (try simp only [List.set_cons_succ]); (try simp only [List.set_cons_zero])
  clear hK
  refine any_branch [2] (by kernel_rfl) rfl fun ix hix => ?_
  simp only [List.mem_cons, List.not_mem_nil, or_false] at hix
  subst hix
  refine any_op rfl rfl fun K hK => ?_
  obtain ⟨v2, u2, hr2, ho2, hf2⟩ := hq1.own.put_one pn1 1 118 (hN1.blk.cell 0) (by have h0 := HL.out; (try simp only [Ex.par]); (try simp only [List.length_append]); (try simp only [List.length_cons]); (try simp only [List.length_nil]); omega) hq1.sz 22
  refine wp_app _ _ _ _ hr2 rfl rfl rfl ?_
  have hq2 := hq1.next ho2 hf2
  refine hK _ _ (fun _ => ⟨_, _, hq2⟩) ?_
  (try simp only [Act.put]); (try simp only [List.getElem_toArray]); (try simp only [List.getElem_cons_succ]); (try simp only [List.getElem_cons_zero]); (try simp only [List.setIfInBounds_toArray]); (try simp only [List.set_cons_succ]); (try simp only [List.set_cons_zero])
  clear hK
  refine any_branch [5] (by kernel_rfl) rfl fun ix hix => ?_
  simp only [List.mem_cons, List.not_mem_nil, or_false] at hix
  subst hix
  refine any_op rfl rfl fun K hK => ?_
  go_simp
  refine (digit_any m (by omega) _).mono ?_
  rintro e u3 ⟨rfl, hbd3⟩
  have hf3 := Fr.below (v := v2) hbd3
  have hq3 := hq2.step hbd3
  refine hK _ _ (fun _ => ⟨_, _, hq3⟩) ?_
  (try simp only [Act.put]); (try simp only [List.getElem_toArray]); (try simp only [List.getElem_cons_succ]); (try simp only [List.getElem_cons_zero]); (try simp only [List.setIfInBounds_toArray]); (try simp only [List.set_cons_succ]); (try simp only [List.set_cons_zero])
  clear hK
  refine any_branch [6] (by kernel_rfl) rfl fun ix hix => ?_
  simp only [List.mem_cons, List.not_mem_nil, or_false] at hix
  subst hix
  refine any_op rfl rfl fun K hK => ?_
  have hls4 : ((strOf [48 + m]) : ByteArray).data.toList = [Ex.dig (m : Int)] := dig_of m
  obtain ⟨v4, u4, hr4, ho4, hf4⟩ := hq3.own.put_str (strOf [48 + m]) (by rw [size_lst, hls4]; exact (by have h0 := HL.out; (try simp only [Ex.par]); (try simp only [List.length_append]); (try simp only [List.length_cons]); (try simp only [List.length_nil]); omega)) hq3.sz 22
  rw [hls4] at ho4
  refine wp_app _ _ _ _ hr4 rfl rfl rfl ?_
  have hq4 := hq3.next ho4 hf4
  refine hK _ _ (fun _ => ⟨_, _, hq4⟩) ?_
  (try simp only [Act.put]); (try simp only [List.getElem_toArray]); (try simp only [List.getElem_cons_succ]); (try simp only [List.getElem_cons_zero]); (try simp only [List.setIfInBounds_toArray]); (try simp only [List.set_cons_succ]); (try simp only [List.set_cons_zero])
  clear hK
  refine any_branch [7] (by kernel_rfl) rfl fun ix hix => ?_
  simp only [List.mem_cons, List.not_mem_nil, or_false] at hix
  subst hix
  refine any_op rfl rfl fun K hK => ?_
  go_simp
  refine hK _ _ (fun _ => ⟨_, _, hq4⟩) ?_
  (try simp only [Act.put]); (try simp only [List.getElem_toArray]); (try simp only [List.getElem_cons_succ]); (try simp only [List.getElem_cons_zero]); (try simp only [List.setIfInBounds_toArray]); (try simp only [List.set_cons_succ]); (try simp only [List.set_cons_zero])
  clear hK
  refine any_end (by kernel_rfl) ?_
  have HP := Bx.mk hq4
  have hsl := hq4.own.sl
  clear hq0 hq1 hq2 hq3 hq4 hf1 hf2 hf3 hf4 
  obtain ⟨pz, zz, yz, rfl⟩ := hsl
  obtain ⟨c0, c1, c2, c3, _, _, _, _⟩ := cells4 HP.out.e
  go_wp2_with fail
  go_ret
  refine ⟨.slice pz zz yz, rfl, ?_, HP.out.fr⟩
  have h5 := HP.out.own
  unfold Ex.prk
  simp only [List.append_assoc] at h5 ⊢
  simpa using h5
set_option maxHeartbeats 8000000 in
theorem put_2 (n : Nat) (ih : Pw n) (a : Int) (m : Nat) (hm : m < 8) (pp : Option Addr) (cap : Nat) (base : Nat) (v : Value) (l : List UInt8) (w : World)  (ho : OwnB w base v l) (hb : base ≤ w.heap.size) (hl : l.length + 32 * (1 + (0)) ≤ 500000) :
    Calls Try.prog 35 #[v, .agg #[.int .i64 2, .int .i64 a, .int .i64 (m : Int), .slice pp 0 cap]] w fun e w' => ∃ v', e = .returned v' ∧ OwnB w' base v' (l ++ Ex.prk 2 (m : Int) []) ∧ Fr v w v' w' := by
  have hP : PQ base v w (w.alloc (.cells #[.int .i64 2, .int .i64 a, .int .i64 (m : Int), .slice pp 0 cap] 36)) #[.int .i64 2, .int .i64 a, .int .i64 (m : Int), .slice pp 0 cap] v l := PQ.start ho hb
  obtain ⟨c0, c1, c2, c3, _, _, _, _⟩ := cells4 hP.e
  have HP := Bx.mk hP
  have IH := Bx.mk ih
  have HL := Bx.mk hl
  clear hP ih ho hl 
  go_enter Try.func35, Try.ntmps35
  go_wp2_with fail
  refine (digit_any m (by omega) _).mono ?_
  rintro e u1 ⟨rfl, hbd1⟩
  have hq1 := HP.out.step hbd1
  obtain ⟨v2, u2, hr2, ho2, hf2⟩ := hq1.own.put_str (strOf [48 + m]) (by rw [size_lst, dig_of]; exact (by have h0 := HL.out; (try simp only [Ex.par]); (try simp only [List.length_append]); (try simp only [List.length_cons]); (try simp only [List.length_nil]); omega)) hq1.sz 22
  rw [dig_of] at ho2
  have HP2 := Bx.mk (hq1.next ho2 hf2)
  clear c0 c1 c2 c3 hbd1 hq1 ho2 hf2
  go_wp2_with (refine wpList_app _ _ _ _ hr2 rfl rfl rfl rfl ?_)
  clear hr2
  have hsl2 := HP2.out.own.sl
  obtain ⟨p2, z2, y2, rfl⟩ := hsl2
  obtain ⟨c0, c1, c2, c3, _, _, _, _⟩ := cells4 HP2.out.e
  go_wp2_with fail
  go_ret
  refine ⟨.slice p2 z2 y2, rfl, ?_, HP2.out.fr⟩
  have h5 := HP2.out.own
  unfold Ex.prk
  simpa using h5
set_option maxHeartbeats 8000000 in
theorem put_10 (n : Nat) (ih : Pw n) (a : Int) (m : Nat) (hm : m < 8) (b o cap : Nat) (base : Nat) (v : Value) (l : List UInt8) (w : World) (x : Tr) (sx : Value) (Kx : KidB w base b o x sx) (Nx : (x.on .nil).nodes ≤ n) (Px : (x.on .nil).allPlain = true) (ho : OwnB w base v l) (hb : base ≤ w.heap.size) (hl : l.length + 32 * (1 + ((x.on .nil).nodes)) ≤ 500000) :
    Calls Try.prog 35 #[v, .agg #[.int .i64 10, .int .i64 a, .int .i64 (m : Int), .slice (some ⟨b, o, none⟩) 1 cap]] w fun e w' => ∃ v', e = .returned v' ∧ OwnB w' base v' (l ++ Ex.prk 10 (m : Int) [Ex.pr x]) ∧ Fr v w v' w' := by
  have hP : PQ base v w (w.alloc (.cells #[.int .i64 10, .int .i64 a, .int .i64 (m : Int), .slice (some ⟨b, o, none⟩) 1 cap] 36)) #[.int .i64 10, .int .i64 a, .int .i64 (m : Int), .slice (some ⟨b, o, none⟩) 1 cap] v l := PQ.start ho hb
  obtain ⟨c0, c1, c2, c3, _, _, _, _⟩ := cells4 hP.e
  have HP := Bx.mk hP
  have IH := Bx.mk ih
  have HL := Bx.mk hl
  have BKx := Bx.mk Kx
  have BNx := Bx.mk Nx
  have BPx := Bx.mk Px
  have BLx := Bx.mk (pr_len x)
  clear hP ih ho hl Kx Nx Px
  go_enter Try.func35, Try.ntmps35
  go_wp2_with fail
  refine region_any 100 (fun u => ∃ v' l', PQ base v w u #[.int .i64 10, .int .i64 a, .int .i64 (m : Int), .slice (some ⟨b, o, none⟩) 1 cap] v' l') (by kernel_rfl) ?_
  generalize hu : World.drew _ = u0
  have hq0 := HP.out.step ((Below.refl _ _).drew)
  rw [hu] at hq0
  clear hu HP c0 c1 c2 c3
  refine any_take (i := 0) (.func (.func 53) #[] #[]) rfl rfl (by kernel_rfl) (by kernel_rfl) (by kernel_rfl) (by kernel_rfl) (fun _ _ d _ _ h => by cases d <;> exact h) (fun u hS => rfl) ⟨_, _, hq0⟩ ?_
  (try simp only [Act.put]); (try simp only [List.getElem_toArray]); (try simp only [List.getElem_cons_succ]); (try simp only [List.getElem_cons_zero]); (try simp only [List.setIfInBounds_toArray]); (try simp only [List.set_cons_succ]); (try simp only [List.set_cons_zero])
  refine any_take (i := 1) (v) rfl rfl (by kernel_rfl) (by kernel_rfl) (by kernel_rfl) (by kernel_rfl) (fun _ _ d _ _ h => by cases d <;> exact h) (fun u hS => rfl) ⟨_, _, hq0⟩ ?_
  (try simp only [Act.put]); (try simp only [List.getElem_toArray]); (try simp only [List.getElem_cons_succ]); (try simp only [List.getElem_cons_zero]); (try simp only [List.setIfInBounds_toArray]); (try simp only [List.set_cons_succ]); (try simp only [List.set_cons_zero])
  refine any_take (i := 2) (.pointer (some ⟨w.heap.size, 2, none⟩)) rfl rfl (by kernel_rfl) (by kernel_rfl) (by kernel_rfl) (by kernel_rfl) (fun _ _ d _ _ h => by cases d <;> exact h) (fun u hS => rfl) ⟨_, _, hq0⟩ ?_
  (try simp only [Act.put]); (try simp only [List.getElem_toArray]); (try simp only [List.getElem_cons_succ]); (try simp only [List.getElem_cons_zero]); (try simp only [List.setIfInBounds_toArray]); (try simp only [List.set_cons_succ]); (try simp only [List.set_cons_zero])
  refine any_take (i := 3) (.int .i64 (m : Int)) rfl rfl (by kernel_rfl) (by kernel_rfl) (by kernel_rfl) (by kernel_rfl) (fun _ _ d _ _ h => by cases d <;> exact h) (fun u hS => by obtain ⟨v9, l9, q9⟩ := hS; exact exec_loadI rfl rfl (q9.e.cell 2)) ⟨_, _, hq0⟩ ?_
  (try simp only [Act.put]); (try simp only [List.getElem_toArray]); (try simp only [List.getElem_cons_succ]); (try simp only [List.getElem_cons_zero]); (try simp only [List.setIfInBounds_toArray]); (try simp only [List.set_cons_succ]); (try simp only [List.set_cons_zero])
  refine any_take (i := 8) (.pointer (some ⟨w.heap.size, 3, none⟩)) rfl rfl (by kernel_rfl) (by kernel_rfl) (by kernel_rfl) (by kernel_rfl) (fun _ _ d _ _ h => by cases d <;> exact h) (fun u hS => rfl) ⟨_, _, hq0⟩ ?_
  (try simp only [Act.put]); (try simp only [List.getElem_toArray]); (try simp only [List.getElem_cons_succ]); (try simp only [List.getElem_cons_zero]); (try simp only [List.setIfInBounds_toArray]); (try simp only [List.set_cons_succ]); (try simp only [List.set_cons_zero])
  refine any_take (i := 9) (.slice (some ⟨b, o, none⟩) 1 cap) rfl rfl (by kernel_rfl) (by kernel_rfl) (by kernel_rfl) (by kernel_rfl) (fun _ _ d _ _ h => by cases d <;> exact h) (fun u hS => by obtain ⟨v9, l9, q9⟩ := hS; exact exec_loadS rfl rfl (q9.e.cell 3)) ⟨_, _, hq0⟩ ?_
  (try simp only [Act.put]); (try simp only [List.getElem_toArray]); (try simp only [List.getElem_cons_succ]); (try simp only [List.getElem_cons_zero]); (try simp only [List.setIfInBounds_toArray]); (try simp only [List.set_cons_succ]); (try simp only [List.set_cons_zero])
  refine any_take (i := 10) (.pointer (some ⟨b, o, none⟩)) rfl rfl (by kernel_rfl) (by kernel_rfl) (by kernel_rfl) (by kernel_rfl) (fun _ _ d _ _ h => by cases d <;> exact h) (fun u hS => exec_ix01 rfl rfl rfl) ⟨_, _, hq0⟩ ?_
  (try simp only [Act.put]); (try simp only [List.getElem_toArray]); (try simp only [List.getElem_cons_succ]); (try simp only [List.getElem_cons_zero]); (try simp only [List.setIfInBounds_toArray]); (try simp only [List.set_cons_succ]); (try simp only [List.set_cons_zero])
  refine any_take (i := 11) (Ev x sx) rfl rfl (by kernel_rfl) (by kernel_rfl) (by kernel_rfl) (by kernel_rfl) (fun _ _ d _ _ h => by cases d <;> exact h) (fun u hS => by obtain ⟨v9, l9, q9⟩ := hS; have kk := BKx.out.fr q9.low; exact exec_loadX rfl rfl kk.c0 kk.c1 kk.c2 kk.c3) ⟨_, _, hq0⟩ ?_
  (try simp only [Act.put]); (try simp only [List.getElem_toArray]); (try simp only [List.getElem_cons_succ]); (try simp only [List.getElem_cons_zero]); (try simp only [List.setIfInBounds_toArray]); (try simp only [List.set_cons_succ]); (try simp only [List.set_cons_zero])
  refine any_branch [4] (by kernel_rfl) rfl fun ix hix => ?_
  simp only [List.mem_cons, List.not_mem_nil, or_false] at hix
  subst hix
  refine any_op rfl rfl fun K hK => ?_
  go_simp
  refine (digit_any m (by omega) _).mono ?_
  rintro e u1 ⟨rfl, hbd1⟩
  have hf1 := Fr.below (v := v) hbd1
  have hq1 := hq0.step hbd1
  refine hK _ _ (fun _ => ⟨_, _, hq1⟩) ?_
  (try simp only [Act.put]); (try simp only [List.getElem_toArray]); (try simp only [List.getElem_cons_succ]); (try simp only [List.getElem_cons_zero]); (try simp only [List.setIfInBounds_toArray]); (try simp only [List.set_cons_succ]); (try simp only [List.set_cons_zero])
  clear hK
  refine any_take (i := 5) (.string ({ data := #[97, 108, 108, 32, 118] } ++ strOf [48 + m])) rfl rfl (by kernel_rfl) (by kernel_rfl) (by kernel_rfl) (by kernel_rfl) (fun _ _ d _ _ h => by cases d <;> exact h) (fun u hS => exec_addS rfl rfl rfl (by rw [strOf_size]; show 5 + 1 ≤ 1000000; omega)) ⟨_, _, hq1⟩ ?_
  (try simp only [Act.put]); (try simp only [List.getElem_toArray]); (try simp only [List.getElem_cons_succ]); (try simp only [List.getElem_cons_zero]); (try simp only [List.setIfInBounds_toArray]); (try simp only [List.set_cons_succ]); (try simp only [List.set_cons_zero])
  refine any_take (i := 6) (.string (({ data := #[97, 108, 108, 32, 118] } ++ strOf [48 + m]) ++ { data := #[32] })) rfl rfl (by kernel_rfl) (by kernel_rfl) (by kernel_rfl) (by kernel_rfl) (fun _ _ d _ _ h => by cases d <;> exact h) (fun u hS => exec_addS rfl rfl rfl (by rw [ByteArray.size_append, strOf_size]; show 5 + 1 + 1 ≤ 1000000; omega)) ⟨_, _, hq1⟩ ?_
  (try simp only [Act.put]); (try simp only [List.getElem_toArray]); (try simp only [List.getElem_cons_succ]); (try simp only [List.getElem_cons_zero]); (try simp only [List.setIfInBounds_toArray]); (try simp only [List.set_cons_succ]); (try simp only [List.set_cons_zero])
  refine any_branch [7] (by kernel_rfl) rfl fun ix hix => ?_
  simp only [List.mem_cons, List.not_mem_nil, or_false] at hix
  subst hix
  refine any_op rfl rfl fun K hK => ?_
  have hls2 : ((({ data := #[97, 108, 108, 32, 118] } ++ strOf [48 + m]) ++ { data := #[32] }) : ByteArray).data.toList = [97, 108, 108, 32, 118] ++ [Ex.dig (m : Int)] ++ [32] := by rw [lst3, dig_of]
  obtain ⟨v2, u2, hr2, ho2, hf2⟩ := hq1.own.put_str (({ data := #[97, 108, 108, 32, 118] } ++ strOf [48 + m]) ++ { data := #[32] }) (by rw [size_lst, hls2]; exact (by have h0 := HL.out; have hx := BLx.out; (try simp only [Ex.par]); (try simp only [List.length_append]); (try simp only [List.length_cons]); (try simp only [List.length_nil]); omega)) hq1.sz 22
  rw [hls2] at ho2
  refine wp_app _ _ _ _ hr2 rfl rfl rfl ?_
  have hq2 := hq1.next ho2 hf2
  refine hK _ _ (fun _ => ⟨_, _, hq2⟩) ?_
  (try simp only [Act.put]); (try simp only [List.getElem_toArray]); (try simp only [List.getElem_cons_succ]); (try simp only [List.getElem_cons_zero]); (try simp only [List.setIfInBounds_toArray]); (try simp only [List.set_cons_succ]); (try simp only [List.set_cons_zero])
  clear hK
  refine any_branch [12] (by kernel_rfl) rfl fun ix hix => ?_
  simp only [List.mem_cons, List.not_mem_nil, or_false] at hix
  subst hix
  refine any_op rfl rfl fun K hK => ?_
  go_simp
  refine (in_any n IH.out x _ base _ _ u2 BNx.out BPx.out ((BKx.out.fr hq2.low).sl) hq2.own hq2.sz (by have h0 := HL.out; have hx := BLx.out; (try simp only [Ex.par]); (try simp only [List.length_append]); (try simp only [List.length_cons]); (try simp only [List.length_nil]); omega) BLx.out).mono ?_
  rintro e u3 ⟨v3, rfl, ho3, hf3⟩
  have hq3 := hq2.next ho3 hf3
  refine hK _ _ (fun _ => ⟨_, _, hq3⟩) ?_
  (try simp only [Act.put]); (try simp only [List.getElem_toArray]); (try simp only [List.getElem_cons_succ]); (try simp only [List.getElem_cons_zero]); (try simp only [List.setIfInBounds_toArray]); (try simp only [List.set_cons_succ]); (try simp only [List.set_cons_zero])
  clear hK
  refine any_branch [13] (by kernel_rfl) rfl fun ix hix => ?_
  simp only [List.mem_cons, List.not_mem_nil, or_false] at hix
  subst hix
  refine any_op rfl rfl fun K hK => ?_
  go_simp
  refine hK _ _ (fun _ => ⟨_, _, hq3⟩) ?_
  (try simp only [Act.put]); (try simp only [List.getElem_toArray]); (try simp only [List.getElem_cons_succ]); (try simp only [List.getElem_cons_zero]); (try simp only [List.setIfInBounds_toArray]); (try simp only [List.set_cons_succ]); (try simp only [List.set_cons_zero])
  clear hK
  refine any_end (by kernel_rfl) ?_
  have HP := Bx.mk hq3
  have hsl := hq3.own.sl
  clear hq0 hq1 hq2 hq3 hf1 hf2 hf3 
  obtain ⟨pz, zz, yz, rfl⟩ := hsl
  obtain ⟨c0, c1, c2, c3, _, _, _, _⟩ := cells4 HP.out.e
  go_wp2_with fail
  go_ret
  refine ⟨.slice pz zz yz, rfl, ?_, HP.out.fr⟩
  have h5 := HP.out.own
  unfold Ex.prk
  simp only [List.append_assoc] at h5 ⊢
  simpa using h5
set_option maxHeartbeats 8000000 in
theorem put_11 (n : Nat) (ih : Pw n) (a : Int) (m : Nat) (hm : m < 8) (b o cap : Nat) (base : Nat) (v : Value) (l : List UInt8) (w : World) (x : Tr) (sx : Value) (Kx : KidB w base b o x sx) (Nx : (x.on .nil).nodes ≤ n) (Px : (x.on .nil).allPlain = true) (ho : OwnB w base v l) (hb : base ≤ w.heap.size) (hl : l.length + 32 * (1 + ((x.on .nil).nodes)) ≤ 500000) :
    Calls Try.prog 35 #[v, .agg #[.int .i64 11, .int .i64 a, .int .i64 (m : Int), .slice (some ⟨b, o, none⟩) 1 cap]] w fun e w' => ∃ v', e = .returned v' ∧ OwnB w' base v' (l ++ Ex.prk 11 (m : Int) [Ex.pr x]) ∧ Fr v w v' w' := by
  have hP : PQ base v w (w.alloc (.cells #[.int .i64 11, .int .i64 a, .int .i64 (m : Int), .slice (some ⟨b, o, none⟩) 1 cap] 36)) #[.int .i64 11, .int .i64 a, .int .i64 (m : Int), .slice (some ⟨b, o, none⟩) 1 cap] v l := PQ.start ho hb
  obtain ⟨c0, c1, c2, c3, _, _, _, _⟩ := cells4 hP.e
  have HP := Bx.mk hP
  have IH := Bx.mk ih
  have HL := Bx.mk hl
  have BKx := Bx.mk Kx
  have BNx := Bx.mk Nx
  have BPx := Bx.mk Px
  have BLx := Bx.mk (pr_len x)
  clear hP ih ho hl Kx Nx Px
  go_enter Try.func35, Try.ntmps35
  go_wp2_with fail
  refine region_any 100 (fun u => ∃ v' l', PQ base v w u #[.int .i64 11, .int .i64 a, .int .i64 (m : Int), .slice (some ⟨b, o, none⟩) 1 cap] v' l') (by kernel_rfl) ?_
  generalize hu : World.drew _ = u0
  have hq0 := HP.out.step ((Below.refl _ _).drew)
  rw [hu] at hq0
  clear hu HP c0 c1 c2 c3
  refine any_take (i := 0) (.func (.func 53) #[] #[]) rfl rfl (by kernel_rfl) (by kernel_rfl) (by kernel_rfl) (by kernel_rfl) (fun _ _ d _ _ h => by cases d <;> exact h) (fun u hS => rfl) ⟨_, _, hq0⟩ ?_
  (try simp only [Act.put]); (try simp only [List.getElem_toArray]); (try simp only [List.getElem_cons_succ]); (try simp only [List.getElem_cons_zero]); (try simp only [List.setIfInBounds_toArray]); (try simp only [List.set_cons_succ]); (try simp only [List.set_cons_zero])
  refine any_take (i := 1) (v) rfl rfl (by kernel_rfl) (by kernel_rfl) (by kernel_rfl) (by kernel_rfl) (fun _ _ d _ _ h => by cases d <;> exact h) (fun u hS => rfl) ⟨_, _, hq0⟩ ?_
  (try simp only [Act.put]); (try simp only [List.getElem_toArray]); (try simp only [List.getElem_cons_succ]); (try simp only [List.getElem_cons_zero]); (try simp only [List.setIfInBounds_toArray]); (try simp only [List.set_cons_succ]); (try simp only [List.set_cons_zero])
  refine any_take (i := 2) (.pointer (some ⟨w.heap.size, 2, none⟩)) rfl rfl (by kernel_rfl) (by kernel_rfl) (by kernel_rfl) (by kernel_rfl) (fun _ _ d _ _ h => by cases d <;> exact h) (fun u hS => rfl) ⟨_, _, hq0⟩ ?_
  (try simp only [Act.put]); (try simp only [List.getElem_toArray]); (try simp only [List.getElem_cons_succ]); (try simp only [List.getElem_cons_zero]); (try simp only [List.setIfInBounds_toArray]); (try simp only [List.set_cons_succ]); (try simp only [List.set_cons_zero])
  refine any_take (i := 3) (.int .i64 (m : Int)) rfl rfl (by kernel_rfl) (by kernel_rfl) (by kernel_rfl) (by kernel_rfl) (fun _ _ d _ _ h => by cases d <;> exact h) (fun u hS => by obtain ⟨v9, l9, q9⟩ := hS; exact exec_loadI rfl rfl (q9.e.cell 2)) ⟨_, _, hq0⟩ ?_
  (try simp only [Act.put]); (try simp only [List.getElem_toArray]); (try simp only [List.getElem_cons_succ]); (try simp only [List.getElem_cons_zero]); (try simp only [List.setIfInBounds_toArray]); (try simp only [List.set_cons_succ]); (try simp only [List.set_cons_zero])
  refine any_take (i := 8) (.pointer (some ⟨w.heap.size, 3, none⟩)) rfl rfl (by kernel_rfl) (by kernel_rfl) (by kernel_rfl) (by kernel_rfl) (fun _ _ d _ _ h => by cases d <;> exact h) (fun u hS => rfl) ⟨_, _, hq0⟩ ?_
  (try simp only [Act.put]); (try simp only [List.getElem_toArray]); (try simp only [List.getElem_cons_succ]); (try simp only [List.getElem_cons_zero]); (try simp only [List.setIfInBounds_toArray]); (try simp only [List.set_cons_succ]); (try simp only [List.set_cons_zero])
  refine any_take (i := 9) (.slice (some ⟨b, o, none⟩) 1 cap) rfl rfl (by kernel_rfl) (by kernel_rfl) (by kernel_rfl) (by kernel_rfl) (fun _ _ d _ _ h => by cases d <;> exact h) (fun u hS => by obtain ⟨v9, l9, q9⟩ := hS; exact exec_loadS rfl rfl (q9.e.cell 3)) ⟨_, _, hq0⟩ ?_
  (try simp only [Act.put]); (try simp only [List.getElem_toArray]); (try simp only [List.getElem_cons_succ]); (try simp only [List.getElem_cons_zero]); (try simp only [List.setIfInBounds_toArray]); (try simp only [List.set_cons_succ]); (try simp only [List.set_cons_zero])
  refine any_take (i := 10) (.pointer (some ⟨b, o, none⟩)) rfl rfl (by kernel_rfl) (by kernel_rfl) (by kernel_rfl) (by kernel_rfl) (fun _ _ d _ _ h => by cases d <;> exact h) (fun u hS => exec_ix01 rfl rfl rfl) ⟨_, _, hq0⟩ ?_
  (try simp only [Act.put]); (try simp only [List.getElem_toArray]); (try simp only [List.getElem_cons_succ]); (try simp only [List.getElem_cons_zero]); (try simp only [List.setIfInBounds_toArray]); (try simp only [List.set_cons_succ]); (try simp only [List.set_cons_zero])
  refine any_take (i := 11) (Ev x sx) rfl rfl (by kernel_rfl) (by kernel_rfl) (by kernel_rfl) (by kernel_rfl) (fun _ _ d _ _ h => by cases d <;> exact h) (fun u hS => by obtain ⟨v9, l9, q9⟩ := hS; have kk := BKx.out.fr q9.low; exact exec_loadX rfl rfl kk.c0 kk.c1 kk.c2 kk.c3) ⟨_, _, hq0⟩ ?_
  (try simp only [Act.put]); (try simp only [List.getElem_toArray]); (try simp only [List.getElem_cons_succ]); (try simp only [List.getElem_cons_zero]); (try simp only [List.setIfInBounds_toArray]); (try simp only [List.set_cons_succ]); (try simp only [List.set_cons_zero])
  refine any_branch [4] (by kernel_rfl) rfl fun ix hix => ?_
  simp only [List.mem_cons, List.not_mem_nil, or_false] at hix
  subst hix
  refine any_op rfl rfl fun K hK => ?_
  go_simp
  refine (digit_any m (by omega) _).mono ?_
  rintro e u1 ⟨rfl, hbd1⟩
  have hf1 := Fr.below (v := v) hbd1
  have hq1 := hq0.step hbd1
  refine hK _ _ (fun _ => ⟨_, _, hq1⟩) ?_
  (try simp only [Act.put]); (try simp only [List.getElem_toArray]); (try simp only [List.getElem_cons_succ]); (try simp only [List.getElem_cons_zero]); (try simp only [List.setIfInBounds_toArray]); (try simp only [List.set_cons_succ]); (try simp only [List.set_cons_zero])
  clear hK
  refine any_take (i := 5) (.string ({ data := #[97, 110, 121, 32, 118] } ++ strOf [48 + m])) rfl rfl (by kernel_rfl) (by kernel_rfl) (by kernel_rfl) (by kernel_rfl) (fun _ _ d _ _ h => by cases d <;> exact h) (fun u hS => exec_addS rfl rfl rfl (by rw [strOf_size]; show 5 + 1 ≤ 1000000; omega)) ⟨_, _, hq1⟩ ?_
  (try simp only [Act.put]); (try simp only [List.getElem_toArray]); (try simp only [List.getElem_cons_succ]); (try simp only [List.getElem_cons_zero]); (try simp only [List.setIfInBounds_toArray]); (try simp only [List.set_cons_succ]); (try simp only [List.set_cons_zero])
  refine any_take (i := 6) (.string (({ data := #[97, 110, 121, 32, 118] } ++ strOf [48 + m]) ++ { data := #[32] })) rfl rfl (by kernel_rfl) (by kernel_rfl) (by kernel_rfl) (by kernel_rfl) (fun _ _ d _ _ h => by cases d <;> exact h) (fun u hS => exec_addS rfl rfl rfl (by rw [ByteArray.size_append, strOf_size]; show 5 + 1 + 1 ≤ 1000000; omega)) ⟨_, _, hq1⟩ ?_
  (try simp only [Act.put]); (try simp only [List.getElem_toArray]); (try simp only [List.getElem_cons_succ]); (try simp only [List.getElem_cons_zero]); (try simp only [List.setIfInBounds_toArray]); (try simp only [List.set_cons_succ]); (try simp only [List.set_cons_zero])
  refine any_branch [7] (by kernel_rfl) rfl fun ix hix => ?_
  simp only [List.mem_cons, List.not_mem_nil, or_false] at hix
  subst hix
  refine any_op rfl rfl fun K hK => ?_
  have hls2 : ((({ data := #[97, 110, 121, 32, 118] } ++ strOf [48 + m]) ++ { data := #[32] }) : ByteArray).data.toList = [97, 110, 121, 32, 118] ++ [Ex.dig (m : Int)] ++ [32] := by rw [lst3, dig_of]
  obtain ⟨v2, u2, hr2, ho2, hf2⟩ := hq1.own.put_str (({ data := #[97, 110, 121, 32, 118] } ++ strOf [48 + m]) ++ { data := #[32] }) (by rw [size_lst, hls2]; exact (by have h0 := HL.out; have hx := BLx.out; (try simp only [Ex.par]); (try simp only [List.length_append]); (try simp only [List.length_cons]); (try simp only [List.length_nil]); omega)) hq1.sz 22
  rw [hls2] at ho2
  refine wp_app _ _ _ _ hr2 rfl rfl rfl ?_
  have hq2 := hq1.next ho2 hf2
  refine hK _ _ (fun _ => ⟨_, _, hq2⟩) ?_
  (try simp only [Act.put]); (try simp only [List.getElem_toArray]); (try simp only [List.getElem_cons_succ]); (try simp only [List.getElem_cons_zero]); (try simp only [List.setIfInBounds_toArray]); (try simp only [List.set_cons_succ]); (try simp only [List.set_cons_zero])
  clear hK
  refine any_branch [12] (by kernel_rfl) rfl fun ix hix => ?_
  simp only [List.mem_cons, List.not_mem_nil, or_false] at hix
  subst hix
  refine any_op rfl rfl fun K hK => ?_
  go_simp
  refine (in_any n IH.out x _ base _ _ u2 BNx.out BPx.out ((BKx.out.fr hq2.low).sl) hq2.own hq2.sz (by have h0 := HL.out; have hx := BLx.out; (try simp only [Ex.par]); (try simp only [List.length_append]); (try simp only [List.length_cons]); (try simp only [List.length_nil]); omega) BLx.out).mono ?_
  rintro e u3 ⟨v3, rfl, ho3, hf3⟩
  have hq3 := hq2.next ho3 hf3
  refine hK _ _ (fun _ => ⟨_, _, hq3⟩) ?_
  (try simp only [Act.put]); (try simp only [List.getElem_toArray]); (try simp only [List.getElem_cons_succ]); (try simp only [List.getElem_cons_zero]); (try simp only [List.setIfInBounds_toArray]); (try simp only [List.set_cons_succ]); (try simp only [List.set_cons_zero])
  clear hK
  refine any_branch [13] (by kernel_rfl) rfl fun ix hix => ?_
  simp only [List.mem_cons, List.not_mem_nil, or_false] at hix
  subst hix
  refine any_op rfl rfl fun K hK => ?_
  go_simp
  refine hK _ _ (fun _ => ⟨_, _, hq3⟩) ?_
  (try simp only [Act.put]); (try simp only [List.getElem_toArray]); (try simp only [List.getElem_cons_succ]); (try simp only [List.getElem_cons_zero]); (try simp only [List.setIfInBounds_toArray]); (try simp only [List.set_cons_succ]); (try simp only [List.set_cons_zero])
  clear hK
  refine any_end (by kernel_rfl) ?_
  have HP := Bx.mk hq3
  have hsl := hq3.own.sl
  clear hq0 hq1 hq2 hq3 hf1 hf2 hf3 
  obtain ⟨pz, zz, yz, rfl⟩ := hsl
  obtain ⟨c0, c1, c2, c3, _, _, _, _⟩ := cells4 HP.out.e
  go_wp2_with fail
  go_ret
  refine ⟨.slice pz zz yz, rfl, ?_, HP.out.fr⟩
  have h5 := HP.out.own
  unfold Ex.prk
  simp only [List.append_assoc] at h5 ⊢
  simpa using h5
set_option maxHeartbeats 8000000 in
theorem put_9 (n : Nat) (ih : Pw n) (a : Int) (vv : Int) (b o cap : Nat) (base : Nat) (v : Value) (l : List UInt8) (w : World) (x : Tr) (sx : Value) (Kx : KidB w base b o x sx) (Nx : (x.on .nil).nodes ≤ n) (Px : (x.on .nil).allPlain = true) (y : Tr) (sy : Value) (Ky : KidB w base b (o + 4) y sy) (Ny : (y.on .nil).nodes ≤ n) (Py : (y.on .nil).allPlain = true) (z : Tr) (sz : Value) (Kz : KidB w base b (o + 8) z sz) (Nz : (z.on .nil).nodes ≤ n) (Pz : (z.on .nil).allPlain = true) (ho : OwnB w base v l) (hb : base ≤ w.heap.size) (hl : l.length + 32 * (1 + ((x.on .nil).nodes + (y.on .nil).nodes + (z.on .nil).nodes)) ≤ 500000) :
    Calls Try.prog 35 #[v, .agg #[.int .i64 9, .int .i64 a, .int .i64 vv, .slice (some ⟨b, o, none⟩) 3 cap]] w fun e w' => ∃ v', e = .returned v' ∧ OwnB w' base v' (l ++ Ex.prk 9 vv [Ex.pr x, Ex.pr y, Ex.pr z]) ∧ Fr v w v' w' := by
  have hP : PQ base v w (w.alloc (.cells #[.int .i64 9, .int .i64 a, .int .i64 vv, .slice (some ⟨b, o, none⟩) 3 cap] 36)) #[.int .i64 9, .int .i64 a, .int .i64 vv, .slice (some ⟨b, o, none⟩) 3 cap] v l := PQ.start ho hb
  obtain ⟨c0, c1, c2, c3, _, _, _, _⟩ := cells4 hP.e
  have HP := Bx.mk hP
  have IH := Bx.mk ih
  have HL := Bx.mk hl
  have BKx := Bx.mk Kx
  have BNx := Bx.mk Nx
  have BPx := Bx.mk Px
  have BLx := Bx.mk (pr_len x)
  have BKy := Bx.mk Ky
  have BNy := Bx.mk Ny
  have BPy := Bx.mk Py
  have BLy := Bx.mk (pr_len y)
  have BKz := Bx.mk Kz
  have BNz := Bx.mk Nz
  have BPz := Bx.mk Pz
  have BLz := Bx.mk (pr_len z)
  clear hP ih ho hl Kx Nx Px Ky Ny Py Kz Nz Pz
  go_enter Try.func35, Try.ntmps35
  go_wp2_with fail
  refine region_any 100 (fun u => ∃ v' l', PQ base v w u #[.int .i64 9, .int .i64 a, .int .i64 vv, .slice (some ⟨b, o, none⟩) 3 cap] v' l') (by kernel_rfl) ?_
  generalize hu : World.drew _ = u0
  have hq0 := HP.out.step ((Below.refl _ _).drew)
  rw [hu] at hq0
  clear hu HP c0 c1 c2 c3
  refine any_take (i := 0) (.func (.func 53) #[] #[]) rfl rfl (by kernel_rfl) (by kernel_rfl) (by kernel_rfl) (by kernel_rfl) (fun _ _ d _ _ h => by cases d <;> exact h) (fun u hS => rfl) ⟨_, _, hq0⟩ ?_
  (try simp only [Act.put]); (try simp only [List.getElem_toArray]); (try simp only [List.getElem_cons_succ]); (try simp only [List.getElem_cons_zero]); (try simp only [List.setIfInBounds_toArray]); (try simp only [List.set_cons_succ]); (try simp only [List.set_cons_zero])
  refine any_take (i := 1) (v) rfl rfl (by kernel_rfl) (by kernel_rfl) (by kernel_rfl) (by kernel_rfl) (fun _ _ d _ _ h => by cases d <;> exact h) (fun u hS => rfl) ⟨_, _, hq0⟩ ?_
  (try simp only [Act.put]); (try simp only [List.getElem_toArray]); (try simp only [List.getElem_cons_succ]); (try simp only [List.getElem_cons_zero]); (try simp only [List.setIfInBounds_toArray]); (try simp only [List.set_cons_succ]); (try simp only [List.set_cons_zero])
  refine any_take (i := 3) (.pointer (some ⟨w.heap.size, 3, none⟩)) rfl rfl (by kernel_rfl) (by kernel_rfl) (by kernel_rfl) (by kernel_rfl) (fun _ _ d _ _ h => by cases d <;> exact h) (fun u hS => rfl) ⟨_, _, hq0⟩ ?_
  (try simp only [Act.put]); (try simp only [List.getElem_toArray]); (try simp only [List.getElem_cons_succ]); (try simp only [List.getElem_cons_zero]); (try simp only [List.setIfInBounds_toArray]); (try simp only [List.set_cons_succ]); (try simp only [List.set_cons_zero])
  refine any_take (i := 4) (.slice (some ⟨b, o, none⟩) 3 cap) rfl rfl (by kernel_rfl) (by kernel_rfl) (by kernel_rfl) (by kernel_rfl) (fun _ _ d _ _ h => by cases d <;> exact h) (fun u hS => by obtain ⟨v9, l9, q9⟩ := hS; exact exec_loadS rfl rfl (q9.e.cell 3)) ⟨_, _, hq0⟩ ?_
  (try simp only [Act.put]); (try simp only [List.getElem_toArray]); (try simp only [List.getElem_cons_succ]); (try simp only [List.getElem_cons_zero]); (try simp only [List.setIfInBounds_toArray]); (try simp only [List.set_cons_succ]); (try simp only [List.set_cons_zero])
  refine any_take (i := 5) (.pointer (some ⟨b, o, none⟩)) rfl rfl (by kernel_rfl) (by kernel_rfl) (by kernel_rfl) (by kernel_rfl) (fun _ _ d _ _ h => by cases d <;> exact h) (fun u hS => exec_ix03 rfl rfl rfl) ⟨_, _, hq0⟩ ?_
  (try simp only [Act.put]); (try simp only [List.getElem_toArray]); (try simp only [List.getElem_cons_succ]); (try simp only [List.getElem_cons_zero]); (try simp only [List.setIfInBounds_toArray]); (try simp only [List.set_cons_succ]); (try simp only [List.set_cons_zero])
  refine any_take (i := 6) (Ev x sx) rfl rfl (by kernel_rfl) (by kernel_rfl) (by kernel_rfl) (by kernel_rfl) (fun _ _ d _ _ h => by cases d <;> exact h) (fun u hS => by obtain ⟨v9, l9, q9⟩ := hS; have kk := BKx.out.fr q9.low; exact exec_loadX rfl rfl kk.c0 kk.c1 kk.c2 kk.c3) ⟨_, _, hq0⟩ ?_
  (try simp only [Act.put]); (try simp only [List.getElem_toArray]); (try simp only [List.getElem_cons_succ]); (try simp only [List.getElem_cons_zero]); (try simp only [List.setIfInBounds_toArray]); (try simp only [List.set_cons_succ]); (try simp only [List.set_cons_zero])
  refine any_branch [2] (by kernel_rfl) rfl fun ix hix => ?_
  simp only [List.mem_cons, List.not_mem_nil, or_false] at hix
  subst hix
  refine any_op rfl rfl fun K hK => ?_
  have hls1 : ({ data := #[105, 116, 101, 40] } : ByteArray).data.toList = [105, 116, 101, 40] := rfl
  obtain ⟨v1, u1, hr1, ho1, hf1⟩ := hq0.own.put_str { data := #[105, 116, 101, 40] } (by rw [size_lst, hls1]; exact (by have h0 := HL.out; have hx := BLx.out; have hy := BLy.out; have hz := BLz.out; (try simp only [Ex.par]); (try simp only [List.length_append]); (try simp only [List.length_cons]); (try simp only [List.length_nil]); omega)) hq0.sz 22
  rw [hls1] at ho1
  refine wp_app _ _ _ _ hr1 rfl rfl rfl ?_
  have hq1 := hq0.next ho1 hf1
  refine hK _ _ (fun _ => ⟨_, _, hq1⟩) ?_
  (try simp only [Act.put]); (try simp only [List.getElem_toArray]); (try simp only [List.getElem_cons_succ]); (try simp only [List.getElem_cons_zero]); (try simp only [List.setIfInBounds_toArray]); (try simp only [List.set_cons_succ]); (try simp only [List.set_cons_zero])
  clear hK
  refine any_branch [7] (by kernel_rfl) rfl fun ix hix => ?_
  simp only [List.mem_cons, List.not_mem_nil, or_false] at hix
  subst hix
  refine any_op rfl rfl fun K hK => ?_
  go_simp
  refine (in_any n IH.out x _ base _ _ u1 BNx.out BPx.out ((BKx.out.fr hq1.low).sl) hq1.own hq1.sz (by have h0 := HL.out; have hx := BLx.out; have hy := BLy.out; have hz := BLz.out; (try simp only [Ex.par]); (try simp only [List.length_append]); (try simp only [List.length_cons]); (try simp only [List.length_nil]); omega) BLx.out).mono ?_
  rintro e u2 ⟨v2, rfl, ho2, hf2⟩
  have hq2 := hq1.next ho2 hf2
  refine hK _ _ (fun _ => ⟨_, _, hq2⟩) ?_
  (try simp only [Act.put]); (try simp only [List.getElem_toArray]); (try simp only [List.getElem_cons_succ]); (try simp only [List.getElem_cons_zero]); (try simp only [List.setIfInBounds_toArray]); (try simp only [List.set_cons_succ]); (try simp only [List.set_cons_zero])
  clear hK
  refine any_branch [8] (by kernel_rfl) rfl fun ix hix => ?_
  simp only [List.mem_cons, List.not_mem_nil, or_false] at hix
  subst hix
  refine any_op rfl rfl fun K hK => ?_
  go_simp
  refine hK _ _ (fun _ => ⟨_, _, hq2⟩) ?_
  (try simp only [Act.put]); (try simp only [List.getElem_toArray]); (try simp only [List.getElem_cons_succ]); (try simp only [List.getElem_cons_zero]); (try simp only [List.setIfInBounds_toArray]); (try simp only [List.set_cons_succ]); (try simp only [List.set_cons_zero])
  clear hK
  refine any_end (by kernel_rfl) ?_
  have HP := Bx.mk hq2
  have hsl := hq2.own.sl
  clear hq0 hq1 hq2 hf1 hf2 
  obtain ⟨pa, za, ya, rfl⟩ := hsl
  obtain ⟨c0, c1, c2, c3, _, _, _, _⟩ := cells4 HP.out.e
  go_wp2_with fail
  refine region_any 100 (fun u => ∃ v' l', PQ base v w u #[.int .i64 9, .int .i64 a, .int .i64 vv, .slice (some ⟨b, o, none⟩) 3 cap] v' l') (by kernel_rfl) ?_
  generalize hu : World.drew _ = u0
  have hq0 := HP.out.step ((Below.refl _ _).drew)
  rw [hu] at hq0
  clear hu HP c0 c1 c2 c3
  refine any_take (i := 0) (.func (.func 53) #[] #[]) rfl rfl (by kernel_rfl) (by kernel_rfl) (by kernel_rfl) (by kernel_rfl) (fun _ _ d _ _ h => by cases d <;> exact h) (fun u hS => rfl) ⟨_, _, hq0⟩ ?_
  (try simp only [Act.put]); (try simp only [List.getElem_toArray]); (try simp only [List.getElem_cons_succ]); (try simp only [List.getElem_cons_zero]); (try simp only [List.setIfInBounds_toArray]); (try simp only [List.set_cons_succ]); (try simp only [List.set_cons_zero])
  refine any_take (i := 1) (.slice pa za ya) rfl rfl (by kernel_rfl) (by kernel_rfl) (by kernel_rfl) (by kernel_rfl) (fun _ _ d _ _ h => by cases d <;> exact h) (fun u hS => rfl) ⟨_, _, hq0⟩ ?_
  (try simp only [Act.put]); (try simp only [List.getElem_toArray]); (try simp only [List.getElem_cons_succ]); (try simp only [List.getElem_cons_zero]); (try simp only [List.setIfInBounds_toArray]); (try simp only [List.set_cons_succ]); (try simp only [List.set_cons_zero])
  refine any_take (i := 3) (.pointer (some ⟨w.heap.size, 3, none⟩)) rfl rfl (by kernel_rfl) (by kernel_rfl) (by kernel_rfl) (by kernel_rfl) (fun _ _ d _ _ h => by cases d <;> exact h) (fun u hS => rfl) ⟨_, _, hq0⟩ ?_
  (try simp only [Act.put]); (try simp only [List.getElem_toArray]); (try simp only [List.getElem_cons_succ]); (try simp only [List.getElem_cons_zero]); (try simp only [List.setIfInBounds_toArray]); (try simp only [List.set_cons_succ]); (try simp only [List.set_cons_zero])
  refine any_take (i := 4) (.slice (some ⟨b, o, none⟩) 3 cap) rfl rfl (by kernel_rfl) (by kernel_rfl) (by kernel_rfl) (by kernel_rfl) (fun _ _ d _ _ h => by cases d <;> exact h) (fun u hS => by obtain ⟨v9, l9, q9⟩ := hS; exact exec_loadS rfl rfl (q9.e.cell 3)) ⟨_, _, hq0⟩ ?_
  (try simp only [Act.put]); (try simp only [List.getElem_toArray]); (try simp only [List.getElem_cons_succ]); (try simp only [List.getElem_cons_zero]); (try simp only [List.setIfInBounds_toArray]); (try simp only [List.set_cons_succ]); (try simp only [List.set_cons_zero])
  refine any_take (i := 5) (.pointer (some ⟨b, o + 4, none⟩)) rfl rfl (by kernel_rfl) (by kernel_rfl) (by kernel_rfl) (by kernel_rfl) (fun _ _ d _ _ h => by cases d <;> exact h) (fun u hS => exec_ix13 rfl rfl rfl) ⟨_, _, hq0⟩ ?_
  (try simp only [Act.put]); (try simp only [List.getElem_toArray]); (try simp only [List.getElem_cons_succ]); (try simp only [List.getElem_cons_zero]); (try simp only [List.setIfInBounds_toArray]); (try simp only [List.set_cons_succ]); (try simp only [List.set_cons_zero])
  refine any_take (i := 6) (Ev y sy) rfl rfl (by kernel_rfl) (by kernel_rfl) (by kernel_rfl) (by kernel_rfl) (fun _ _ d _ _ h => by cases d <;> exact h) (fun u hS => by obtain ⟨v9, l9, q9⟩ := hS; have kk := BKy.out.fr q9.low; exact exec_loadX rfl rfl kk.c0 kk.c1 kk.c2 kk.c3) ⟨_, _, hq0⟩ ?_
  (try simp only [Act.put]); (try simp only [List.getElem_toArray]); (try simp only [List.getElem_cons_succ]); (try simp only [List.getElem_cons_zero]); (try simp only [List.setIfInBounds_toArray]); (try simp only [List.set_cons_succ]); (try simp only [List.set_cons_zero])
  refine any_branch [2] (by kernel_rfl) rfl fun ix hix => ?_
  simp only [List.mem_cons, List.not_mem_nil, or_false] at hix
  subst hix
  refine any_op rfl rfl fun K hK => ?_
  have hls1 : ({ data := #[44, 32] } : ByteArray).data.toList = [44, 32] := rfl
  obtain ⟨v1, u1, hr1, ho1, hf1⟩ := hq0.own.put_str { data := #[44, 32] } (by rw [size_lst, hls1]; exact (by have h0 := HL.out; have hx := BLx.out; have hy := BLy.out; have hz := BLz.out; (try simp only [Ex.par]); (try simp only [List.length_append]); (try simp only [List.length_cons]); (try simp only [List.length_nil]); omega)) hq0.sz 22
  rw [hls1] at ho1
  refine wp_app _ _ _ _ hr1 rfl rfl rfl ?_
  have hq1 := hq0.next ho1 hf1
  refine hK _ _ (fun _ => ⟨_, _, hq1⟩) ?_
  (try simp only [Act.put]); (try simp only [List.getElem_toArray]); (try simp only [List.getElem_cons_succ]); (try simp only [List.getElem_cons_zero]); (try simp only [List.setIfInBounds_toArray]); (try simp only [List.set_cons_succ]); (try simp only [List.set_cons_zero])
  clear hK
  refine any_branch [7] (by kernel_rfl) rfl fun ix hix => ?_
  simp only [List.mem_cons, List.not_mem_nil, or_false] at hix
  subst hix
  refine any_op rfl rfl fun K hK => ?_
  go_simp
  refine (in_any n IH.out y _ base _ _ u1 BNy.out BPy.out ((BKy.out.fr hq1.low).sl) hq1.own hq1.sz (by have h0 := HL.out; have hx := BLx.out; have hy := BLy.out; have hz := BLz.out; (try simp only [Ex.par]); (try simp only [List.length_append]); (try simp only [List.length_cons]); (try simp only [List.length_nil]); omega) BLy.out).mono ?_
  rintro e u2 ⟨v2, rfl, ho2, hf2⟩
  have hq2 := hq1.next ho2 hf2
  refine hK _ _ (fun _ => ⟨_, _, hq2⟩) ?_
  (try simp only [Act.put]); (try simp only [List.getElem_toArray]); (try simp only [List.getElem_cons_succ]); (try simp only [List.getElem_cons_zero]); (try simp only [List.setIfInBounds_toArray]); (try simp only [List.set_cons_succ]); (try simp only [List.set_cons_zero])
  clear hK
  refine any_branch [8] (by kernel_rfl) rfl fun ix hix => ?_
  simp only [List.mem_cons, List.not_mem_nil, or_false] at hix
  subst hix
  refine any_op rfl rfl fun K hK => ?_
  go_simp
  refine hK _ _ (fun _ => ⟨_, _, hq2⟩) ?_
  (try simp only [Act.put]); (try simp only [List.getElem_toArray]); (try simp only [List.getElem_cons_succ]); (try simp only [List.getElem_cons_zero]); (try simp only [List.setIfInBounds_toArray]); (try simp only [List.set_cons_succ]); (try simp only [List.set_cons_zero])
  clear hK
  refine any_end (by kernel_rfl) ?_
  have HP := Bx.mk hq2
  have hsl := hq2.own.sl
  clear hq0 hq1 hq2 hf1 hf2 
  obtain ⟨pb, zb, yb, rfl⟩ := hsl
  obtain ⟨c0, c1, c2, c3, _, _, _, _⟩ := cells4 HP.out.e
  go_wp2_with fail
  refine region_any 100 (fun u => ∃ v' l', PQ base v w u #[.int .i64 9, .int .i64 a, .int .i64 vv, .slice (some ⟨b, o, none⟩) 3 cap] v' l') (by kernel_rfl) ?_
  generalize hu : World.drew _ = u0
  have hq0 := HP.out.step ((Below.refl _ _).drew)
  rw [hu] at hq0
  clear hu HP c0 c1 c2 c3
  refine any_take (i := 0) (.func (.func 53) #[] #[]) rfl rfl (by kernel_rfl) (by kernel_rfl) (by kernel_rfl) (by kernel_rfl) (fun _ _ d _ _ h => by cases d <;> exact h) (fun u hS => rfl) ⟨_, _, hq0⟩ ?_
  (try simp only [Act.put]); (try simp only [List.getElem_toArray]); (try simp only [List.getElem_cons_succ]); (try simp only [List.getElem_cons_zero]); (try simp only [List.setIfInBounds_toArray]); (try simp only [List.set_cons_succ]); (try simp only [List.set_cons_zero])
  refine any_take (i := 1) (.slice pb zb yb) rfl rfl (by kernel_rfl) (by kernel_rfl) (by kernel_rfl) (by kernel_rfl) (fun _ _ d _ _ h => by cases d <;> exact h) (fun u hS => rfl) ⟨_, _, hq0⟩ ?_
  (try simp only [Act.put]); (try simp only [List.getElem_toArray]); (try simp only [List.getElem_cons_succ]); (try simp only [List.getElem_cons_zero]); (try simp only [List.setIfInBounds_toArray]); (try simp only [List.set_cons_succ]); (try simp only [List.set_cons_zero])
  refine any_take (i := 3) (.pointer (some ⟨w.heap.size, 3, none⟩)) rfl rfl (by kernel_rfl) (by kernel_rfl) (by kernel_rfl) (by kernel_rfl) (fun _ _ d _ _ h => by cases d <;> exact h) (fun u hS => rfl) ⟨_, _, hq0⟩ ?_
  (try simp only [Act.put]); (try simp only [List.getElem_toArray]); (try simp only [List.getElem_cons_succ]); (try simp only [List.getElem_cons_zero]); (try simp only [List.setIfInBounds_toArray]); (try simp only [List.set_cons_succ]); (try simp only [List.set_cons_zero])
  refine any_take (i := 4) (.slice (some ⟨b, o, none⟩) 3 cap) rfl rfl (by kernel_rfl) (by kernel_rfl) (by kernel_rfl) (by kernel_rfl) (fun _ _ d _ _ h => by cases d <;> exact h) (fun u hS => by obtain ⟨v9, l9, q9⟩ := hS; exact exec_loadS rfl rfl (q9.e.cell 3)) ⟨_, _, hq0⟩ ?_
  (try simp only [Act.put]); (try simp only [List.getElem_toArray]); (try simp only [List.getElem_cons_succ]); (try simp only [List.getElem_cons_zero]); (try simp only [List.setIfInBounds_toArray]); (try simp only [List.set_cons_succ]); (try simp only [List.set_cons_zero])
  refine any_take (i := 5) (.pointer (some ⟨b, o + 8, none⟩)) rfl rfl (by kernel_rfl) (by kernel_rfl) (by kernel_rfl) (by kernel_rfl) (fun _ _ d _ _ h => by cases d <;> exact h) (fun u hS => exec_ix23 rfl rfl rfl) ⟨_, _, hq0⟩ ?_
  (try simp only [Act.put]); (try simp only [List.getElem_toArray]); (try simp only [List.getElem_cons_succ]); (try simp only [List.getElem_cons_zero]); (try simp only [List.setIfInBounds_toArray]); (try simp only [List.set_cons_succ]); (try simp only [List.set_cons_zero])
  refine any_take (i := 6) (Ev z sz) rfl rfl (by kernel_rfl) (by kernel_rfl) (by kernel_rfl) (by kernel_rfl) (fun _ _ d _ _ h => by cases d <;> exact h) (fun u hS => by obtain ⟨v9, l9, q9⟩ := hS; have kk := BKz.out.fr q9.low; exact exec_loadX rfl rfl kk.c0 kk.c1 kk.c2 kk.c3) ⟨_, _, hq0⟩ ?_
  (try simp only [Act.put]); (try simp only [List.getElem_toArray]); (try simp only [List.getElem_cons_succ]); (try simp only [List.getElem_cons_zero]); (try simp only [List.setIfInBounds_toArray]); (try simp only [List.set_cons_succ]); (try simp only [List.set_cons_zero])
  refine any_branch [2, 8] (by kernel_rfl) rfl fun ix hix => ?_
  simp only [List.mem_cons, List.not_mem_nil, or_false] at hix
  rcases hix with rfl | rfl
  · refine any_op rfl rfl fun K hK => ?_
    have hls1 : ({ data := #[44, 32] } : ByteArray).data.toList = [44, 32] := rfl
    obtain ⟨v1, u1, hr1, ho1, hf1⟩ := hq0.own.put_str { data := #[44, 32] } (by rw [size_lst, hls1]; exact (by have h0 := HL.out; have hx := BLx.out; have hy := BLy.out; have hz := BLz.out; (try simp only [Ex.par]); (try simp only [List.length_append]); (try simp only [List.length_cons]); (try simp only [List.length_nil]); omega)) hq0.sz 22
    rw [hls1] at ho1
    refine wp_app _ _ _ _ hr1 rfl rfl rfl ?_
    have hq1 := hq0.next ho1 hf1
    refine hK _ _ (fun _ => ⟨_, _, hq1⟩) ?_
    (try simp only [Act.put]); (try simp only [List.getElem_toArray]); (try simp only [List.getElem_cons_succ]); (try simp only [List.getElem_cons_zero]); (try simp only [List.setIfInBounds_toArray]); (try simp only [List.set_cons_succ]); (try simp only [List.set_cons_zero])
    clear hK
    refine any_branch [7, 8] (by kernel_rfl) rfl fun ix hix => ?_
    simp only [List.mem_cons, List.not_mem_nil, or_false] at hix
    rcases hix with rfl | rfl
    · refine any_op rfl rfl fun K hK => ?_
      go_simp
      refine (in_any n IH.out z _ base _ _ u1 BNz.out BPz.out ((BKz.out.fr hq1.low).sl) hq1.own hq1.sz (by have h0 := HL.out; have hx := BLx.out; have hy := BLy.out; have hz := BLz.out; (try simp only [Ex.par]); (try simp only [List.length_append]); (try simp only [List.length_cons]); (try simp only [List.length_nil]); omega) BLz.out).mono ?_
      rintro e u2 ⟨v2, rfl, ho2, hf2⟩
      have hq2 := hq1.next ho2 hf2
      refine hK _ _ (fun _ => ⟨_, _, hq2⟩) ?_
      (try simp only [Act.put]); (try simp only [List.getElem_toArray]); (try simp only [List.getElem_cons_succ]); (try simp only [List.getElem_cons_zero]); (try simp only [List.setIfInBounds_toArray]); (try simp only [List.set_cons_succ]); (try simp only [List.set_cons_zero])
      clear hK
      refine any_branch [8] (by kernel_rfl) rfl fun ix hix => ?_
      simp only [List.mem_cons, List.not_mem_nil, or_false] at hix
      subst hix
      refine any_op rfl rfl fun K hK => ?_
      go_simp
      have hN3 := Fl.new hq2.own 41
      have hf3 := Fr.below (v := v2) ((Below.refl u2.heap.size u2).alloc (Nat.le_refl _) (.cells #[.int .u8 41] 5))
      have hq3 := hq2.step ((Below.refl _ _).alloc (Nat.le_refl _) (.cells #[.int .u8 41] 5))
      change Fl (u2.alloc (.cells #[.int .u8 41] 5)) _ _ _ at hN3
      generalize u2.heap.size = pn3 at hN3 ⊢
      generalize u2.alloc (.cells #[.int .u8 41] 5) = u3 at hN3 hq3 hf3 ⊢
      refine hK _ _ (fun _ => ⟨_, _, hq3⟩) ?_
      (try simp only [Act.put]); (try simp only [List.getElem_toArray]); (try simp only [List.getElem_cons_succ]); (try simp only [List.getElem_cons_zero]); (try simp only [List.setIfInBounds_toArray]); (try simp only [List.set_cons_succ]); (try simp only [List.set_cons_zero])
      clear hK
      refine any_branch [9] (by kernel_rfl) rfl fun ix hix => ?_
      simp only [List.mem_cons, List.not_mem_nil, or_false] at hix
      subst hix
      refine any_op rfl rfl fun K hK => ?_
      obtain ⟨v4, u4, hr4, ho4, hf4⟩ := hq3.own.put_one pn3 1 41 (hN3.blk.cell 0) (by have h0 := HL.out; have hx := BLx.out; have hy := BLy.out; have hz := BLz.out; (try simp only [Ex.par]); (try simp only [List.length_append]); (try simp only [List.length_cons]); (try simp only [List.length_nil]); omega) hq3.sz 22
      refine wp_app _ _ _ _ hr4 rfl rfl rfl ?_
      have hq4 := hq3.next ho4 hf4
      refine hK _ _ (fun _ => ⟨_, _, hq4⟩) ?_
      (try simp only [Act.put]); (try simp only [List.getElem_toArray]); (try simp only [List.getElem_cons_succ]); (try simp only [List.getElem_cons_zero]); (try simp only [List.setIfInBounds_toArray]); (try simp only [List.set_cons_succ]); (try simp only [List.set_cons_zero])
      clear hK
      refine any_branch [10] (by kernel_rfl) rfl fun ix hix => ?_
      simp only [List.mem_cons, List.not_mem_nil, or_false] at hix
      subst hix
      refine any_op rfl rfl fun K hK => ?_
      go_simp
      refine hK _ _ (fun _ => ⟨_, _, hq4⟩) ?_
      (try simp only [Act.put]); (try simp only [List.getElem_toArray]); (try simp only [List.getElem_cons_succ]); (try simp only [List.getElem_cons_zero]); (try simp only [List.setIfInBounds_toArray]); (try simp only [List.set_cons_succ]); (try simp only [List.set_cons_zero])
      clear hK
      refine any_end (by kernel_rfl) ?_
      have HP := Bx.mk hq4
      have hsl := hq4.own.sl
      clear hq0 hq1 hq2 hq3 hq4 hf1 hf2 hf3 hf4 
      obtain ⟨pz, zz, yz, rfl⟩ := hsl
      obtain ⟨c0, c1, c2, c3, _, _, _, _⟩ := cells4 HP.out.e
      go_wp2_with fail
      go_ret
      refine ⟨.slice pz zz yz, rfl, ?_, HP.out.fr⟩
      have h5 := HP.out.own
      unfold Ex.prk
      simp only [List.append_assoc] at h5 ⊢
      simpa using h5
    · refine any_op rfl rfl fun K hK => ?_
      go_simp
      have hN2 := Fl.new hq1.own 41
      have hf2 := Fr.below (v := v1) ((Below.refl u1.heap.size u1).alloc (Nat.le_refl _) (.cells #[.int .u8 41] 5))
      have hq2 := hq1.step ((Below.refl _ _).alloc (Nat.le_refl _) (.cells #[.int .u8 41] 5))
      change Fl (u1.alloc (.cells #[.int .u8 41] 5)) _ _ _ at hN2
      generalize u1.heap.size = pn2 at hN2 ⊢
      generalize u1.alloc (.cells #[.int .u8 41] 5) = u2 at hN2 hq2 hf2 ⊢
      refine hK _ _ (fun _ => ⟨_, _, hq2⟩) ?_
      (try simp only [Act.put]); (try simp only [List.getElem_toArray]); (try simp only [List.getElem_cons_succ]); (try simp only [List.getElem_cons_zero]); (try simp only [List.setIfInBounds_toArray]); (try simp only [List.set_cons_succ]); (try simp only [List.set_cons_zero])
      clear hK
      refine any_branch [7] (by kernel_rfl) rfl fun ix hix => ?_
      simp only [List.mem_cons, List.not_mem_nil, or_false] at hix
      subst hix
      refine any_op rfl rfl fun K hK => ?_
      go_simp
      refine (in_any n IH.out z _ base _ _ u2 BNz.out BPz.out ((BKz.out.fr hq2.low).sl) hq2.own hq2.sz (by have h0 := HL.out; have hx := BLx.out; have hy := BLy.out; have hz := BLz.out; (try simp only [Ex.par]); (try simp only [List.length_append]); (try simp only [List.length_cons]); (try simp only [List.length_nil]); omega) BLz.out).mono ?_
      rintro e u3 ⟨v3, rfl, ho3, hf3⟩
      have hq3 := hq2.next ho3 hf3
      have hF8_3 := hN2.next hf3
      refine hK _ _ (fun _ => ⟨_, _, hq3⟩) ?_
      (try simp only [Act.put]); (try simp only [List.getElem_toArray]); (try simp only [List.getElem_cons_succ]); (try simp only [List.getElem_cons_zero]); (try simp only [List.setIfInBounds_toArray]); (try simp only [List.set_cons_succ]); (try simp only [List.set_cons_zero])
      clear hK
      refine any_branch [9] (by kernel_rfl) rfl fun ix hix => ?_
      simp only [List.mem_cons, List.not_mem_nil, or_false] at hix
      subst hix
      refine any_op rfl rfl fun K hK => ?_
      obtain ⟨v4, u4, hr4, ho4, hf4⟩ := hq3.own.put_one pn2 1 41 (hF8_3.blk.cell 0) (by have h0 := HL.out; have hx := BLx.out; have hy := BLy.out; have hz := BLz.out; (try simp only [Ex.par]); (try simp only [List.length_append]); (try simp only [List.length_cons]); (try simp only [List.length_nil]); omega) hq3.sz 22
      refine wp_app _ _ _ _ hr4 rfl rfl rfl ?_
      have hq4 := hq3.next ho4 hf4
      refine hK _ _ (fun _ => ⟨_, _, hq4⟩) ?_
      (try simp only [Act.put]); (try simp only [List.getElem_toArray]); (try simp only [List.getElem_cons_succ]); (try simp only [List.getElem_cons_zero]); (try simp only [List.setIfInBounds_toArray]); (try simp only [List.set_cons_succ]); (try simp only [List.set_cons_zero])
      clear hK
      refine any_branch [10] (by kernel_rfl) rfl fun ix hix => ?_
      simp only [List.mem_cons, List.not_mem_nil, or_false] at hix
      subst hix
      refine any_op rfl rfl fun K hK => ?_
      go_simp
      refine hK _ _ (fun _ => ⟨_, _, hq4⟩) ?_
      (try simp only [Act.put]); (try simp only [List.getElem_toArray]); (try simp only [List.getElem_cons_succ]); (try simp only [List.getElem_cons_zero]); (try simp only [List.setIfInBounds_toArray]); (try simp only [List.set_cons_succ]); (try simp only [List.set_cons_zero])
      clear hK
      refine any_end (by kernel_rfl) ?_
      have HP := Bx.mk hq4
      have hsl := hq4.own.sl
      clear hq0 hq1 hq2 hq3 hq4 hf1 hf2 hf3 hf4 
      obtain ⟨pz, zz, yz, rfl⟩ := hsl
      obtain ⟨c0, c1, c2, c3, _, _, _, _⟩ := cells4 HP.out.e
      go_wp2_with fail
      go_ret
      refine ⟨.slice pz zz yz, rfl, ?_, HP.out.fr⟩
      have h5 := HP.out.own
      unfold Ex.prk
      simp only [List.append_assoc] at h5 ⊢
      simpa using h5
  · refine any_op rfl rfl fun K hK => ?_
    go_simp
    have hN1 := Fl.new hq0.own 41
    have hf1 := Fr.below (v := (.slice pb zb yb)) ((Below.refl u0.heap.size u0).alloc (Nat.le_refl _) (.cells #[.int .u8 41] 5))
    have hq1 := hq0.step ((Below.refl _ _).alloc (Nat.le_refl _) (.cells #[.int .u8 41] 5))
    change Fl (u0.alloc (.cells #[.int .u8 41] 5)) _ _ _ at hN1
    generalize u0.heap.size = pn1 at hN1 ⊢
    generalize u0.alloc (.cells #[.int .u8 41] 5) = u1 at hN1 hq1 hf1 ⊢
    refine hK _ _ (fun _ => ⟨_, _, hq1⟩) ?_
    (try simp only [Act.put]); (try simp only [List.getElem_toArray]); (try simp only [List.getElem_cons_succ]); (try simp only [List.getElem_cons_zero]); (try simp only [List.setIfInBounds_toArray]); (try simp only [List.set_cons_succ]); (try simp only [List.set_cons_zero])
    clear hK
    refine any_branch [2] (by kernel_rfl) rfl fun ix hix => ?_
    simp only [List.mem_cons, List.not_mem_nil, or_false] at hix
    subst hix
    refine any_op rfl rfl fun K hK => ?_
    have hls2 : ({ data := #[44, 32] } : ByteArray).data.toList = [44, 32] := rfl
    obtain ⟨v2, u2, hr2, ho2, hf2⟩ := hq1.own.put_str { data := #[44, 32] } (by rw [size_lst, hls2]; exact (by have h0 := HL.out; have hx := BLx.out; have hy := BLy.out; have hz := BLz.out; (try simp only [Ex.par]); (try simp only [List.length_append]); (try simp only [List.length_cons]); (try simp only [List.length_nil]); omega)) hq1.sz 22
    rw [hls2] at ho2
    refine wp_app _ _ _ _ hr2 rfl rfl rfl ?_
    have hq2 := hq1.next ho2 hf2
    have hF8_2 := hN1.next hf2
    refine hK _ _ (fun _ => ⟨_, _, hq2⟩) ?_
    (try simp only [Act.put]); (try simp only [List.getElem_toArray]); (try simp only [List.getElem_cons_succ]); (try simp only [List.getElem_cons_zero]); (try simp only [List.setIfInBounds_toArray]); (try simp only [List.set_cons_succ]); (try simp only [List.set_cons_zero])
    clear hK
    refine any_branch [7] (by kernel_rfl) rfl fun ix hix => ?_
    simp only [List.mem_cons, List.not_mem_nil, or_false] at hix
    subst hix
    refine any_op rfl rfl fun K hK => ?_
    go_simp
    refine (in_any n IH.out z _ base _ _ u2 BNz.out BPz.out ((BKz.out.fr hq2.low).sl) hq2.own hq2.sz (by have h0 := HL.out; have hx := BLx.out; have hy := BLy.out; have hz := BLz.out; (try simp only [Ex.par]); (try simp only [List.length_append]); (try simp only [List.length_cons]); (try simp only [List.length_nil]); omega) BLz.out).mono ?_
    rintro e u3 ⟨v3, rfl, ho3, hf3⟩
    have hq3 := hq2.next ho3 hf3
    have hF8_3 := hF8_2.next hf3
    refine hK _ _ (fun _ => ⟨_, _, hq3⟩) ?_
    (try simp only [Act.put]); (try simp only [List.getElem_toArray]); (try simp only [List.getElem_cons_succ]); (try simp only [List.getElem_cons_zero]); (try simp only [List.setIfInBounds_toArray]); (try simp only [List.set_cons_succ]); (try simp only [List.set_cons_zero])
    clear hK
    refine any_branch [9] (by kernel_rfl) rfl fun ix hix => ?_
    simp only [List.mem_cons, List.not_mem_nil, or_false] at hix
    subst hix
    refine any_op rfl rfl fun K hK => ?_
    obtain ⟨v4, u4, hr4, ho4, hf4⟩ := hq3.own.put_one pn1 1 41 (hF8_3.blk.cell 0) (by have h0 := HL.out; have hx := BLx.out; have hy := BLy.out; have hz := BLz.out; (try simp only [Ex.par]); (try simp only [List.length_append]); (try simp only [List.length_cons]); (try simp only [List.length_nil]); omega) hq3.sz 22
    refine wp_app _ _ _ _ hr4 rfl rfl rfl ?_
    have hq4 := hq3.next ho4 hf4
    refine hK _ _ (fun _ => ⟨_, _, hq4⟩) ?_
    (try simp only [Act.put]); (try simp only [List.getElem_toArray]); (try simp only [List.getElem_cons_succ]); (try simp only [List.getElem_cons_zero]); (try simp only [List.setIfInBounds_toArray]); (try simp only [List.set_cons_succ]); (try simp only [List.set_cons_zero])
    clear hK
    refine any_branch [10] (by kernel_rfl) rfl fun ix hix => ?_
    simp only [List.mem_cons, List.not_mem_nil, or_false] at hix
    subst hix
    refine any_op rfl rfl fun K hK => ?_
    go_simp
    refine hK _ _ (fun _ => ⟨_, _, hq4⟩) ?_
    (try simp only [Act.put]); (try simp only [List.getElem_toArray]); (try simp only [List.getElem_cons_succ]); (try simp only [List.getElem_cons_zero]); (try simp only [List.setIfInBounds_toArray]); (try simp only [List.set_cons_succ]); (try simp only [List.set_cons_zero])
    clear hK
    refine any_end (by kernel_rfl) ?_
    have HP := Bx.mk hq4
    have hsl := hq4.own.sl
    clear hq0 hq1 hq2 hq3 hq4 hf1 hf2 hf3 hf4 
    obtain ⟨pz, zz, yz, rfl⟩ := hsl
    obtain ⟨c0, c1, c2, c3, _, _, _, _⟩ := cells4 HP.out.e
    go_wp2_with fail
    go_ret
    refine ⟨.slice pz zz yz, rfl, ?_, HP.out.fr⟩
    have h5 := HP.out.own
    unfold Ex.prk
    simp only [List.append_assoc] at h5 ⊢
    simpa using h5
set_option maxHeartbeats 8000000 in
theorem put_4 (n : Nat) (ih : Pw n) (k : Int) (hk : 4 ≤ k ∧ k ≤ 8) (a : Int) (vv : Int) (b o cap : Nat) (base : Nat) (v : Value) (l : List UInt8) (w : World) (x : Tr) (sx : Value) (Kx : KidB w base b o x sx) (Nx : (x.on .nil).nodes ≤ n) (Px : (x.on .nil).allPlain = true) (y : Tr) (sy : Value) (Ky : KidB w base b (o + 4) y sy) (Ny : (y.on .nil).nodes ≤ n) (Py : (y.on .nil).allPlain = true) (ho : OwnB w base v l) (hb : base ≤ w.heap.size) (hl : l.length + 32 * (1 + ((x.on .nil).nodes + (y.on .nil).nodes)) ≤ 500000) :
    Calls Try.prog 35 #[v, .agg #[.int .i64 k, .int .i64 a, .int .i64 vv, .slice (some ⟨b, o, none⟩) 2 cap]] w fun e w' => ∃ v', e = .returned v' ∧ OwnB w' base v' (l ++ Ex.prk k vv [Ex.pr x, Ex.pr y]) ∧ Fr v w v' w' := by
  have hP : PQ base v w (w.alloc (.cells #[.int .i64 k, .int .i64 a, .int .i64 vv, .slice (some ⟨b, o, none⟩) 2 cap] 36)) #[.int .i64 k, .int .i64 a, .int .i64 vv, .slice (some ⟨b, o, none⟩) 2 cap] v l := PQ.start ho hb
  obtain ⟨c0, c1, c2, c3, _, _, _, _⟩ := cells4 hP.e
  have HP := Bx.mk hP
  have IH := Bx.mk ih
  have HL := Bx.mk hl
  have BKx := Bx.mk Kx
  have BNx := Bx.mk Nx
  have BPx := Bx.mk Px
  have BLx := Bx.mk (pr_len x)
  have BKy := Bx.mk Ky
  have BNy := Bx.mk Ny
  have BPy := Bx.mk Py
  have BLy := Bx.mk (pr_len y)
  have q1 : (k == 1) = false := by rw [beq_eq_false_iff_ne]; omega
  have r1 : ¬ k = 1 := by omega
  have q2 : (k == 2) = false := by rw [beq_eq_false_iff_ne]; omega
  have r2 : ¬ k = 2 := by omega
  have q3 : (k == 3) = false := by rw [beq_eq_false_iff_ne]; omega
  have r3 : ¬ k = 3 := by omega
  have q10 : (k == 10) = false := by rw [beq_eq_false_iff_ne]; omega
  have r10 : ¬ k = 10 := by omega
  have q11 : (k == 11) = false := by rw [beq_eq_false_iff_ne]; omega
  have r11 : ¬ k = 11 := by omega
  have q9 : (k == 9) = false := by rw [beq_eq_false_iff_ne]; omega
  have r9 : ¬ k = 9 := by omega
  have HSG := Bx.mk (sgn_len k)
  have HK := Bx.mk (And.intro hk (And.intro r1 (And.intro r2 (And.intro r3 (And.intro r10 (And.intro r11 r9))))))
  clear hk
  clear hP ih ho hl Kx Nx Px Ky Ny Py
  go_enter Try.func35, Try.ntmps35
  go_wp2_with fail
  refine region_any 100 (fun u => ∃ v' l', PQ base v w u #[.int .i64 k, .int .i64 a, .int .i64 vv, .slice (some ⟨b, o, none⟩) 2 cap] v' l') (by kernel_rfl) ?_
  generalize hu : World.drew _ = u0
  have hq0 := HP.out.step ((Below.refl _ _).drew)
  rw [hu] at hq0
  clear hu HP c0 c1 c2 c3
  refine any_take (i := 0) (.func (.func 53) #[] #[]) rfl rfl (by kernel_rfl) (by kernel_rfl) (by kernel_rfl) (by kernel_rfl) (fun _ _ d _ _ h => by cases d <;> exact h) (fun u hS => rfl) ⟨_, _, hq0⟩ ?_
  (try simp only [Act.put]); (try simp only [List.getElem_toArray]); (try simp only [List.getElem_cons_succ]); (try simp only [List.getElem_cons_zero]); (try simp only [List.setIfInBounds_toArray]); (try simp only [List.set_cons_succ]); (try simp only [List.set_cons_zero])
  refine any_take (i := 1) (v) rfl rfl (by kernel_rfl) (by kernel_rfl) (by kernel_rfl) (by kernel_rfl) (fun _ _ d _ _ h => by cases d <;> exact h) (fun u hS => rfl) ⟨_, _, hq0⟩ ?_
  (try simp only [Act.put]); (try simp only [List.getElem_toArray]); (try simp only [List.getElem_cons_succ]); (try simp only [List.getElem_cons_zero]); (try simp only [List.setIfInBounds_toArray]); (try simp only [List.set_cons_succ]); (try simp only [List.set_cons_zero])
  refine any_take (i := 4) (.pointer (some ⟨w.heap.size, 3, none⟩)) rfl rfl (by kernel_rfl) (by kernel_rfl) (by kernel_rfl) (by kernel_rfl) (fun _ _ d _ _ h => by cases d <;> exact h) (fun u hS => rfl) ⟨_, _, hq0⟩ ?_
  (try simp only [Act.put]); (try simp only [List.getElem_toArray]); (try simp only [List.getElem_cons_succ]); (try simp only [List.getElem_cons_zero]); (try simp only [List.setIfInBounds_toArray]); (try simp only [List.set_cons_succ]); (try simp only [List.set_cons_zero])
  refine any_take (i := 5) (.slice (some ⟨b, o, none⟩) 2 cap) rfl rfl (by kernel_rfl) (by kernel_rfl) (by kernel_rfl) (by kernel_rfl) (fun _ _ d _ _ h => by cases d <;> exact h) (fun u hS => by obtain ⟨v9, l9, q9⟩ := hS; exact exec_loadS rfl rfl (q9.e.cell 3)) ⟨_, _, hq0⟩ ?_
  (try simp only [Act.put]); (try simp only [List.getElem_toArray]); (try simp only [List.getElem_cons_succ]); (try simp only [List.getElem_cons_zero]); (try simp only [List.setIfInBounds_toArray]); (try simp only [List.set_cons_succ]); (try simp only [List.set_cons_zero])
  refine any_take (i := 6) (.pointer (some ⟨b, o, none⟩)) rfl rfl (by kernel_rfl) (by kernel_rfl) (by kernel_rfl) (by kernel_rfl) (fun _ _ d _ _ h => by cases d <;> exact h) (fun u hS => exec_ix02 rfl rfl rfl) ⟨_, _, hq0⟩ ?_
  (try simp only [Act.put]); (try simp only [List.getElem_toArray]); (try simp only [List.getElem_cons_succ]); (try simp only [List.getElem_cons_zero]); (try simp only [List.setIfInBounds_toArray]); (try simp only [List.set_cons_succ]); (try simp only [List.set_cons_zero])
  refine any_take (i := 7) (Ev x sx) rfl rfl (by kernel_rfl) (by kernel_rfl) (by kernel_rfl) (by kernel_rfl) (fun _ _ d _ _ h => by cases d <;> exact h) (fun u hS => by obtain ⟨v9, l9, q9⟩ := hS; have kk := BKx.out.fr q9.low; exact exec_loadX rfl rfl kk.c0 kk.c1 kk.c2 kk.c3) ⟨_, _, hq0⟩ ?_
  (try simp only [Act.put]); (try simp only [List.getElem_toArray]); (try simp only [List.getElem_cons_succ]); (try simp only [List.getElem_cons_zero]); (try simp only [List.setIfInBounds_toArray]); (try simp only [List.set_cons_succ]); (try simp only [List.set_cons_zero])
  refine any_branch [2] (by kernel_rfl) rfl fun ix hix => ?_
  simp only [List.mem_cons, List.not_mem_nil, or_false] at hix
  subst hix
  refine any_op rfl rfl fun K hK => ?_
  go_simp
  have hN1 := Fl.new hq0.own 40
  have hf1 := Fr.below (v := v) ((Below.refl u0.heap.size u0).alloc (Nat.le_refl _) (.cells #[.int .u8 40] 5))
  have hq1 := hq0.step ((Below.refl _ _).alloc (Nat.le_refl _) (.cells #[.int .u8 40] 5))
  change Fl (u0.alloc (.cells #[.int .u8 40] 5)) _ _ _ at hN1
  generalize u0.heap.size = pn1 at hN1 ⊢
  generalize u0.alloc (.cells #[.int .u8 40] 5) = u1 at hN1 hq1 hf1 ⊢
  refine hK _ _ (fun _ => ⟨_, _, hq1⟩) ?_
  (try simp only [Act.put]); (try simp only [List.getElem_toArray]); (try simp only [List.getElem_cons_succ]); (try simp only [List.getElem_cons_zero]); (try simp only [List.setIfInBounds_toArray]); (try simp only [List.set_cons_succ]); (try simp only [List.set_cons_zero])
  clear hK
  refine any_branch [3] (by kernel_rfl) rfl fun ix hix => ?_
  simp only [List.mem_cons, List.not_mem_nil, or_false] at hix
  subst hix
  refine any_op rfl rfl fun K hK => ?_
  obtain ⟨v2, u2, hr2, ho2, hf2⟩ := hq1.own.put_one pn1 1 40 (hN1.blk.cell 0) (by have h0 := HL.out; have hx := BLx.out; have hy := BLy.out; have hsg := HSG.out; (try simp only [Ex.par]); (try simp only [List.length_append]); (try simp only [List.length_cons]); (try simp only [List.length_nil]); omega) hq1.sz 22
  refine wp_app _ _ _ _ hr2 rfl rfl rfl ?_
  have hq2 := hq1.next ho2 hf2
  refine hK _ _ (fun _ => ⟨_, _, hq2⟩) ?_
  (try simp only [Act.put]); (try simp only [List.getElem_toArray]); (try simp only [List.getElem_cons_succ]); (try simp only [List.getElem_cons_zero]); (try simp only [List.setIfInBounds_toArray]); (try simp only [List.set_cons_succ]); (try simp only [List.set_cons_zero])
  clear hK
  refine any_branch [8] (by kernel_rfl) rfl fun ix hix => ?_
  simp only [List.mem_cons, List.not_mem_nil, or_false] at hix
  subst hix
  refine any_op rfl rfl fun K hK => ?_
  go_simp
  refine (in_any n IH.out x _ base _ _ u2 BNx.out BPx.out ((BKx.out.fr hq2.low).sl) hq2.own hq2.sz (by have h0 := HL.out; have hx := BLx.out; have hy := BLy.out; have hsg := HSG.out; (try simp only [Ex.par]); (try simp only [List.length_append]); (try simp only [List.length_cons]); (try simp only [List.length_nil]); omega) BLx.out).mono ?_
  rintro e u3 ⟨v3, rfl, ho3, hf3⟩
  have hq3 := hq2.next ho3 hf3
  refine hK _ _ (fun _ => ⟨_, _, hq3⟩) ?_
  (try simp only [Act.put]); (try simp only [List.getElem_toArray]); (try simp only [List.getElem_cons_succ]); (try simp only [List.getElem_cons_zero]); (try simp only [List.setIfInBounds_toArray]); (try simp only [List.set_cons_succ]); (try simp only [List.set_cons_zero])
  clear hK
  refine any_branch [9] (by kernel_rfl) rfl fun ix hix => ?_
  simp only [List.mem_cons, List.not_mem_nil, or_false] at hix
  subst hix
  refine any_op rfl rfl fun K hK => ?_
  go_simp
  refine hK _ _ (fun _ => ⟨_, _, hq3⟩) ?_
  (try simp only [Act.put]); (try simp only [List.getElem_toArray]); (try simp only [List.getElem_cons_succ]); (try simp only [List.getElem_cons_zero]); (try simp only [List.setIfInBounds_toArray]); (try simp only [List.set_cons_succ]); (try simp only [List.set_cons_zero])
  clear hK
  refine any_end (by kernel_rfl) ?_
  have HP := Bx.mk hq3
  have hsl := hq3.own.sl
  clear hq0 hq1 hq2 hq3 hf1 hf2 hf3 
  obtain ⟨pa, za, ya, rfl⟩ := hsl
  obtain ⟨c0, c1, c2, c3, _, _, _, _⟩ := cells4 HP.out.e
  go_wp2_with fail
  refine region_any 100 (fun u => ∃ v' l', PQ base v w u #[.int .i64 k, .int .i64 a, .int .i64 vv, .slice (some ⟨b, o, none⟩) 2 cap] v' l') (by kernel_rfl) ?_
  generalize hu : World.drew _ = u0
  have hq0 := HP.out.step ((Below.refl _ _).drew)
  rw [hu] at hq0
  clear hu HP c0 c1 c2 c3
  refine any_take (i := 0) (.func (.func 53) #[] #[]) rfl rfl (by kernel_rfl) (by kernel_rfl) (by kernel_rfl) (by kernel_rfl) (fun _ _ d _ _ h => by cases d <;> exact h) (fun u hS => rfl) ⟨_, _, hq0⟩ ?_
  (try simp only [Act.put]); (try simp only [List.getElem_toArray]); (try simp only [List.getElem_cons_succ]); (try simp only [List.getElem_cons_zero]); (try simp only [List.setIfInBounds_toArray]); (try simp only [List.set_cons_succ]); (try simp only [List.set_cons_zero])
  refine any_take (i := 1) (.slice pa za ya) rfl rfl (by kernel_rfl) (by kernel_rfl) (by kernel_rfl) (by kernel_rfl) (fun _ _ d _ _ h => by cases d <;> exact h) (fun u hS => rfl) ⟨_, _, hq0⟩ ?_
  (try simp only [Act.put]); (try simp only [List.getElem_toArray]); (try simp only [List.getElem_cons_succ]); (try simp only [List.getElem_cons_zero]); (try simp only [List.setIfInBounds_toArray]); (try simp only [List.set_cons_succ]); (try simp only [List.set_cons_zero])
  refine any_take (i := 2) (.pointer (some ⟨w.heap.size, 0, none⟩)) rfl rfl (by kernel_rfl) (by kernel_rfl) (by kernel_rfl) (by kernel_rfl) (fun _ _ d _ _ h => by cases d <;> exact h) (fun u hS => rfl) ⟨_, _, hq0⟩ ?_
  (try simp only [Act.put]); (try simp only [List.getElem_toArray]); (try simp only [List.getElem_cons_succ]); (try simp only [List.getElem_cons_zero]); (try simp only [List.setIfInBounds_toArray]); (try simp only [List.set_cons_succ]); (try simp only [List.set_cons_zero])
  refine any_take (i := 3) (.int .i64 k) rfl rfl (by kernel_rfl) (by kernel_rfl) (by kernel_rfl) (by kernel_rfl) (fun _ _ d _ _ h => by cases d <;> exact h) (fun u hS => by obtain ⟨v9, l9, q9⟩ := hS; exact exec_loadI rfl rfl (q9.e.cell 0)) ⟨_, _, hq0⟩ ?_
  (try simp only [Act.put]); (try simp only [List.getElem_toArray]); (try simp only [List.getElem_cons_succ]); (try simp only [List.getElem_cons_zero]); (try simp only [List.setIfInBounds_toArray]); (try simp only [List.set_cons_succ]); (try simp only [List.set_cons_zero])
  refine any_take (i := 8) (.pointer (some ⟨w.heap.size, 3, none⟩)) rfl rfl (by kernel_rfl) (by kernel_rfl) (by kernel_rfl) (by kernel_rfl) (fun _ _ d _ _ h => by cases d <;> exact h) (fun u hS => rfl) ⟨_, _, hq0⟩ ?_
  (try simp only [Act.put]); (try simp only [List.getElem_toArray]); (try simp only [List.getElem_cons_succ]); (try simp only [List.getElem_cons_zero]); (try simp only [List.setIfInBounds_toArray]); (try simp only [List.set_cons_succ]); (try simp only [List.set_cons_zero])
  refine any_take (i := 9) (.slice (some ⟨b, o, none⟩) 2 cap) rfl rfl (by kernel_rfl) (by kernel_rfl) (by kernel_rfl) (by kernel_rfl) (fun _ _ d _ _ h => by cases d <;> exact h) (fun u hS => by obtain ⟨v9, l9, q9⟩ := hS; exact exec_loadS rfl rfl (q9.e.cell 3)) ⟨_, _, hq0⟩ ?_
  (try simp only [Act.put]); (try simp only [List.getElem_toArray]); (try simp only [List.getElem_cons_succ]); (try simp only [List.getElem_cons_zero]); (try simp only [List.setIfInBounds_toArray]); (try simp only [List.set_cons_succ]); (try simp only [List.set_cons_zero])
  refine any_take (i := 10) (.pointer (some ⟨b, o + 4, none⟩)) rfl rfl (by kernel_rfl) (by kernel_rfl) (by kernel_rfl) (by kernel_rfl) (fun _ _ d _ _ h => by cases d <;> exact h) (fun u hS => exec_ix12 rfl rfl rfl) ⟨_, _, hq0⟩ ?_
  (try simp only [Act.put]); (try simp only [List.getElem_toArray]); (try simp only [List.getElem_cons_succ]); (try simp only [List.getElem_cons_zero]); (try simp only [List.setIfInBounds_toArray]); (try simp only [List.set_cons_succ]); (try simp only [List.set_cons_zero])
  refine any_take (i := 11) (Ev y sy) rfl rfl (by kernel_rfl) (by kernel_rfl) (by kernel_rfl) (by kernel_rfl) (fun _ _ d _ _ h => by cases d <;> exact h) (fun u hS => by obtain ⟨v9, l9, q9⟩ := hS; have kk := BKy.out.fr q9.low; exact exec_loadX rfl rfl kk.c0 kk.c1 kk.c2 kk.c3) ⟨_, _, hq0⟩ ?_
  (try simp only [Act.put]); (try simp only [List.getElem_toArray]); (try simp only [List.getElem_cons_succ]); (try simp only [List.getElem_cons_zero]); (try simp only [List.setIfInBounds_toArray]); (try simp only [List.set_cons_succ]); (try simp only [List.set_cons_zero])
  refine any_branch [4, 13] (by kernel_rfl) rfl fun ix hix => ?_
  simp only [List.mem_cons, List.not_mem_nil, or_false] at hix
  rcases hix with rfl | rfl
  · refine any_op rfl rfl fun K hK => ?_
    go_simp
    refine (sign_any k HK.out.1 _).mono ?_
    rintro e u9 ⟨rfl, e9⟩
    obtain rfl : u0 = u9 := e9.symm
    refine hK _ _ (fun _ => ⟨_, _, hq0⟩) ?_
    (try simp only [Act.put]); (try simp only [List.getElem_toArray]); (try simp only [List.getElem_cons_succ]); (try simp only [List.getElem_cons_zero]); (try simp only [List.setIfInBounds_toArray]); (try simp only [List.set_cons_succ]); (try simp only [List.set_cons_zero])
    clear hK
    refine any_take (i := 5) (.string ({ data := #[32] } ++ ⟨(Ex.sgn k).toArray⟩)) rfl rfl (by kernel_rfl) (by kernel_rfl) (by kernel_rfl) (by kernel_rfl) (fun _ _ d _ _ h => by cases d <;> exact h) (fun u hS => exec_addS rfl rfl rfl (by have := HSG.out; simp only [ByteArray.size, List.size_toArray, List.length_cons, List.length_nil]; omega)) ⟨_, _, hq0⟩ ?_
    (try simp only [Act.put]); (try simp only [List.getElem_toArray]); (try simp only [List.getElem_cons_succ]); (try simp only [List.getElem_cons_zero]); (try simp only [List.setIfInBounds_toArray]); (try simp only [List.set_cons_succ]); (try simp only [List.set_cons_zero])
    refine any_take (i := 6) (.string (({ data := #[32] } ++ ⟨(Ex.sgn k).toArray⟩) ++ { data := #[32] })) rfl rfl (by kernel_rfl) (by kernel_rfl) (by kernel_rfl) (by kernel_rfl) (fun _ _ d _ _ h => by cases d <;> exact h) (fun u hS => exec_addS rfl rfl rfl (by have := HSG.out; rw [ByteArray.size_append]; simp only [ByteArray.size, List.size_toArray, List.length_cons, List.length_nil]; omega)) ⟨_, _, hq0⟩ ?_
    (try simp only [Act.put]); (try simp only [List.getElem_toArray]); (try simp only [List.getElem_cons_succ]); (try simp only [List.getElem_cons_zero]); (try simp only [List.setIfInBounds_toArray]); (try simp only [List.set_cons_succ]); (try simp only [List.set_cons_zero])
    refine any_branch [7, 13] (by kernel_rfl) rfl fun ix hix => ?_
    simp only [List.mem_cons, List.not_mem_nil, or_false] at hix
    rcases hix with rfl | rfl
    · refine any_op rfl rfl fun K hK => ?_
      have hls1 : ((({ data := #[32] } ++ ⟨(Ex.sgn k).toArray⟩) ++ { data := #[32] }) : ByteArray).data.toList = [32] ++ Ex.sgn k ++ [32] := by rw [lst3]
      obtain ⟨v1, u1, hr1, ho1, hf1⟩ := hq0.own.put_str (({ data := #[32] } ++ ⟨(Ex.sgn k).toArray⟩) ++ { data := #[32] }) (by rw [size_lst, hls1]; exact (by have h0 := HL.out; have hx := BLx.out; have hy := BLy.out; have hsg := HSG.out; (try simp only [Ex.par]); (try simp only [List.length_append]); (try simp only [List.length_cons]); (try simp only [List.length_nil]); omega)) hq0.sz 22
      rw [hls1] at ho1
      refine wp_app _ _ _ _ hr1 rfl rfl rfl ?_
      have hq1 := hq0.next ho1 hf1
      refine hK _ _ (fun _ => ⟨_, _, hq1⟩) ?_
      (try simp only [Act.put]); (try simp only [List.getElem_toArray]); (try simp only [List.getElem_cons_succ]); (try simp only [List.getElem_cons_zero]); (try simp only [List.setIfInBounds_toArray]); (try simp only [List.set_cons_succ]); (try simp only [List.set_cons_zero])
      clear hK
      refine any_branch [12, 13] (by kernel_rfl) rfl fun ix hix => ?_
      simp only [List.mem_cons, List.not_mem_nil, or_false] at hix
      rcases hix with rfl | rfl
      · refine any_op rfl rfl fun K hK => ?_
        go_simp
        refine (in_any n IH.out y _ base _ _ u1 BNy.out BPy.out ((BKy.out.fr hq1.low).sl) hq1.own hq1.sz (by have h0 := HL.out; have hx := BLx.out; have hy := BLy.out; have hsg := HSG.out; (try simp only [Ex.par]); (try simp only [List.length_append]); (try simp only [List.length_cons]); (try simp only [List.length_nil]); omega) BLy.out).mono ?_
        rintro e u2 ⟨v2, rfl, ho2, hf2⟩
        have hq2 := hq1.next ho2 hf2
        refine hK _ _ (fun _ => ⟨_, _, hq2⟩) ?_
        (try simp only [Act.put]); (try simp only [List.getElem_toArray]); (try simp only [List.getElem_cons_succ]); (try simp only [List.getElem_cons_zero]); (try simp only [List.setIfInBounds_toArray]); (try simp only [List.set_cons_succ]); (try simp only [List.set_cons_zero])
        clear hK
        refine any_branch [13] (by kernel_rfl) rfl fun ix hix => ?_
        simp only [List.mem_cons, List.not_mem_nil, or_false] at hix
        subst hix
        refine any_op rfl rfl fun K hK => ?_
        go_simp
        have hN3 := Fl.new hq2.own 41
        have hf3 := Fr.below (v := v2) ((Below.refl u2.heap.size u2).alloc (Nat.le_refl _) (.cells #[.int .u8 41] 5))
        have hq3 := hq2.step ((Below.refl _ _).alloc (Nat.le_refl _) (.cells #[.int .u8 41] 5))
        change Fl (u2.alloc (.cells #[.int .u8 41] 5)) _ _ _ at hN3
        generalize u2.heap.size = pn3 at hN3 ⊢
        generalize u2.alloc (.cells #[.int .u8 41] 5) = u3 at hN3 hq3 hf3 ⊢
        refine hK _ _ (fun _ => ⟨_, _, hq3⟩) ?_
        (try simp only [Act.put]); (try simp only [List.getElem_toArray]); (try simp only [List.getElem_cons_succ]); (try simp only [List.getElem_cons_zero]); (try simp only [List.setIfInBounds_toArray]); (try simp only [List.set_cons_succ]); (try simp only [List.set_cons_zero])
        clear hK
        refine any_branch [14] (by kernel_rfl) rfl fun ix hix => ?_
        simp only [List.mem_cons, List.not_mem_nil, or_false] at hix
        subst hix
        refine any_op rfl rfl fun K hK => ?_
        obtain ⟨v4, u4, hr4, ho4, hf4⟩ := hq3.own.put_one pn3 1 41 (hN3.blk.cell 0) (by have h0 := HL.out; have hx := BLx.out; have hy := BLy.out; have hsg := HSG.out; (try simp only [Ex.par]); (try simp only [List.length_append]); (try simp only [List.length_cons]); (try simp only [List.length_nil]); omega) hq3.sz 22
        refine wp_app _ _ _ _ hr4 rfl rfl rfl ?_
        have hq4 := hq3.next ho4 hf4
        refine hK _ _ (fun _ => ⟨_, _, hq4⟩) ?_
        (try simp only [Act.put]); (try simp only [List.getElem_toArray]); (try simp only [List.getElem_cons_succ]); (try simp only [List.getElem_cons_zero]); (try simp only [List.setIfInBounds_toArray]); (try simp only [List.set_cons_succ]); (try simp only [List.set_cons_zero])
        clear hK
        refine any_branch [15] (by kernel_rfl) rfl fun ix hix => ?_
        simp only [List.mem_cons, List.not_mem_nil, or_false] at hix
        subst hix
        refine any_op rfl rfl fun K hK => ?_
        go_simp
        refine hK _ _ (fun _ => ⟨_, _, hq4⟩) ?_
        (try simp only [Act.put]); (try simp only [List.getElem_toArray]); (try simp only [List.getElem_cons_succ]); (try simp only [List.getElem_cons_zero]); (try simp only [List.setIfInBounds_toArray]); (try simp only [List.set_cons_succ]); (try simp only [List.set_cons_zero])
        clear hK
        refine any_end (by kernel_rfl) ?_
        have HP := Bx.mk hq4
        have hsl := hq4.own.sl
        clear hq0 hq1 hq2 hq3 hq4 hf1 hf2 hf3 hf4 
        obtain ⟨pz, zz, yz, rfl⟩ := hsl
        obtain ⟨c0, c1, c2, c3, _, _, _, _⟩ := cells4 HP.out.e
        go_wp2_with fail
        go_ret
        refine ⟨.slice pz zz yz, rfl, ?_, HP.out.fr⟩
        have h5 := HP.out.own
        unfold Ex.prk
        simp only [if_neg HK.out.2.1, if_neg HK.out.2.2.1, if_neg HK.out.2.2.2.1, if_neg HK.out.2.2.2.2.1, if_neg HK.out.2.2.2.2.2.1, if_neg HK.out.2.2.2.2.2.2, List.append_assoc] at h5 ⊢
        simpa using h5
      · refine any_op rfl rfl fun K hK => ?_
        go_simp
        have hN2 := Fl.new hq1.own 41
        have hf2 := Fr.below (v := v1) ((Below.refl u1.heap.size u1).alloc (Nat.le_refl _) (.cells #[.int .u8 41] 5))
        have hq2 := hq1.step ((Below.refl _ _).alloc (Nat.le_refl _) (.cells #[.int .u8 41] 5))
        change Fl (u1.alloc (.cells #[.int .u8 41] 5)) _ _ _ at hN2
        generalize u1.heap.size = pn2 at hN2 ⊢
        generalize u1.alloc (.cells #[.int .u8 41] 5) = u2 at hN2 hq2 hf2 ⊢
        refine hK _ _ (fun _ => ⟨_, _, hq2⟩) ?_
        (try simp only [Act.put]); (try simp only [List.getElem_toArray]); (try simp only [List.getElem_cons_succ]); (try simp only [List.getElem_cons_zero]); (try simp only [List.setIfInBounds_toArray]); (try simp only [List.set_cons_succ]); (try simp only [List.set_cons_zero])
        clear hK
        refine any_branch [12] (by kernel_rfl) rfl fun ix hix => ?_
        simp only [List.mem_cons, List.not_mem_nil, or_false] at hix
        subst hix
        refine any_op rfl rfl fun K hK => ?_
        go_simp
        refine (in_any n IH.out y _ base _ _ u2 BNy.out BPy.out ((BKy.out.fr hq2.low).sl) hq2.own hq2.sz (by have h0 := HL.out; have hx := BLx.out; have hy := BLy.out; have hsg := HSG.out; (try simp only [Ex.par]); (try simp only [List.length_append]); (try simp only [List.length_cons]); (try simp only [List.length_nil]); omega) BLy.out).mono ?_
        rintro e u3 ⟨v3, rfl, ho3, hf3⟩
        have hq3 := hq2.next ho3 hf3
        have hF13_3 := hN2.next hf3
        refine hK _ _ (fun _ => ⟨_, _, hq3⟩) ?_
        (try simp only [Act.put]); (try simp only [List.getElem_toArray]); (try simp only [List.getElem_cons_succ]); (try simp only [List.getElem_cons_zero]); (try simp only [List.setIfInBounds_toArray]); (try simp only [List.set_cons_succ]); (try simp only [List.set_cons_zero])
        clear hK
        refine any_branch [14] (by kernel_rfl) rfl fun ix hix => ?_
        simp only [List.mem_cons, List.not_mem_nil, or_false] at hix
        subst hix
        refine any_op rfl rfl fun K hK => ?_
        obtain ⟨v4, u4, hr4, ho4, hf4⟩ := hq3.own.put_one pn2 1 41 (hF13_3.blk.cell 0) (by have h0 := HL.out; have hx := BLx.out; have hy := BLy.out; have hsg := HSG.out; (try simp only [Ex.par]); (try simp only [List.length_append]); (try simp only [List.length_cons]); (try simp only [List.length_nil]); omega) hq3.sz 22
        refine wp_app _ _ _ _ hr4 rfl rfl rfl ?_
        have hq4 := hq3.next ho4 hf4
        refine hK _ _ (fun _ => ⟨_, _, hq4⟩) ?_
        (try simp only [Act.put]); (try simp only [List.getElem_toArray]); (try simp only [List.getElem_cons_succ]); (try simp only [List.getElem_cons_zero]); (try simp only [List.setIfInBounds_toArray]); (try simp only [List.set_cons_succ]); (try simp only [List.set_cons_zero])
        clear hK
        refine any_branch [15] (by kernel_rfl) rfl fun ix hix => ?_
        simp only [List.mem_cons, List.not_mem_nil, or_false] at hix
        subst hix
        refine any_op rfl rfl fun K hK => ?_
        go_simp
        refine hK _ _ (fun _ => ⟨_, _, hq4⟩) ?_
        (try simp only [Act.put]); (try simp only [List.getElem_toArray]); (try simp only [List.getElem_cons_succ]); (try simp only [List.getElem_cons_zero]); (try simp only [List.setIfInBounds_toArray]); (try simp only [List.set_cons_succ]); (try simp only [List.set_cons_zero])
        clear hK
        refine any_end (by kernel_rfl) ?_
        have HP := Bx.mk hq4
        have hsl := hq4.own.sl
        clear hq0 hq1 hq2 hq3 hq4 hf1 hf2 hf3 hf4 
        obtain ⟨pz, zz, yz, rfl⟩ := hsl
        obtain ⟨c0, c1, c2, c3, _, _, _, _⟩ := cells4 HP.out.e
        go_wp2_with fail
        go_ret
        refine ⟨.slice pz zz yz, rfl, ?_, HP.out.fr⟩
        have h5 := HP.out.own
        unfold Ex.prk
        simp only [if_neg HK.out.2.1, if_neg HK.out.2.2.1, if_neg HK.out.2.2.2.1, if_neg HK.out.2.2.2.2.1, if_neg HK.out.2.2.2.2.2.1, if_neg HK.out.2.2.2.2.2.2, List.append_assoc] at h5 ⊢
        simpa using h5
    · refine any_op rfl rfl fun K hK => ?_
      go_simp
      have hN1 := Fl.new hq0.own 41
      have hf1 := Fr.below (v := (.slice pa za ya)) ((Below.refl u0.heap.size u0).alloc (Nat.le_refl _) (.cells #[.int .u8 41] 5))
      have hq1 := hq0.step ((Below.refl _ _).alloc (Nat.le_refl _) (.cells #[.int .u8 41] 5))
      change Fl (u0.alloc (.cells #[.int .u8 41] 5)) _ _ _ at hN1
      generalize u0.heap.size = pn1 at hN1 ⊢
      generalize u0.alloc (.cells #[.int .u8 41] 5) = u1 at hN1 hq1 hf1 ⊢
      refine hK _ _ (fun _ => ⟨_, _, hq1⟩) ?_
      (try simp only [Act.put]); (try simp only [List.getElem_toArray]); (try simp only [List.getElem_cons_succ]); (try simp only [List.getElem_cons_zero]); (try simp only [List.setIfInBounds_toArray]); (try simp only [List.set_cons_succ]); (try simp only [List.set_cons_zero])
      clear hK
      refine any_branch [7] (by kernel_rfl) rfl fun ix hix => ?_
      simp only [List.mem_cons, List.not_mem_nil, or_false] at hix
      subst hix
      refine any_op rfl rfl fun K hK => ?_
      have hls2 : ((({ data := #[32] } ++ ⟨(Ex.sgn k).toArray⟩) ++ { data := #[32] }) : ByteArray).data.toList = [32] ++ Ex.sgn k ++ [32] := by rw [lst3]
      obtain ⟨v2, u2, hr2, ho2, hf2⟩ := hq1.own.put_str (({ data := #[32] } ++ ⟨(Ex.sgn k).toArray⟩) ++ { data := #[32] }) (by rw [size_lst, hls2]; exact (by have h0 := HL.out; have hx := BLx.out; have hy := BLy.out; have hsg := HSG.out; (try simp only [Ex.par]); (try simp only [List.length_append]); (try simp only [List.length_cons]); (try simp only [List.length_nil]); omega)) hq1.sz 22
      rw [hls2] at ho2
      refine wp_app _ _ _ _ hr2 rfl rfl rfl ?_
      have hq2 := hq1.next ho2 hf2
      have hF13_2 := hN1.next hf2
      refine hK _ _ (fun _ => ⟨_, _, hq2⟩) ?_
      (try simp only [Act.put]); (try simp only [List.getElem_toArray]); (try simp only [List.getElem_cons_succ]); (try simp only [List.getElem_cons_zero]); (try simp only [List.setIfInBounds_toArray]); (try simp only [List.set_cons_succ]); (try simp only [List.set_cons_zero])
      clear hK
      refine any_branch [12] (by kernel_rfl) rfl fun ix hix => ?_
      simp only [List.mem_cons, List.not_mem_nil, or_false] at hix
      subst hix
      refine any_op rfl rfl fun K hK => ?_
      go_simp
      refine (in_any n IH.out y _ base _ _ u2 BNy.out BPy.out ((BKy.out.fr hq2.low).sl) hq2.own hq2.sz (by have h0 := HL.out; have hx := BLx.out; have hy := BLy.out; have hsg := HSG.out; (try simp only [Ex.par]); (try simp only [List.length_append]); (try simp only [List.length_cons]); (try simp only [List.length_nil]); omega) BLy.out).mono ?_
      rintro e u3 ⟨v3, rfl, ho3, hf3⟩
      have hq3 := hq2.next ho3 hf3
      have hF13_3 := hF13_2.next hf3
      refine hK _ _ (fun _ => ⟨_, _, hq3⟩) ?_
      (try simp only [Act.put]); (try simp only [List.getElem_toArray]); (try simp only [List.getElem_cons_succ]); (try simp only [List.getElem_cons_zero]); (try simp only [List.setIfInBounds_toArray]); (try simp only [List.set_cons_succ]); (try simp only [List.set_cons_zero])
      clear hK
      refine any_branch [14] (by kernel_rfl) rfl fun ix hix => ?_
      simp only [List.mem_cons, List.not_mem_nil, or_false] at hix
      subst hix
      refine any_op rfl rfl fun K hK => ?_
      obtain ⟨v4, u4, hr4, ho4, hf4⟩ := hq3.own.put_one pn1 1 41 (hF13_3.blk.cell 0) (by have h0 := HL.out; have hx := BLx.out; have hy := BLy.out; have hsg := HSG.out; (try simp only [Ex.par]); (try simp only [List.length_append]); (try simp only [List.length_cons]); (try simp only [List.length_nil]); omega) hq3.sz 22
      refine wp_app _ _ _ _ hr4 rfl rfl rfl ?_
      have hq4 := hq3.next ho4 hf4
      refine hK _ _ (fun _ => ⟨_, _, hq4⟩) ?_
      (try simp only [Act.put]); (try simp only [List.getElem_toArray]); (try simp only [List.getElem_cons_succ]); (try simp only [List.getElem_cons_zero]); (try simp only [List.setIfInBounds_toArray]); (try simp only [List.set_cons_succ]); (try simp only [List.set_cons_zero])
      clear hK
      refine any_branch [15] (by kernel_rfl) rfl fun ix hix => ?_
      simp only [List.mem_cons, List.not_mem_nil, or_false] at hix
      subst hix
      refine any_op rfl rfl fun K hK => ?_
      go_simp
      refine hK _ _ (fun _ => ⟨_, _, hq4⟩) ?_
      (try simp only [Act.put]); (try simp only [List.getElem_toArray]); (try simp only [List.getElem_cons_succ]); (try simp only [List.getElem_cons_zero]); (try simp only [List.setIfInBounds_toArray]); (try simp only [List.set_cons_succ]); (try simp only [List.set_cons_zero])
      clear hK
      refine any_end (by kernel_rfl) ?_
      have HP := Bx.mk hq4
      have hsl := hq4.own.sl
      clear hq0 hq1 hq2 hq3 hq4 hf1 hf2 hf3 hf4 
      obtain ⟨pz, zz, yz, rfl⟩ := hsl
      obtain ⟨c0, c1, c2, c3, _, _, _, _⟩ := cells4 HP.out.e
      go_wp2_with fail
      go_ret
      refine ⟨.slice pz zz yz, rfl, ?_, HP.out.fr⟩
      have h5 := HP.out.own
      unfold Ex.prk
      simp only [if_neg HK.out.2.1, if_neg HK.out.2.2.1, if_neg HK.out.2.2.2.1, if_neg HK.out.2.2.2.2.1, if_neg HK.out.2.2.2.2.2.1, if_neg HK.out.2.2.2.2.2.2, List.append_assoc] at h5 ⊢
      simpa using h5
  · refine any_op rfl rfl fun K hK => ?_
    go_simp
    have hN1 := Fl.new hq0.own 41
    have hf1 := Fr.below (v := (.slice pa za ya)) ((Below.refl u0.heap.size u0).alloc (Nat.le_refl _) (.cells #[.int .u8 41] 5))
    have hq1 := hq0.step ((Below.refl _ _).alloc (Nat.le_refl _) (.cells #[.int .u8 41] 5))
    change Fl (u0.alloc (.cells #[.int .u8 41] 5)) _ _ _ at hN1
    generalize u0.heap.size = pn1 at hN1 ⊢
    generalize u0.alloc (.cells #[.int .u8 41] 5) = u1 at hN1 hq1 hf1 ⊢
    refine hK _ _ (fun _ => ⟨_, _, hq1⟩) ?_
    (try simp only [Act.put]); (try simp only [List.getElem_toArray]); (try simp only [List.getElem_cons_succ]); (try simp only [List.getElem_cons_zero]); (try simp only [List.setIfInBounds_toArray]); (try simp only [List.set_cons_succ]); (try simp only [List.set_cons_zero])
    clear hK
    refine any_branch [4] (by kernel_rfl) rfl fun ix hix => ?_
    simp only [List.mem_cons, List.not_mem_nil, or_false] at hix
    subst hix
    refine any_op rfl rfl fun K hK => ?_
    go_simp
    refine (sign_any k HK.out.1 _).mono ?_
    rintro e u9 ⟨rfl, e9⟩
    obtain rfl : u1 = u9 := e9.symm
    refine hK _ _ (fun _ => ⟨_, _, hq1⟩) ?_
    (try simp only [Act.put]); (try simp only [List.getElem_toArray]); (try simp only [List.getElem_cons_succ]); (try simp only [List.getElem_cons_zero]); (try simp only [List.setIfInBounds_toArray]); (try simp only [List.set_cons_succ]); (try simp only [List.set_cons_zero])
    clear hK
    refine any_take (i := 5) (.string ({ data := #[32] } ++ ⟨(Ex.sgn k).toArray⟩)) rfl rfl (by kernel_rfl) (by kernel_rfl) (by kernel_rfl) (by kernel_rfl) (fun _ _ d _ _ h => by cases d <;> exact h) (fun u hS => exec_addS rfl rfl rfl (by have := HSG.out; simp only [ByteArray.size, List.size_toArray, List.length_cons, List.length_nil]; omega)) ⟨_, _, hq1⟩ ?_
    (try simp only [Act.put]); (try simp only [List.getElem_toArray]); (try simp only [List.getElem_cons_succ]); (try simp only [List.getElem_cons_zero]); (try simp only [List.setIfInBounds_toArray]); (try simp only [List.set_cons_succ]); (try simp only [List.set_cons_zero])
    refine any_take (i := 6) (.string (({ data := #[32] } ++ ⟨(Ex.sgn k).toArray⟩) ++ { data := #[32] })) rfl rfl (by kernel_rfl) (by kernel_rfl) (by kernel_rfl) (by kernel_rfl) (fun _ _ d _ _ h => by cases d <;> exact h) (fun u hS => exec_addS rfl rfl rfl (by have := HSG.out; rw [ByteArray.size_append]; simp only [ByteArray.size, List.size_toArray, List.length_cons, List.length_nil]; omega)) ⟨_, _, hq1⟩ ?_
    (try simp only [Act.put]); (try simp only [List.getElem_toArray]); (try simp only [List.getElem_cons_succ]); (try simp only [List.getElem_cons_zero]); (try simp only [List.setIfInBounds_toArray]); (try simp only [List.set_cons_succ]); (try simp only [List.set_cons_zero])
    refine any_branch [7] (by kernel_rfl) rfl fun ix hix => ?_
    simp only [List.mem_cons, List.not_mem_nil, or_false] at hix
    subst hix
    refine any_op rfl rfl fun K hK => ?_
    have hls2 : ((({ data := #[32] } ++ ⟨(Ex.sgn k).toArray⟩) ++ { data := #[32] }) : ByteArray).data.toList = [32] ++ Ex.sgn k ++ [32] := by rw [lst3]
    obtain ⟨v2, u2, hr2, ho2, hf2⟩ := hq1.own.put_str (({ data := #[32] } ++ ⟨(Ex.sgn k).toArray⟩) ++ { data := #[32] }) (by rw [size_lst, hls2]; exact (by have h0 := HL.out; have hx := BLx.out; have hy := BLy.out; have hsg := HSG.out; (try simp only [Ex.par]); (try simp only [List.length_append]); (try simp only [List.length_cons]); (try simp only [List.length_nil]); omega)) hq1.sz 22
    rw [hls2] at ho2
    refine wp_app _ _ _ _ hr2 rfl rfl rfl ?_
    have hq2 := hq1.next ho2 hf2
    have hF13_2 := hN1.next hf2
    refine hK _ _ (fun _ => ⟨_, _, hq2⟩) ?_
    (try simp only [Act.put]); (try simp only [List.getElem_toArray]); (try simp only [List.getElem_cons_succ]); (try simp only [List.getElem_cons_zero]); (try simp only [List.setIfInBounds_toArray]); (try simp only [List.set_cons_succ]); (try simp only [List.set_cons_zero])
    clear hK
    refine any_branch [12] (by kernel_rfl) rfl fun ix hix => ?_
    simp only [List.mem_cons, List.not_mem_nil, or_false] at hix
    subst hix
    refine any_op rfl rfl fun K hK => ?_
    go_simp
    refine (in_any n IH.out y _ base _ _ u2 BNy.out BPy.out ((BKy.out.fr hq2.low).sl) hq2.own hq2.sz (by have h0 := HL.out; have hx := BLx.out; have hy := BLy.out; have hsg := HSG.out; (try simp only [Ex.par]); (try simp only [List.length_append]); (try simp only [List.length_cons]); (try simp only [List.length_nil]); omega) BLy.out).mono ?_
    rintro e u3 ⟨v3, rfl, ho3, hf3⟩
    have hq3 := hq2.next ho3 hf3
    have hF13_3 := hF13_2.next hf3
    refine hK _ _ (fun _ => ⟨_, _, hq3⟩) ?_
    (try simp only [Act.put]); (try simp only [List.getElem_toArray]); (try simp only [List.getElem_cons_succ]); (try simp only [List.getElem_cons_zero]); (try simp only [List.setIfInBounds_toArray]); (try simp only [List.set_cons_succ]); (try simp only [List.set_cons_zero])
    clear hK
    refine any_branch [14] (by kernel_rfl) rfl fun ix hix => ?_
    simp only [List.mem_cons, List.not_mem_nil, or_false] at hix
    subst hix
    refine any_op rfl rfl fun K hK => ?_
    obtain ⟨v4, u4, hr4, ho4, hf4⟩ := hq3.own.put_one pn1 1 41 (hF13_3.blk.cell 0) (by have h0 := HL.out; have hx := BLx.out; have hy := BLy.out; have hsg := HSG.out; (try simp only [Ex.par]); (try simp only [List.length_append]); (try simp only [List.length_cons]); (try simp only [List.length_nil]); omega) hq3.sz 22
    refine wp_app _ _ _ _ hr4 rfl rfl rfl ?_
    have hq4 := hq3.next ho4 hf4
    refine hK _ _ (fun _ => ⟨_, _, hq4⟩) ?_
    (try simp only [Act.put]); (try simp only [List.getElem_toArray]); (try simp only [List.getElem_cons_succ]); (try simp only [List.getElem_cons_zero]); (try simp only [List.setIfInBounds_toArray]); (try simp only [List.set_cons_succ]); (try simp only [List.set_cons_zero])
    clear hK
    refine any_branch [15] (by kernel_rfl) rfl fun ix hix => ?_
    simp only [List.mem_cons, List.not_mem_nil, or_false] at hix
    subst hix
    refine any_op rfl rfl fun K hK => ?_
    go_simp
    refine hK _ _ (fun _ => ⟨_, _, hq4⟩) ?_
    (try simp only [Act.put]); (try simp only [List.getElem_toArray]); (try simp only [List.getElem_cons_succ]); (try simp only [List.getElem_cons_zero]); (try simp only [List.setIfInBounds_toArray]); (try simp only [List.set_cons_succ]); (try simp only [List.set_cons_zero])
    clear hK
    refine any_end (by kernel_rfl) ?_
    have HP := Bx.mk hq4
    have hsl := hq4.own.sl
    clear hq0 hq1 hq2 hq3 hq4 hf1 hf2 hf3 hf4 
    obtain ⟨pz, zz, yz, rfl⟩ := hsl
    obtain ⟨c0, c1, c2, c3, _, _, _, _⟩ := cells4 HP.out.e
    go_wp2_with fail
    go_ret
    refine ⟨.slice pz zz yz, rfl, ?_, HP.out.fr⟩
    have h5 := HP.out.own
    unfold Ex.prk
    simp only [if_neg HK.out.2.1, if_neg HK.out.2.2.1, if_neg HK.out.2.2.2.1, if_neg HK.out.2.2.2.2.1, if_neg HK.out.2.2.2.2.2.1, if_neg HK.out.2.2.2.2.2.2, List.append_assoc] at h5 ⊢
    simpa using h5
end Go.Proofs.Ytfgokhafiffbaaa
