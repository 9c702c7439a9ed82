/-
  Texts on which the law ExprTrees rests, part 5 of 9.
-/
import Derived.Test.YtfgokhafiffbaaaExprTreesM4
/-
  Formulas: put, what a formula is printed as.
-/
namespace Go.Proofs.Ytfgokhafiffbaaa
set_option linter.unusedVariables false
open Go.RowKit Go.Lib

def Ex.sgn (k : Int) : List UInt8 := if k = 4 then [38] else if k = 5 then [124] else if k = 6 then [94] else if k = 7 then [45, 62] else [60, 45, 62]
def Ex.dig (v : Int) : UInt8 := Nat.toUInt8 (48 + v.toNat)
def Ex.par (l : List UInt8) : List UInt8 := [40] ++ l ++ [41]
/-- a node's print, of the prints of its kids -/
def Ex.prk (k v : Int) (l : List (List UInt8)) : List UInt8 :=
  if k = 1 then [118] ++ [Ex.dig v] else if k = 2 then [Ex.dig v] else if k = 3 then [33] ++ Ex.par (l.getD 0 [])
  else if k = 10 then ([97, 108, 108, 32, 118] ++ [Ex.dig v] ++ [32]) ++ Ex.par (l.getD 0 []) else if k = 11 then ([97, 110, 121, 32, 118] ++ [Ex.dig v] ++ [32]) ++ Ex.par (l.getD 0 [])
  else if k = 9 then [105, 116, 101, 40] ++ Ex.par (l.getD 0 []) ++ [44, 32] ++ Ex.par (l.getD 1 []) ++ [44, 32] ++ Ex.par (l.getD 2 []) ++ [41]
  else [40] ++ Ex.par (l.getD 0 []) ++ ([32] ++ Ex.sgn k ++ [32]) ++ Ex.par (l.getD 1 []) ++ [41]
def Fo.prs : Fo → List (List UInt8)
  | .nil => []
  | .cons k _ v kids rest => Ex.prk k v kids.prs :: rest.prs
def Ex.pr (t : Tr) : List UInt8 := Ex.prk t.k t.v t.kids.prs

/-- all but v's own block, of what was there, is as it was; v' lies where v lay, or in a new block -/
structure Fr (v : Value) (u : World) (v' : Value) (u' : World) : Prop where
  g : u.grownBy u' v.ownBlock
  o : ∀ k, v'.ownBlock = some k → v.ownBlock = some k ∨ u.heap.size ≤ k
theorem Fr.trans {v v' v'' : Value} {a b c : World} (h : Fr v a v' b) (k : Fr v' b v'' c) : Fr v a v'' c := by
  refine ⟨⟨k.g.os.trans h.g.os, k.g.tape.trans h.g.tape, k.g.output.trans h.g.output, Nat.le_trans h.g.size k.g.size, fun i hi hn => ?_⟩, fun i hi => ?_⟩
  · refine (k.g.block i (Nat.lt_of_lt_of_le hi h.g.size) (fun e => ?_)).trans (h.g.block i hi hn)
    rcases h.o i e.symm with e' | e'
    · exact hn e'.symm
    · omega
  · have hs := h.g.size
    rcases k.o i hi with e | e
    · exact h.o i e
    · exact .inr (by omega)
theorem Fr.below {v : Value} {a b : World} (hb : Below a.heap.size a b) : Fr v a v b := ⟨⟨hb.os, hb.tape, hb.output, hb.size, fun g hg _ => hb.block g hg⟩, fun k hk => .inl hk⟩
theorem Fr.low {v v' : Value} {a b : World} {base : Nat} (h : Fr v a v' b) (hv : ∀ k, v.ownBlock = some k → base ≤ k) (hb : base ≤ a.heap.size) (g : Nat) (hg : g < base) : b.heap[g]? = a.heap[g]? :=
  h.g.block g (by omega) (fun e => by have := hv g e.symm; omega)
theorem Fr.to_below {v v' : Value} {a b c : World} {base : Nat} (h : Below base a b) (k : Fr v b v' c) (hv : ∀ x, v.ownBlock = some x → base ≤ x) (hb : base ≤ b.heap.size) : Below base a c :=
  ⟨k.g.os.trans h.os, k.g.tape.trans h.tape, k.g.output.trans h.output, Nat.le_trans h.size k.g.size, fun g hg => (k.low hv hb g hg).trans (h.block g hg)⟩
/-- a string appended, and where -/
theorem OwnB.put_str {w : World} {base : Nat} {v : Value} {l : List UInt8} (h : OwnB w base v l) (s : ByteArray) (hn : l.length + s.size ≤ 1000000) (hb : base ≤ w.heap.size) (ty : TypeId) :
    ∃ v' w', (Builtin.append_ #[22, 9] ty #[v, .string s]).run Try.prog w = .ok v' w' ∧ OwnB w' base v' (l ++ s.data.toList) ∧ Fr v w v' w' := by
  obtain ⟨i, hi, hz, hs, hby⟩ := u8_info
  obtain ⟨v', w', hr, ho, hg, hnil⟩ := run_append_own_string (P := Try.prog) w base 22 9 ty 5 i Try.underlying22 Try.underlying9 hi hz hs hby v l.length _ h s (by unfold maxLen; omega) (by omega) hb
  refine ⟨v', w', hr, ?_, hg, ?_⟩
  · unfold OwnB
    rw [List.length_append, List.map_append, ← strCells_of, show s.data.toList.length = s.size from by simp]
    exact ho
  · have h0 := h
    rcases h0.2 with ⟨rfl, e⟩ | ⟨g, cap, cur, rfl, hbg, hg, hnc, hcm, hcs, htake⟩
    · by_cases hm : s.size = 0
      · have := hnil.2 ⟨rfl, hm⟩
        subst this
        intro k hk
        cases hk
      · have hr2 := run_append_nil_string (P := Try.prog) w 22 9 ty 5 i (.int .u8 0) Try.underlying22 Try.underlying9 hi hz s (by omega) (by omega) (by rw [hby]; omega)
        rw [hr] at hr2
        cases hr2
        intro k hk
        simp [Value.ownBlock] at hk
        omega
    · by_cases hroom : l.length + s.size ≤ cap
      · have hcs' : cur.size = cap := by simpa using hcs
        have hr2 := run_append_room_string (P := Try.prog) w 22 9 ty 5 i Try.underlying22 Try.underlying9 hi hs g l.length cap cur hg s hroom (by omega)
        rw [hr] at hr2
        cases hr2
        intro k hk
        exact .inl hk
      · have holds : ∀ j u, (l.map fun b => (.int .u8 (b.toNat : Int) : Value))[j]? = some u → w.cell? ((⟨g, 0, none⟩ : Addr).add j) = some u := World.ownsRow.cells h (g := g) rfl
        have hr2 := run_append_grow_string (P := Try.prog) w 22 9 ty 5 i (.int .u8 0) Try.underlying22 Try.underlying9 hi hz ⟨g, 0, none⟩ l.length cap _ (by rw [hs]; simp) holds s (by omega) (by omega) (by rw [hby]; exact growslice_fits (by omega) (by omega))
        rw [hr] at hr2
        cases hr2
        intro k hk
        simp [Value.ownBlock] at hk
        omega
/-- one byte appended, and where -/
theorem OwnB.put_one {w : World} {base : Nat} {v : Value} {l : List UInt8} (h : OwnB w base v l) (p c : Nat) (x : UInt8) (hx : w.cell? ⟨p, 0, none⟩ = some (.int .u8 (x.toNat : Int))) (hn : l.length + 1 ≤ 1000000) (hb : base ≤ w.heap.size) (ty : TypeId) :
    ∃ v' w', (Builtin.append_ #[22, 22] ty #[v, .slice (some ⟨p, 0, none⟩) 1 c]).run Try.prog w = .ok v' w' ∧ OwnB w' base v' (l ++ [x]) ∧ Fr v w v' w' := by
  obtain ⟨i, hi, hz, hs, hby⟩ := u8_info
  obtain ⟨v', w', hr, ho, hg, _, hat⟩ := run_append_own_at (P := Try.prog) w base 22 ty 5 i _ 1 1 Try.underlying22 hi hz hs hby rfl (by omega) v l.length _ h ⟨p, 0, none⟩ 1 c [.int .u8 (x.toNat : Int)] rfl
    (fun j u hj => by
      match j, hj with
      | 0, hj => cases hj; exact hx
      | j + 1, hj => simp at hj) (by intro u hu; simp at hu; subst hu; rfl) (by unfold maxLen; omega) (by omega) hb
  refine ⟨v', w', hr, ?_, hg, fun k hk => ?_⟩
  · unfold OwnB
    rw [List.length_append, List.map_append]
    exact ho
  · rcases hat with e | e
    · exact .inl (by rw [← e]; exact hk)
    · rw [e] at hk; cases hk; exact .inr (Nat.le_refl _)
/-- where put stands: w its entry, u now -/
structure PQ (base : Nat) (v0 : Value) (w u : World) (cs : Array Value) (v : Value) (l : List UInt8) : Prop where
  own : OwnB u base v l
  fr : Fr v0 w v u
  e : Blk u w.heap.size 36 cs
  le : base ≤ w.heap.size
  ne : v.ownBlock ≠ some w.heap.size
  o0 : ∀ k, v0.ownBlock = some k → base ≤ k
theorem PQ.next {base : Nat} {v0 : Value} {w u u' : World} {cs : Array Value} {v v' : Value} {l l' : List UInt8} (h : PQ base v0 w u cs v l) (ho : OwnB u' base v' l') (hf : Fr v u v' u') : PQ base v0 w u' cs v' l' :=
  ⟨ho, h.fr.trans hf, ⟨(hf.g.block _ h.e.lt (fun e => h.ne e.symm)).trans h.e.eq⟩, h.le, fun e => by
    have := h.e.lt
    rcases hf.o _ e with e' | e'
    · exact h.ne e'
    · omega, h.o0⟩
theorem PQ.step {base : Nat} {v0 : Value} {w u u' : World} {cs : Array Value} {v : Value} {l : List UInt8} (h : PQ base v0 w u cs v l) (hb : Below u.heap.size u u') : PQ base v0 w u' cs v l := h.next (h.own.below hb) (Fr.below hb)
theorem PQ.sz {base : Nat} {v0 : Value} {w u : World} {cs : Array Value} {v : Value} {l : List UInt8} (h : PQ base v0 w u cs v l) : base ≤ u.heap.size := Nat.le_trans h.le h.fr.g.size
theorem PQ.low {base : Nat} {v0 : Value} {w u : World} {cs : Array Value} {v : Value} {l : List UInt8} (h : PQ base v0 w u cs v l) (g : Nat) (hg : g < base) : u.heap[g]? = w.heap[g]? := h.fr.low h.o0 h.le g hg
theorem PQ.start {base : Nat} {w : World} {k a x : Int} {sl : Value} {v : Value} {l : List UInt8} (ho : OwnB w base v l) (hb : base ≤ w.heap.size) :
    PQ base v w (w.alloc (.cells #[.int .i64 k, .int .i64 a, .int .i64 x, sl] 36)) #[.int .i64 k, .int .i64 a, .int .i64 x, sl] v l :=
  ⟨ho.below ((Below.refl _ _).alloc (Nat.le_refl _) _), Fr.below ((Below.refl _ _).alloc (Nat.le_refl _) _), boxE _ _ _ _ _, hb, fun e => by have := (ho.lt e).2; omega, fun k hk => (ho.lt hk).1⟩
/-- a byte of one's own, that is not v's -/
structure Fl (u : World) (v : Value) (g : Nat) (x : UInt8) : Prop where
  blk : Blk u g 5 #[.int .u8 (x.toNat : Int)]
  ne : v.ownBlock ≠ some g
theorem Fl.next {u u' : World} {v v' : Value} {g : Nat} {x : UInt8} (h : Fl u v g x) (hf : Fr v u v' u') : Fl u' v' g x :=
  ⟨⟨(hf.g.block _ h.blk.lt (fun e => h.ne e.symm)).trans h.blk.eq⟩, fun e => by
    have := h.blk.lt
    rcases hf.o _ e with e' | e'
    · exact h.ne e'
    · omega⟩
theorem Fl.new {u : World} {v : Value} {base : Nat} {l : List UInt8} (ho : OwnB u base v l) (x : UInt8) : Fl (u.alloc (.cells #[.int .u8 (x.toNat : Int)] 5)) v u.heap.size x :=
  ⟨Blk.new _ _ _, fun e => by have := (ho.lt e).2; omega⟩
/-- one kid of what is printed, where it lies -/
structure KidB (w : World) (base b o : Nat) (x : Tr) (sx : Value) : Prop where
  lt : b < base
  c0 : w.cell? ⟨b, o, none⟩ = some (.int .i64 x.k)
  c1 : w.cell? ⟨b, o + 1, none⟩ = some (.int .i64 x.a)
  c2 : w.cell? ⟨b, o + 2, none⟩ = some (.int .i64 x.v)
  c3 : w.cell? ⟨b, o + 3, none⟩ = some sx
  sl : SlF w (fun g => g < base) sx x.kids
theorem KidB.fr {w u : World} {base b o : Nat} {x : Tr} {sx : Value} (h : KidB w base b o x sx) (hf : ∀ g, g < base → u.heap[g]? = w.heap[g]?) : KidB u base b o x sx :=
  ⟨h.lt, (World.cell?_of_block (a := ⟨b, o, none⟩) (hf b h.lt)).trans h.c0, (World.cell?_of_block (a := ⟨b, o + 1, none⟩) (hf b h.lt)).trans h.c1, (World.cell?_of_block (a := ⟨b, o + 2, none⟩) (hf b h.lt)).trans h.c2,
    (World.cell?_of_block (a := ⟨b, o + 3, none⟩) (hf b h.lt)).trans h.c3, h.sl.kept fun g hg _ => hf g hg⟩
/-- what is known of put for what has so few nodes -/
def Pw (n : Nat) : Prop := ∀ (t : Tr) (sl : Value) (base : Nat) (v : Value) (l : List UInt8) (u : World), (t.on .nil).nodes ≤ n → (t.on .nil).allPlain = true → SlF u (fun g => g < base) sl t.kids → OwnB u base v l → base ≤ u.heap.size →
  l.length + 32 * (t.on .nil).nodes ≤ 500000 → Calls Try.prog 35 #[v, Ev t sl] u fun e w' => ∃ v', e = .returned v' ∧ OwnB w' base v' (l ++ Ex.pr t) ∧ Fr v u v' w'
section
variable {a : Act} {u : World} {o : Oper} {x y : Operand}
theorem exec_loadX {p off : Nat} {t : Tr} {sl : Value} (hop : o.op = .load 36 x) (hx : a.eval x = .pointer (some ⟨p, off, none⟩)) (h0 : u.cell? ⟨p, off, none⟩ = some (.int .i64 t.k)) (h1 : u.cell? ⟨p, off + 1, none⟩ = some (.int .i64 t.a))
    (h2 : u.cell? ⟨p, off + 2, none⟩ = some (.int .i64 t.v)) (h3 : u.cell? ⟨p, off + 3, none⟩ = some sl) :
    (execOp a.eval o).run Try.prog u = .ok (.value (Ev t sl)) u := by
  unfold execOp
  simp only [hop, hx]
  go_simp
  rfl
theorem exec_loadS {p off : Nat} {v : Value} (hop : o.op = .load 34 x) (hx : a.eval x = .pointer (some ⟨p, off, none⟩)) (hc : u.cell? ⟨p, off, none⟩ = some v) :
    (execOp a.eval o).run Try.prog u = .ok (.value v) u := by
  unfold execOp
  simp only [hop, hx]
  go_simp
end
theorem sign_any (k : Int) (h : 4 ≤ k ∧ k ≤ 8) (w : World) : Calls Try.prog 55 #[.int .i64 k] w fun e w' => e = .returned (.string ⟨(Ex.sgn k).toArray⟩) ∧ w' = w := by
  have hc : k = 4 ∨ k = 5 ∨ k = 6 ∨ k = 7 ∨ k = 8 := by omega
  rcases hc with rfl | rfl | rfl | rfl | rfl
  all_goals
    (go_enter Try.func55, Try.ntmps55
     go_wp2_with fail
     go_ret
     exact ⟨rfl, rfl⟩)

theorem getD3 : ∀ (L : List (List UInt8)), (L.getD 0 []).length + (L.getD 1 []).length + (L.getD 2 []).length ≤ (L.map List.length).sum
  | [] => by simp
  | [a] => by simp
  | [a, b] => by simp
  | a :: b :: c :: r => by simp; omega
theorem prk_len (k v : Int) (L : List (List UInt8)) : (Ex.prk k v L).length ≤ 16 + (L.map List.length).sum := by
  have h := getD3 L
  have hs : (Ex.sgn k).length ≤ 3 := by unfold Ex.sgn; repeat' split
                                        all_goals simp
  unfold Ex.prk Ex.par
  repeat' split
  all_goals (simp only [List.length_append, List.length_cons, List.length_nil]; omega)
theorem prs_len : ∀ F : Fo, (F.prs.map List.length).sum ≤ 16 * F.nodes
  | .nil => by simp [Fo.prs]
  | .cons k a v kids rest => by
    have h1 := prs_len kids
    have h2 := prs_len rest
    have h3 := prk_len k v kids.prs
    simp only [Fo.prs, Fo.nodes, List.map_cons, List.sum_cons]
    omega
theorem pr_len (t : Tr) : (Ex.pr t).length ≤ 16 * (t.on .nil).nodes := by
  have h1 := prs_len t.kids
  have h3 := prk_len t.k t.v t.kids.prs
  rw [Fo.nodes_on]
  unfold Ex.pr
  omega
theorem str_add' (s t : ByteArray) (h : s.size + t.size ≤ 1000000) (w : World) : (Op.stringOp .add s t).run Try.prog w = .ok (.string (s ++ t)) w := run_string_add_sum w s t (by omega)
theorem strOf_size (l : List Nat) : (strOf l).size = l.length := by unfold strOf; simp [ByteArray.size]
theorem dig_of (m : Nat) : (strOf [48 + m]).data.toList = [Ex.dig (m : Int)] := by unfold strOf Ex.dig; simp
section
variable {a : Act} {u : World} {o : Oper} {x y : Operand}

theorem exec_ix01 {b o_ c : Nat} (hop : o.op = .indexAddr 34 x y) (hx : a.eval x = .slice (some ⟨b, o_, none⟩) 1 c) (hy : a.eval y = .int .i64 0) :
    (execOp a.eval o).run Try.prog u = .ok (.value (.pointer (some ⟨b, o_, none⟩))) u := by
  unfold execOp
  simp only [hop, hx, hy]
  go_simp
theorem exec_ix02 {b o_ c : Nat} (hop : o.op = .indexAddr 34 x y) (hx : a.eval x = .slice (some ⟨b, o_, none⟩) 2 c) (hy : a.eval y = .int .i64 0) :
    (execOp a.eval o).run Try.prog u = .ok (.value (.pointer (some ⟨b, o_, none⟩))) u := by
  unfold execOp
  simp only [hop, hx, hy]
  go_simp
theorem exec_ix12 {b o_ c : Nat} (hop : o.op = .indexAddr 34 x y) (hx : a.eval x = .slice (some ⟨b, o_, none⟩) 2 c) (hy : a.eval y = .int .i64 1) :
    (execOp a.eval o).run Try.prog u = .ok (.value (.pointer (some ⟨b, (o_ + 4), none⟩))) u := by
  unfold execOp
  simp only [hop, hx, hy]
  go_simp
theorem exec_ix03 {b o_ c : Nat} (hop : o.op = .indexAddr 34 x y) (hx : a.eval x = .slice (some ⟨b, o_, none⟩) 3 c) (hy : a.eval y = .int .i64 0) :
    (execOp a.eval o).run Try.prog u = .ok (.value (.pointer (some ⟨b, o_, none⟩))) u := by
  unfold execOp
  simp only [hop, hx, hy]
  go_simp
theorem exec_ix13 {b o_ c : Nat} (hop : o.op = .indexAddr 34 x y) (hx : a.eval x = .slice (some ⟨b, o_, none⟩) 3 c) (hy : a.eval y = .int .i64 1) :
    (execOp a.eval o).run Try.prog u = .ok (.value (.pointer (some ⟨b, (o_ + 4), none⟩))) u := by
  unfold execOp
  simp only [hop, hx, hy]
  go_simp
theorem exec_ix23 {b o_ c : Nat} (hop : o.op = .indexAddr 34 x y) (hx : a.eval x = .slice (some ⟨b, o_, none⟩) 3 c) (hy : a.eval y = .int .i64 2) :
    (execOp a.eval o).run Try.prog u = .ok (.value (.pointer (some ⟨b, (o_ + 8), none⟩))) u := by
  unfold execOp
  simp only [hop, hx, hy]
  go_simp
end
section
variable {a : Act} {u : World} {o : Oper} {x y : Operand}
theorem exec_addS {s t : ByteArray} (hop : o.op = .binOp .add 9 x y 9) (hx : a.eval x = .string s) (hy : a.eval y = .string t) (h : s.size + t.size ≤ 1000000) :
    (execOp a.eval o).run Try.prog u = .ok (.value (.string (s ++ t))) u := by
  have ha := str_add' s t h u
  unfold execOp
  simp only [hop, hx, hy]
  go_simp
end
theorem lst3 (a b c : ByteArray) : ((a ++ b) ++ c).data.toList = a.data.toList ++ b.data.toList ++ c.data.toList := by simp [ByteArray.data_append]
theorem size_lst (a : ByteArray) : a.size = a.data.toList.length := by rw [Array.length_toList]; rfl
theorem sgn_len (k : Int) : (Ex.sgn k).length ≤ 3 := by unfold Ex.sgn; repeat' split
                                                        all_goals simp

theorem OwnB.sl {w : World} {base : Nat} {v : Value} {l : List UInt8} (h : OwnB w base v l) : ∃ p z c, v = .slice p z c := by
  rcases h.2 with ⟨e, _⟩ | ⟨g, c, cu, e, _⟩
  · exact ⟨_, _, _, e⟩
  · exact ⟨_, _, _, e⟩

set_option maxHeartbeats 8000000 in
theorem in_any (n : Nat) (ih : Pw n) (t : Tr) (sl : Value) (base : Nat) (v : Value) (l : List UInt8) (w : World) (hn : (t.on .nil).nodes ≤ n) (hp : (t.on .nil).allPlain = true) (hs : SlF w (fun g => g < base) sl t.kids) (ho : OwnB w base v l) (hb : base ≤ w.heap.size) (hl : l.length + 2 + 32 * (t.on .nil).nodes ≤ 500000) (hlp : (Ex.pr t).length ≤ 16 * (t.on .nil).nodes) :
    Calls Try.prog 53 #[v, Ev t sl] w fun e w' => ∃ v', e = .returned v' ∧ OwnB w' base v' (l ++ Ex.par (Ex.pr t)) ∧ Fr v w v' w' := by
  obtain ⟨pp, cap, rfl⟩ := hs.is
  have hP : PQ base v w (w.alloc (.cells #[.int .i64 t.k, .int .i64 t.a, .int .i64 t.v, .slice pp t.kids.len cap] 36)) #[.int .i64 t.k, .int .i64 t.a, .int .i64 t.v, .slice pp t.kids.len cap] v l := PQ.start ho hb
  have HP := Bx.mk hP
  have HN := Bx.mk hn
  have HA := Bx.mk hp
  have HS := Bx.mk hs
  have HL := Bx.mk hl
  have HLP := Bx.mk hlp
  have IH := Bx.mk ih
  clear hP hn hp hs ho hl hlp ih
  unfold Ev
  go_enter Try.func53, Try.ntmps53
  go_wp2_with fail
  refine region_any 100 (fun u => ∃ v' l', PQ base v w u #[.int .i64 t.k, .int .i64 t.a, .int .i64 t.v, .slice pp t.kids.len cap] v' l') (by kernel_rfl) ?_
  generalize hu : World.drew _ = u0
  have hq0 : PQ base v w u0 #[.int .i64 t.k, .int .i64 t.a, .int .i64 t.v, .slice pp t.kids.len cap] v l := by rw [← hu]; exact HP.out.step ((Below.refl _ _).drew)
  clear hu HP
  refine any_take (i := 0) (v) rfl rfl (by kernel_rfl) (by kernel_rfl) (by kernel_rfl) (by kernel_rfl) (fun _ _ d _ _ h => by cases d <;> exact h) (fun u hS => rfl) ⟨_, _, hq0⟩ ?_
  (try simp only [Act.put]); (try simp only [List.getElem_toArray]); (try simp only [List.getElem_cons_succ]); (try simp only [List.getElem_cons_zero]); (try simp only [List.setIfInBounds_toArray]); (try simp only [List.set_cons_succ]); (try simp only [List.set_cons_zero])
  refine any_take (i := 3) (Ev t (.slice pp t.kids.len cap)) rfl rfl (by kernel_rfl) (by kernel_rfl) (by kernel_rfl) (by kernel_rfl) (fun _ _ d _ _ h => by cases d <;> exact h) (fun u hS => by obtain ⟨v9, l9, q9⟩ := hS; exact exec_loadE rfl rfl q9.e) ⟨_, _, hq0⟩ ?_
  (try simp only [Act.put]); (try simp only [List.getElem_toArray]); (try simp only [List.getElem_cons_succ]); (try simp only [List.getElem_cons_zero]); (try simp only [List.setIfInBounds_toArray]); (try simp only [List.set_cons_succ]); (try simp only [List.set_cons_zero])
  refine any_branch [1, 5] (by kernel_rfl) rfl fun ix hix => ?_
  simp only [List.mem_cons, List.not_mem_nil, or_false] at hix
  rcases hix with rfl | rfl
  · refine any_op rfl rfl fun K hK => ?_
    go_simp
    have hN1 := Fl.new hq0.own 40
    have hf1 := Fr.below (v := v) ((Below.refl u0.heap.size u0).alloc (Nat.le_refl _) (.cells #[.int .u8 40] 5))
    have hq1 := hq0.step ((Below.refl _ _).alloc (Nat.le_refl _) (.cells #[.int .u8 40] 5))
    change Fl (u0.alloc (.cells #[.int .u8 40] 5)) _ _ _ at hN1
    generalize u0.heap.size = pn1 at hN1 ⊢
    generalize u0.alloc (.cells #[.int .u8 40] 5) = u1 at hN1 hq1 hf1 ⊢
    refine hK _ _ (fun _ => ⟨_, _, hq1⟩) ?_
    (try simp only [Act.put]); (try simp only [List.getElem_toArray]); (try simp only [List.getElem_cons_succ]); (try simp only [List.getElem_cons_zero]); (try simp only [List.setIfInBounds_toArray]); (try simp only [List.set_cons_succ]); (try simp only [List.set_cons_zero])
    clear hK
    refine any_branch [2, 5] (by kernel_rfl) rfl fun ix hix => ?_
    simp only [List.mem_cons, List.not_mem_nil, or_false] at hix
    rcases hix with rfl | rfl
    · refine any_op rfl rfl fun K hK => ?_
      obtain ⟨v2, u2, hr2, ho2, hf2⟩ := hq1.own.put_one pn1 1 40 (hN1.blk.cell 0) (by have h0 := HL.out; have hx := HLP.out; (try simp only [Ex.par]); (try simp only [List.length_append]); (try simp only [List.length_cons]); (try simp only [List.length_nil]); omega) hq1.sz 22
      refine wp_app _ _ _ _ hr2 rfl rfl rfl ?_
      have hq2 := hq1.next ho2 hf2
      refine hK _ _ (fun _ => ⟨_, _, hq2⟩) ?_
      (try simp only [Act.put]); (try simp only [List.getElem_toArray]); (try simp only [List.getElem_cons_succ]); (try simp only [List.getElem_cons_zero]); (try simp only [List.setIfInBounds_toArray]); (try simp only [List.set_cons_succ]); (try simp only [List.set_cons_zero])
      clear hK
      refine any_branch [4, 5] (by kernel_rfl) rfl fun ix hix => ?_
      simp only [List.mem_cons, List.not_mem_nil, or_false] at hix
      rcases hix with rfl | rfl
      · refine any_op rfl rfl fun K hK => ?_
        go_simp
        refine (IH.out t _ base _ _ u2 HN.out HA.out (HS.out.kept fun g hg _ => hq2.low g hg) hq2.own hq2.sz (by have h0 := HL.out; have hx := HLP.out; (try simp only [Ex.par]); (try simp only [List.length_append]); (try simp only [List.length_cons]); (try simp only [List.length_nil]); omega)).mono ?_
        rintro e u3 ⟨v3, rfl, ho3, hf3⟩
        have hq3 := hq2.next ho3 hf3
        refine hK _ _ (fun _ => ⟨_, _, hq3⟩) ?_
        (try simp only [Act.put]); (try simp only [List.getElem_toArray]); (try simp only [List.getElem_cons_succ]); (try simp only [List.getElem_cons_zero]); (try simp only [List.setIfInBounds_toArray]); (try simp only [List.set_cons_succ]); (try simp only [List.set_cons_zero])
        clear hK
        refine any_branch [5] (by kernel_rfl) rfl fun ix hix => ?_
        simp only [List.mem_cons, List.not_mem_nil, or_false] at hix
        subst hix
        refine any_op rfl rfl fun K hK => ?_
        go_simp
        have hN4 := Fl.new hq3.own 41
        have hf4 := Fr.below (v := v3) ((Below.refl u3.heap.size u3).alloc (Nat.le_refl _) (.cells #[.int .u8 41] 5))
        have hq4 := hq3.step ((Below.refl _ _).alloc (Nat.le_refl _) (.cells #[.int .u8 41] 5))
        change Fl (u3.alloc (.cells #[.int .u8 41] 5)) _ _ _ at hN4
        generalize u3.heap.size = pn4 at hN4 ⊢
        generalize u3.alloc (.cells #[.int .u8 41] 5) = u4 at hN4 hq4 hf4 ⊢
        refine hK _ _ (fun _ => ⟨_, _, hq4⟩) ?_
        (try simp only [Act.put]); (try simp only [List.getElem_toArray]); (try simp only [List.getElem_cons_succ]); (try simp only [List.getElem_cons_zero]); (try simp only [List.setIfInBounds_toArray]); (try simp only [List.set_cons_succ]); (try simp only [List.set_cons_zero])
        clear hK
        refine any_branch [6] (by kernel_rfl) rfl fun ix hix => ?_
        simp only [List.mem_cons, List.not_mem_nil, or_false] at hix
        subst hix
        refine any_op rfl rfl fun K hK => ?_
        obtain ⟨v5, u5, hr5, ho5, hf5⟩ := hq4.own.put_one pn4 1 41 (hN4.blk.cell 0) (by have h0 := HL.out; have hx := HLP.out; (try simp only [Ex.par]); (try simp only [List.length_append]); (try simp only [List.length_cons]); (try simp only [List.length_nil]); omega) hq4.sz 22
        refine wp_app _ _ _ _ hr5 rfl rfl rfl ?_
        have hq5 := hq4.next ho5 hf5
        refine hK _ _ (fun _ => ⟨_, _, hq5⟩) ?_
        (try simp only [Act.put]); (try simp only [List.getElem_toArray]); (try simp only [List.getElem_cons_succ]); (try simp only [List.getElem_cons_zero]); (try simp only [List.setIfInBounds_toArray]); (try simp only [List.set_cons_succ]); (try simp only [List.set_cons_zero])
        clear hK
        refine any_branch [7] (by kernel_rfl) rfl fun ix hix => ?_
        simp only [List.mem_cons, List.not_mem_nil, or_false] at hix
        subst hix
        refine any_op rfl rfl fun K hK => ?_
        go_simp
        refine hK _ _ (fun _ => ⟨_, _, hq5⟩) ?_
        (try simp only [Act.put]); (try simp only [List.getElem_toArray]); (try simp only [List.getElem_cons_succ]); (try simp only [List.getElem_cons_zero]); (try simp only [List.setIfInBounds_toArray]); (try simp only [List.set_cons_succ]); (try simp only [List.set_cons_zero])
        clear hK
        refine any_end (by kernel_rfl) ?_
        have HQ := Bx.mk hq5
        have hsl := hq5.own.sl
        clear hq0 hq1 hq2 hq3 hq4 hq5 hf1 hf2 hf3 hf4 hf5
        obtain ⟨p9, z9, y9, rfl⟩ := hsl
        go_wp2_with fail
        go_ret
        refine ⟨.slice p9 z9 y9, rfl, ?_, HQ.out.fr⟩
        have h5 := HQ.out.own
        unfold Ex.par
        simpa only [List.append_assoc] using h5
      · refine any_op rfl rfl fun K hK => ?_
        go_simp
        have hN3 := Fl.new hq2.own 41
        have hf3 := Fr.below (v := v2) ((Below.refl u2.heap.size u2).alloc (Nat.le_refl _) (.cells #[.int .u8 41] 5))
        have hq3 := hq2.step ((Below.refl _ _).alloc (Nat.le_refl _) (.cells #[.int .u8 41] 5))
        change Fl (u2.alloc (.cells #[.int .u8 41] 5)) _ _ _ at hN3
        generalize u2.heap.size = pn3 at hN3 ⊢
        generalize u2.alloc (.cells #[.int .u8 41] 5) = u3 at hN3 hq3 hf3 ⊢
        refine hK _ _ (fun _ => ⟨_, _, hq3⟩) ?_
        (try simp only [Act.put]); (try simp only [List.getElem_toArray]); (try simp only [List.getElem_cons_succ]); (try simp only [List.getElem_cons_zero]); (try simp only [List.setIfInBounds_toArray]); (try simp only [List.set_cons_succ]); (try simp only [List.set_cons_zero])
        clear hK
        refine any_branch [4] (by kernel_rfl) rfl fun ix hix => ?_
        simp only [List.mem_cons, List.not_mem_nil, or_false] at hix
        subst hix
        refine any_op rfl rfl fun K hK => ?_
        go_simp
        refine (IH.out t _ base _ _ u3 HN.out HA.out (HS.out.kept fun g hg _ => hq3.low g hg) hq3.own hq3.sz (by have h0 := HL.out; have hx := HLP.out; (try simp only [Ex.par]); (try simp only [List.length_append]); (try simp only [List.length_cons]); (try simp only [List.length_nil]); omega)).mono ?_
        rintro e u4 ⟨v4, rfl, ho4, hf4⟩
        have hq4 := hq3.next ho4 hf4
        have hF5_4 := hN3.next hf4
        refine hK _ _ (fun _ => ⟨_, _, hq4⟩) ?_
        (try simp only [Act.put]); (try simp only [List.getElem_toArray]); (try simp only [List.getElem_cons_succ]); (try simp only [List.getElem_cons_zero]); (try simp only [List.setIfInBounds_toArray]); (try simp only [List.set_cons_succ]); (try simp only [List.set_cons_zero])
        clear hK
        refine any_branch [6] (by kernel_rfl) rfl fun ix hix => ?_
        simp only [List.mem_cons, List.not_mem_nil, or_false] at hix
        subst hix
        refine any_op rfl rfl fun K hK => ?_
        obtain ⟨v5, u5, hr5, ho5, hf5⟩ := hq4.own.put_one pn3 1 41 (hF5_4.blk.cell 0) (by have h0 := HL.out; have hx := HLP.out; (try simp only [Ex.par]); (try simp only [List.length_append]); (try simp only [List.length_cons]); (try simp only [List.length_nil]); omega) hq4.sz 22
        refine wp_app _ _ _ _ hr5 rfl rfl rfl ?_
        have hq5 := hq4.next ho5 hf5
        refine hK _ _ (fun _ => ⟨_, _, hq5⟩) ?_
        (try simp only [Act.put]); (try simp only [List.getElem_toArray]); (try simp only [List.getElem_cons_succ]); (try simp only [List.getElem_cons_zero]); (try simp only [List.setIfInBounds_toArray]); (try simp only [List.set_cons_succ]); (try simp only [List.set_cons_zero])
        clear hK
        refine any_branch [7] (by kernel_rfl) rfl fun ix hix => ?_
        simp only [List.mem_cons, List.not_mem_nil, or_false] at hix
        subst hix
        refine any_op rfl rfl fun K hK => ?_
        go_simp
        refine hK _ _ (fun _ => ⟨_, _, hq5⟩) ?_
        (try simp only [Act.put]); (try simp only [List.getElem_toArray]); (try simp only [List.getElem_cons_succ]); (try simp only [List.getElem_cons_zero]); (try simp only [List.setIfInBounds_toArray]); (try simp only [List.set_cons_succ]); (try simp only [List.set_cons_zero])
        clear hK
        refine any_end (by kernel_rfl) ?_
        have HQ := Bx.mk hq5
        have hsl := hq5.own.sl
        clear hq0 hq1 hq2 hq3 hq4 hq5 hf1 hf2 hf3 hf4 hf5
        obtain ⟨p9, z9, y9, rfl⟩ := hsl
        go_wp2_with fail
        go_ret
        refine ⟨.slice p9 z9 y9, rfl, ?_, HQ.out.fr⟩
        have h5 := HQ.out.own
        unfold Ex.par
        simpa only [List.append_assoc] using h5
    · refine any_op rfl rfl fun K hK => ?_
      go_simp
      have hN2 := Fl.new hq1.own 41
      have hf2 := Fr.below (v := v) ((Below.refl u1.heap.size u1).alloc (Nat.le_refl _) (.cells #[.int .u8 41] 5))
      have hq2 := hq1.step ((Below.refl _ _).alloc (Nat.le_refl _) (.cells #[.int .u8 41] 5))
      change Fl (u1.alloc (.cells #[.int .u8 41] 5)) _ _ _ at hN2
      generalize u1.heap.size = pn2 at hN2 ⊢
      generalize u1.alloc (.cells #[.int .u8 41] 5) = u2 at hN2 hq2 hf2 ⊢
      have hF1_2 := hN1.next hf2
      refine hK _ _ (fun _ => ⟨_, _, hq2⟩) ?_
      (try simp only [Act.put]); (try simp only [List.getElem_toArray]); (try simp only [List.getElem_cons_succ]); (try simp only [List.getElem_cons_zero]); (try simp only [List.setIfInBounds_toArray]); (try simp only [List.set_cons_succ]); (try simp only [List.set_cons_zero])
      clear hK
      refine any_branch [2] (by kernel_rfl) rfl fun ix hix => ?_
      simp only [List.mem_cons, List.not_mem_nil, or_false] at hix
      subst hix
      refine any_op rfl rfl fun K hK => ?_
      obtain ⟨v3, u3, hr3, ho3, hf3⟩ := hq2.own.put_one pn1 1 40 (hF1_2.blk.cell 0) (by have h0 := HL.out; have hx := HLP.out; (try simp only [Ex.par]); (try simp only [List.length_append]); (try simp only [List.length_cons]); (try simp only [List.length_nil]); omega) hq2.sz 22
      refine wp_app _ _ _ _ hr3 rfl rfl rfl ?_
      have hq3 := hq2.next ho3 hf3
      have hF5_3 := hN2.next hf3
      refine hK _ _ (fun _ => ⟨_, _, hq3⟩) ?_
      (try simp only [Act.put]); (try simp only [List.getElem_toArray]); (try simp only [List.getElem_cons_succ]); (try simp only [List.getElem_cons_zero]); (try simp only [List.setIfInBounds_toArray]); (try simp only [List.set_cons_succ]); (try simp only [List.set_cons_zero])
      clear hK
      refine any_branch [4] (by kernel_rfl) rfl fun ix hix => ?_
      simp only [List.mem_cons, List.not_mem_nil, or_false] at hix
      subst hix
      refine any_op rfl rfl fun K hK => ?_
      go_simp
      refine (IH.out t _ base _ _ u3 HN.out HA.out (HS.out.kept fun g hg _ => hq3.low g hg) hq3.own hq3.sz (by have h0 := HL.out; have hx := HLP.out; (try simp only [Ex.par]); (try simp only [List.length_append]); (try simp only [List.length_cons]); (try simp only [List.length_nil]); omega)).mono ?_
      rintro e u4 ⟨v4, rfl, ho4, hf4⟩
      have hq4 := hq3.next ho4 hf4
      have hF5_4 := hF5_3.next hf4
      refine hK _ _ (fun _ => ⟨_, _, hq4⟩) ?_
      (try simp only [Act.put]); (try simp only [List.getElem_toArray]); (try simp only [List.getElem_cons_succ]); (try simp only [List.getElem_cons_zero]); (try simp only [List.setIfInBounds_toArray]); (try simp only [List.set_cons_succ]); (try simp only [List.set_cons_zero])
      clear hK
      refine any_branch [6] (by kernel_rfl) rfl fun ix hix => ?_
      simp only [List.mem_cons, List.not_mem_nil, or_false] at hix
      subst hix
      refine any_op rfl rfl fun K hK => ?_
      obtain ⟨v5, u5, hr5, ho5, hf5⟩ := hq4.own.put_one pn2 1 41 (hF5_4.blk.cell 0) (by have h0 := HL.out; have hx := HLP.out; (try simp only [Ex.par]); (try simp only [List.length_append]); (try simp only [List.length_cons]); (try simp only [List.length_nil]); omega) hq4.sz 22
      refine wp_app _ _ _ _ hr5 rfl rfl rfl ?_
      have hq5 := hq4.next ho5 hf5
      refine hK _ _ (fun _ => ⟨_, _, hq5⟩) ?_
      (try simp only [Act.put]); (try simp only [List.getElem_toArray]); (try simp only [List.getElem_cons_succ]); (try simp only [List.getElem_cons_zero]); (try simp only [List.setIfInBounds_toArray]); (try simp only [List.set_cons_succ]); (try simp only [List.set_cons_zero])
      clear hK
      refine any_branch [7] (by kernel_rfl) rfl fun ix hix => ?_
      simp only [List.mem_cons, List.not_mem_nil, or_false] at hix
      subst hix
      refine any_op rfl rfl fun K hK => ?_
      go_simp
      refine hK _ _ (fun _ => ⟨_, _, hq5⟩) ?_
      (try simp only [Act.put]); (try simp only [List.getElem_toArray]); (try simp only [List.getElem_cons_succ]); (try simp only [List.getElem_cons_zero]); (try simp only [List.setIfInBounds_toArray]); (try simp only [List.set_cons_succ]); (try simp only [List.set_cons_zero])
      clear hK
      refine any_end (by kernel_rfl) ?_
      have HQ := Bx.mk hq5
      have hsl := hq5.own.sl
      clear hq0 hq1 hq2 hq3 hq4 hq5 hf1 hf2 hf3 hf4 hf5
      obtain ⟨p9, z9, y9, rfl⟩ := hsl
      go_wp2_with fail
      go_ret
      refine ⟨.slice p9 z9 y9, rfl, ?_, HQ.out.fr⟩
      have h5 := HQ.out.own
      unfold Ex.par
      simpa only [List.append_assoc] using h5
  · refine any_op rfl rfl fun K hK => ?_
    go_simp
    have hN1 := Fl.new hq0.own 41
    have hf1 := Fr.below (v := v) ((Below.refl u0.heap.size u0).alloc (Nat.le_refl _) (.cells #[.int .u8 41] 5))
    have hq1 := hq0.step ((Below.refl _ _).alloc (Nat.le_refl _) (.cells #[.int .u8 41] 5))
    change Fl (u0.alloc (.cells #[.int .u8 41] 5)) _ _ _ at hN1
    generalize u0.heap.size = pn1 at hN1 ⊢
    generalize u0.alloc (.cells #[.int .u8 41] 5) = u1 at hN1 hq1 hf1 ⊢
    refine hK _ _ (fun _ => ⟨_, _, hq1⟩) ?_
    (try simp only [Act.put]); (try simp only [List.getElem_toArray]); (try simp only [List.getElem_cons_succ]); (try simp only [List.getElem_cons_zero]); (try simp only [List.setIfInBounds_toArray]); (try simp only [List.set_cons_succ]); (try simp only [List.set_cons_zero])
    clear hK
    refine any_branch [1] (by kernel_rfl) rfl fun ix hix => ?_
    simp only [List.mem_cons, List.not_mem_nil, or_false] at hix
    subst hix
    refine any_op rfl rfl fun K hK => ?_
    go_simp
    have hN2 := Fl.new hq1.own 40
    have hf2 := Fr.below (v := v) ((Below.refl u1.heap.size u1).alloc (Nat.le_refl _) (.cells #[.int .u8 40] 5))
    have hq2 := hq1.step ((Below.refl _ _).alloc (Nat.le_refl _) (.cells #[.int .u8 40] 5))
    change Fl (u1.alloc (.cells #[.int .u8 40] 5)) _ _ _ at hN2
    generalize u1.heap.size = pn2 at hN2 ⊢
    generalize u1.alloc (.cells #[.int .u8 40] 5) = u2 at hN2 hq2 hf2 ⊢
    have hF5_2 := hN1.next hf2
    refine hK _ _ (fun _ => ⟨_, _, hq2⟩) ?_
    (try simp only [Act.put]); (try simp only [List.getElem_toArray]); (try simp only [List.getElem_cons_succ]); (try simp only [List.getElem_cons_zero]); (try simp only [List.setIfInBounds_toArray]); (try simp only [List.set_cons_succ]); (try simp only [List.set_cons_zero])
    clear hK
    refine any_branch [2] (by kernel_rfl) rfl fun ix hix => ?_
    simp only [List.mem_cons, List.not_mem_nil, or_false] at hix
    subst hix
    refine any_op rfl rfl fun K hK => ?_
    obtain ⟨v3, u3, hr3, ho3, hf3⟩ := hq2.own.put_one pn2 1 40 (hN2.blk.cell 0) (by have h0 := HL.out; have hx := HLP.out; (try simp only [Ex.par]); (try simp only [List.length_append]); (try simp only [List.length_cons]); (try simp only [List.length_nil]); omega) hq2.sz 22
    refine wp_app _ _ _ _ hr3 rfl rfl rfl ?_
    have hq3 := hq2.next ho3 hf3
    have hF5_3 := hF5_2.next hf3
    refine hK _ _ (fun _ => ⟨_, _, hq3⟩) ?_
    (try simp only [Act.put]); (try simp only [List.getElem_toArray]); (try simp only [List.getElem_cons_succ]); (try simp only [List.getElem_cons_zero]); (try simp only [List.setIfInBounds_toArray]); (try simp only [List.set_cons_succ]); (try simp only [List.set_cons_zero])
    clear hK
    refine any_branch [4] (by kernel_rfl) rfl fun ix hix => ?_
    simp only [List.mem_cons, List.not_mem_nil, or_false] at hix
    subst hix
    refine any_op rfl rfl fun K hK => ?_
    go_simp
    refine (IH.out t _ base _ _ u3 HN.out HA.out (HS.out.kept fun g hg _ => hq3.low g hg) hq3.own hq3.sz (by have h0 := HL.out; have hx := HLP.out; (try simp only [Ex.par]); (try simp only [List.length_append]); (try simp only [List.length_cons]); (try simp only [List.length_nil]); omega)).mono ?_
    rintro e u4 ⟨v4, rfl, ho4, hf4⟩
    have hq4 := hq3.next ho4 hf4
    have hF5_4 := hF5_3.next hf4
    refine hK _ _ (fun _ => ⟨_, _, hq4⟩) ?_
    (try simp only [Act.put]); (try simp only [List.getElem_toArray]); (try simp only [List.getElem_cons_succ]); (try simp only [List.getElem_cons_zero]); (try simp only [List.setIfInBounds_toArray]); (try simp only [List.set_cons_succ]); (try simp only [List.set_cons_zero])
    clear hK
    refine any_branch [6] (by kernel_rfl) rfl fun ix hix => ?_
    simp only [List.mem_cons, List.not_mem_nil, or_false] at hix
    subst hix
    refine any_op rfl rfl fun K hK => ?_
    obtain ⟨v5, u5, hr5, ho5, hf5⟩ := hq4.own.put_one pn1 1 41 (hF5_4.blk.cell 0) (by have h0 := HL.out; have hx := HLP.out; (try simp only [Ex.par]); (try simp only [List.length_append]); (try simp only [List.length_cons]); (try simp only [List.length_nil]); omega) hq4.sz 22
    refine wp_app _ _ _ _ hr5 rfl rfl rfl ?_
    have hq5 := hq4.next ho5 hf5
    refine hK _ _ (fun _ => ⟨_, _, hq5⟩) ?_
    (try simp only [Act.put]); (try simp only [List.getElem_toArray]); (try simp only [List.getElem_cons_succ]); (try simp only [List.getElem_cons_zero]); (try simp only [List.setIfInBounds_toArray]); (try simp only [List.set_cons_succ]); (try simp only [List.set_cons_zero])
    clear hK
    refine any_branch [7] (by kernel_rfl) rfl fun ix hix => ?_
    simp only [List.mem_cons, List.not_mem_nil, or_false] at hix
    subst hix
    refine any_op rfl rfl fun K hK => ?_
    go_simp
    refine hK _ _ (fun _ => ⟨_, _, hq5⟩) ?_
    (try simp only [Act.put]); (try simp only [List.getElem_toArray]); (try simp only [List.getElem_cons_succ]); (try simp only [List.getElem_cons_zero]); (try simp only [List.setIfInBounds_toArray]); (try simp only [List.set_cons_succ]); (try simp only [List.set_cons_zero])
    clear hK
    refine any_end (by kernel_rfl) ?_
    have HQ := Bx.mk hq5
    have hsl := hq5.own.sl
    clear hq0 hq1 hq2 hq3 hq4 hq5 hf1 hf2 hf3 hf4 hf5
    obtain ⟨p9, z9, y9, rfl⟩ := hsl
    go_wp2_with fail
    go_ret
    refine ⟨.slice p9 z9 y9, rfl, ?_, HQ.out.fr⟩
    have h5 := HQ.out.own
    unfold Ex.par
    simpa only [List.append_assoc] using h5
set_option maxHeartbeats 8000000 in
theorem put_3 (n : Nat) (ih : Pw n) (a : Int) (vv : Int) (b o cap : Nat) (base : Nat) (v : Value) (l : List UInt8) (w : World) (x : Tr) (sx : Value) (Kx : KidB w base b o x sx) (Nx : (x.on .nil).nodes ≤ n) (Px : (x.on .nil).allPlain = true) (ho : OwnB w base v l) (hb : base ≤ w.heap.size) (hl : l.length + 32 * (1 + ((x.on .nil).nodes)) ≤ 500000) :
    Calls Try.prog 35 #[v, .agg #[.int .i64 3, .int .i64 a, .int .i64 vv, .slice (some ⟨b, o, none⟩) 1 cap]] w fun e w' => ∃ v', e = .returned v' ∧ OwnB w' base v' (l ++ Ex.prk 3 vv [Ex.pr x]) ∧ Fr v w v' w' := by
  have hP : PQ base v w (w.alloc (.cells #[.int .i64 3, .int .i64 a, .int .i64 vv, .slice (some ⟨b, o, none⟩) 1 cap] 36)) #[.int .i64 3, .int .i64 a, .int .i64 vv, .slice (some ⟨b, o, none⟩) 1 cap] v l := PQ.start ho hb
  obtain ⟨c0, c1, c2, c3, _, _, _, _⟩ := cells4 hP.e
  have HP := Bx.mk hP
  have IH := Bx.mk ih
  have HL := Bx.mk hl
  have BKx := Bx.mk Kx
  have BNx := Bx.mk Nx
  have BPx := Bx.mk Px
  have BLx := Bx.mk (pr_len x)
  clear hP ih ho hl Kx Nx Px
  go_enter Try.func35, Try.ntmps35
  go_wp2_with fail
  refine region_any 100 (fun u => ∃ v' l', PQ base v w u #[.int .i64 3, .int .i64 a, .int .i64 vv, .slice (some ⟨b, o, none⟩) 1 cap] v' l') (by kernel_rfl) ?_
  generalize hu : World.drew _ = u0
  have hq0 := HP.out.step ((Below.refl _ _).drew)
  rw [hu] at hq0
  clear hu HP c0 c1 c2 c3
  refine any_take (i := 0) (.func (.func 53) #[] #[]) rfl rfl (by kernel_rfl) (by kernel_rfl) (by kernel_rfl) (by kernel_rfl) (fun _ _ d _ _ h => by cases d <;> exact h) (fun u hS => rfl) ⟨_, _, hq0⟩ ?_
  (try simp only [Act.put]); (try simp only [List.getElem_toArray]); (try simp only [List.getElem_cons_succ]); (try simp only [List.getElem_cons_zero]); (try simp only [List.setIfInBounds_toArray]); (try simp only [List.set_cons_succ]); (try simp only [List.set_cons_zero])
  refine any_take (i := 1) (v) rfl rfl (by kernel_rfl) (by kernel_rfl) (by kernel_rfl) (by kernel_rfl) (fun _ _ d _ _ h => by cases d <;> exact h) (fun u hS => rfl) ⟨_, _, hq0⟩ ?_
  (try simp only [Act.put]); (try simp only [List.getElem_toArray]); (try simp only [List.getElem_cons_succ]); (try simp only [List.getElem_cons_zero]); (try simp only [List.setIfInBounds_toArray]); (try simp only [List.set_cons_succ]); (try simp only [List.set_cons_zero])
  refine any_take (i := 4) (.pointer (some ⟨w.heap.size, 3, none⟩)) rfl rfl (by kernel_rfl) (by kernel_rfl) (by kernel_rfl) (by kernel_rfl) (fun _ _ d _ _ h => by cases d <;> exact h) (fun u hS => rfl) ⟨_, _, hq0⟩ ?_
  (try simp only [Act.put]); (try simp only [List.getElem_toArray]); (try simp only [List.getElem_cons_succ]); (try simp only [List.getElem_cons_zero]); (try simp only [List.setIfInBounds_toArray]); (try simp only [List.set_cons_succ]); (try simp only [List.set_cons_zero])
  refine any_take (i := 5) (.slice (some ⟨b, o, none⟩) 1 cap) rfl rfl (by kernel_rfl) (by kernel_rfl) (by kernel_rfl) (by kernel_rfl) (fun _ _ d _ _ h => by cases d <;> exact h) (fun u hS => by obtain ⟨v9, l9, q9⟩ := hS; exact exec_loadS rfl rfl (q9.e.cell 3)) ⟨_, _, hq0⟩ ?_
  (try simp only [Act.put]); (try simp only [List.getElem_toArray]); (try simp only [List.getElem_cons_succ]); (try simp only [List.getElem_cons_zero]); (try simp only [List.setIfInBounds_toArray]); (try simp only [List.set_cons_succ]); (try simp only [List.set_cons_zero])
  refine any_take (i := 6) (.pointer (some ⟨b, o, none⟩)) rfl rfl (by kernel_rfl) (by kernel_rfl) (by kernel_rfl) (by kernel_rfl) (fun _ _ d _ _ h => by cases d <;> exact h) (fun u hS => exec_ix01 rfl rfl rfl) ⟨_, _, hq0⟩ ?_
  (try simp only [Act.put]); (try simp only [List.getElem_toArray]); (try simp only [List.getElem_cons_succ]); (try simp only [List.getElem_cons_zero]); (try simp only [List.setIfInBounds_toArray]); (try simp only [List.set_cons_succ]); (try simp only [List.set_cons_zero])
  refine any_take (i := 7) (Ev x sx) rfl rfl (by kernel_rfl) (by kernel_rfl) (by kernel_rfl) (by kernel_rfl) (fun _ _ d _ _ h => by cases d <;> exact h) (fun u hS => by obtain ⟨v9, l9, q9⟩ := hS; have kk := BKx.out.fr q9.low; exact exec_loadX rfl rfl kk.c0 kk.c1 kk.c2 kk.c3) ⟨_, _, hq0⟩ ?_
  (try simp only [Act.put]); (try simp only [List.getElem_toArray]); (try simp only [List.getElem_cons_succ]); (try simp only [List.getElem_cons_zero]); (try simp only [List.setIfInBounds_toArray]); (try simp only [List.set_cons_succ]); (try simp only [List.set_cons_zero])
  refine any_branch [2] (by kernel_rfl) rfl fun ix hix => ?_
  simp only [List.mem_cons, List.not_mem_nil, or_false] at hix
  subst hix
  refine any_op rfl rfl fun K hK => ?_
  go_simp
  have hN1 := Fl.new hq0.own 33
  have hf1 := Fr.below (v := v) ((Below.refl u0.heap.size u0).alloc (Nat.le_refl _) (.cells #[.int .u8 33] 5))
  have hq1 := hq0.step ((Below.refl _ _).alloc (Nat.le_refl _) (.cells #[.int .u8 33] 5))
  change Fl (u0.alloc (.cells #[.int .u8 33] 5)) _ _ _ at hN1
  generalize u0.heap.size = pn1 at hN1 ⊢
  generalize u0.alloc (.cells #[.int .u8 33] 5) = u1 at hN1 hq1 hf1 ⊢
  refine hK _ _ (fun _ => ⟨_, _, hq1⟩) ?_
  (try simp only [Act.put]); (try simp only [List.getElem_toArray]); (try simp only [List.getElem_cons_succ]); (try simp only [List.getElem_cons_zero]); (try simp only [List.setIfInBounds_toArray]); (try simp only [List.set_cons_succ]); (try simp only [List.set_cons_zero])
  clear hK
  refine any_branch [3] (by kernel_rfl) rfl fun ix hix => ?_
  simp only [List.mem_cons, List.not_mem_nil, or_false] at hix
  subst hix
  refine any_op rfl rfl fun K hK => ?_
  obtain ⟨v2, u2, hr2, ho2, hf2⟩ := hq1.own.put_one pn1 1 33 (hN1.blk.cell 0) (by have h0 := HL.out; have hx := BLx.out; (try simp only [Ex.par]); (try simp only [List.length_append]); (try simp only [List.length_cons]); (try simp only [List.length_nil]); omega) hq1.sz 22
  refine wp_app _ _ _ _ hr2 rfl rfl rfl ?_
  have hq2 := hq1.next ho2 hf2
  refine hK _ _ (fun _ => ⟨_, _, hq2⟩) ?_
  (try simp only [Act.put]); (try simp only [List.getElem_toArray]); (try simp only [List.getElem_cons_succ]); (try simp only [List.getElem_cons_zero]); (try simp only [List.setIfInBounds_toArray]); (try simp only [List.set_cons_succ]); (try simp only [List.set_cons_zero])
  clear hK
  refine any_branch [8] (by kernel_rfl) rfl fun ix hix => ?_
  simp only [List.mem_cons, List.not_mem_nil, or_false] at hix
  subst hix
  refine any_op rfl rfl fun K hK => ?_
  go_simp
  refine (in_any n IH.out x _ base _ _ u2 BNx.out BPx.out ((BKx.out.fr hq2.low).sl) hq2.own hq2.sz (by have h0 := HL.out; have hx := BLx.out; (try simp only [Ex.par]); (try simp only [List.length_append]); (try simp only [List.length_cons]); (try simp only [List.length_nil]); omega) BLx.out).mono ?_
  rintro e u3 ⟨v3, rfl, ho3, hf3⟩
  have hq3 := hq2.next ho3 hf3
  refine hK _ _ (fun _ => ⟨_, _, hq3⟩) ?_
  (try simp only [Act.put]); (try simp only [List.getElem_toArray]); (try simp only [List.getElem_cons_succ]); (try simp only [List.getElem_cons_zero]); (try simp only [List.setIfInBounds_toArray]); (try simp only [List.set_cons_succ]); (try simp only [List.set_cons_zero])
  clear hK
  refine any_branch [9] (by kernel_rfl) rfl fun ix hix => ?_
  simp only [List.mem_cons, List.not_mem_nil, or_false] at hix
  subst hix
  refine any_op rfl rfl fun K hK => ?_
  go_simp
  refine hK _ _ (fun _ => ⟨_, _, hq3⟩) ?_
  (try simp only [Act.put]); (try simp only [List.getElem_toArray]); (try simp only [List.getElem_cons_succ]); (try simp only [List.getElem_cons_zero]); (try simp only [List.setIfInBounds_toArray]); (try simp only [List.set_cons_succ]); (try simp only [List.set_cons_zero])
  clear hK
  refine any_end (by kernel_rfl) ?_
  have HP := Bx.mk hq3
  have hsl := hq3.own.sl
  clear hq0 hq1 hq2 hq3 hf1 hf2 hf3 
  obtain ⟨pz, zz, yz, rfl⟩ := hsl
  obtain ⟨c0, c1, c2, c3, _, _, _, _⟩ := cells4 HP.out.e
  go_wp2_with fail
  go_ret
  refine ⟨.slice pz zz yz, rfl, ?_, HP.out.fr⟩
  have h5 := HP.out.own
  unfold Ex.prk
  simp only [List.append_assoc] at h5 ⊢
  simpa using h5
set_option maxHeartbeats 8000000 in
theorem put_1 (n : Nat) (ih : Pw n) (a : Int) (m : Nat) (hm : m < 8) (pp : Option Addr) (cap : Nat) (base : Nat) (v : Value) (l : List UInt8) (w : World)  (ho : OwnB w base v l) (hb : base ≤ w.heap.size) (hl : l.length + 32 * (1 + (0)) ≤ 500000) :
    Calls Try.prog 35 #[v, .agg #[.int .i64 1, .int .i64 a, .int .i64 (m : Int), .slice pp 0 cap]] w fun e w' => ∃ v', e = .returned v' ∧ OwnB w' base v' (l ++ Ex.prk 1 (m : Int) []) ∧ Fr v w v' w' := by
  have hP : PQ base v w (w.alloc (.cells #[.int .i64 1, .int .i64 a, .int .i64 (m : Int), .slice pp 0 cap] 36)) #[.int .i64 1, .int .i64 a, .int .i64 (m : Int), .slice pp 0 cap] v l := PQ.start ho hb
  obtain ⟨c0, c1, c2, c3, _, _, _, _⟩ := cells4 hP.e
  have HP := Bx.mk hP
  have IH := Bx.mk ih
  have HL := Bx.mk hl
  clear hP ih ho hl 
  go_enter Try.func35, Try.ntmps35
  go_wp2_with fail
  refine region_any 100 (fun u => ∃ v' l', PQ base v w u #[.int .i64 1, .int .i64 a, .int .i64 (m : Int), .slice pp 0 cap] v' l') (by kernel_rfl) ?_
  generalize hu : World.drew _ = u0
  have hq0 := HP.out.step ((Below.refl _ _).drew)
  rw [hu] at hq0
  clear hu HP c0 c1 c2 c3
  refine any_take (i := 0) (v) rfl rfl (by kernel_rfl) (by kernel_rfl) (by kernel_rfl) (by kernel_rfl) (fun _ _ d _ _ h => by cases d <;> exact h) (fun u hS => rfl) ⟨_, _, hq0⟩ ?_
  (try simp only [Act.put]); (try simp only [List.getElem_toArray]); (try simp only [List.getElem_cons_succ]); (try simp only [List.getElem_cons_zero]); (try simp only [List.setIfInBounds_toArray]); (try simp only [List.set_cons_succ]); (try simp only [List.set_cons_zero])
  refine any_take (i := 3) (.pointer (some ⟨w.heap.size, 2, none⟩)) rfl rfl (by kernel_rfl) (by kernel_rfl) (by kernel_rfl) (by kernel_rfl) (fun _ _ d _ _ h => by cases d <;> exact h) (fun u hS => rfl) ⟨_, _, hq0⟩ ?_
  (try simp only [Act.put]); (try simp only [List.getElem_toArray]); (try simp only [List.getElem_cons_succ]); (try simp only [List.getElem_cons_zero]); (try simp only [List.setIfInBounds_toArray]); (try simp only [List.set_cons_succ]); (try simp only [List.set_cons_zero])
  refine any_take (i := 4) (.int .i64 (m : Int)) rfl rfl (by kernel_rfl) (by kernel_rfl) (by kernel_rfl) (by kernel_rfl) (fun _ _ d _ _ h => by cases d <;> exact h) (fun u hS => by obtain ⟨v9, l9, q9⟩ := hS; exact exec_loadI rfl rfl (q9.e.cell 2)) ⟨_, _, hq0⟩ ?_
  (try simp only [Act.put]); (try simp only [List.getElem_toArray]); (try simp only [List.getElem_cons_succ]); (try simp only [List.getElem_cons_zero]); (try simp only [List.setIfInBounds_toArray]); (try simp only [List.set_cons_succ]); (try simp only [List.set_cons_zero])
  refine any_branch [1] (by kernel_rfl) rfl fun ix hix => ?_
  simp only [List.mem_cons, List.not_mem_nil, or_false] at hix
  subst hix
  refine any_op rfl rfl fun K hK => ?_
  go_simp
  have hN1 := Fl.new hq0.own 118
  have hf1 := Fr.below (v := v) ((Below.refl u0.heap.size u0).alloc (Nat.le_refl _) (.cells #[.int .u8 118] 5))
  have hq1 := hq0.step ((Below.refl _ _).alloc (Nat.le_refl _) (.cells #[.int .u8 118] 5))
  change Fl (u0.alloc (.cells #[.int .u8 118] 5)) _ _ _ at hN1
  generalize u0.heap.size = pn1 at hN1 ⊢
  generalize u0.alloc (.cells #[.int .u8 118] 5) = u1 at hN1 hq1 hf1 ⊢
  refine hK _ _ (fun _ => ⟨_, _, hq1⟩) ?_
  (try simp only [Act.put]); (try simp only [List.getElem_toArray]); (try simp only [List.getElem_cons_succ]); (try simp only [List.getElem_cons_zero]); (try simp only [List.setIfInBounds_toArray]); (try simp only [List.set_cons_succ]); (try simp only [List.set_cons_zero])
  clear hK
  refine any_branch [2] (by kernel_rfl) rfl fun ix hix => ?_
  simp only [List.mem_cons, List.not_mem_nil, or_false] at hix
  subst hix
  refine any_op rfl rfl fun K hK => ?_
  obtain ⟨v2, u2, hr2, ho2, hf2⟩ := hq1.own.put_one pn1 1 118 (hN1.blk.cell 0) (by have h0 := HL.out; (try simp only [Ex.par]); (try simp only [List.length_append]); (try simp only [List.length_cons]); (try simp only [List.length_nil]); omega) hq1.sz 22
  refine wp_app _ _ _ _ hr2 rfl rfl rfl ?_
  have hq2 := hq1.next ho2 hf2
  refine hK _ _ (fun _ => ⟨_, _, hq2⟩) ?_
  (try simp only [Act.put]); (try simp only [List.getElem_toArray]); (try simp only [List.getElem_cons_succ]); (try simp only [List.getElem_cons_zero]); (try simp only [List.setIfInBounds_toArray]); (try simp only [List.set_cons_succ]); (try simp only [List.set_cons_zero])
  clear hK
  refine any_branch [5] (by kernel_rfl) rfl fun ix hix => ?_
  simp only [List.mem_cons, List.not_mem_nil, or_false] at hix
  subst hix
  refine any_op rfl rfl fun K hK => ?_
  go_simp
  refine (digit_any m (by omega) _).mono ?_
  rintro e u3 ⟨rfl, hbd3⟩
  have hf3 := Fr.below (v := v2) hbd3
  have hq3 := hq2.step hbd3
  refine hK _ _ (fun _ => ⟨_, _, hq3⟩) ?_
  (try simp only [Act.put]); (try simp only [List.getElem_toArray]); (try simp only [List.getElem_cons_succ]); (try simp only [List.getElem_cons_zero]); (try simp only [List.setIfInBounds_toArray]); (try simp only [List.set_cons_succ]); (try simp only [List.set_cons_zero])
  clear hK
  refine any_branch [6] (by kernel_rfl) rfl fun ix hix => ?_
  simp only [List.mem_cons, List.not_mem_nil, or_false] at hix
  subst hix
  refine any_op rfl rfl fun K hK => ?_
  have hls4 : ((strOf [48 + m]) : ByteArray).data.toList = [Ex.dig (m : Int)] := dig_of m
  obtain ⟨v4, u4, hr4, ho4, hf4⟩ := hq3.own.put_str (strOf [48 + m]) (by rw [size_lst, hls4]; exact (by have h0 := HL.out; (try simp only [Ex.par]); (try simp only [List.length_append]); (try simp only [List.length_cons]); (try simp only [List.length_nil]); omega)) hq3.sz 22
  rw [hls4] at ho4
  refine wp_app _ _ _ _ hr4 rfl rfl rfl ?_
  have hq4 := hq3.next ho4 hf4
  refine hK _ _ (fun _ => ⟨_, _, hq4⟩) ?_
  (try simp only [Act.put]); (try simp only [List.getElem_toArray]); (try simp only [List.getElem_cons_succ]); (try simp only [List.getElem_cons_zero]); (try simp only [List.setIfInBounds_toArray]); (try simp only [List.set_cons_succ]); (try simp only [List.set_cons_zero])
  clear hK
  refine any_branch [7] (by kernel_rfl) rfl fun ix hix => ?_
  simp only [List.mem_cons, List.not_mem_nil, or_false] at hix
  subst hix
  refine any_op rfl rfl fun K hK => ?_
  go_simp
  refine hK _ _ (fun _ => ⟨_, _, hq4⟩) ?_
  (try simp only [Act.put]); (try simp only [List.getElem_toArray]); (try simp only [List.getElem_cons_succ]); (try simp only [List.getElem_cons_zero]); (try simp only [List.setIfInBounds_toArray]); (try simp only [List.set_cons_succ]); (try simp only [List.set_cons_zero])
  clear hK
  refine any_end (by kernel_rfl) ?_
  have HP := Bx.mk hq4
  have hsl := hq4.own.sl
  clear hq0 hq1 hq2 hq3 hq4 hf1 hf2 hf3 hf4 
  obtain ⟨pz, zz, yz, rfl⟩ := hsl
  obtain ⟨c0, c1, c2, c3, _, _, _, _⟩ := cells4 HP.out.e
  go_wp2_with fail
  go_ret
  refine ⟨.slice pz zz yz, rfl, ?_, HP.out.fr⟩
  have h5 := HP.out.own
  unfold Ex.prk
  simp only [List.append_assoc] at h5 ⊢
  simpa using h5
set_option maxHeartbeats 8000000 in
theorem put_2 (n : Nat) (ih : Pw n) (a : Int) (m : Nat) (hm : m < 8) (pp : Option Addr) (cap : Nat) (base : Nat) (v : Value) (l : List UInt8) (w : World)  (ho : OwnB w base v l) (hb : base ≤ w.heap.size) (hl : l.length + 32 * (1 + (0)) ≤ 500000) :
    Calls Try.prog 35 #[v, .agg #[.int .i64 2, .int .i64 a, .int .i64 (m : Int), .slice pp 0 cap]] w fun e w' => ∃ v', e = .returned v' ∧ OwnB w' base v' (l ++ Ex.prk 2 (m : Int) []) ∧ Fr v w v' w' := by
  have hP : PQ base v w (w.alloc (.cells #[.int .i64 2, .int .i64 a, .int .i64 (m : Int), .slice pp 0 cap] 36)) #[.int .i64 2, .int .i64 a, .int .i64 (m : Int), .slice pp 0 cap] v l := PQ.start ho hb
  obtain ⟨c0, c1, c2, c3, _, _, _, _⟩ := cells4 hP.e
  have HP := Bx.mk hP
  have IH := Bx.mk ih
  have HL := Bx.mk hl
  clear hP ih ho hl 
  go_enter Try.func35, Try.ntmps35
  go_wp2_with fail
  refine (digit_any m (by omega) _).mono ?_
  rintro e u1 ⟨rfl, hbd1⟩
  have hq1 := HP.out.step hbd1
  obtain ⟨v2, u2, hr2, ho2, hf2⟩ := hq1.own.put_str (strOf [48 + m]) (by rw [size_lst, dig_of]; exact (by have h0 := HL.out; (try simp only [Ex.par]); (try simp only [List.length_append]); (try simp only [List.length_cons]); (try simp only [List.length_nil]); omega)) hq1.sz 22
  rw [dig_of] at ho2
  have HP2 := Bx.mk (hq1.next ho2 hf2)
  clear c0 c1 c2 c3 hbd1 hq1 ho2 hf2
  go_wp2_with (refine wpList_app _ _ _ _ hr2 rfl rfl rfl rfl ?_)
  clear hr2
  have hsl2 := HP2.out.own.sl
  obtain ⟨p2, z2, y2, rfl⟩ := hsl2
  obtain ⟨c0, c1, c2, c3, _, _, _, _⟩ := cells4 HP2.out.e
  go_wp2_with fail
  go_ret
  refine ⟨.slice p2 z2 y2, rfl, ?_, HP2.out.fr⟩
  have h5 := HP2.out.own
  unfold Ex.prk
  simpa using h5
set_option maxHeartbeats 8000000 in
theorem put_10 (n : Nat) (ih : Pw n) (a : Int) (m : Nat) (hm : m < 8) (b o cap : Nat) (base : Nat) (v : Value) (l : List UInt8) (w : World) (x : Tr) (sx : Value) (Kx : KidB w base b o x sx) (Nx : (x.on .nil).nodes ≤ n) (Px : (x.on .nil).allPlain = true) (ho : OwnB w base v l) (hb : base ≤ w.heap.size) (hl : l.length + 32 * (1 + ((x.on .nil).nodes)) ≤ 500000) :
    Calls Try.prog 35 #[v, .agg #[.int .i64 10, .int .i64 a, .int .i64 (m : Int), .slice (some ⟨b, o, none⟩) 1 cap]] w fun e w' => ∃ v', e = .returned v' ∧ OwnB w' base v' (l ++ Ex.prk 10 (m : Int) [Ex.pr x]) ∧ Fr v w v' w' := by
  have hP : PQ base v w (w.alloc (.cells #[.int .i64 10, .int .i64 a, .int .i64 (m : Int), .slice (some ⟨b, o, none⟩) 1 cap] 36)) #[.int .i64 10, .int .i64 a, .int .i64 (m : Int), .slice (some ⟨b, o, none⟩) 1 cap] v l := PQ.start ho hb
  obtain ⟨c0, c1, c2, c3, _, _, _, _⟩ := cells4 hP.e
  have HP := Bx.mk hP
  have IH := Bx.mk ih
  have HL := Bx.mk hl
  have BKx := Bx.mk Kx
  have BNx := Bx.mk Nx
  have BPx := Bx.mk Px
  have BLx := Bx.mk (pr_len x)
  clear hP ih ho hl Kx Nx Px
  go_enter Try.func35, Try.ntmps35
  go_wp2_with fail
  refine region_any 100 (fun u => ∃ v' l', PQ base v w u #[.int .i64 10, .int .i64 a, .int .i64 (m : Int), .slice (some ⟨b, o, none⟩) 1 cap] v' l') (by kernel_rfl) ?_
  generalize hu : World.drew _ = u0
  have hq0 := HP.out.step ((Below.refl _ _).drew)
  rw [hu] at hq0
  clear hu HP c0 c1 c2 c3
  refine any_take (i := 0) (.func (.func 53) #[] #[]) rfl rfl (by kernel_rfl) (by kernel_rfl) (by kernel_rfl) (by kernel_rfl) (fun _ _ d _ _ h => by cases d <;> exact h) (fun u hS => rfl) ⟨_, _, hq0⟩ ?_
  (try simp only [Act.put]); (try simp only [List.getElem_toArray]); (try simp only [List.getElem_cons_succ]); (try simp only [List.getElem_cons_zero]); (try simp only [List.setIfInBounds_toArray]); (try simp only [List.set_cons_succ]); (try simp only [List.set_cons_zero])
  refine any_take (i := 1) (v) rfl rfl (by kernel_rfl) (by kernel_rfl) (by kernel_rfl) (by kernel_rfl) (fun _ _ d _ _ h => by cases d <;> exact h) (fun u hS => rfl) ⟨_, _, hq0⟩ ?_
  (try simp only [Act.put]); (try simp only [List.getElem_toArray]); (try simp only [List.getElem_cons_succ]); (try simp only [List.getElem_cons_zero]); (try simp only [List.setIfInBounds_toArray]); (try simp only [List.set_cons_succ]); (try simp only [List.set_cons_zero])
  refine any_take (i := 2) (.pointer (some ⟨w.heap.size, 2, none⟩)) rfl rfl (by kernel_rfl) (by kernel_rfl) (by kernel_rfl) (by kernel_rfl) (fun _ _ d _ _ h => by cases d <;> exact h) (fun u hS => rfl) ⟨_, _, hq0⟩ ?_
  (try simp only [Act.put]); (try simp only [List.getElem_toArray]); (try simp only [List.getElem_cons_succ]); (try simp only [List.getElem_cons_zero]); (try simp only [List.setIfInBounds_toArray]); (try simp only [List.set_cons_succ]); (try simp only [List.set_cons_zero])
  refine any_take (i := 3) (.int .i64 (m : Int)) rfl rfl (by kernel_rfl) (by kernel_rfl) (by kernel_rfl) (by kernel_rfl) (fun _ _ d _ _ h => by cases d <;> exact h) (fun u hS => by obtain ⟨v9, l9, q9⟩ := hS; exact exec_loadI rfl rfl (q9.e.cell 2)) ⟨_, _, hq0⟩ ?_
  (try simp only [Act.put]); (try simp only [List.getElem_toArray]); (try simp only [List.getElem_cons_succ]); (try simp only [List.getElem_cons_zero]); (try simp only [List.setIfInBounds_toArray]); (try simp only [List.set_cons_succ]); (try simp only [List.set_cons_zero])
  refine any_take (i := 8) (.pointer (some ⟨w.heap.size, 3, none⟩)) rfl rfl (by kernel_rfl) (by kernel_rfl) (by kernel_rfl) (by kernel_rfl) (fun _ _ d _ _ h => by cases d <;> exact h) (fun u hS => rfl) ⟨_, _, hq0⟩ ?_
  (try simp only [Act.put]); (try simp only [List.getElem_toArray]); (try simp only [List.getElem_cons_succ]); (try simp only [List.getElem_cons_zero]); (try simp only [List.setIfInBounds_toArray]); (try simp only [List.set_cons_succ]); (try simp only [List.set_cons_zero])
  refine any_take (i := 9) (.slice (some ⟨b, o, none⟩) 1 cap) rfl rfl (by kernel_rfl) (by kernel_rfl) (by kernel_rfl) (by kernel_rfl) (fun _ _ d _ _ h => by cases d <;> exact h) (fun u hS => by obtain ⟨v9, l9, q9⟩ := hS; exact exec_loadS rfl rfl (q9.e.cell 3)) ⟨_, _, hq0⟩ ?_
  (try simp only [Act.put]); (try simp only [List.getElem_toArray]); (try simp only [List.getElem_cons_succ]); (try simp only [List.getElem_cons_zero]); (try simp only [List.setIfInBounds_toArray]); (try simp only [List.set_cons_succ]); (try simp only [List.set_cons_zero])
  refine any_take (i := 10) (.pointer (some ⟨b, o, none⟩)) rfl rfl (by kernel_rfl) (by kernel_rfl) (by kernel_rfl) (by kernel_rfl) (fun _ _ d _ _ h => by cases d <;> exact h) (fun u hS => exec_ix01 rfl rfl rfl) ⟨_, _, hq0⟩ ?_
  (try simp only [Act.put]); (try simp only [List.getElem_toArray]); (try simp only [List.getElem_cons_succ]); (try simp only [List.getElem_cons_zero]); (try simp only [List.setIfInBounds_toArray]); (try simp only [List.set_cons_succ]); (try simp only [List.set_cons_zero])
  refine any_take (i := 11) (Ev x sx) rfl rfl (by kernel_rfl) (by kernel_rfl) (by kernel_rfl) (by kernel_rfl) (fun _ _ d _ _ h => by cases d <;> exact h) (fun u hS => by obtain ⟨v9, l9, q9⟩ := hS; have kk := BKx.out.fr q9.low; exact exec_loadX rfl rfl kk.c0 kk.c1 kk.c2 kk.c3) ⟨_, _, hq0⟩ ?_
  (try simp only [Act.put]); (try simp only [List.getElem_toArray]); (try simp only [List.getElem_cons_succ]); (try simp only [List.getElem_cons_zero]); (try simp only [List.setIfInBounds_toArray]); (try simp only [List.set_cons_succ]); (try simp only [List.set_cons_zero])
  refine any_branch [4] (by kernel_rfl) rfl fun ix hix => ?_
  simp only [List.mem_cons, List.not_mem_nil, or_false] at hix
  subst hix
  refine any_op rfl rfl fun K hK => ?_
  go_simp
  refine (digit_any m (by omega) _).mono ?_
  rintro e u1 ⟨rfl, hbd1⟩
  have hf1 := Fr.below (v := v) hbd1
  have hq1 := hq0.step hbd1
  refine hK _ _ (fun _ => ⟨_, _, hq1⟩) ?_
  (try simp only [Act.put]); (try simp only [List.getElem_toArray]); (try simp only [List.getElem_cons_succ]); (try simp only [List.getElem_cons_zero]); (try simp only [List.setIfInBounds_toArray]); (try simp only [List.set_cons_succ]); (try simp only [List.set_cons_zero])
  clear hK
  refine any_take (i := 5) (.string ({ data := #[97, 108, 108, 32, 118] } ++ strOf [48 + m])) rfl rfl (by kernel_rfl) (by kernel_rfl) (by kernel_rfl) (by kernel_rfl) (fun _ _ d _ _ h => by cases d <;> exact h) (fun u hS => exec_addS rfl rfl rfl (by rw [strOf_size]; show 5 + 1 ≤ 1000000; omega)) ⟨_, _, hq1⟩ ?_
  (try simp only [Act.put]); (try simp only [List.getElem_toArray]); (try simp only [List.getElem_cons_succ]); (try simp only [List.getElem_cons_zero]); (try simp only [List.setIfInBounds_toArray]); (try simp only [List.set_cons_succ]); (try simp only [List.set_cons_zero])
  refine any_take (i := 6) (.string (({ data := #[97, 108, 108, 32, 118] } ++ strOf [48 + m]) ++ { data := #[32] })) rfl rfl (by kernel_rfl) (by kernel_rfl) (by kernel_rfl) (by kernel_rfl) (fun _ _ d _ _ h => by cases d <;> exact h) (fun u hS => exec_addS rfl rfl rfl (by rw [ByteArray.size_append, strOf_size]; show 5 + 1 + 1 ≤ 1000000; omega)) ⟨_, _, hq1⟩ ?_
  (try simp only [Act.put]); (try simp only [List.getElem_toArray]); (try simp only [List.getElem_cons_succ]); (try simp only [List.getElem_cons_zero]); (try simp only [List.setIfInBounds_toArray]); (try simp only [List.set_cons_succ]); (try simp only [List.set_cons_zero])
  refine any_branch [7] (by kernel_rfl) rfl fun ix hix => ?_
  simp only [List.mem_cons, List.not_mem_nil, or_false] at hix
  subst hix
  refine any_op rfl rfl fun K hK => ?_
  have hls2 : ((({ data := #[97, 108, 108, 32, 118] } ++ strOf [48 + m]) ++ { data := #[32] }) : ByteArray).data.toList = [97, 108, 108, 32, 118] ++ [Ex.dig (m : Int)] ++ [32] := by rw [lst3, dig_of]
  obtain ⟨v2, u2, hr2, ho2, hf2⟩ := hq1.own.put_str (({ data := #[97, 108, 108, 32, 118] } ++ strOf [48 + m]) ++ { data := #[32] }) (by rw [size_lst, hls2]; exact (by have h0 := HL.out; have hx := BLx.out; (try simp only [Ex.par]); (try simp only [List.length_append]); (try simp only [List.length_cons]); (try simp only [List.length_nil]); omega)) hq1.sz 22
  rw [hls2] at ho2
  refine wp_app _ _ _ _ hr2 rfl rfl rfl ?_
  have hq2 := hq1.next ho2 hf2
  refine hK _ _ (fun _ => ⟨_, _, hq2⟩) ?_
  (try simp only [Act.put]); (try simp only [List.getElem_toArray]); (try simp only [List.getElem_cons_succ]); (try simp only [List.getElem_cons_zero]); (try simp only [List.setIfInBounds_toArray]); (try simp only [List.set_cons_succ]); (try simp only [List.set_cons_zero])
  clear hK
  refine any_branch [12] (by kernel_rfl) rfl fun ix hix => ?_
  simp only [List.mem_cons, List.not_mem_nil, or_false] at hix
  subst hix
  refine any_op rfl rfl fun K hK => ?_
  go_simp
  refine (in_any n IH.out x _ base _ _ u2 BNx.out BPx.out ((BKx.out.fr hq2.low).sl) hq2.own hq2.sz (by have h0 := HL.out; have hx := BLx.out; (try simp only [Ex.par]); (try simp only [List.length_append]); (try simp only [List.length_cons]); (try simp only [List.length_nil]); omega) BLx.out).mono ?_
  rintro e u3 ⟨v3, rfl, ho3, hf3⟩
  have hq3 := hq2.next ho3 hf3
  refine hK _ _ (fun _ => ⟨_, _, hq3⟩) ?_
  (try simp only [Act.put]); (try simp only [List.getElem_toArray]); (try simp only [List.getElem_cons_succ]); (try simp only [List.getElem_cons_zero]); (try simp only [List.setIfInBounds_toArray]); (try simp only [List.set_cons_succ]); (try simp only [List.set_cons_zero])
  clear hK
  refine any_branch [13] (by kernel_rfl) rfl fun ix hix => ?_
  simp only [List.mem_cons, List.not_mem_nil, or_false] at hix
  subst hix
  refine any_op rfl rfl fun K hK => ?_
  go_simp
  refine hK _ _ (fun _ => ⟨_, _, hq3⟩) ?_
  (try simp only [Act.put]); (try simp only [List.getElem_toArray]); (try simp only [List.getElem_cons_succ]); (try simp only [List.getElem_cons_zero]); (try simp only [List.setIfInBounds_toArray]); (try simp only [List.set_cons_succ]); (try simp only [List.set_cons_zero])
  clear hK
  refine any_end (by kernel_rfl) ?_
  have HP := Bx.mk hq3
  have hsl := hq3.own.sl
  clear hq0 hq1 hq2 hq3 hf1 hf2 hf3 
  obtain ⟨pz, zz, yz, rfl⟩ := hsl
  obtain ⟨c0, c1, c2, c3, _, _, _, _⟩ := cells4 HP.out.e
  go_wp2_with fail
  go_ret
  refine ⟨.slice pz zz yz, rfl, ?_, HP.out.fr⟩
  have h5 := HP.out.own
  unfold Ex.prk
  simp only [List.append_assoc] at h5 ⊢
  simpa using h5
set_option maxHeartbeats 8000000 in
theorem put_11 (n : Nat) (ih : Pw n) (a : Int) (m : Nat) (hm : m < 8) (b o cap : Nat) (base : Nat) (v : Value) (l : List UInt8) (w : World) (x : Tr) (sx : Value) (Kx : KidB w base b o x sx) (Nx : (x.on .nil).nodes ≤ n) (Px : (x.on .nil).allPlain = true) (ho : OwnB w base v l) (hb : base ≤ w.heap.size) (hl : l.length + 32 * (1 + ((x.on .nil).nodes)) ≤ 500000) :
    Calls Try.prog 35 #[v, .agg #[.int .i64 11, .int .i64 a, .int .i64 (m : Int), .slice (some ⟨b, o, none⟩) 1 cap]] w fun e w' => ∃ v', e = .returned v' ∧ OwnB w' base v' (l ++ Ex.prk 11 (m : Int) [Ex.pr x]) ∧ Fr v w v' w' := by
  have hP : PQ base v w (w.alloc (.cells #[.int .i64 11, .int .i64 a, .int .i64 (m : Int), .slice (some ⟨b, o, none⟩) 1 cap] 36)) #[.int .i64 11, .int .i64 a, .int .i64 (m : Int), .slice (some ⟨b, o, none⟩) 1 cap] v l := PQ.start ho hb
  obtain ⟨c0, c1, c2, c3, _, _, _, _⟩ := cells4 hP.e
  have HP := Bx.mk hP
  have IH := Bx.mk ih
  have HL := Bx.mk hl
  have BKx := Bx.mk Kx
  have BNx := Bx.mk Nx
  have BPx := Bx.mk Px
  have BLx := Bx.mk (pr_len x)
  clear hP ih ho hl Kx Nx Px
  go_enter Try.func35, Try.ntmps35
  go_wp2_with fail
  refine region_any 100 (fun u => ∃ v' l', PQ base v w u #[.int .i64 11, .int .i64 a, .int .i64 (m : Int), .slice (some ⟨b, o, none⟩) 1 cap] v' l') (by kernel_rfl) ?_
  generalize hu : World.drew _ = u0
  have hq0 := HP.out.step ((Below.refl _ _).drew)
  rw [hu] at hq0
  clear hu HP c0 c1 c2 c3
  refine any_take (i := 0) (.func (.func 53) #[] #[]) rfl rfl (by kernel_rfl) (by kernel_rfl) (by kernel_rfl) (by kernel_rfl) (fun _ _ d _ _ h => by cases d <;> exact h) (fun u hS => rfl) ⟨_, _, hq0⟩ ?_
  (try simp only [Act.put]); (try simp only [List.getElem_toArray]); (try simp only [List.getElem_cons_succ]); (try simp only [List.getElem_cons_zero]); (try simp only [List.setIfInBounds_toArray]); (try simp only [List.set_cons_succ]); (try simp only [List.set_cons_zero])
  refine any_take (i := 1) (v) rfl rfl (by kernel_rfl) (by kernel_rfl) (by kernel_rfl) (by kernel_rfl) (fun _ _ d _ _ h => by cases d <;> exact h) (fun u hS => rfl) ⟨_, _, hq0⟩ ?_
  (try simp only [Act.put]); (try simp only [List.getElem_toArray]); (try simp only [List.getElem_cons_succ]); (try simp only [List.getElem_cons_zero]); (try simp only [List.setIfInBounds_toArray]); (try simp only [List.set_cons_succ]); (try simp only [List.set_cons_zero])
  refine any_take (i := 2) (.pointer (some ⟨w.heap.size, 2, none⟩)) rfl rfl (by kernel_rfl) (by kernel_rfl) (by kernel_rfl) (by kernel_rfl) (fun _ _ d _ _ h => by cases d <;> exact h) (fun u hS => rfl) ⟨_, _, hq0⟩ ?_
  (try simp only [Act.put]); (try simp only [List.getElem_toArray]); (try simp only [List.getElem_cons_succ]); (try simp only [List.getElem_cons_zero]); (try simp only [List.setIfInBounds_toArray]); (try simp only [List.set_cons_succ]); (try simp only [List.set_cons_zero])
  refine any_take (i := 3) (.int .i64 (m : Int)) rfl rfl (by kernel_rfl) (by kernel_rfl) (by kernel_rfl) (by kernel_rfl) (fun _ _ d _ _ h => by cases d <;> exact h) (fun u hS => by obtain ⟨v9, l9, q9⟩ := hS; exact exec_loadI rfl rfl (q9.e.cell 2)) ⟨_, _, hq0⟩ ?_
  (try simp only [Act.put]); (try simp only [List.getElem_toArray]); (try simp only [List.getElem_cons_succ]); (try simp only [List.getElem_cons_zero]); (try simp only [List.setIfInBounds_toArray]); (try simp only [List.set_cons_succ]); (try simp only [List.set_cons_zero])
  refine any_take (i := 8) (.pointer (some ⟨w.heap.size, 3, none⟩)) rfl rfl (by kernel_rfl) (by kernel_rfl) (by kernel_rfl) (by kernel_rfl) (fun _ _ d _ _ h => by cases d <;> exact h) (fun u hS => rfl) ⟨_, _, hq0⟩ ?_
  (try simp only [Act.put]); (try simp only [List.getElem_toArray]); (try simp only [List.getElem_cons_succ]); (try simp only [List.getElem_cons_zero]); (try simp only [List.setIfInBounds_toArray]); (try simp only [List.set_cons_succ]); (try simp only [List.set_cons_zero])
  refine any_take (i := 9) (.slice (some ⟨b, o, none⟩) 1 cap) rfl rfl (by kernel_rfl) (by kernel_rfl) (by kernel_rfl) (by kernel_rfl) (fun _ _ d _ _ h => by cases d <;> exact h) (fun u hS => by obtain ⟨v9, l9, q9⟩ := hS; exact exec_loadS rfl rfl (q9.e.cell 3)) ⟨_, _, hq0⟩ ?_
  (try simp only [Act.put]); (try simp only [List.getElem_toArray]); (try simp only [List.getElem_cons_succ]); (try simp only [List.getElem_cons_zero]); (try simp only [List.setIfInBounds_toArray]); (try simp only [List.set_cons_succ]); (try simp only [List.set_cons_zero])
  refine any_take (i := 10) (.pointer (some ⟨b, o, none⟩)) rfl rfl (by kernel_rfl) (by kernel_rfl) (by kernel_rfl) (by kernel_rfl) (fun _ _ d _ _ h => by cases d <;> exact h) (fun u hS => exec_ix01 rfl rfl rfl) ⟨_, _, hq0⟩ ?_
  (try simp only [Act.put]); (try simp only [List.getElem_toArray]); (try simp only [List.getElem_cons_succ]); (try simp only [List.getElem_cons_zero]); (try simp only [List.setIfInBounds_toArray]); (try simp only [List.set_cons_succ]); (try simp only [List.set_cons_zero])
  refine any_take (i := 11) (Ev x sx) rfl rfl (by kernel_rfl) (by kernel_rfl) (by kernel_rfl) (by kernel_rfl) (fun _ _ d _ _ h => by cases d <;> exact h) (fun u hS => by obtain ⟨v9, l9, q9⟩ := hS; have kk := BKx.out.fr q9.low; exact exec_loadX rfl rfl kk.c0 kk.c1 kk.c2 kk.c3) ⟨_, _, hq0⟩ ?_
  (try simp only [Act.put]); (try simp only [List.getElem_toArray]); (try simp only [List.getElem_cons_succ]); (try simp only [List.getElem_cons_zero]); (try simp only [List.setIfInBounds_toArray]); (try simp only [List.set_cons_succ]); (try simp only [List.set_cons_zero])
  refine any_branch [4] (by kernel_rfl) rfl fun ix hix => ?_
  simp only [List.mem_cons, List.not_mem_nil, or_false] at hix
  subst hix
  refine any_op rfl rfl fun K hK => ?_
  go_simp
  refine (digit_any m (by omega) _).mono ?_
  rintro e u1 ⟨rfl, hbd1⟩
  have hf1 := Fr.below (v := v) hbd1
  have hq1 := hq0.step hbd1
  refine hK _ _ (fun _ => ⟨_, _, hq1⟩) ?_
  (try simp only [Act.put]); (try simp only [List.getElem_toArray]); (try simp only [List.getElem_cons_succ]); (try simp only [List.getElem_cons_zero]); (try simp only [List.setIfInBounds_toArray]); (try simp only [List.set_cons_succ]); (try simp only [List.set_cons_zero])
  clear hK
  refine any_take (i := 5) (.string ({ data := #[97, 110, 121, 32, 118] } ++ strOf [48 + m])) rfl rfl (by kernel_rfl) (by kernel_rfl) (by kernel_rfl) (by kernel_rfl) (fun _ _ d _ _ h => by cases d <;> exact h) (fun u hS => exec_addS rfl rfl rfl (by rw [strOf_size]; show 5 + 1 ≤ 1000000; omega)) ⟨_, _, hq1⟩ ?_
  (try simp only [Act.put]); (try simp only [List.getElem_toArray]); (try simp only [List.getElem_cons_succ]); (try simp only [List.getElem_cons_zero]); (try simp only [List.setIfInBounds_toArray]); (try simp only [List.set_cons_succ]); (try simp only [List.set_cons_zero])
  refine any_take (i := 6) (.string (({ data := #[97, 110, 121, 32, 118] } ++ strOf [48 + m]) ++ { data := #[32] })) rfl rfl (by kernel_rfl) (by kernel_rfl) (by kernel_rfl) (by kernel_rfl) (fun _ _ d _ _ h => by cases d <;> exact h) (fun u hS => exec_addS rfl rfl rfl (by rw [ByteArray.size_append, strOf_size]; show 5 + 1 + 1 ≤ 1000000; omega)) ⟨_, _, hq1⟩ ?_
  (try simp only [Act.put]); (try simp only [List.getElem_toArray]); (try simp only [List.getElem_cons_succ]); (try simp only [List.getElem_cons_zero]); (try simp only [List.setIfInBounds_toArray]); (try simp only [List.set_cons_succ]); (try simp only [List.set_cons_zero])
  refine any_branch [7] (by kernel_rfl) rfl fun ix hix => ?_
  simp only [List.mem_cons, List.not_mem_nil, or_false] at hix
  subst hix
  refine any_op rfl rfl fun K hK => ?_
  have hls2 : ((({ data := #[97, 110, 121, 32, 118] } ++ strOf [48 + m]) ++ { data := #[32] }) : ByteArray).data.toList = [97, 110, 121, 32, 118] ++ [Ex.dig (m : Int)] ++ [32] := by rw [lst3, dig_of]
  obtain ⟨v2, u2, hr2, ho2, hf2⟩ := hq1.own.put_str (({ data := #[97, 110, 121, 32, 118] } ++ strOf [48 + m]) ++ { data := #[32] }) (by rw [size_lst, hls2]; exact (by have h0 := HL.out; have hx := BLx.out; (try simp only [Ex.par]); (try simp only [List.length_append]); (try simp only [List.length_cons]); (try simp only [List.length_nil]); omega)) hq1.sz 22
  rw [hls2] at ho2
  refine wp_app _ _ _ _ hr2 rfl rfl rfl ?_
  have hq2 := hq1.next ho2 hf2
  refine hK _ _ (fun _ => ⟨_, _, hq2⟩) ?_
  (try simp only [Act.put]); (try simp only [List.getElem_toArray]); (try simp only [List.getElem_cons_succ]); (try simp only [List.getElem_cons_zero]); (try simp only [List.setIfInBounds_toArray]); (try simp only [List.set_cons_succ]); (try simp only [List.set_cons_zero])
  clear hK
  refine any_branch [12] (by kernel_rfl) rfl fun ix hix => ?_
  simp only [List.mem_cons, List.not_mem_nil, or_false] at hix
  subst hix
  refine any_op rfl rfl fun K hK => ?_
  go_simp
  refine (in_any n IH.out x _ base _ _ u2 BNx.out BPx.out ((BKx.out.fr hq2.low).sl) hq2.own hq2.sz (by have h0 := HL.out; have hx := BLx.out; (try simp only [Ex.par]); (try simp only [List.length_append]); (try simp only [List.length_cons]); (try simp only [List.length_nil]); omega) BLx.out).mono ?_
  rintro e u3 ⟨v3, rfl, ho3, hf3⟩
  have hq3 := hq2.next ho3 hf3
  refine hK _ _ (fun _ => ⟨_, _, hq3⟩) ?_
  (try simp only [Act.put]); (try simp only [List.getElem_toArray]); (try simp only [List.getElem_cons_succ]); (try simp only [List.getElem_cons_zero]); (try simp only [List.setIfInBounds_toArray]); (try simp only [List.set_cons_succ]); (try simp only [List.set_cons_zero])
  clear hK
  refine any_branch [13] (by kernel_rfl) rfl fun ix hix => ?_
  simp only [List.mem_cons, List.not_mem_nil, or_false] at hix
  subst hix
  refine any_op rfl rfl fun K hK => ?_
  go_simp
  refine hK _ _ (fun _ => ⟨_, _, hq3⟩) ?_
  (try simp only [Act.put]); (try simp only [List.getElem_toArray]); (try simp only [List.getElem_cons_succ]); (try simp only [List.getElem_cons_zero]); (try simp only [List.setIfInBounds_toArray]); (try simp only [List.set_cons_succ]); (try simp only [List.set_cons_zero])
  clear hK
  refine any_end (by kernel_rfl) ?_
  have HP := Bx.mk hq3
  have hsl := hq3.own.sl
  clear hq0 hq1 hq2 hq3 hf1 hf2 hf3 
  obtain ⟨pz, zz, yz, rfl⟩ := hsl
  obtain ⟨c0, c1, c2, c3, _, _, _, _⟩ := cells4 HP.out.e
  go_wp2_with fail
  go_ret
  refine ⟨.slice pz zz yz, rfl, ?_, HP.out.fr⟩
  have h5 := HP.out.own
  unfold Ex.prk
  simp only [List.append_assoc] at h5 ⊢
  simpa using h5
set_option maxHeartbeats 8000000 in
theorem put_9 (n : Nat) (ih : Pw n) (a : Int) (vv : Int) (b o cap : Nat) (base : Nat) (v : Value) (l : List UInt8) (w : World) (x : Tr) (sx : Value) (Kx : KidB w base b o x sx) (Nx : (x.on .nil).nodes ≤ n) (Px : (x.on .nil).allPlain = true) (y : Tr) (sy : Value) (Ky : KidB w base b (o + 4) y sy) (Ny : (y.on .nil).nodes ≤ n) (Py : (y.on .nil).allPlain = true) (z : Tr) (sz : Value) (Kz : KidB w base b (o + 8) z sz) (Nz : (z.on .nil).nodes ≤ n) (Pz : (z.on .nil).allPlain = true) (ho : OwnB w base v l) (hb : base ≤ w.heap.size) (hl : l.length + 32 * (1 + ((x.on .nil).nodes + (y.on .nil).nodes + (z.on .nil).nodes)) ≤ 500000) :
    Calls Try.prog 35 #[v, .agg #[.int .i64 9, .int .i64 a, .int .i64 vv, .slice (some ⟨b, o, none⟩) 3 cap]] w fun e w' => ∃ v', e = .returned v' ∧ OwnB w' base v' (l ++ Ex.prk 9 vv [Ex.pr x, Ex.pr y, Ex.pr z]) ∧ Fr v w v' w' := by
  have hP : PQ base v w (w.alloc (.cells #[.int .i64 9, .int .i64 a, .int .i64 vv, .slice (some ⟨b, o, none⟩) 3 cap] 36)) #[.int .i64 9, .int .i64 a, .int .i64 vv, .slice (some ⟨b, o, none⟩) 3 cap] v l := PQ.start ho hb
  obtain ⟨c0, c1, c2, c3, _, _, _, _⟩ := cells4 hP.e
  have HP := Bx.mk hP
  have IH := Bx.mk ih
  have HL := Bx.mk hl
  have BKx := Bx.mk Kx
  have BNx := Bx.mk Nx
  have BPx := Bx.mk Px
  have BLx := Bx.mk (pr_len x)
  have BKy := Bx.mk Ky
  have BNy := Bx.mk Ny
  have BPy := Bx.mk Py
  have BLy := Bx.mk (pr_len y)
  have BKz := Bx.mk Kz
  have BNz := Bx.mk Nz
  have BPz := Bx.mk Pz
  have BLz := Bx.mk (pr_len z)
  clear hP ih ho hl Kx Nx Px Ky Ny Py Kz Nz Pz
  go_enter Try.func35, Try.ntmps35
  go_wp2_with fail
  refine region_any 100 (fun u => ∃ v' l', PQ base v w u #[.int .i64 9, .int .i64 a, .int .i64 vv, .slice (some ⟨b, o, none⟩) 3 cap] v' l') (by kernel_rfl) ?_
  generalize hu : World.drew _ = u0
  have hq0 := HP.out.step ((Below.refl _ _).drew)
  rw [hu] at hq0
  clear hu HP c0 c1 c2 c3
  refine any_take (i := 0) (.func (.func 53) #[] #[]) rfl rfl (by kernel_rfl) (by kernel_rfl) (by kernel_rfl) (by kernel_rfl) (fun _ _ d _ _ h => by cases d <;> exact h) (fun u hS => rfl) ⟨_, _, hq0⟩ ?_
  (try simp only [Act.put]); (try simp only [List.getElem_toArray]); (try simp only [List.getElem_cons_succ]); (try simp only [List.getElem_cons_zero]); (try simp only [List.setIfInBounds_toArray]); (try simp only [List.set_cons_succ]); (try simp only [List.set_cons_zero])
  refine any_take (i := 1) (v) rfl rfl (by kernel_rfl) (by kernel_rfl) (by kernel_rfl) (by kernel_rfl) (fun _ _ d _ _ h => by cases d <;> exact h) (fun u hS => rfl) ⟨_, _, hq0⟩ ?_
  (try simp only [Act.put]); (try simp only [List.getElem_toArray]); (try simp only [List.getElem_cons_succ]); (try simp only [List.getElem_cons_zero]); (try simp only [List.setIfInBounds_toArray]); (try simp only [List.set_cons_succ]); (try simp only [List.set_cons_zero])
  refine any_take (i := 3) (.pointer (some ⟨w.heap.size, 3, none⟩)) rfl rfl (by kernel_rfl) (by kernel_rfl) (by kernel_rfl) (by kernel_rfl) (fun _ _ d _ _ h => by cases d <;> exact h) (fun u hS => rfl) ⟨_, _, hq0⟩ ?_
  (try simp only [Act.put]); (try simp only [List.getElem_toArray]); (try simp only [List.getElem_cons_succ]); (try simp only [List.getElem_cons_zero]); (try simp only [List.setIfInBounds_toArray]); (try simp only [List.set_cons_succ]); (try simp only [List.set_cons_zero])
  refine any_take (i := 4) (.slice (some ⟨b, o, none⟩) 3 cap) rfl rfl (by kernel_rfl) (by kernel_rfl) (by kernel_rfl) (by kernel_rfl) (fun _ _ d _ _ h => by cases d <;> exact h) (fun u hS => by obtain ⟨v9, l9, q9⟩ := hS; exact exec_loadS rfl rfl (q9.e.cell 3)) ⟨_, _, hq0⟩ ?_
  (try simp only [Act.put]); (try simp only [List.getElem_toArray]); (try simp only [List.getElem_cons_succ]); (try simp only [List.getElem_cons_zero]); (try simp only [List.setIfInBounds_toArray]); (try simp only [List.set_cons_succ]); (try simp only [List.set_cons_zero])
  refine any_take (i := 5) (.pointer (some ⟨b, o, none⟩)) rfl rfl (by kernel_rfl) (by kernel_rfl) (by kernel_rfl) (by kernel_rfl) (fun _ _ d _ _ h => by cases d <;> exact h) (fun u hS => exec_ix03 rfl rfl rfl) ⟨_, _, hq0⟩ ?_
  (try simp only [Act.put]); (try simp only [List.getElem_toArray]); (try simp only [List.getElem_cons_succ]); (try simp only [List.getElem_cons_zero]); (try simp only [List.setIfInBounds_toArray]); (try simp only [List.set_cons_succ]); (try simp only [List.set_cons_zero])
  refine any_take (i := 6) (Ev x sx) rfl rfl (by kernel_rfl) (by kernel_rfl) (by kernel_rfl) (by kernel_rfl) (fun _ _ d _ _ h => by cases d <;> exact h) (fun u hS => by obtain ⟨v9, l9, q9⟩ := hS; have kk := BKx.out.fr q9.low; exact exec_loadX rfl rfl kk.c0 kk.c1 kk.c2 kk.c3) ⟨_, _, hq0⟩ ?_
  (try simp only [Act.put]); (try simp only [List.getElem_toArray]); (try simp only [List.getElem_cons_succ]); (try simp only [List.getElem_cons_zero]); (try simp only [List.setIfInBounds_toArray]); (try simp only [List.set_cons_succ]); (try simp only [List.set_cons_zero])
  refine any_branch [2] (by kernel_rfl) rfl fun ix hix => ?_
  simp only [List.mem_cons, List.not_mem_nil, or_false] at hix
  subst hix
  refine any_op rfl rfl fun K hK => ?_
  have hls1 : ({ data := #[105, 116, 101, 40] } : ByteArray).data.toList = [105, 116, 101, 40] := rfl
  obtain ⟨v1, u1, hr1, ho1, hf1⟩ := hq0.own.put_str { data := #[105, 116, 101, 40] } (by rw [size_lst, hls1]; exact (by have h0 := HL.out; have hx := BLx.out; have hy := BLy.out; have hz := BLz.out; (try simp only [Ex.par]); (try simp only [List.length_append]); (try simp only [List.length_cons]); (try simp only [List.length_nil]); omega)) hq0.sz 22
  rw [hls1] at ho1
  refine wp_app _ _ _ _ hr1 rfl rfl rfl ?_
  have hq1 := hq0.next ho1 hf1
  refine hK _ _ (fun _ => ⟨_, _, hq1⟩) ?_
  (try simp only [Act.put]); (try simp only [List.getElem_toArray]); (try simp only [List.getElem_cons_succ]); (try simp only [List.getElem_cons_zero]); (try simp only [List.setIfInBounds_toArray]); (try simp only [List.set_cons_succ]); (try simp only [List.set_cons_zero])
  clear hK
  refine any_branch [7] (by kernel_rfl) rfl fun ix hix => ?_
  simp only [List.mem_cons, List.not_mem_nil, or_false] at hix
  subst hix
  refine any_op rfl rfl fun K hK => ?_
  go_simp
  refine (in_any n IH.out x _ base _ _ u1 BNx.out BPx.out ((BKx.out.fr hq1.low).sl) hq1.own hq1.sz (by have h0 := HL.out; have hx := BLx.out; have hy := BLy.out; have hz := BLz.out; (try simp only [Ex.par]); (try simp only [List.length_append]); (try simp only [List.length_cons]); (try simp only [List.length_nil]); omega) BLx.out).mono ?_
  rintro e u2 ⟨v2, rfl, ho2, hf2⟩
  have hq2 := hq1.next ho2 hf2
  refine hK _ _ (fun _ => ⟨_, _, hq2⟩) ?_
  (try simp only [Act.put]); (try simp only [List.getElem_toArray]); (try simp only [List.getElem_cons_succ]); (try simp only [List.getElem_cons_zero]); (try simp only [List.setIfInBounds_toArray]); (try simp only [List.set_cons_succ]); (try simp only [List.set_cons_zero])
  clear hK
  refine any_branch [8] (by kernel_rfl) rfl fun ix hix => ?_
  simp only [List.mem_cons, List.not_mem_nil, or_false] at hix
  subst hix
  refine any_op rfl rfl fun K hK => ?_
  go_simp
  refine hK _ _ (fun _ => ⟨_, _, hq2⟩) ?_
  (try simp only [Act.put]); (try simp only [List.getElem_toArray]); (try simp only [List.getElem_cons_succ]); (try simp only [List.getElem_cons_zero]); (try simp only [List.setIfInBounds_toArray]); (try simp only [List.set_cons_succ]); (try simp only [List.set_cons_zero])
  clear hK
  refine any_end (by kernel_rfl) ?_
  have HP := Bx.mk hq2
  have hsl := hq2.own.sl
  clear hq0 hq1 hq2 hf1 hf2 
  obtain ⟨pa, za, ya, rfl⟩ := hsl
  obtain ⟨c0, c1, c2, c3, _, _, _, _⟩ := cells4 HP.out.e
  go_wp2_with fail
  refine region_any 100 (fun u => ∃ v' l', PQ base v w u #[.int .i64 9, .int .i64 a, .int .i64 vv, .slice (some ⟨b, o, none⟩) 3 cap] v' l') (by kernel_rfl) ?_
  generalize hu : World.drew _ = u0
  have hq0 := HP.out.step ((Below.refl _ _).drew)
  rw [hu] at hq0
  clear hu HP c0 c1 c2 c3
  refine any_take (i := 0) (.func (.func 53) #[] #[]) rfl rfl (by kernel_rfl) (by kernel_rfl) (by kernel_rfl) (by kernel_rfl) (fun _ _ d _ _ h => by cases d <;> exact h) (fun u hS => rfl) ⟨_, _, hq0⟩ ?_
  (try simp only [Act.put]); (try simp only [List.getElem_toArray]); (try simp only [List.getElem_cons_succ]); (try simp only [List.getElem_cons_zero]); (try simp only [List.setIfInBounds_toArray]); (try simp only [List.set_cons_succ]); (try simp only [List.set_cons_zero])
  refine any_take (i := 1) (.slice pa za ya) rfl rfl (by kernel_rfl) (by kernel_rfl) (by kernel_rfl) (by kernel_rfl) (fun _ _ d _ _ h => by cases d <;> exact h) (fun u hS => rfl) ⟨_, _, hq0⟩ ?_
  (try simp only [Act.put]); (try simp only [List.getElem_toArray]); (try simp only [List.getElem_cons_succ]); (try simp only [List.getElem_cons_zero]); (try simp only [List.setIfInBounds_toArray]); (try simp only [List.set_cons_succ]); (try simp only [List.set_cons_zero])
  refine any_take (i := 3) (.pointer (some ⟨w.heap.size, 3, none⟩)) rfl rfl (by kernel_rfl) (by kernel_rfl) (by kernel_rfl) (by kernel_rfl) (fun _ _ d _ _ h => by cases d <;> exact h) (fun u hS => rfl) ⟨_, _, hq0⟩ ?_
  (try simp only [Act.put]); (try simp only [List.getElem_toArray]); (try simp only [List.getElem_cons_succ]); (try simp only [List.getElem_cons_zero]); (try simp only [List.setIfInBounds_toArray]); (try simp only [List.set_cons_succ]); (try simp only [List.set_cons_zero])
  refine any_take (i := 4) (.slice (some ⟨b, o, none⟩) 3 cap) rfl rfl (by kernel_rfl) (by kernel_rfl) (by kernel_rfl) (by kernel_rfl) (fun _ _ d _ _ h => by cases d <;> exact h) (fun u hS => by obtain ⟨v9, l9, q9⟩ := hS; exact exec_loadS rfl rfl (q9.e.cell 3)) ⟨_, _, hq0⟩ ?_
  (try simp only [Act.put]); (try simp only [List.getElem_toArray]); (try simp only [List.getElem_cons_succ]); (try simp only [List.getElem_cons_zero]); (try simp only [List.setIfInBounds_toArray]); (try simp only [List.set_cons_succ]); (try simp only [List.set_cons_zero])
  refine any_take (i := 5) (.pointer (some ⟨b, o + 4, none⟩)) rfl rfl (by kernel_rfl) (by kernel_rfl) (by kernel_rfl) (by kernel_rfl) (fun _ _ d _ _ h => by cases d <;> exact h) (fun u hS => exec_ix13 rfl rfl rfl) ⟨_, _, hq0⟩ ?_
  (try simp only [Act.put]); (try simp only [List.getElem_toArray]); (try simp only [List.getElem_cons_succ]); (try simp only [List.getElem_cons_zero]); (try simp only [List.setIfInBounds_toArray]); (try simp only [List.set_cons_succ]); (try simp only [List.set_cons_zero])
  refine any_take (i := 6) (Ev y sy) rfl rfl (by kernel_rfl) (by kernel_rfl) (by kernel_rfl) (by kernel_rfl) (fun _ _ d _ _ h => by cases d <;> exact h) (fun u hS => by obtain ⟨v9, l9, q9⟩ := hS; have kk := BKy.out.fr q9.low; exact exec_loadX rfl rfl kk.c0 kk.c1 kk.c2 kk.c3) ⟨_, _, hq0⟩ ?_
  (try simp only [Act.put]); (try simp only [List.getElem_toArray]); (try simp only [List.getElem_cons_succ]); (try simp only [List.getElem_cons_zero]); (try simp only [List.setIfInBounds_toArray]); (try simp only [List.set_cons_succ]); (try simp only [List.set_cons_zero])
  refine any_branch [2] (by kernel_rfl) rfl fun ix hix => ?_
  simp only [List.mem_cons, List.not_mem_nil, or_false] at hix
  subst hix
  refine any_op rfl rfl fun K hK => ?_
  have hls1 : ({ data := #[44, 32] } : ByteArray).data.toList = [44, 32] := rfl
  obtain ⟨v1, u1, hr1, ho1, hf1⟩ := hq0.own.put_str { data := #[44, 32] } (by rw [size_lst, hls1]; exact (by have h0 := HL.out; have hx := BLx.out; have hy := BLy.out; have hz := BLz.out; (try simp only [Ex.par]); (try simp only [List.length_append]); (try simp only [List.length_cons]); (try simp only [List.length_nil]); omega)) hq0.sz 22
  rw [hls1] at ho1
  refine wp_app _ _ _ _ hr1 rfl rfl rfl ?_
  have hq1 := hq0.next ho1 hf1
  refine hK _ _ (fun _ => ⟨_, _, hq1⟩) ?_
  (try simp only [Act.put]); (try simp only [List.getElem_toArray]); (try simp only [List.getElem_cons_succ]); (try simp only [List.getElem_cons_zero]); (try simp only [List.setIfInBounds_toArray]); (try simp only [List.set_cons_succ]); (try simp only [List.set_cons_zero])
  clear hK
  refine any_branch [7] (by kernel_rfl) rfl fun ix hix => ?_
  simp only [List.mem_cons, List.not_mem_nil, or_false] at hix
  subst hix
  refine any_op rfl rfl fun K hK => ?_
  go_simp
  refine (in_any n IH.out y _ base _ _ u1 BNy.out BPy.out ((BKy.out.fr hq1.low).sl) hq1.own hq1.sz (by have h0 := HL.out; have hx := BLx.out; have hy := BLy.out; have hz := BLz.out; (try simp only [Ex.par]); (try simp only [List.length_append]); (try simp only [List.length_cons]); (try simp only [List.length_nil]); omega) BLy.out).mono ?_
  rintro e u2 ⟨v2, rfl, ho2, hf2⟩
  have hq2 := hq1.next ho2 hf2
  refine hK _ _ (fun _ => ⟨_, _, hq2⟩) ?_
  (try simp only [Act.put]); (try simp only [List.getElem_toArray]); (try simp only [List.getElem_cons_succ]); (try simp only [List.getElem_cons_zero]); (try simp only [List.setIfInBounds_toArray]); (try simp only [List.set_cons_succ]); (try simp only [List.set_cons_zero])
  clear hK
  refine any_branch [8] (by kernel_rfl) rfl fun ix hix => ?_
  simp only [List.mem_cons, List.not_mem_nil, or_false] at hix
  subst hix
  refine any_op rfl rfl fun K hK => ?_
  go_simp
  refine hK _ _ (fun _ => ⟨_, _, hq2⟩) ?_
  (try simp only [Act.put]); (try simp only [List.getElem_toArray]); (try simp only [List.getElem_cons_succ]); (try simp only [List.getElem_cons_zero]); (try simp only [List.setIfInBounds_toArray]); (try simp only [List.set_cons_succ]); (try simp only [List.set_cons_zero])
  clear hK
  refine any_end (by kernel_rfl) ?_
  have HP := Bx.mk hq2
  have hsl := hq2.own.sl
  clear hq0 hq1 hq2 hf1 hf2 
  obtain ⟨pb, zb, yb, rfl⟩ := hsl
  obtain ⟨c0, c1, c2, c3, _, _, _, _⟩ := cells4 HP.out.e
  go_wp2_with fail
  refine region_any 100 (fun u => ∃ v' l', PQ base v w u #[.int .i64 9, .int .i64 a, .int .i64 vv, .slice (some ⟨b, o, none⟩) 3 cap] v' l') (by kernel_rfl) ?_
  generalize hu : World.drew _ = u0
  have hq0 := HP.out.step ((Below.refl _ _).drew)
  rw [hu] at hq0
  clear hu HP c0 c1 c2 c3
  refine any_take (i := 0) (.func (.func 53) #[] #[]) rfl rfl (by kernel_rfl) (by kernel_rfl) (by kernel_rfl) (by kernel_rfl) (fun _ _ d _ _ h => by cases d <;> exact h) (fun u hS => rfl) ⟨_, _, hq0⟩ ?_
  (try simp only [Act.put]); (try simp only [List.getElem_toArray]); (try simp only [List.getElem_cons_succ]); (try simp only [List.getElem_cons_zero]); (try simp only [List.setIfInBounds_toArray]); (try simp only [List.set_cons_succ]); (try simp only [List.set_cons_zero])
  refine any_take (i := 1) (.slice pb zb yb) rfl rfl (by kernel_rfl) (by kernel_rfl) (by kernel_rfl) (by kernel_rfl) (fun _ _ d _ _ h => by cases d <;> exact h) (fun u hS => rfl) ⟨_, _, hq0⟩ ?_
  (try simp only [Act.put]); (try simp only [List.getElem_toArray]); (try simp only [List.getElem_cons_succ]); (try simp only [List.getElem_cons_zero]); (try simp only [List.setIfInBounds_toArray]); (try simp only [List.set_cons_succ]); (try simp only [List.set_cons_zero])
  refine any_take (i := 3) (.pointer (some ⟨w.heap.size, 3, none⟩)) rfl rfl (by kernel_rfl) (by kernel_rfl) (by kernel_rfl) (by kernel_rfl) (fun _ _ d _ _ h => by cases d <;> exact h) (fun u hS => rfl) ⟨_, _, hq0⟩ ?_
  (try simp only [Act.put]); (try simp only [List.getElem_toArray]); (try simp only [List.getElem_cons_succ]); (try simp only [List.getElem_cons_zero]); (try simp only [List.setIfInBounds_toArray]); (try simp only [List.set_cons_succ]); (try simp only [List.set_cons_zero])
  refine any_take (i := 4) (.slice (some ⟨b, o, none⟩) 3 cap) rfl rfl (by kernel_rfl) (by kernel_rfl) (by kernel_rfl) (by kernel_rfl) (fun _ _ d _ _ h => by cases d <;> exact h) (fun u hS => by obtain ⟨v9, l9, q9⟩ := hS; exact exec_loadS rfl rfl (q9.e.cell 3)) ⟨_, _, hq0⟩ ?_
  (try simp only [Act.put]); (try simp only [List.getElem_toArray]); (try simp only [List.getElem_cons_succ]); (try simp only [List.getElem_cons_zero]); (try simp only [List.setIfInBounds_toArray]); (try simp only [List.set_cons_succ]); (try simp only [List.set_cons_zero])
  refine any_take (i := 5) (.pointer (some ⟨b, o + 8, none⟩)) rfl rfl (by kernel_rfl) (by kernel_rfl) (by kernel_rfl) (by kernel_rfl) (fun _ _ d _ _ h => by cases d <;> exact h) (fun u hS => exec_ix23 rfl rfl rfl) ⟨_, _, hq0⟩ ?_
  (try simp only [Act.put]); (try simp only [List.getElem_toArray]); (try simp only [List.getElem_cons_succ]); (try simp only [List.getElem_cons_zero]); (try simp only [List.setIfInBounds_toArray]); (try simp only [List.set_cons_succ]); (try simp only [List.set_cons_zero])
  refine any_take (i := 6) (Ev z sz) rfl rfl (by kernel_rfl) (by kernel_rfl) (by kernel_rfl) (by kernel_rfl) (fun _ _ d _ _ h => by cases d <;> exact h) (fun u hS => by obtain ⟨v9, l9, q9⟩ := hS; have kk := BKz.out.fr q9.low; exact exec_loadX rfl rfl kk.c0 kk.c1 kk.c2 kk.c3) ⟨_, _, hq0⟩ ?_
  (try simp only [Act.put]); (try simp only [List.getElem_toArray]); (try simp only [List.getElem_cons_succ]); (try simp only [List.getElem_cons_zero]); (try simp only [List.setIfInBounds_toArray]); (try simp only [List.set_cons_succ]); (try simp only [List.set_cons_zero])
  refine any_branch [2, 8] (by kernel_rfl) rfl fun ix hix => ?_
  simp only [List.mem_cons, List.not_mem_nil, or_false] at hix
  rcases hix with rfl | rfl
  · refine any_op rfl rfl fun K hK => ?_
    have hls1 : ({ data := #[44, 32] } : ByteArray).data.toList = [44, 32] := rfl
    obtain ⟨v1, u1, hr1, ho1, hf1⟩ := hq0.own.put_str { data := #[44, 32] } (by rw [size_lst, hls1]; exact (by have h0 := HL.out; have hx := BLx.out; have hy := BLy.out; have hz := BLz.out; (try simp only [Ex.par]); (try simp only [List.length_append]); (try simp only [List.length_cons]); (try simp only [List.length_nil]); omega)) hq0.sz 22
    rw [hls1] at ho1
    refine wp_app _ _ _ _ hr1 rfl rfl rfl ?_
    have hq1 := hq0.next ho1 hf1
    refine hK _ _ (fun _ => ⟨_, _, hq1⟩) ?_
    (try simp only [Act.put]); (try simp only [List.getElem_toArray]); (try simp only [List.getElem_cons_succ]); (try simp only [List.getElem_cons_zero]); (try simp only [List.setIfInBounds_toArray]); (try simp only [List.set_cons_succ]); (try simp only [List.set_cons_zero])
    clear hK
    refine any_branch [7, 8] (by kernel_rfl) rfl fun ix hix => ?_
    simp only [List.mem_cons, List.not_mem_nil, or_false] at hix
    rcases hix with rfl | rfl
    · refine any_op rfl rfl fun K hK => ?_
      go_simp
      refine (in_any n IH.out z _ base _ _ u1 BNz.out BPz.out ((BKz.out.fr hq1.low).sl) hq1.own hq1.sz (by have h0 := HL.out; have hx := BLx.out; have hy := BLy.out; have hz := BLz.out; (try simp only [Ex.par]); (try simp only [List.length_append]); (try simp only [List.length_cons]); (try simp only [List.length_nil]); omega) BLz.out).mono ?_
      rintro e u2 ⟨v2, rfl, ho2, hf2⟩
      have hq2 := hq1.next ho2 hf2
      refine hK _ _ (fun _ => ⟨_, _, hq2⟩) ?_
      (try simp only [Act.put]); (try simp only [List.getElem_toArray]); (try simp only [List.getElem_cons_succ]); (try simp only [List.getElem_cons_zero]); (try simp only [List.setIfInBounds_toArray]); (try simp only [List.set_cons_succ]); (try simp only [List.set_cons_zero])
      clear hK
      refine any_branch [8] (by kernel_rfl) rfl fun ix hix => ?_
      simp only [List.mem_cons, List.not_mem_nil, or_false] at hix
      subst hix
      refine any_op rfl rfl fun K hK => ?_
      go_simp
      have hN3 := Fl.new hq2.own 41
      have hf3 := Fr.below (v := v2) ((Below.refl u2.heap.size u2).alloc (Nat.le_refl _) (.cells #[.int .u8 41] 5))
      have hq3 := hq2.step ((Below.refl _ _).alloc (Nat.le_refl _) (.cells #[.int .u8 41] 5))
      change Fl (u2.alloc (.cells #[.int .u8 41] 5)) _ _ _ at hN3
      generalize u2.heap.size = pn3 at hN3 ⊢
      generalize u2.alloc (.cells #[.int .u8 41] 5) = u3 at hN3 hq3 hf3 ⊢
      refine hK _ _ (fun _ => ⟨_, _, hq3⟩) ?_
      (try simp only [Act.put]); (try simp only [List.getElem_toArray]); (try simp only [List.getElem_cons_succ]); (try simp only [List.getElem_cons_zero]); (try simp only [List.setIfInBounds_toArray]); (try simp only [List.set_cons_succ]); (try simp only [List.set_cons_zero])
      clear hK
      refine any_branch [9] (by kernel_rfl) rfl fun ix hix => ?_
      simp only [List.mem_cons, List.not_mem_nil, or_false] at hix
      subst hix
      refine any_op rfl rfl fun K hK => ?_
      obtain ⟨v4, u4, hr4, ho4, hf4⟩ := hq3.own.put_one pn3 1 41 (hN3.blk.cell 0) (by have h0 := HL.out; have hx := BLx.out; have hy := BLy.out; have hz := BLz.out; (try simp only [Ex.par]); (try simp only [List.length_append]); (try simp only [List.length_cons]); (try simp only [List.length_nil]); omega) hq3.sz 22
      refine wp_app _ _ _ _ hr4 rfl rfl rfl ?_
      have hq4 := hq3.next ho4 hf4
      refine hK _ _ (fun _ => ⟨_, _, hq4⟩) ?_
      (try simp only [Act.put]); (try simp only [List.getElem_toArray]); (try simp only [List.getElem_cons_succ]); (try simp only [List.getElem_cons_zero]); (try simp only [List.setIfInBounds_toArray]); (try simp only [List.set_cons_succ]); (try simp only [List.set_cons_zero])
      clear hK
      refine any_branch [10] (by kernel_rfl) rfl fun ix hix => ?_
      simp only [List.mem_cons, List.not_mem_nil, or_false] at hix
      subst hix
      refine any_op rfl rfl fun K hK => ?_
      go_simp
      refine hK _ _ (fun _ => ⟨_, _, hq4⟩) ?_
      (try simp only [Act.put]); (try simp only [List.getElem_toArray]); (try simp only [List.getElem_cons_succ]); (try simp only [List.getElem_cons_zero]); (try simp only [List.setIfInBounds_toArray]); (try simp only [List.set_cons_succ]); (try simp only [List.set_cons_zero])
      clear hK
      refine any_end (by kernel_rfl) ?_
      have HP := Bx.mk hq4
      have hsl := hq4.own.sl
      clear hq0 hq1 hq2 hq3 hq4 hf1 hf2 hf3 hf4 
      obtain ⟨pz, zz, yz, rfl⟩ := hsl
      obtain ⟨c0, c1, c2, c3, _, _, _, _⟩ := cells4 HP.out.e
      go_wp2_with fail
      go_ret
      refine ⟨.slice pz zz yz, rfl, ?_, HP.out.fr⟩
      have h5 := HP.out.own
      unfold Ex.prk
      simp only [List.append_assoc] at h5 ⊢
      simpa using h5
    · refine any_op rfl rfl fun K hK => ?_
      go_simp
      have hN2 := Fl.new hq1.own 41
      have hf2 := Fr.below (v := v1) ((Below.refl u1.heap.size u1).alloc (Nat.le_refl _) (.cells #[.int .u8 41] 5))
      have hq2 := hq1.step ((Below.refl _ _).alloc (Nat.le_refl _) (.cells #[.int .u8 41] 5))
      change Fl (u1.alloc (.cells #[.int .u8 41] 5)) _ _ _ at hN2
      generalize u1.heap.size = pn2 at hN2 ⊢
      generalize u1.alloc (.cells #[.int .u8 41] 5) = u2 at hN2 hq2 hf2 ⊢
      refine hK _ _ (fun _ => ⟨_, _, hq2⟩) ?_
      (try simp only [Act.put]); (try simp only [List.getElem_toArray]); (try simp only [List.getElem_cons_succ]); (try simp only [List.getElem_cons_zero]); (try simp only [List.setIfInBounds_toArray]); (try simp only [List.set_cons_succ]); (try simp only [List.set_cons_zero])
      clear hK
      refine any_branch [7] (by kernel_rfl) rfl fun ix hix => ?_
      simp only [List.mem_cons, List.not_mem_nil, or_false] at hix
      subst hix
      refine any_op rfl rfl fun K hK => ?_
      go_simp
      refine (in_any n IH.out z _ base _ _ u2 BNz.out BPz.out ((BKz.out.fr hq2.low).sl) hq2.own hq2.sz (by have h0 := HL.out; have hx := BLx.out; have hy := BLy.out; have hz := BLz.out; (try simp only [Ex.par]); (try simp only [List.length_append]); (try simp only [List.length_cons]); (try simp only [List.length_nil]); omega) BLz.out).mono ?_
      rintro e u3 ⟨v3, rfl, ho3, hf3⟩
      have hq3 := hq2.next ho3 hf3
      have hF8_3 := hN2.next hf3
      refine hK _ _ (fun _ => ⟨_, _, hq3⟩) ?_
      (try simp only [Act.put]); (try simp only [List.getElem_toArray]); (try simp only [List.getElem_cons_succ]); (try simp only [List.getElem_cons_zero]); (try simp only [List.setIfInBounds_toArray]); (try simp only [List.set_cons_succ]); (try simp only [List.set_cons_zero])
      clear hK
      refine any_branch [9] (by kernel_rfl) rfl fun ix hix => ?_
      simp only [List.mem_cons, List.not_mem_nil, or_false] at hix
      subst hix
      refine any_op rfl rfl fun K hK => ?_
      obtain ⟨v4, u4, hr4, ho4, hf4⟩ := hq3.own.put_one pn2 1 41 (hF8_3.blk.cell 0) (by have h0 := HL.out; have hx := BLx.out; have hy := BLy.out; have hz := BLz.out; (try simp only [Ex.par]); (try simp only [List.length_append]); (try simp only [List.length_cons]); (try simp only [List.length_nil]); omega) hq3.sz 22
      refine wp_app _ _ _ _ hr4 rfl rfl rfl ?_
      have hq4 := hq3.next ho4 hf4
      refine hK _ _ (fun _ => ⟨_, _, hq4⟩) ?_
      (try simp only [Act.put]); (try simp only [List.getElem_toArray]); (try simp only [List.getElem_cons_succ]); (try simp only [List.getElem_cons_zero]); (try simp only [List.setIfInBounds_toArray]); (try simp only [List.set_cons_succ]); (try simp only [List.set_cons_zero])
      clear hK
      refine any_branch [10] (by kernel_rfl) rfl fun ix hix => ?_
      simp only [List.mem_cons, List.not_mem_nil, or_false] at hix
      subst hix
      refine any_op rfl rfl fun K hK => ?_
      go_simp
      refine hK _ _ (fun _ => ⟨_, _, hq4⟩) ?_
      (try simp only [Act.put]); (try simp only [List.getElem_toArray]); (try simp only [List.getElem_cons_succ]); (try simp only [List.getElem_cons_zero]); (try simp only [List.setIfInBounds_toArray]); (try simp only [List.set_cons_succ]); (try simp only [List.set_cons_zero])
      clear hK
      refine any_end (by kernel_rfl) ?_
      have HP := Bx.mk hq4
      have hsl := hq4.own.sl
      clear hq0 hq1 hq2 hq3 hq4 hf1 hf2 hf3 hf4 
      obtain ⟨pz, zz, yz, rfl⟩ := hsl
      obtain ⟨c0, c1, c2, c3, _, _, _, _⟩ := cells4 HP.out.e
      go_wp2_with fail
      go_ret
      refine ⟨.slice pz zz yz, rfl, ?_, HP.out.fr⟩
      have h5 := HP.out.own
      unfold Ex.prk
      simp only [List.append_assoc] at h5 ⊢
      simpa using h5
  · refine any_op rfl rfl fun K hK => ?_
    go_simp
    have hN1 := Fl.new hq0.own 41
    have hf1 := Fr.below (v := (.slice pb zb yb)) ((Below.refl u0.heap.size u0).alloc (Nat.le_refl _) (.cells #[.int .u8 41] 5))
    have hq1 := hq0.step ((Below.refl _ _).alloc (Nat.le_refl _) (.cells #[.int .u8 41] 5))
    change Fl (u0.alloc (.cells #[.int .u8 41] 5)) _ _ _ at hN1
    generalize u0.heap.size = pn1 at hN1 ⊢
    generalize u0.alloc (.cells #[.int .u8 41] 5) = u1 at hN1 hq1 hf1 ⊢
    refine hK _ _ (fun _ => ⟨_, _, hq1⟩) ?_
    (try simp only [Act.put]); (try simp only [List.getElem_toArray]); (try simp only [List.getElem_cons_succ]); (try simp only [List.getElem_cons_zero]); (try simp only [List.setIfInBounds_toArray]); (try simp only [List.set_cons_succ]); (try simp only [List.set_cons_zero])
    clear hK
    refine any_branch [2] (by kernel_rfl) rfl fun ix hix => ?_
    simp only [List.mem_cons, List.not_mem_nil, or_false] at hix
    subst hix
    refine any_op rfl rfl fun K hK => ?_
    have hls2 : ({ data := #[44, 32] } : ByteArray).data.toList = [44, 32] := rfl
    obtain ⟨v2, u2, hr2, ho2, hf2⟩ := hq1.own.put_str { data := #[44, 32] } (by rw [size_lst, hls2]; exact (by have h0 := HL.out; have hx := BLx.out; have hy := BLy.out; have hz := BLz.out; (try simp only [Ex.par]); (try simp only [List.length_append]); (try simp only [List.length_cons]); (try simp only [List.length_nil]); omega)) hq1.sz 22
    rw [hls2] at ho2
    refine wp_app _ _ _ _ hr2 rfl rfl rfl ?_
    have hq2 := hq1.next ho2 hf2
    have hF8_2 := hN1.next hf2
    refine hK _ _ (fun _ => ⟨_, _, hq2⟩) ?_
    (try simp only [Act.put]); (try simp only [List.getElem_toArray]); (try simp only [List.getElem_cons_succ]); (try simp only [List.getElem_cons_zero]); (try simp only [List.setIfInBounds_toArray]); (try simp only [List.set_cons_succ]); (try simp only [List.set_cons_zero])
    clear hK
    refine any_branch [7] (by kernel_rfl) rfl fun ix hix => ?_
    simp only [List.mem_cons, List.not_mem_nil, or_false] at hix
    subst hix
    refine any_op rfl rfl fun K hK => ?_
    go_simp
    refine (in_any n IH.out z _ base _ _ u2 BNz.out BPz.out ((BKz.out.fr hq2.low).sl) hq2.own hq2.sz (by have h0 := HL.out; have hx := BLx.out; have hy := BLy.out; have hz := BLz.out; (try simp only [Ex.par]); (try simp only [List.length_append]); (try simp only [List.length_cons]); (try simp only [List.length_nil]); omega) BLz.out).mono ?_
    rintro e u3 ⟨v3, rfl, ho3, hf3⟩
    have hq3 := hq2.next ho3 hf3
    have hF8_3 := hF8_2.next hf3
    refine hK _ _ (fun _ => ⟨_, _, hq3⟩) ?_
    (try simp only [Act.put]); (try simp only [List.getElem_toArray]); (try simp only [List.getElem_cons_succ]); (try simp only [List.getElem_cons_zero]); (try simp only [List.setIfInBounds_toArray]); (try simp only [List.set_cons_succ]); (try simp only [List.set_cons_zero])
    clear hK
    refine any_branch [9] (by kernel_rfl) rfl fun ix hix => ?_
    simp only [List.mem_cons, List.not_mem_nil, or_false] at hix
    subst hix
    refine any_op rfl rfl fun K hK => ?_
    obtain ⟨v4, u4, hr4, ho4, hf4⟩ := hq3.own.put_one pn1 1 41 (hF8_3.blk.cell 0) (by have h0 := HL.out; have hx := BLx.out; have hy := BLy.out; have hz := BLz.out; (try simp only [Ex.par]); (try simp only [List.length_append]); (try simp only [List.length_cons]); (try simp only [List.length_nil]); omega) hq3.sz 22
    refine wp_app _ _ _ _ hr4 rfl rfl rfl ?_
    have hq4 := hq3.next ho4 hf4
    refine hK _ _ (fun _ => ⟨_, _, hq4⟩) ?_
    (try simp only [Act.put]); (try simp only [List.getElem_toArray]); (try simp only [List.getElem_cons_succ]); (try simp only [List.getElem_cons_zero]); (try simp only [List.setIfInBounds_toArray]); (try simp only [List.set_cons_succ]); (try simp only [List.set_cons_zero])
    clear hK
    refine any_branch [10] (by kernel_rfl) rfl fun ix hix => ?_
    simp only [List.mem_cons, List.not_mem_nil, or_false] at hix
    subst hix
    refine any_op rfl rfl fun K hK => ?_
    go_simp
    refine hK _ _ (fun _ => ⟨_, _, hq4⟩) ?_
    (try simp only [Act.put]); (try simp only [List.getElem_toArray]); (try simp only [List.getElem_cons_succ]); (try simp only [List.getElem_cons_zero]); (try simp only [List.setIfInBounds_toArray]); (try simp only [List.set_cons_succ]); (try simp only [List.set_cons_zero])
    clear hK
    refine any_end (by kernel_rfl) ?_
    have HP := Bx.mk hq4
    have hsl := hq4.own.sl
    clear hq0 hq1 hq2 hq3 hq4 hf1 hf2 hf3 hf4 
    obtain ⟨pz, zz, yz, rfl⟩ := hsl
    obtain ⟨c0, c1, c2, c3, _, _, _, _⟩ := cells4 HP.out.e
    go_wp2_with fail
    go_ret
    refine ⟨.slice pz zz yz, rfl, ?_, HP.out.fr⟩
    have h5 := HP.out.own
    unfold Ex.prk
    simp only [List.append_assoc] at h5 ⊢
    simpa using h5
set_option maxHeartbeats 8000000 in
theorem put_4 (n : Nat) (ih : Pw n) (k : Int) (hk : 4 ≤ k ∧ k ≤ 8) (a : Int) (vv : Int) (b o cap : Nat) (base : Nat) (v : Value) (l : List UInt8) (w : World) (x : Tr) (sx : Value) (Kx : KidB w base b o x sx) (Nx : (x.on .nil).nodes ≤ n) (Px : (x.on .nil).allPlain = true) (y : Tr) (sy : Value) (Ky : KidB w base b (o + 4) y sy) (Ny : (y.on .nil).nodes ≤ n) (Py : (y.on .nil).allPlain = true) (ho : OwnB w base v l) (hb : base ≤ w.heap.size) (hl : l.length + 32 * (1 + ((x.on .nil).nodes + (y.on .nil).nodes)) ≤ 500000) :
    Calls Try.prog 35 #[v, .agg #[.int .i64 k, .int .i64 a, .int .i64 vv, .slice (some ⟨b, o, none⟩) 2 cap]] w fun e w' => ∃ v', e = .returned v' ∧ OwnB w' base v' (l ++ Ex.prk k vv [Ex.pr x, Ex.pr y]) ∧ Fr v w v' w' := by
  have hP : PQ base v w (w.alloc (.cells #[.int .i64 k, .int .i64 a, .int .i64 vv, .slice (some ⟨b, o, none⟩) 2 cap] 36)) #[.int .i64 k, .int .i64 a, .int .i64 vv, .slice (some ⟨b, o, none⟩) 2 cap] v l := PQ.start ho hb
  obtain ⟨c0, c1, c2, c3, _, _, _, _⟩ := cells4 hP.e
  have HP := Bx.mk hP
  have IH := Bx.mk ih
  have HL := Bx.mk hl
  have BKx := Bx.mk Kx
  have BNx := Bx.mk Nx
  have BPx := Bx.mk Px
  have BLx := Bx.mk (pr_len x)
  have BKy := Bx.mk Ky
  have BNy := Bx.mk Ny
  have BPy := Bx.mk Py
  have BLy := Bx.mk (pr_len y)
  have q1 : (k == 1) = false := by rw [beq_eq_false_iff_ne]; omega
  have r1 : ¬ k = 1 := by omega
  have q2 : (k == 2) = false := by rw [beq_eq_false_iff_ne]; omega
  have r2 : ¬ k = 2 := by omega
  have q3 : (k == 3) = false := by rw [beq_eq_false_iff_ne]; omega
  have r3 : ¬ k = 3 := by omega
  have q10 : (k == 10) = false := by rw [beq_eq_false_iff_ne]; omega
  have r10 : ¬ k = 10 := by omega
  have q11 : (k == 11) = false := by rw [beq_eq_false_iff_ne]; omega
  have r11 : ¬ k = 11 := by omega
  have q9 : (k == 9) = false := by rw [beq_eq_false_iff_ne]; omega
  have r9 : ¬ k = 9 := by omega
  have HSG := Bx.mk (sgn_len k)
  have HK := Bx.mk (And.intro hk (And.intro r1 (And.intro r2 (And.intro r3 (And.intro r10 (And.intro r11 r9))))))
  clear hk
  clear hP ih ho hl Kx Nx Px Ky Ny Py
  go_enter Try.func35, Try.ntmps35
  go_wp2_with fail
  refine region_any 100 (fun u => ∃ v' l', PQ base v w u #[.int .i64 k, .int .i64 a, .int .i64 vv, .slice (some ⟨b, o, none⟩) 2 cap] v' l') (by kernel_rfl) ?_
  generalize hu : World.drew _ = u0
  have hq0 := HP.out.step ((Below.refl _ _).drew)
  rw [hu] at hq0
  clear hu HP c0 c1 c2 c3
  refine any_take (i := 0) (.func (.func 53) #[] #[]) rfl rfl (by kernel_rfl) (by kernel_rfl) (by kernel_rfl) (by kernel_rfl) (fun _ _ d _ _ h => by cases d <;> exact h) (fun u hS => rfl) ⟨_, _, hq0⟩ ?_
  (try simp only [Act.put]); (try simp only [List.getElem_toArray]); (try simp only [List.getElem_cons_succ]); (try simp only [List.getElem_cons_zero]); (try simp only [List.setIfInBounds_toArray]); (try simp only [List.set_cons_succ]); (try simp only [List.set_cons_zero])
  refine any_take (i := 1) (v) rfl rfl (by kernel_rfl) (by kernel_rfl) (by kernel_rfl) (by kernel_rfl) (fun _ _ d _ _ h => by cases d <;> exact h) (fun u hS => rfl) ⟨_, _, hq0⟩ ?_
  (try simp only [Act.put]); (try simp only [List.getElem_toArray]); (try simp only [List.getElem_cons_succ]); (try simp only [List.getElem_cons_zero]); (try simp only [List.setIfInBounds_toArray]); (try simp only [List.set_cons_succ]); (try simp only [List.set_cons_zero])
  refine any_take (i := 4) (.pointer (some ⟨w.heap.size, 3, none⟩)) rfl rfl (by kernel_rfl) (by kernel_rfl) (by kernel_rfl) (by kernel_rfl) (fun _ _ d _ _ h => by cases d <;> exact h) (fun u hS => rfl) ⟨_, _, hq0⟩ ?_
  (try simp only [Act.put]); (try simp only [List.getElem_toArray]); (try simp only [List.getElem_cons_succ]); (try simp only [List.getElem_cons_zero]); (try simp only [List.setIfInBounds_toArray]); (try simp only [List.set_cons_succ]); (try simp only [List.set_cons_zero])
  refine any_take (i := 5) (.slice (some ⟨b, o, none⟩) 2 cap) rfl rfl (by kernel_rfl) (by kernel_rfl) (by kernel_rfl) (by kernel_rfl) (fun _ _ d _ _ h => by cases d <;> exact h) (fun u hS => by obtain ⟨v9, l9, q9⟩ := hS; exact exec_loadS rfl rfl (q9.e.cell 3)) ⟨_, _, hq0⟩ ?_
  (try simp only [Act.put]); (try simp only [List.getElem_toArray]); (try simp only [List.getElem_cons_succ]); (try simp only [List.getElem_cons_zero]); (try simp only [List.setIfInBounds_toArray]); (try simp only [List.set_cons_succ]); (try simp only [List.set_cons_zero])
  refine any_take (i := 6) (.pointer (some ⟨b, o, none⟩)) rfl rfl (by kernel_rfl) (by kernel_rfl) (by kernel_rfl) (by kernel_rfl) (fun _ _ d _ _ h => by cases d <;> exact h) (fun u hS => exec_ix02 rfl rfl rfl) ⟨_, _, hq0⟩ ?_
  (try simp only [Act.put]); (try simp only [List.getElem_toArray]); (try simp only [List.getElem_cons_succ]); (try simp only [List.getElem_cons_zero]); (try simp only [List.setIfInBounds_toArray]); (try simp only [List.set_cons_succ]); (try simp only [List.set_cons_zero])
  refine any_take (i := 7) (Ev x sx) rfl rfl (by kernel_rfl) (by kernel_rfl) (by kernel_rfl) (by kernel_rfl) (fun _ _ d _ _ h => by cases d <;> exact h) (fun u hS => by obtain ⟨v9, l9, q9⟩ := hS; have kk := BKx.out.fr q9.low; exact exec_loadX rfl rfl kk.c0 kk.c1 kk.c2 kk.c3) ⟨_, _, hq0⟩ ?_
  (try simp only [Act.put]); (try simp only [List.getElem_toArray]); (try simp only [List.getElem_cons_succ]); (try simp only [List.getElem_cons_zero]); (try simp only [List.setIfInBounds_toArray]); (try simp only [List.set_cons_succ]); (try simp only [List.set_cons_zero])
  refine any_branch [2] (by kernel_rfl) rfl fun ix hix => ?_
  simp only [List.mem_cons, List.not_mem_nil, or_false] at hix
  subst hix
  refine any_op rfl rfl fun K hK => ?_
  go_simp
  have hN1 := Fl.new hq0.own 40
  have hf1 := Fr.below (v := v) ((Below.refl u0.heap.size u0).alloc (Nat.le_refl _) (.cells #[.int .u8 40] 5))
  have hq1 := hq0.step ((Below.refl _ _).alloc (Nat.le_refl _) (.cells #[.int .u8 40] 5))
  change Fl (u0.alloc (.cells #[.int .u8 40] 5)) _ _ _ at hN1
  generalize u0.heap.size = pn1 at hN1 ⊢
  generalize u0.alloc (.cells #[.int .u8 40] 5) = u1 at hN1 hq1 hf1 ⊢
  refine hK _ _ (fun _ => ⟨_, _, hq1⟩) ?_
  (try simp only [Act.put]); (try simp only [List.getElem_toArray]); (try simp only [List.getElem_cons_succ]); (try simp only [List.getElem_cons_zero]); (try simp only [List.setIfInBounds_toArray]); (try simp only [List.set_cons_succ]); (try simp only [List.set_cons_zero])
  clear hK
  refine any_branch [3] (by kernel_rfl) rfl fun ix hix => ?_
  simp only [List.mem_cons, List.not_mem_nil, or_false] at hix
  subst hix
  refine any_op rfl rfl fun K hK => ?_
  obtain ⟨v2, u2, hr2, ho2, hf2⟩ := hq1.own.put_one pn1 1 40 (hN1.blk.cell 0) (by have h0 := HL.out; have hx := BLx.out; have hy := BLy.out; have hsg := HSG.out; (try simp only [Ex.par]); (try simp only [List.length_append]); (try simp only [List.length_cons]); (try simp only [List.length_nil]); omega) hq1.sz 22
  refine wp_app _ _ _ _ hr2 rfl rfl rfl ?_
  have hq2 := hq1.next ho2 hf2
  refine hK _ _ (fun _ => ⟨_, _, hq2⟩) ?_
  (try simp only [Act.put]); (try simp only [List.getElem_toArray]); (try simp only [List.getElem_cons_succ]); (try simp only [List.getElem_cons_zero]); (try simp only [List.setIfInBounds_toArray]); (try simp only [List.set_cons_succ]); (try simp only [List.set_cons_zero])
  clear hK
  refine any_branch [8] (by kernel_rfl) rfl fun ix hix => ?_
  simp only [List.mem_cons, List.not_mem_nil, or_false] at hix
  subst hix
  refine any_op rfl rfl fun K hK => ?_
  go_simp
  refine (in_any n IH.out x _ base _ _ u2 BNx.out BPx.out ((BKx.out.fr hq2.low).sl) hq2.own hq2.sz (by have h0 := HL.out; have hx := BLx.out; have hy := BLy.out; have hsg := HSG.out; (try simp only [Ex.par]); (try simp only [List.length_append]); (try simp only [List.length_cons]); (try simp only [List.length_nil]); omega) BLx.out).mono ?_
  rintro e u3 ⟨v3, rfl, ho3, hf3⟩
  have hq3 := hq2.next ho3 hf3
  refine hK _ _ (fun _ => ⟨_, _, hq3⟩) ?_
  (try simp only [Act.put]); (try simp only [List.getElem_toArray]); (try simp only [List.getElem_cons_succ]); (try simp only [List.getElem_cons_zero]); (try simp only [List.setIfInBounds_toArray]); (try simp only [List.set_cons_succ]); (try simp only [List.set_cons_zero])
  clear hK
  refine any_branch [9] (by kernel_rfl) rfl fun ix hix => ?_
  simp only [List.mem_cons, List.not_mem_nil, or_false] at hix
  subst hix
  refine any_op rfl rfl fun K hK => ?_
  go_simp
  refine hK _ _ (fun _ => ⟨_, _, hq3⟩) ?_
  (try simp only [Act.put]); (try simp only [List.getElem_toArray]); (try simp only [List.getElem_cons_succ]); (try simp only [List.getElem_cons_zero]); (try simp only [List.setIfInBounds_toArray]); (try simp only [List.set_cons_succ]); (try simp only [List.set_cons_zero])
  clear hK
  refine any_end (by kernel_rfl) ?_
  have HP := Bx.mk hq3
  have hsl := hq3.own.sl
  clear hq0 hq1 hq2 hq3 hf1 hf2 hf3 
  obtain ⟨pa, za, ya, rfl⟩ := hsl
  obtain ⟨c0, c1, c2, c3, _, _, _, _⟩ := cells4 HP.out.e
  go_wp2_with fail
  refine region_any 100 (fun u => ∃ v' l', PQ base v w u #[.int .i64 k, .int .i64 a, .int .i64 vv, .slice (some ⟨b, o, none⟩) 2 cap] v' l') (by kernel_rfl) ?_
  generalize hu : World.drew _ = u0
  have hq0 := HP.out.step ((Below.refl _ _).drew)
  rw [hu] at hq0
  clear hu HP c0 c1 c2 c3
  refine any_take (i := 0) (.func (.func 53) #[] #[]) rfl rfl (by kernel_rfl) (by kernel_rfl) (by kernel_rfl) (by kernel_rfl) (fun _ _ d _ _ h => by cases d <;> exact h) (fun u hS => rfl) ⟨_, _, hq0⟩ ?_
  (try simp only [Act.put]); (try simp only [List.getElem_toArray]); (try simp only [List.getElem_cons_succ]); (try simp only [List.getElem_cons_zero]); (try simp only [List.setIfInBounds_toArray]); (try simp only [List.set_cons_succ]); (try simp only [List.set_cons_zero])
  refine any_take (i := 1) (.slice pa za ya) rfl rfl (by kernel_rfl) (by kernel_rfl) (by kernel_rfl) (by kernel_rfl) (fun _ _ d _ _ h => by cases d <;> exact h) (fun u hS => rfl) ⟨_, _, hq0⟩ ?_
  (try simp only [Act.put]); (try simp only [List.getElem_toArray]); (try simp only [List.getElem_cons_succ]); (try simp only [List.getElem_cons_zero]); (try simp only [List.setIfInBounds_toArray]); (try simp only [List.set_cons_succ]); (try simp only [List.set_cons_zero])
  refine any_take (i := 2) (.pointer (some ⟨w.heap.size, 0, none⟩)) rfl rfl (by kernel_rfl) (by kernel_rfl) (by kernel_rfl) (by kernel_rfl) (fun _ _ d _ _ h => by cases d <;> exact h) (fun u hS => rfl) ⟨_, _, hq0⟩ ?_
  (try simp only [Act.put]); (try simp only [List.getElem_toArray]); (try simp only [List.getElem_cons_succ]); (try simp only [List.getElem_cons_zero]); (try simp only [List.setIfInBounds_toArray]); (try simp only [List.set_cons_succ]); (try simp only [List.set_cons_zero])
  refine any_take (i := 3) (.int .i64 k) rfl rfl (by kernel_rfl) (by kernel_rfl) (by kernel_rfl) (by kernel_rfl) (fun _ _ d _ _ h => by cases d <;> exact h) (fun u hS => by obtain ⟨v9, l9, q9⟩ := hS; exact exec_loadI rfl rfl (q9.e.cell 0)) ⟨_, _, hq0⟩ ?_
  (try simp only [Act.put]); (try simp only [List.getElem_toArray]); (try simp only [List.getElem_cons_succ]); (try simp only [List.getElem_cons_zero]); (try simp only [List.setIfInBounds_toArray]); (try simp only [List.set_cons_succ]); (try simp only [List.set_cons_zero])
  refine any_take (i := 8) (.pointer (some ⟨w.heap.size, 3, none⟩)) rfl rfl (by kernel_rfl) (by kernel_rfl) (by kernel_rfl) (by kernel_rfl) (fun _ _ d _ _ h => by cases d <;> exact h) (fun u hS => rfl) ⟨_, _, hq0⟩ ?_
  (try simp only [Act.put]); (try simp only [List.getElem_toArray]); (try simp only [List.getElem_cons_succ]); (try simp only [List.getElem_cons_zero]); (try simp only [List.setIfInBounds_toArray]); (try simp only [List.set_cons_succ]); (try simp only [List.set_cons_zero])
  refine any_take (i := 9) (.slice (some ⟨b, o, none⟩) 2 cap) rfl rfl (by kernel_rfl) (by kernel_rfl) (by kernel_rfl) (by kernel_rfl) (fun _ _ d _ _ h => by cases d <;> exact h) (fun u hS => by obtain ⟨v9, l9, q9⟩ := hS; exact exec_loadS rfl rfl (q9.e.cell 3)) ⟨_, _, hq0⟩ ?_
  (try simp only [Act.put]); (try simp only [List.getElem_toArray]); (try simp only [List.getElem_cons_succ]); (try simp only [List.getElem_cons_zero]); (try simp only [List.setIfInBounds_toArray]); (try simp only [List.set_cons_succ]); (try simp only [List.set_cons_zero])
  refine any_take (i := 10) (.pointer (some ⟨b, o + 4, none⟩)) rfl rfl (by kernel_rfl) (by kernel_rfl) (by kernel_rfl) (by kernel_rfl) (fun _ _ d _ _ h => by cases d <;> exact h) (fun u hS => exec_ix12 rfl rfl rfl) ⟨_, _, hq0⟩ ?_
  (try simp only [Act.put]); (try simp only [List.getElem_toArray]); (try simp only [List.getElem_cons_succ]); (try simp only [List.getElem_cons_zero]); (try simp only [List.setIfInBounds_toArray]); (try simp only [List.set_cons_succ]); (try simp only [List.set_cons_zero])
  refine any_take (i := 11) (Ev y sy) rfl rfl (by kernel_rfl) (by kernel_rfl) (by kernel_rfl) (by kernel_rfl) (fun _ _ d _ _ h => by cases d <;> exact h) (fun u hS => by obtain ⟨v9, l9, q9⟩ := hS; have kk := BKy.out.fr q9.low; exact exec_loadX rfl rfl kk.c0 kk.c1 kk.c2 kk.c3) ⟨_, _, hq0⟩ ?_
  (try simp only [Act.put]); (try simp only [List.getElem_toArray]); (try simp only [List.getElem_cons_succ]); (try simp only [List.getElem_cons_zero]); (try simp only [List.setIfInBounds_toArray]); (try simp only [List.set_cons_succ]); (try simp only [List.set_cons_zero])
  refine any_branch [4, 13] (by kernel_rfl) rfl fun ix hix => ?_
  simp only [List.mem_cons, List.not_mem_nil, or_false] at hix
  rcases hix with rfl | rfl
  · refine any_op rfl rfl fun K hK => ?_
    go_simp
    refine (sign_any k HK.out.1 _).mono ?_
    rintro e u9 ⟨rfl, e9⟩
    obtain rfl : u0 = u9 := e9.symm
    refine hK _ _ (fun _ => ⟨_, _, hq0⟩) ?_
    (try simp only [Act.put]); (try simp only [List.getElem_toArray]); (try simp only [List.getElem_cons_succ]); (try simp only [List.getElem_cons_zero]); (try simp only [List.setIfInBounds_toArray]); (try simp only [List.set_cons_succ]); (try simp only [List.set_cons_zero])
    clear hK
    refine any_take (i := 5) (.string ({ data := #[32] } ++ ⟨(Ex.sgn k).toArray⟩)) rfl rfl (by kernel_rfl) (by kernel_rfl) (by kernel_rfl) (by kernel_rfl) (fun _ _ d _ _ h => by cases d <;> exact h) (fun u hS => exec_addS rfl rfl rfl (by have := HSG.out; simp only [ByteArray.size, List.size_toArray, List.length_cons, List.length_nil]; omega)) ⟨_, _, hq0⟩ ?_
    (try simp only [Act.put]); (try simp only [List.getElem_toArray]); (try simp only [List.getElem_cons_succ]); (try simp only [List.getElem_cons_zero]); (try simp only [List.setIfInBounds_toArray]); (try simp only [List.set_cons_succ]); (try simp only [List.set_cons_zero])
    refine any_take (i := 6) (.string (({ data := #[32] } ++ ⟨(Ex.sgn k).toArray⟩) ++ { data := #[32] })) rfl rfl (by kernel_rfl) (by kernel_rfl) (by kernel_rfl) (by kernel_rfl) (fun _ _ d _ _ h => by cases d <;> exact h) (fun u hS => exec_addS rfl rfl rfl (by have := HSG.out; rw [ByteArray.size_append]; simp only [ByteArray.size, List.size_toArray, List.length_cons, List.length_nil]; omega)) ⟨_, _, hq0⟩ ?_
    (try simp only [Act.put]); (try simp only [List.getElem_toArray]); (try simp only [List.getElem_cons_succ]); (try simp only [List.getElem_cons_zero]); (try simp only [List.setIfInBounds_toArray]); (try simp only [List.set_cons_succ]); (try simp only [List.set_cons_zero])
    refine any_branch [7, 13] (by kernel_rfl) rfl fun ix hix => ?_
    simp only [List.mem_cons, List.not_mem_nil, or_false] at hix
    rcases hix with rfl | rfl
    · refine any_op rfl rfl fun K hK => ?_
      have hls1 : ((({ data := #[32] } ++ ⟨(Ex.sgn k).toArray⟩) ++ { data := #[32] }) : ByteArray).data.toList = [32] ++ Ex.sgn k ++ [32] := by rw [lst3]
      obtain ⟨v1, u1, hr1, ho1, hf1⟩ := hq0.own.put_str (({ data := #[32] } ++ ⟨(Ex.sgn k).toArray⟩) ++ { data := #[32] }) (by rw [size_lst, hls1]; exact (by have h0 := HL.out; have hx := BLx.out; have hy := BLy.out; have hsg := HSG.out; (try simp only [Ex.par]); (try simp only [List.length_append]); (try simp only [List.length_cons]); (try simp only [List.length_nil]); omega)) hq0.sz 22
      rw [hls1] at ho1
      refine wp_app _ _ _ _ hr1 rfl rfl rfl ?_
      have hq1 := hq0.next ho1 hf1
      refine hK _ _ (fun _ => ⟨_, _, hq1⟩) ?_
      (try simp only [Act.put]); (try simp only [List.getElem_toArray]); (try simp only [List.getElem_cons_succ]); (try simp only [List.getElem_cons_zero]); (try simp only [List.setIfInBounds_toArray]); (try simp only [List.set_cons_succ]); (try simp only [List.set_cons_zero])
      clear hK
      refine any_branch [12, 13] (by kernel_rfl) rfl fun ix hix => ?_
      simp only [List.mem_cons, List.not_mem_nil, or_false] at hix
      rcases hix with rfl | rfl
      · refine any_op rfl rfl fun K hK => ?_
        go_simp
        refine (in_any n IH.out y _ base _ _ u1 BNy.out BPy.out ((BKy.out.fr hq1.low).sl) hq1.own hq1.sz (by have h0 := HL.out; have hx := BLx.out; have hy := BLy.out; have hsg := HSG.out; (try simp only [Ex.par]); (try simp only [List.length_append]); (try simp only [List.length_cons]); (try simp only [List.length_nil]); omega) BLy.out).mono ?_
        rintro e u2 ⟨v2, rfl, ho2, hf2⟩
        have hq2 := hq1.next ho2 hf2
        refine hK _ _ (fun _ => ⟨_, _, hq2⟩) ?_
        (try simp only [Act.put]); (try simp only [List.getElem_toArray]); (try simp only [List.getElem_cons_succ]); (try simp only [List.getElem_cons_zero]); (try simp only [List.setIfInBounds_toArray]); (try simp only [List.set_cons_succ]); (try simp only [List.set_cons_zero])
        clear hK
        refine any_branch [13] (by kernel_rfl) rfl fun ix hix => ?_
        simp only [List.mem_cons, List.not_mem_nil, or_false] at hix
        subst hix
        refine any_op rfl rfl fun K hK => ?_
        go_simp
        have hN3 := Fl.new hq2.own 41
        have hf3 := Fr.below (v := v2) ((Below.refl u2.heap.size u2).alloc (Nat.le_refl _) (.cells #[.int .u8 41] 5))
        have hq3 := hq2.step ((Below.refl _ _).alloc (Nat.le_refl _) (.cells #[.int .u8 41] 5))
        change Fl (u2.alloc (.cells #[.int .u8 41] 5)) _ _ _ at hN3
        generalize u2.heap.size = pn3 at hN3 ⊢
        generalize u2.alloc (.cells #[.int .u8 41] 5) = u3 at hN3 hq3 hf3 ⊢
        refine hK _ _ (fun _ => ⟨_, _, hq3⟩) ?_
        (try simp only [Act.put]); (try simp only [List.getElem_toArray]); (try simp only [List.getElem_cons_succ]); (try simp only [List.getElem_cons_zero]); (try simp only [List.setIfInBounds_toArray]); (try simp only [List.set_cons_succ]); (try simp only [List.set_cons_zero])
        clear hK
        refine any_branch [14] (by kernel_rfl) rfl fun ix hix => ?_
        simp only [List.mem_cons, List.not_mem_nil, or_false] at hix
        subst hix
        refine any_op rfl rfl fun K hK => ?_
        obtain ⟨v4, u4, hr4, ho4, hf4⟩ := hq3.own.put_one pn3 1 41 (hN3.blk.cell 0) (by have h0 := HL.out; have hx := BLx.out; have hy := BLy.out; have hsg := HSG.out; (try simp only [Ex.par]); (try simp only [List.length_append]); (try simp only [List.length_cons]); (try simp only [List.length_nil]); omega) hq3.sz 22
        refine wp_app _ _ _ _ hr4 rfl rfl rfl ?_
        have hq4 := hq3.next ho4 hf4
        refine hK _ _ (fun _ => ⟨_, _, hq4⟩) ?_
        (try simp only [Act.put]); (try simp only [List.getElem_toArray]); (try simp only [List.getElem_cons_succ]); (try simp only [List.getElem_cons_zero]); (try simp only [List.setIfInBounds_toArray]); (try simp only [List.set_cons_succ]); (try simp only [List.set_cons_zero])
        clear hK
        refine any_branch [15] (by kernel_rfl) rfl fun ix hix => ?_
        simp only [List.mem_cons, List.not_mem_nil, or_false] at hix
        subst hix
        refine any_op rfl rfl fun K hK => ?_
        go_simp
        refine hK _ _ (fun _ => ⟨_, _, hq4⟩) ?_
        (try simp only [Act.put]); (try simp only [List.getElem_toArray]); (try simp only [List.getElem_cons_succ]); (try simp only [List.getElem_cons_zero]); (try simp only [List.setIfInBounds_toArray]); (try simp only [List.set_cons_succ]); (try simp only [List.set_cons_zero])
        clear hK
        refine any_end (by kernel_rfl) ?_
        have HP := Bx.mk hq4
        have hsl := hq4.own.sl
        clear hq0 hq1 hq2 hq3 hq4 hf1 hf2 hf3 hf4 
        obtain ⟨pz, zz, yz, rfl⟩ := hsl
        obtain ⟨c0, c1, c2, c3, _, _, _, _⟩ := cells4 HP.out.e
        go_wp2_with fail
        go_ret
        refine ⟨.slice pz zz yz, rfl, ?_, HP.out.fr⟩
        have h5 := HP.out.own
        unfold Ex.prk
        simp only [if_neg HK.out.2.1, if_neg HK.out.2.2.1, if_neg HK.out.2.2.2.1, if_neg HK.out.2.2.2.2.1, if_neg HK.out.2.2.2.2.2.1, if_neg HK.out.2.2.2.2.2.2, List.append_assoc] at h5 ⊢
        simpa using h5
      · refine any_op rfl rfl fun K hK => ?_
        go_simp
        have hN2 := Fl.new hq1.own 41
        have hf2 := Fr.below (v := v1) ((Below.refl u1.heap.size u1).alloc (Nat.le_refl _) (.cells #[.int .u8 41] 5))
        have hq2 := hq1.step ((Below.refl _ _).alloc (Nat.le_refl _) (.cells #[.int .u8 41] 5))
        change Fl (u1.alloc (.cells #[.int .u8 41] 5)) _ _ _ at hN2
        generalize u1.heap.size = pn2 at hN2 ⊢
        generalize u1.alloc (.cells #[.int .u8 41] 5) = u2 at hN2 hq2 hf2 ⊢
        refine hK _ _ (fun _ => ⟨_, _, hq2⟩) ?_
        (try simp only [Act.put]); (try simp only [List.getElem_toArray]); (try simp only [List.getElem_cons_succ]); (try simp only [List.getElem_cons_zero]); (try simp only [List.setIfInBounds_toArray]); (try simp only [List.set_cons_succ]); (try simp only [List.set_cons_zero])
        clear hK
        refine any_branch [12] (by kernel_rfl) rfl fun ix hix => ?_
        simp only [List.mem_cons, List.not_mem_nil, or_false] at hix
        subst hix
        refine any_op rfl rfl fun K hK => ?_
        go_simp
        refine (in_any n IH.out y _ base _ _ u2 BNy.out BPy.out ((BKy.out.fr hq2.low).sl) hq2.own hq2.sz (by have h0 := HL.out; have hx := BLx.out; have hy := BLy.out; have hsg := HSG.out; (try simp only [Ex.par]); (try simp only [List.length_append]); (try simp only [List.length_cons]); (try simp only [List.length_nil]); omega) BLy.out).mono ?_
        rintro e u3 ⟨v3, rfl, ho3, hf3⟩
        have hq3 := hq2.next ho3 hf3
        have hF13_3 := hN2.next hf3
        refine hK _ _ (fun _ => ⟨_, _, hq3⟩) ?_
        (try simp only [Act.put]); (try simp only [List.getElem_toArray]); (try simp only [List.getElem_cons_succ]); (try simp only [List.getElem_cons_zero]); (try simp only [List.setIfInBounds_toArray]); (try simp only [List.set_cons_succ]); (try simp only [List.set_cons_zero])
        clear hK
        refine any_branch [14] (by kernel_rfl) rfl fun ix hix => ?_
        simp only [List.mem_cons, List.not_mem_nil, or_false] at hix
        subst hix
        refine any_op rfl rfl fun K hK => ?_
        obtain ⟨v4, u4, hr4, ho4, hf4⟩ := hq3.own.put_one pn2 1 41 (hF13_3.blk.cell 0) (by have h0 := HL.out; have hx := BLx.out; have hy := BLy.out; have hsg := HSG.out; (try simp only [Ex.par]); (try simp only [List.length_append]); (try simp only [List.length_cons]); (try simp only [List.length_nil]); omega) hq3.sz 22
        refine wp_app _ _ _ _ hr4 rfl rfl rfl ?_
        have hq4 := hq3.next ho4 hf4
        refine hK _ _ (fun _ => ⟨_, _, hq4⟩) ?_
        (try simp only [Act.put]); (try simp only [List.getElem_toArray]); (try simp only [List.getElem_cons_succ]); (try simp only [List.getElem_cons_zero]); (try simp only [List.setIfInBounds_toArray]); (try simp only [List.set_cons_succ]); (try simp only [List.set_cons_zero])
        clear hK
        refine any_branch [15] (by kernel_rfl) rfl fun ix hix => ?_
        simp only [List.mem_cons, List.not_mem_nil, or_false] at hix
        subst hix
        refine any_op rfl rfl fun K hK => ?_
        go_simp
        refine hK _ _ (fun _ => ⟨_, _, hq4⟩) ?_
        (try simp only [Act.put]); (try simp only [List.getElem_toArray]); (try simp only [List.getElem_cons_succ]); (try simp only [List.getElem_cons_zero]); (try simp only [List.setIfInBounds_toArray]); (try simp only [List.set_cons_succ]); (try simp only [List.set_cons_zero])
        clear hK
        refine any_end (by kernel_rfl) ?_
        have HP := Bx.mk hq4
        have hsl := hq4.own.sl
        clear hq0 hq1 hq2 hq3 hq4 hf1 hf2 hf3 hf4 
        obtain ⟨pz, zz, yz, rfl⟩ := hsl
        obtain ⟨c0, c1, c2, c3, _, _, _, _⟩ := cells4 HP.out.e
        go_wp2_with fail
        go_ret
        refine ⟨.slice pz zz yz, rfl, ?_, HP.out.fr⟩
        have h5 := HP.out.own
        unfold Ex.prk
        simp only [if_neg HK.out.2.1, if_neg HK.out.2.2.1, if_neg HK.out.2.2.2.1, if_neg HK.out.2.2.2.2.1, if_neg HK.out.2.2.2.2.2.1, if_neg HK.out.2.2.2.2.2.2, List.append_assoc] at h5 ⊢
        simpa using h5
    · refine any_op rfl rfl fun K hK => ?_
      go_simp
      have hN1 := Fl.new hq0.own 41
      have hf1 := Fr.below (v := (.slice pa za ya)) ((Below.refl u0.heap.size u0).alloc (Nat.le_refl _) (.cells #[.int .u8 41] 5))
      have hq1 := hq0.step ((Below.refl _ _).alloc (Nat.le_refl _) (.cells #[.int .u8 41] 5))
      change Fl (u0.alloc (.cells #[.int .u8 41] 5)) _ _ _ at hN1
      generalize u0.heap.size = pn1 at hN1 ⊢
      generalize u0.alloc (.cells #[.int .u8 41] 5) = u1 at hN1 hq1 hf1 ⊢
      refine hK _ _ (fun _ => ⟨_, _, hq1⟩) ?_
      (try simp only [Act.put]); (try simp only [List.getElem_toArray]); (try simp only [List.getElem_cons_succ]); (try simp only [List.getElem_cons_zero]); (try simp only [List.setIfInBounds_toArray]); (try simp only [List.set_cons_succ]); (try simp only [List.set_cons_zero])
      clear hK
      refine any_branch [7] (by kernel_rfl) rfl fun ix hix => ?_
      simp only [List.mem_cons, List.not_mem_nil, or_false] at hix
      subst hix
      refine any_op rfl rfl fun K hK => ?_
      have hls2 : ((({ data := #[32] } ++ ⟨(Ex.sgn k).toArray⟩) ++ { data := #[32] }) : ByteArray).data.toList = [32] ++ Ex.sgn k ++ [32] := by rw [lst3]
      obtain ⟨v2, u2, hr2, ho2, hf2⟩ := hq1.own.put_str (({ data := #[32] } ++ ⟨(Ex.sgn k).toArray⟩) ++ { data := #[32] }) (by rw [size_lst, hls2]; exact (by have h0 := HL.out; have hx := BLx.out; have hy := BLy.out; have hsg := HSG.out; (try simp only [Ex.par]); (try simp only [List.length_append]); (try simp only [List.length_cons]); (try simp only [List.length_nil]); omega)) hq1.sz 22
      rw [hls2] at ho2
      refine wp_app _ _ _ _ hr2 rfl rfl rfl ?_
      have hq2 := hq1.next ho2 hf2
      have hF13_2 := hN1.next hf2
      refine hK _ _ (fun _ => ⟨_, _, hq2⟩) ?_
      (try simp only [Act.put]); (try simp only [List.getElem_toArray]); (try simp only [List.getElem_cons_succ]); (try simp only [List.getElem_cons_zero]); (try simp only [List.setIfInBounds_toArray]); (try simp only [List.set_cons_succ]); (try simp only [List.set_cons_zero])
      clear hK
      refine any_branch [12] (by kernel_rfl) rfl fun ix hix => ?_
      simp only [List.mem_cons, List.not_mem_nil, or_false] at hix
      subst hix
      refine any_op rfl rfl fun K hK => ?_
      go_simp
      refine (in_any n IH.out y _ base _ _ u2 BNy.out BPy.out ((BKy.out.fr hq2.low).sl) hq2.own hq2.sz (by have h0 := HL.out; have hx := BLx.out; have hy := BLy.out; have hsg := HSG.out; (try simp only [Ex.par]); (try simp only [List.length_append]); (try simp only [List.length_cons]); (try simp only [List.length_nil]); omega) BLy.out).mono ?_
      rintro e u3 ⟨v3, rfl, ho3, hf3⟩
      have hq3 := hq2.next ho3 hf3
      have hF13_3 := hF13_2.next hf3
      refine hK _ _ (fun _ => ⟨_, _, hq3⟩) ?_
      (try simp only [Act.put]); (try simp only [List.getElem_toArray]); (try simp only [List.getElem_cons_succ]); (try simp only [List.getElem_cons_zero]); (try simp only [List.setIfInBounds_toArray]); (try simp only [List.set_cons_succ]); (try simp only [List.set_cons_zero])
      clear hK
      refine any_branch [14] (by kernel_rfl) rfl fun ix hix => ?_
      simp only [List.mem_cons, List.not_mem_nil, or_false] at hix
      subst hix
      refine any_op rfl rfl fun K hK => ?_
      obtain ⟨v4, u4, hr4, ho4, hf4⟩ := hq3.own.put_one pn1 1 41 (hF13_3.blk.cell 0) (by have h0 := HL.out; have hx := BLx.out; have hy := BLy.out; have hsg := HSG.out; (try simp only [Ex.par]); (try simp only [List.length_append]); (try simp only [List.length_cons]); (try simp only [List.length_nil]); omega) hq3.sz 22
      refine wp_app _ _ _ _ hr4 rfl rfl rfl ?_
      have hq4 := hq3.next ho4 hf4
      refine hK _ _ (fun _ => ⟨_, _, hq4⟩) ?_
      (try simp only [Act.put]); (try simp only [List.getElem_toArray]); (try simp only [List.getElem_cons_succ]); (try simp only [List.getElem_cons_zero]); (try simp only [List.setIfInBounds_toArray]); (try simp only [List.set_cons_succ]); (try simp only [List.set_cons_zero])
      clear hK
      refine any_branch [15] (by kernel_rfl) rfl fun ix hix => ?_
      simp only [List.mem_cons, List.not_mem_nil, or_false] at hix
      subst hix
      refine any_op rfl rfl fun K hK => ?_
      go_simp
      refine hK _ _ (fun _ => ⟨_, _, hq4⟩) ?_
      (try simp only [Act.put]); (try simp only [List.getElem_toArray]); (try simp only [List.getElem_cons_succ]); (try simp only [List.getElem_cons_zero]); (try simp only [List.setIfInBounds_toArray]); (try simp only [List.set_cons_succ]); (try simp only [List.set_cons_zero])
      clear hK
      refine any_end (by kernel_rfl) ?_
      have HP := Bx.mk hq4
      have hsl := hq4.own.sl
      clear hq0 hq1 hq2 hq3 hq4 hf1 hf2 hf3 hf4 
      obtain ⟨pz, zz, yz, rfl⟩ := hsl
      obtain ⟨c0, c1, c2, c3, _, _, _, _⟩ := cells4 HP.out.e
      go_wp2_with fail
      go_ret
      refine ⟨.slice pz zz yz, rfl, ?_, HP.out.fr⟩
      have h5 := HP.out.own
      unfold Ex.prk
      simp only [if_neg HK.out.2.1, if_neg HK.out.2.2.1, if_neg HK.out.2.2.2.1, if_neg HK.out.2.2.2.2.1, if_neg HK.out.2.2.2.2.2.1, if_neg HK.out.2.2.2.2.2.2, List.append_assoc] at h5 ⊢
      simpa using h5
  · refine any_op rfl rfl fun K hK => ?_
    go_simp
    have hN1 := Fl.new hq0.own 41
    have hf1 := Fr.below (v := (.slice pa za ya)) ((Below.refl u0.heap.size u0).alloc (Nat.le_refl _) (.cells #[.int .u8 41] 5))
    have hq1 := hq0.step ((Below.refl _ _).alloc (Nat.le_refl _) (.cells #[.int .u8 41] 5))
    change Fl (u0.alloc (.cells #[.int .u8 41] 5)) _ _ _ at hN1
    generalize u0.heap.size = pn1 at hN1 ⊢
    generalize u0.alloc (.cells #[.int .u8 41] 5) = u1 at hN1 hq1 hf1 ⊢
    refine hK _ _ (fun _ => ⟨_, _, hq1⟩) ?_
    (try simp only [Act.put]); (try simp only [List.getElem_toArray]); (try simp only [List.getElem_cons_succ]); (try simp only [List.getElem_cons_zero]); (try simp only [List.setIfInBounds_toArray]); (try simp only [List.set_cons_succ]); (try simp only [List.set_cons_zero])
    clear hK
    refine any_branch [4] (by kernel_rfl) rfl fun ix hix => ?_
    simp only [List.mem_cons, List.not_mem_nil, or_false] at hix
    subst hix
    refine any_op rfl rfl fun K hK => ?_
    go_simp
    refine (sign_any k HK.out.1 _).mono ?_
    rintro e u9 ⟨rfl, e9⟩
    obtain rfl : u1 = u9 := e9.symm
    refine hK _ _ (fun _ => ⟨_, _, hq1⟩) ?_
    (try simp only [Act.put]); (try simp only [List.getElem_toArray]); (try simp only [List.getElem_cons_succ]); (try simp only [List.getElem_cons_zero]); (try simp only [List.setIfInBounds_toArray]); (try simp only [List.set_cons_succ]); (try simp only [List.set_cons_zero])
    clear hK
    refine any_take (i := 5) (.string ({ data := #[32] } ++ ⟨(Ex.sgn k).toArray⟩)) rfl rfl (by kernel_rfl) (by kernel_rfl) (by kernel_rfl) (by kernel_rfl) (fun _ _ d _ _ h => by cases d <;> exact h) (fun u hS => exec_addS rfl rfl rfl (by have := HSG.out; simp only [ByteArray.size, List.size_toArray, List.length_cons, List.length_nil]; omega)) ⟨_, _, hq1⟩ ?_
    (try simp only [Act.put]); (try simp only [List.getElem_toArray]); (try simp only [List.getElem_cons_succ]); (try simp only [List.getElem_cons_zero]); (try simp only [List.setIfInBounds_toArray]); (try simp only [List.set_cons_succ]); (try simp only [List.set_cons_zero])
    refine any_take (i := 6) (.string (({ data := #[32] } ++ ⟨(Ex.sgn k).toArray⟩) ++ { data := #[32] })) rfl rfl (by kernel_rfl) (by kernel_rfl) (by kernel_rfl) (by kernel_rfl) (fun _ _ d _ _ h => by cases d <;> exact h) (fun u hS => exec_addS rfl rfl rfl (by have := HSG.out; rw [ByteArray.size_append]; simp only [ByteArray.size, List.size_toArray, List.length_cons, List.length_nil]; omega)) ⟨_, _, hq1⟩ ?_
    (try simp only [Act.put]); (try simp only [List.getElem_toArray]); (try simp only [List.getElem_cons_succ]); (try simp only [List.getElem_cons_zero]); (try simp only [List.setIfInBounds_toArray]); (try simp only [List.set_cons_succ]); (try simp only [List.set_cons_zero])
    refine any_branch [7] (by kernel_rfl) rfl fun ix hix => ?_
    simp only [List.mem_cons, List.not_mem_nil, or_false] at hix
    subst hix
    refine any_op rfl rfl fun K hK => ?_
    have hls2 : ((({ data := #[32] } ++ ⟨(Ex.sgn k).toArray⟩) ++ { data := #[32] }) : ByteArray).data.toList = [32] ++ Ex.sgn k ++ [32] := by rw [lst3]
    obtain ⟨v2, u2, hr2, ho2, hf2⟩ := hq1.own.put_str (({ data := #[32] } ++ ⟨(Ex.sgn k).toArray⟩) ++ { data := #[32] }) (by rw [size_lst, hls2]; exact (by have h0 := HL.out; have hx := BLx.out; have hy := BLy.out; have hsg := HSG.out; (try simp only [Ex.par]); (try simp only [List.length_append]); (try simp only [List.length_cons]); (try simp only [List.length_nil]); omega)) hq1.sz 22
    rw [hls2] at ho2
    refine wp_app _ _ _ _ hr2 rfl rfl rfl ?_
    have hq2 := hq1.next ho2 hf2
    have hF13_2 := hN1.next hf2
    refine hK _ _ (fun _ => ⟨_, _, hq2⟩) ?_
    (try simp only [Act.put]); (try simp only [List.getElem_toArray]); (try simp only [List.getElem_cons_succ]); (try simp only [List.getElem_cons_zero]); (try simp only [List.setIfInBounds_toArray]); (try simp only [List.set_cons_succ]); (try simp only [List.set_cons_zero])
    clear hK
    refine any_branch [12] (by kernel_rfl) rfl fun ix hix => ?_
    simp only [List.mem_cons, List.not_mem_nil, or_false] at hix
    subst hix
    refine any_op rfl rfl fun K hK => ?_
    go_simp
    refine (in_any n IH.out y _ base _ _ u2 BNy.out BPy.out ((BKy.out.fr hq2.low).sl) hq2.own hq2.sz (by have h0 := HL.out; have hx := BLx.out; have hy := BLy.out; have hsg := HSG.out; (try simp only [Ex.par]); (try simp only [List.length_append]); (try simp only [List.length_cons]); (try simp only [List.length_nil]); omega) BLy.out).mono ?_
    rintro e u3 ⟨v3, rfl, ho3, hf3⟩
    have hq3 := hq2.next ho3 hf3
    have hF13_3 := hF13_2.next hf3
    refine hK _ _ (fun _ => ⟨_, _, hq3⟩) ?_
    (try simp only [Act.put]); (try simp only [List.getElem_toArray]); (try simp only [List.getElem_cons_succ]); (try simp only [List.getElem_cons_zero]); (try simp only [List.setIfInBounds_toArray]); (try simp only [List.set_cons_succ]); (try simp only [List.set_cons_zero])
    clear hK
    refine any_branch [14] (by kernel_rfl) rfl fun ix hix => ?_
    simp only [List.mem_cons, List.not_mem_nil, or_false] at hix
    subst hix
    refine any_op rfl rfl fun K hK => ?_
    obtain ⟨v4, u4, hr4, ho4, hf4⟩ := hq3.own.put_one pn1 1 41 (hF13_3.blk.cell 0) (by have h0 := HL.out; have hx := BLx.out; have hy := BLy.out; have hsg := HSG.out; (try simp only [Ex.par]); (try simp only [List.length_append]); (try simp only [List.length_cons]); (try simp only [List.length_nil]); omega) hq3.sz 22
    refine wp_app _ _ _ _ hr4 rfl rfl rfl ?_
    have hq4 := hq3.next ho4 hf4
    refine hK _ _ (fun _ => ⟨_, _, hq4⟩) ?_
    (try simp only [Act.put]); (try simp only [List.getElem_toArray]); (try simp only [List.getElem_cons_succ]); (try simp only [List.getElem_cons_zero]); (try simp only [List.setIfInBounds_toArray]); (try simp only [List.set_cons_succ]); (try simp only [List.set_cons_zero])
    clear hK
    refine any_branch [15] (by kernel_rfl) rfl fun ix hix => ?_
    simp only [List.mem_cons, List.not_mem_nil, or_false] at hix
    subst hix
    refine any_op rfl rfl fun K hK => ?_
    go_simp
    refine hK _ _ (fun _ => ⟨_, _, hq4⟩) ?_
    (try simp only [Act.put]); (try simp only [List.getElem_toArray]); (try simp only [List.getElem_cons_succ]); (try simp only [List.getElem_cons_zero]); (try simp only [List.setIfInBounds_toArray]); (try simp only [List.set_cons_succ]); (try simp only [List.set_cons_zero])
    clear hK
    refine any_end (by kernel_rfl) ?_
    have HP := Bx.mk hq4
    have hsl := hq4.own.sl
    clear hq0 hq1 hq2 hq3 hq4 hf1 hf2 hf3 hf4 
    obtain ⟨pz, zz, yz, rfl⟩ := hsl
    obtain ⟨c0, c1, c2, c3, _, _, _, _⟩ := cells4 HP.out.e
    go_wp2_with fail
    go_ret
    refine ⟨.slice pz zz yz, rfl, ?_, HP.out.fr⟩
    have h5 := HP.out.own
    unfold Ex.prk
    simp only [if_neg HK.out.2.1, if_neg HK.out.2.2.1, if_neg HK.out.2.2.2.1, if_neg HK.out.2.2.2.2.1, if_neg HK.out.2.2.2.2.2.1, if_neg HK.out.2.2.2.2.2.2, List.append_assoc] at h5 ⊢
    simpa using h5
end Go.Proofs.Ytfgokhafiffbaaa

/-
  Formulas: put whole, Print.
-/
namespace Go.Proofs.Ytfgokhafiffbaaa
set_option linter.unusedVariables false
open Go.RowKit Go.Lib

theorem kidB_of {w : World} {base : Nat} {k a v : Int} {kk rest : Fo} {b o : Nat} (h : RdF w (fun g => g < base) (.cons k a v kk rest) b o) : ∃ sx, KidB w base b o ⟨k, a, v, kk⟩ sx ∧ RdF w (fun g => g < base) rest b (o + 4) := by
  obtain ⟨hb, h0, h1, h2, ⟨p, cap, b', o', h3, hp, hc, hk⟩, hr⟩ := h
  exact ⟨_, ⟨hb, h0, h1, h2, h3, ⟨p, cap, b', o', rfl, hp, hc, hk⟩⟩, hr⟩
theorem Fo.prs_on (t : Tr) (r : Fo) : (t.on r).prs = Ex.pr t :: r.prs := rfl
set_option maxHeartbeats 1000000 in
theorem Pw.succ (n : Nat) (ih : Pw n) : Pw (n + 1) := by
  intro t sl base v l u hn hp hs ho hb hl
  rw [Fo.nodes_on] at hn hl
  rw [Fo.allPlain_on, Bool.and_eq_true, Bool.and_eq_true] at hp
  obtain ⟨⟨hpl, hka⟩, _⟩ := hp
  obtain ⟨h1, h2, h3, h4, h5⟩ := plain_shape hpl
  obtain ⟨k, a, vv, kids⟩ := t
  simp only [] at h1 h2 h3 h4 h5 hn hka hs hl
  have hnil : (Fo.nil).nodes = 0 := rfl
  rw [hnil] at hn hl
  obtain ⟨p, cap, b, o, rfl, hpn, hcap, hr⟩ := hs
  unfold Ev Ex.pr
  simp only []
  have hc : k = 1 ∨ k = 2 ∨ k = 3 ∨ (4 ≤ k ∧ k ≤ 8) ∨ k = 9 ∨ k = 10 ∨ k = 11 := by omega
  have a0 : (k = 1 ∨ k = 2) → kids = .nil := fun h => Fo.len0 (by rw [h3, Ex.kids0 (by omega)])
  have hone : ∀ (x : Tr), kids = x.on .nil → ∃ sx, p = some ⟨b, o, none⟩ ∧ KidB u base b o x sx ∧ (x.on .nil).nodes ≤ n ∧ (x.on .nil).allPlain = true := fun x e => by
    subst e
    obtain ⟨sx, K, _⟩ := kidB_of hr
    rw [Fo.nodes_on] at hn
    refine ⟨sx, ?_, K, by rw [Fo.nodes_on]; omega, hka⟩
    rcases hpn with ⟨e, _⟩ | e
    · cases e
    · exact e
  have htwo : ∀ (x y : Tr), kids = x.on (y.on .nil) → ∃ sx sy, p = some ⟨b, o, none⟩ ∧ (KidB u base b o x sx ∧ (x.on .nil).nodes ≤ n ∧ (x.on .nil).allPlain = true) ∧ (KidB u base b (o + 4) y sy ∧ (y.on .nil).nodes ≤ n ∧ (y.on .nil).allPlain = true) := fun x y e => by
    subst e
    obtain ⟨sx, K, hr2⟩ := kidB_of hr
    obtain ⟨sy, K2, _⟩ := kidB_of hr2
    rw [Fo.nodes_on, Fo.nodes_on] at hn
    rw [Fo.allPlain_on, Bool.and_eq_true] at hka
    refine ⟨sx, sy, ?_, ⟨K, by rw [Fo.nodes_on]; omega, by rw [Fo.allPlain_on, hka.1]; rfl⟩, ⟨K2, by rw [Fo.nodes_on]; omega, hka.2⟩⟩
    rcases hpn with ⟨e, _⟩ | e
    · cases e
    · exact e
  have hthree : ∀ (x y z : Tr), kids = x.on (y.on (z.on .nil)) → ∃ sx sy sz, p = some ⟨b, o, none⟩ ∧ (KidB u base b o x sx ∧ (x.on .nil).nodes ≤ n ∧ (x.on .nil).allPlain = true) ∧ (KidB u base b (o + 4) y sy ∧ (y.on .nil).nodes ≤ n ∧ (y.on .nil).allPlain = true) ∧ (KidB u base b (o + 8) z sz ∧ (z.on .nil).nodes ≤ n ∧ (z.on .nil).allPlain = true) := fun x y z e => by
    subst e
    obtain ⟨sx, K, hr2⟩ := kidB_of hr
    obtain ⟨sy, K2, hr3⟩ := kidB_of hr2
    obtain ⟨sz, K3, _⟩ := kidB_of hr3
    rw [Fo.nodes_on, Fo.nodes_on, Fo.nodes_on] at hn
    rw [Fo.allPlain_on, Bool.and_eq_true, Fo.allPlain_on y, Bool.and_eq_true (Ex.plain y && y.kids.allPlain)] at hka
    refine ⟨sx, sy, sz, ?_, ⟨K, by rw [Fo.nodes_on]; omega, by rw [Fo.allPlain_on, hka.1]; rfl⟩, ⟨K2, by rw [Fo.nodes_on]; omega, by rw [Fo.allPlain_on, hka.2.1]; rfl⟩, ⟨K3, by rw [Fo.nodes_on]; omega, hka.2.2⟩⟩
    rcases hpn with ⟨e, _⟩ | e
    · cases e
    · exact e
  have k1 : (k = 3 ∨ k = 10 ∨ k = 11) → kids.len = 1 := fun h => by rw [h3, Ex.kids1 h]
  have k2 : (4 ≤ k ∧ k ≤ 8) → kids.len = 2 := fun h => by rw [h3, Ex.kids2 h]
  have k3 : k = 9 → kids.len = 3 := fun h => by rw [h3, Ex.kids3 h]
  have hv8 : (k = 1 ∨ k = 2 ∨ k = 10 ∨ k = 11) → ∃ m : Nat, vv = (m : Int) ∧ m < 8 := fun h => by
    have ht : Ex.top k ≤ 7 := by unfold Ex.top; repeat' split
                                 all_goals omega
    exact ⟨vv.toNat, by omega, by omega⟩
  rcases hc with rfl | rfl | rfl | hk | rfl | rfl | rfl
  · have e := a0 (.inl rfl); subst e
    obtain ⟨m, rfl, hm⟩ := hv8 (.inl rfl)
    exact put_1 n ih a m hm p cap base v l u ho hb (by rw [hnil] at hl; omega)
  · have e := a0 (.inr rfl); subst e
    obtain ⟨m, rfl, hm⟩ := hv8 (.inr (.inl rfl))
    exact put_2 n ih a m hm p cap base v l u ho hb (by rw [hnil] at hl; omega)
  · obtain ⟨x, e⟩ := Fo.len1 (k1 (by omega))
    obtain ⟨sx, rfl, K, hx, px⟩ := hone x e
    subst e
    rw [Fo.nodes_on, hnil] at hl
    exact put_3 n ih a vv b o cap base v l u x sx K hx px ho hb (by rw [Fo.nodes_on, hnil]; omega)
  · obtain ⟨x, y, e⟩ := Fo.len2 (k2 hk)
    obtain ⟨sx, sy, rfl, ⟨K, hx, px⟩, K2, hy, py⟩ := htwo x y e
    subst e
    rw [Fo.nodes_on, Fo.nodes_on, hnil] at hl
    exact put_4 n ih k hk a vv b o cap base v l u x sx K hx px y sy K2 hy py ho hb (by rw [Fo.nodes_on, Fo.nodes_on, hnil]; omega)
  · obtain ⟨x, y, z, e⟩ := Fo.len3 (k3 rfl)
    obtain ⟨sx, sy, sz, rfl, ⟨K, hx, px⟩, ⟨K2, hy, py⟩, K3, hz, pz⟩ := hthree x y z e
    subst e
    rw [Fo.nodes_on, Fo.nodes_on, Fo.nodes_on, hnil] at hl
    exact put_9 n ih a vv b o cap base v l u x sx K hx px y sy K2 hy py z sz K3 hz pz ho hb (by rw [Fo.nodes_on, Fo.nodes_on, Fo.nodes_on, hnil]; omega)
  · obtain ⟨x, e⟩ := Fo.len1 (k1 (by omega))
    obtain ⟨sx, rfl, K, hx, px⟩ := hone x e
    obtain ⟨m, rfl, hm⟩ := hv8 (.inr (.inr (.inl rfl)))
    subst e
    rw [Fo.nodes_on, hnil] at hl
    exact put_10 n ih a m hm b o cap base v l u x sx K hx px ho hb (by rw [Fo.nodes_on, hnil]; omega)
  · obtain ⟨x, e⟩ := Fo.len1 (k1 (by omega))
    obtain ⟨sx, rfl, K, hx, px⟩ := hone x e
    obtain ⟨m, rfl, hm⟩ := hv8 (.inr (.inr (.inr rfl)))
    subst e
    rw [Fo.nodes_on, hnil] at hl
    exact put_11 n ih a m hm b o cap base v l u x sx K hx px ho hb (by rw [Fo.nodes_on, hnil]; omega)
theorem Pw.all : ∀ n, Pw n
  | 0 => fun t sl base v l u h => by rw [Fo.nodes_on] at h; omega
  | n + 1 => Pw.succ n (Pw.all n)
/-- what a formula is printed as; nothing where it is none -/
def Ex.print (t : Tr) : List UInt8 := if Ex.is t then Ex.pr t else []
theorem Ex.pr_ne (t : Tr) : Ex.pr t ≠ [] := by
  unfold Ex.pr Ex.prk
  repeat' split
  all_goals simp
theorem Ex.is_nodes {t : Tr} (h : Ex.is t = true) : (t.on .nil).nodes ≤ 4000 ∧ (t.on .nil).allPlain = true := by
  unfold Ex.is at h
  rw [Bool.and_eq_true] at h
  exact ⟨of_decide_eq_true h.1, h.2⟩
set_option maxHeartbeats 4000000 in
theorem print_any (t : Tr) (sl : Value) (B : Nat → Prop) (w : World) (hs : SlF w B sl t.kids) :
    Calls Try.prog 16 #[Ev t sl] w fun e w' => e = .returned (.string ⟨(Ex.print t).toArray⟩) ∧ Below w.heap.size w w' := by
  obtain ⟨pp, cap, rfl⟩ := hs.is
  have hb := boxE w t.k t.a t.v (.slice pp t.kids.len cap)
  have hbe := (Below.refl w.heap.size w).alloc (Nat.le_refl _) (.cells #[.int .i64 t.k, .int .i64 t.a, .int .i64 t.v, .slice pp t.kids.len cap] 36)
  have hsA := (hs.mono' (B' := fun g => g < w.heap.size) fun g hg _ => hg).alloc (.cells #[.int .i64 t.k, .int .i64 t.a, .int .i64 t.v, .slice pp t.kids.len cap] 36)
  have HB := Bx.mk hb
  have HBE := Bx.mk hbe
  have HSA := Bx.mk hsA
  have hI := is_any t _ _ _ hsA
  unfold Ev at hI ⊢
  have HI := Bx.mk hI
  obtain ⟨c0, c1, c2, c3, _, _, _, _⟩ := cells4 hb
  clear hI hb hbe hsA hs
  unfold Ex.print
  cases hi : Ex.is t with
  | false =>
    rw [hi] at HI
    have HI := Bx.mk HI.out
    clear hi
    go_enter Try.func16, Try.ntmps16
    go_wp2_with fail
    refine HI.out.mono ?_
    rintro e w1 ⟨rfl, hb1⟩
    have HBE1 := Bx.mk (HBE.out.trans (hb1.mono HBE.out.size))
    clear hb1 c0 c1 c2 c3
    go_wp2_with fail
    go_ret
    exact ⟨rfl, HBE1.out⟩
  | true =>
    rw [hi] at HI
    have HX := Bx.mk (Ex.is_nodes hi)
    clear hi
    go_enter Try.func16, Try.ntmps16
    go_wp2_with fail
    refine HI.out.mono ?_
    rintro e w1 ⟨rfl, hb1⟩
    have hb2 := HB.out.below hb1 HB.out.lt
    have HBE1 := Bx.mk (HBE.out.trans (hb1.mono HBE.out.size))
    have hs1 := HSA.out.below hb1
    have HP := Bx.mk (Pw.all _ t _ w1.heap.size (.slice none 0 0) [] w1 (Nat.le_refl _) HX.out.2 (hs1.mono' (B' := fun g => g < w1.heap.size) fun g hg _ => hg) (OwnB.nil w1 _) (Nat.le_refl _) (by have := HX.out.1; simp only [List.length_nil]; omega))
    unfold Ev at HP
    obtain ⟨c0, c1, c2, c3, _, _, _, _⟩ := cells4 hb2
    clear hb1 hb2 hs1
    go_wp2_with fail
    refine HP.out.mono ?_
    rintro e w2 ⟨v, rfl, ho, hf⟩
    have hC := ho.str (by simpa using Ex.pr_ne t)
    have HB3 := Bx.mk (Fr.to_below HBE1.out hf (fun k hk => by cases hk) HBE1.out.size)
    rw [List.nil_append] at hC
    clear ho hf c0 c1 c2 c3
    go_wp2_with fail
    go_ret
    exact ⟨rfl, HB3.out⟩
end Go.Proofs.Ytfgokhafiffbaaa

/-
  Formulas, plain: what is printed is read back: the signs of a print, and the parser over them.
-/
namespace Go.Proofs.Ytfgokhafiffbaaa
set_option linter.unusedVariables false
open Go.RowKit

/-- what is the same has one print, one table, as many nodes -/
theorem Fo.same_all : ∀ (F G : Fo), Fo.same F G = true → F.prs = G.prs ∧ F.tabs = G.tabs ∧ F.nodes = G.nodes ∧ F.len = G.len ∧ F.allPlain = G.allPlain
  | .nil, .nil, _ => ⟨rfl, rfl, rfl, rfl, rfl⟩
  | .cons .., .nil, h => by simp [Fo.same] at h
  | .nil, .cons .., h => by simp [Fo.same] at h
  | .cons k a v kids rest, .cons k' a' v' kids' rest', h => by
    simp only [Fo.same, Bool.and_eq_true, decide_eq_true_eq] at h
    obtain ⟨⟨⟨rfl, rfl⟩, h2⟩, h3⟩ := h
    obtain ⟨a1, a2, a3, a4, a5⟩ := Fo.same_all kids kids' h2
    obtain ⟨b1, b2, b3, b4, b5⟩ := Fo.same_all rest rest' h3
    refine ⟨by simp only [Fo.prs, a1, b1], by simp only [Fo.tabs, a2, b2], by simp only [Fo.nodes, a3, b3], by simp only [Fo.len, b4], ?_⟩
    simp only [Fo.allPlain, a5, b5]
    unfold Ex.plain
    simp only [a4]
theorem Ex.same_all {s t : Tr} (h : Ex.same s t = true) : Ex.pr s = Ex.pr t ∧ Ex.table s = Ex.table t ∧ Ex.is s = Ex.is t := by
  have h' : Fo.same (s.on .nil) (t.on .nil) = true := by rw [Fo.same_on, h]; rfl
  obtain ⟨a1, a2, a3, a4, a5⟩ := Fo.same_all _ _ h'
  refine ⟨List.head_eq_of_cons_eq a1, List.head_eq_of_cons_eq a2, ?_⟩
  unfold Ex.is
  rw [a3, a5]

/-- the signs of a print -/
def Ex.tkop (k : Int) : Tok := if k = 4 then .and else if k = 5 then .or else if k = 6 then .xor else if k = 7 then .imp else .iff
def Ex.tpar (l : List Tok) : List Tok := [.lp] ++ l ++ [.rp]
def Ex.ptk (k v : Int) (l : List (List Tok)) : List Tok :=
  if k = 1 then [.var (Fin.ofNat 8 v.toNat)] else if k = 2 then [if v = 0 then .zero else .one] else if k = 3 then [.not] ++ Ex.tpar (l.getD 0 [])
  else if k = 10 then [.all, .var (Fin.ofNat 8 v.toNat)] ++ Ex.tpar (l.getD 0 []) else if k = 11 then [.any, .var (Fin.ofNat 8 v.toNat)] ++ Ex.tpar (l.getD 0 [])
  else if k = 9 then [.ite, .lp] ++ Ex.tpar (l.getD 0 []) ++ [.comma] ++ Ex.tpar (l.getD 1 []) ++ [.comma] ++ Ex.tpar (l.getD 2 []) ++ [.rp]
  else [.lp] ++ Ex.tpar (l.getD 0 []) ++ [Ex.tkop k] ++ Ex.tpar (l.getD 1 []) ++ [.rp]
def Fo.pts : Fo → List (List Tok)
  | .nil => []
  | .cons k _ v kids rest => Ex.ptk k v kids.pts :: rest.pts
def Ex.pt (t : Tr) : List Tok := Ex.ptk t.k t.v t.kids.pts

/-- the signs that stand between -/
def Tok.op : Tok → Bool
  | .and | .or | .xor | .imp | .iff => true
  | _ => false
/-- what comes next is none of these -/
def Stop (S : Tok → Bool) (R : List (Tok × Nat)) : Prop := ∀ x r, R = x :: r → S x.1 = false
theorem Stop.mono {S S' : Tok → Bool} {R : List (Tok × Nat)} (h : Stop S R) (hs : ∀ t, S' t = true → S t = true) : Stop S' R := fun x r e => by
  have := h x r e
  cases h2 : S' x.1 with
  | false => rfl
  | true => rw [hs _ h2] at this; cases this
/-- a reader reads signs as a formula, if nothing follows that it would go on with; or it is too deep -/
def Rb (p : St → Tr × St) (S : Tok → Bool) (ts : List Tok) (T : Tr) : Prop :=
  ∀ (st : St) (A R : List (Tok × Nat)), st.e = 0 → st.ts = A ++ R → A.map Prod.fst = ts → Stop S R → (p st).2.e = 231 ∨ ((p st).2.e = 0 ∧ (p st).2.ts = R ∧ Ex.same T (p st).1 = true)
theorem Rb.stop {p : St → Tr × St} {S S' : Tok → Bool} {ts : List Tok} {T : Tr} (h : Rb p S ts T) (hs : ∀ t, S t = true → S' t = true) : Rb p S' ts T := fun st A R h1 h2 h3 h4 => h st A R h1 h2 h3 (h4.mono hs)
theorem may_stop {S : Tok → Bool} {t : Tok} {st : St} {R : List (Tok × Nat)} (hS : S t = true) (h : Stop S R) (hR : st.ts = R) (ht : t ≠ .eof) : st.may t = false := by
  unfold St.may
  have : st.now ≠ t := by
    unfold St.now
    rw [hR]
    cases R with
    | nil => exact fun e => ht e.symm
    | cons x r => intro e; have := h x r rfl; rw [show x.1 = t from e, hS] at this; cases this
  rw [decide_eq_false this]
  simp
theorem may_at {t : Tok} {st : St} {x : Tok × Nat} {R : List (Tok × Nat)} (he : st.e = 0) (hR : st.ts = x :: R) (hx : x.1 = t) : st.may t = true := by
  unfold St.may St.now
  rw [hR, he]
  simp [hx]
theorem may_other {t : Tok} {st : St} {x : Tok × Nat} {R : List (Tok × Nat)} (hR : st.ts = x :: R) (hx : x.1 ≠ t) : st.may t = false := by
  unfold St.may St.now
  rw [hR]
  simp [hx]
theorem goes_ts {st : St} {x : Tok × Nat} {R : List (Tok × Nat)} (hR : st.ts = x :: R) : st.goes.ts = R ∧ st.goes.e = st.e := by
  unfold St.goes
  rw [hR]
  exact ⟨rfl, rfl⟩
/-- no more to go on with -/
theorem Rb.chain1 {p : St → Tr × St} {S : Tok → Bool} {ts : List Tok} {T : Tr} (t : Tok) (k : Int) (ht : t ≠ .eof) (h : Rb p S ts T) : Rb (Ex.chain t k p) (fun x => S x || decide (x = t)) ts T := by
  intro st A R h1 h2 h3 h4
  unfold Ex.chain
  rcases h st A R h1 h2 h3 (h4.mono fun x hx => by rw [hx]; rfl) with h5 | ⟨h5, h6, h7⟩
  · rw [Ex.chainF_no (may_no (by rw [h5]; decide) t)]
    exact .inl h5
  · rw [Ex.chainF_no (may_stop (S := fun x => S x || decide (x = t)) (by simp) h4 h6 ht)]
    exact .inr ⟨h5, h6, h7⟩
theorem same_two {k : Int} {a b : Nat} {v : Int} {X Y X' Y' : Tr} (hv : v = 0) (h1 : Ex.same X X' = true) (h2 : Ex.same Y Y' = true) : Ex.same ⟨k, a, v, X.on (Y.on .nil)⟩ (Ex.two k b X' Y') = true := by
  subst hv
  unfold Ex.two
  rw [show Ex.same ⟨k, (a : Int), 0, X.on (Y.on .nil)⟩ ⟨k, (b : Int), 0, X'.on (Y'.on .nil)⟩ = (decide (k = k) && decide ((0 : Int) = 0) && Fo.same (X.on (Y.on .nil)) (X'.on (Y'.on .nil))) from rfl, Fo.same_on, Fo.same_on, h1, h2]
  simp [Fo.same]
/-- two with a sign between -/
theorem Rb.chain2 {p : St → Tr × St} {S : Tok → Bool} {a b : List Tok} {X Y : Tr} {v : Int} {ai : Int} (t : Tok) (k : Int) (ht : t ≠ .eof) (hS : S t = false) (ha : Rb p S a X) (hb : Rb p S b Y) (hv : v = 0) :
    Rb (Ex.chain t k p) (fun x => S x || decide (x = t)) (a ++ [t] ++ b) ⟨k, ai, v, X.on (Y.on .nil)⟩ := by
  intro st A R h1 h2 h3 h4
  obtain ⟨A1, B, rfl, hA1, hB⟩ := List.map_eq_append_iff.1 h3
  obtain ⟨A2, C, rfl, hA2, hC⟩ := List.map_eq_append_iff.1 hA1
  obtain ⟨x, hx, hxt⟩ : ∃ x, C = [x] ∧ x.1 = t := by
    cases C with
    | nil => simp at hC
    | cons x r => cases r with
      | nil => exact ⟨x, rfl, by simpa using hC⟩
      | cons y r => simp at hC
  subst hx
  unfold Ex.chain
  rcases ha st A2 (x :: (B ++ R)) h1 (by rw [h2]; simp) hA2 (fun y r e => by cases e; rw [hxt]; exact hS) with h5 | ⟨h5, h6, h7⟩
  · rw [Ex.chainF_no (may_no (by rw [h5]; decide) t)]
    exact .inl h5
  · have hm : (p st).2.may t = true := may_at h5 h6 hxt
    obtain ⟨g1, g2⟩ := goes_ts h6
    rw [h6, List.length_cons, Ex.chainF, if_pos hm]
    rcases hb (p st).2.goes B R (by rw [g2]; exact h5) g1 hB (h4.mono fun x hx => by rw [hx]; rfl) with i5 | ⟨i5, i6, i7⟩
    · rw [Ex.chainF_no (may_no (by rw [i5]; decide) t)]
      exact .inl i5
    · rw [Ex.chainF_no (may_stop (S := fun x => S x || decide (x = t)) (by simp) h4 i6 ht)]
      refine .inr ⟨i5, i6, ?_⟩
      subst hv
      unfold Ex.two
      rw [show Ex.same ⟨k, ai, 0, X.on (Y.on .nil)⟩ ⟨k, ((p st).2.at_ : Int), 0, (p st).1.on ((p (p st).2.goes).1.on .nil)⟩ = (decide (k = k) && decide ((0 : Int) = 0) && Fo.same (X.on (Y.on .nil)) ((p st).1.on ((p (p st).2.goes).1.on .nil))) from rfl, Fo.same_on, Fo.same_on, h7, i7]
      simp [Fo.same]
theorem Rb.imp1 {p : St → Tr × St} {w : Option (St → Tr × St)} {S : Tok → Bool} {ts : List Tok} {T : Tr} (h : Rb p S ts T) : Rb (Ex.imp w p) (fun x => S x || decide (x = .imp)) ts T := by
  intro st A R h1 h2 h3 h4
  unfold Ex.imp
  rcases h st A R h1 h2 h3 (h4.mono fun x hx => by rw [hx]; rfl) with h5 | ⟨h5, h6, h7⟩
  · rw [may_no (by rw [h5]; decide), if_neg (by simp)]
    exact .inl h5
  · rw [may_stop (S := fun x => S x || decide (x = .imp)) (by simp) h4 h6 (by decide), if_neg (by simp)]
    exact .inr ⟨h5, h6, h7⟩
/-- one deeper -/
def RbO (w : Option (St → Tr × St)) (S : Tok → Bool) (ts : List Tok) (T : Tr) : Prop := match w with | none => True | some p => Rb p S ts T
theorem RbO.within {w : Option (St → Tr × St)} {S : Tok → Bool} {ts : List Tok} {T : Tr} (h : RbO w S ts T) : Rb (Ex.within w) S ts T := by
  intro st A R h1 h2 h3 h4
  cases w with
  | none =>
    left
    unfold Ex.within St.bad
    simp only [h1, if_true]
  | some p =>
    unfold Ex.within
    simp only [h1, if_true]
    exact h st A R h1 h2 h3 h4
theorem Rb.imp2 {p : St → Tr × St} {w : Option (St → Tr × St)} {S S' : Tok → Bool} {a b : List Tok} {X Y : Tr} {v ai : Int} (hS : S .imp = false) (ha : Rb p S a X) (hb : RbO w S' b Y) (hs : ∀ t, S t = true → S' t = true) (hv : v = 0) :
    Rb (Ex.imp w p) S' (a ++ [.imp] ++ b) ⟨7, ai, v, X.on (Y.on .nil)⟩ := by
  intro st A R h1 h2 h3 h4
  obtain ⟨A1, B, rfl, hA1, hB⟩ := List.map_eq_append_iff.1 h3
  obtain ⟨A2, C, rfl, hA2, hC⟩ := List.map_eq_append_iff.1 hA1
  obtain ⟨x, hx, hxt⟩ : ∃ x, C = [x] ∧ x.1 = Tok.imp := by
    cases C with
    | nil => simp at hC
    | cons x r => cases r with
      | nil => exact ⟨x, rfl, by simpa using hC⟩
      | cons y r => simp at hC
  subst hx
  unfold Ex.imp
  rcases ha st A2 (x :: (B ++ R)) h1 (by rw [h2]; simp) hA2 (fun y r e => by cases e; rw [hxt]; exact hS) with h5 | ⟨h5, h6, h7⟩
  · rw [may_no (by rw [h5]; decide), if_neg (by simp)]
    exact .inl h5
  · rw [may_at h5 h6 hxt, if_pos rfl]
    obtain ⟨g1, g2⟩ := goes_ts h6
    rcases hb.within (p st).2.goes B R (by rw [g2]; exact h5) g1 hB h4 with i5 | ⟨i5, i6, i7⟩
    · exact .inl i5
    · refine .inr ⟨i5, i6, ?_⟩
      subst hv
      unfold Ex.two
      rw [show Ex.same ⟨7, ai, 0, X.on (Y.on .nil)⟩ ⟨7, ((p st).2.at_ : Int), 0, (p st).1.on ((Ex.within w (p st).2.goes).1.on .nil)⟩ = (decide ((7 : Int) = 7) && decide ((0 : Int) = 0) && Fo.same (X.on (Y.on .nil)) ((p st).1.on ((Ex.within w (p st).2.goes).1.on .nil))) from rfl, Fo.same_on, Fo.same_on, h7, i7]
      simp [Fo.same]
/-- what stands at the depths below -/
def Ex.wu : Nat → Option (St → Tr × St) | 0 => none | n + 1 => some (Ex.lev n).un
def Ex.wi : Nat → Option (St → Tr × St) | 0 => none | n + 1 => some (Ex.lev n).imp
def Ex.wf : Nat → Option (St → Tr × St) | 0 => none | n + 1 => some (Ex.lev n).iff
theorem Ex.lev_un (n : Nat) : (Ex.lev n).un = Ex.un (Ex.wu n) (Ex.wf n) := by cases n <;> rfl
theorem Ex.lev_imp (n : Nat) : (Ex.lev n).imp = Ex.imp (Ex.wi n) (Ex.chain .or 5 (Ex.chain .xor 6 (Ex.chain .and 4 (Ex.lev n).un))) := by cases n <;> rfl
theorem Ex.lev_iff (n : Nat) : (Ex.lev n).iff = Ex.chain .iff 8 (Ex.lev n).imp := by cases n <;> rfl
def noS : Tok → Bool := fun _ => false
def opS : Tok → Bool := Tok.op
/-- un reads it, at each depth; iff reads it, at each depth -/
def UB (ts : List Tok) (T : Tr) : Prop := ∀ n, Rb (Ex.lev n).un noS ts T
def IB (ts : List Tok) (T : Tr) : Prop := ∀ n, Rb (Ex.lev n).iff opS ts T
theorem UB.or {ts : List Tok} {T : Tr} (h : UB ts T) (n : Nat) : Rb (Ex.chain .or 5 (Ex.chain .xor 6 (Ex.chain .and 4 (Ex.lev n).un))) (fun x => decide (x = .and) || decide (x = .xor) || decide (x = .or)) ts T :=
  ((((h n).chain1 .and 4 (by decide)).chain1 .xor 6 (by decide)).chain1 .or 5 (by decide)).stop (fun t ht => by simpa [noS] using ht)
theorem UB.imp {ts : List Tok} {T : Tr} (h : UB ts T) (n : Nat) : Rb (Ex.lev n).imp (fun x => decide (x = .and) || decide (x = .xor) || decide (x = .or) || decide (x = .imp)) ts T := by
  rw [Ex.lev_imp]; exact (h.or n).imp1
theorem UB.iff {ts : List Tok} {T : Tr} (h : UB ts T) : IB ts T := fun n => by
  rw [Ex.lev_iff]
  exact ((h.imp n).chain1 .iff 8 (by decide)).stop (fun t ht => by cases t <;> simp at ht <;> rfl)
/-- two formulas with a sign between -/
theorem IB.two {a b : List Tok} {X Y : Tr} {k ai v : Int} (hk : 4 ≤ k ∧ k ≤ 8) (ha : UB a X) (hb : UB b Y) (hv : v = 0) : IB (a ++ [Ex.tkop k] ++ b) ⟨k, ai, v, X.on (Y.on .nil)⟩ := fun n => by
  rw [Ex.lev_iff]
  have hc : k = 4 ∨ k = 5 ∨ k = 6 ∨ k = 7 ∨ k = 8 := by omega
  rcases hc with rfl | rfl | rfl | rfl | rfl
  · rw [Ex.lev_imp]
    exact ((((((Rb.chain2 .and 4 (by decide) rfl (ha n) (hb n) hv).chain1 .xor 6 (by decide)).chain1 .or 5 (by decide)).imp1).chain1 .iff 8 (by decide))).stop (fun t ht => by cases t <;> simp [noS] at ht <;> rfl)
  · rw [Ex.lev_imp]
    exact (((Rb.chain2 .or 5 (by decide) (by simp [noS]) (((ha n).chain1 .and 4 (by decide)).chain1 .xor 6 (by decide)) (((hb n).chain1 .and 4 (by decide)).chain1 .xor 6 (by decide)) hv).imp1).chain1 .iff 8 (by decide)).stop (fun t ht => by cases t <;> simp [noS] at ht <;> rfl)
  · rw [Ex.lev_imp]
    exact ((((Rb.chain2 .xor 6 (by decide) (by simp [noS]) ((ha n).chain1 .and 4 (by decide)) ((hb n).chain1 .and 4 (by decide)) hv).chain1 .or 5 (by decide)).imp1).chain1 .iff 8 (by decide)).stop (fun t ht => by cases t <;> simp [noS] at ht <;> rfl)
  · have hi : Rb (Ex.lev n).imp (fun x => decide (x = .and) || decide (x = .xor) || decide (x = .or) || decide (x = .imp)) (a ++ [Tok.imp] ++ b) ⟨7, ai, v, X.on (Y.on .nil)⟩ := by
      rw [Ex.lev_imp]
      refine Rb.imp2 (by simp) (ha.or n) ?_ (fun t ht => by simp at ht ⊢; simp [ht]) hv
      cases n with
      | zero => exact True.intro
      | succ n => exact hb.imp n
    exact (hi.chain1 .iff 8 (by decide)).stop (fun t ht => by cases t <;> simp at ht <;> rfl)
  · exact (Rb.chain2 .iff 8 (by decide) (by simp) (ha.imp n) (hb.imp n) hv).stop (fun t ht => by cases t <;> simp at ht <;> rfl)

theorem wf_rb {ts : List Tok} {T : Tr} (h : IB ts T) (n : Nat) : RbO (Ex.wf n) opS ts T := by
  cases n with
  | zero => exact True.intro
  | succ n => exact h n
theorem wu_rb {ts : List Tok} {T : Tr} (h : UB ts T) (n : Nat) : RbO (Ex.wu n) noS ts T := by
  cases n with
  | zero => exact True.intro
  | succ n => exact h n
theorem must_at {t : Tok} {st : St} {x : Tok × Nat} {R : List (Tok × Nat)} (he : st.e = 0) (hR : st.ts = x :: R) (hx : x.1 = t) : (st.must t).e = 0 ∧ (st.must t).ts = R := by
  unfold St.must
  rw [may_at he hR hx, if_pos rfl]
  obtain ⟨g1, g2⟩ := goes_ts hR
  exact ⟨by rw [g2]; exact he, g1⟩
/-- in brackets -/
theorem UB.par {ts : List Tok} {T : Tr} (h : IB ts T) : UB (Ex.tpar ts) T := fun n => by
  intro st A R h1 h2 h3 h4
  unfold Ex.tpar at h3
  obtain ⟨A1, B, rfl, hA1, hB⟩ := List.map_eq_append_iff.1 h3
  obtain ⟨C, A2, rfl, hC, hA2⟩ := List.map_eq_append_iff.1 hA1
  obtain ⟨x, rfl, hx⟩ : ∃ x, C = [x] ∧ x.1 = Tok.lp := by
    cases C with
    | nil => simp at hC
    | cons x r => cases r with
      | nil => exact ⟨x, rfl, by simpa using hC⟩
      | cons y r => simp at hC
  obtain ⟨y, rfl, hy⟩ : ∃ y, B = [y] ∧ y.1 = Tok.rp := by
    cases B with
    | nil => simp at hB
    | cons x r => cases r with
      | nil => exact ⟨x, rfl, by simpa using hB⟩
      | cons y r => simp at hB
  have h2' : st.ts = x :: (A2 ++ (y :: R)) := by rw [h2]; simp
  have hnow : st.now = .lp := by unfold St.now; rw [h2']; exact hx
  rw [Ex.lev_un]
  unfold Ex.un
  rw [if_neg (by simpa using h1), may_other h2' (by rw [hx]; decide), if_neg (by simp), may_other h2' (by rw [hx]; decide), if_neg (by simp), may_other h2' (by rw [hx]; decide), if_neg (by simp)]
  unfold Ex.prim
  rw [hnow]
  simp only []
  rw [may_at h1 h2' hx, if_pos rfl]
  obtain ⟨g1, g2⟩ := goes_ts h2'
  rcases (wf_rb h n).within st.goes A2 (y :: R) (by rw [g2]; exact h1) g1 hA2 (fun z r e => by cases e; rw [hy]; rfl) with i5 | ⟨i5, i6, i7⟩
  · left
    simp only []
    rw [must_keep (by rw [i5]; decide), i5]
  · right
    obtain ⟨m1, m2⟩ := must_at i5 i6 hy
    exact ⟨m1, m2, i7⟩
theorem UB.one_ {ts : List Tok} {T : Tr} {ai : Int} (h : UB ts T) {v : Int} (hv : v = 0) : UB ([.not] ++ ts) ⟨3, ai, v, T.on .nil⟩ := fun n => by
  intro st A R h1 h2 h3 h4
  obtain ⟨C, A2, rfl, hC, hA2⟩ := List.map_eq_append_iff.1 h3
  obtain ⟨x, rfl, hx⟩ : ∃ x, C = [x] ∧ x.1 = Tok.not := by
    cases C with
    | nil => simp at hC
    | cons x r => cases r with
      | nil => exact ⟨x, rfl, by simpa using hC⟩
      | cons y r => simp at hC
  have h2' : st.ts = x :: (A2 ++ R) := by rw [h2]; simp
  rw [Ex.lev_un]
  unfold Ex.un
  rw [if_neg (by simpa using h1), may_at h1 h2' hx, if_pos rfl]
  obtain ⟨g1, g2⟩ := goes_ts h2'
  rcases (wu_rb h n).within st.goes A2 R (by rw [g2]; exact h1) g1 hA2 h4 with i5 | ⟨i5, i6, i7⟩
  · exact .inl i5
  · refine .inr ⟨i5, i6, ?_⟩
    subst hv
    unfold Ex.one
    rw [show Ex.same ⟨3, ai, 0, T.on .nil⟩ ⟨3, (st.at_ : Int), 0, (Ex.within (Ex.wu n) st.goes).1.on .nil⟩ = (decide ((3 : Int) = 3) && decide ((0 : Int) = 0) && Fo.same (T.on .nil) ((Ex.within (Ex.wu n) st.goes).1.on .nil)) from rfl, Fo.same_on, i7]
    simp [Fo.same]
theorem UB.quant {ts : List Tok} {T : Tr} {ai k : Int} {q : Tok} (hq : (q = .all ∧ k = 10) ∨ (q = .any ∧ k = 11)) (m : Fin 8) (h : UB ts T) : UB ([q, .var m] ++ ts) ⟨k, ai, (m.val : Int), T.on .nil⟩ := fun n => by
  intro st A R h1 h2 h3 h4
  obtain ⟨C, A2, rfl, hC, hA2⟩ := List.map_eq_append_iff.1 h3
  obtain ⟨x, y, rfl, hx, hy⟩ : ∃ x y, C = [x, y] ∧ x.1 = q ∧ y.1 = Tok.var m := by
    cases C with
    | nil => simp at hC
    | cons x r => cases r with
      | nil => simp at hC
      | cons y r => cases r with
        | nil => exact ⟨x, y, rfl, by simpa using hC⟩
        | cons z r => simp at hC
  have h2' : st.ts = x :: (y :: (A2 ++ R)) := by rw [h2]; simp
  obtain ⟨g1, g2⟩ := goes_ts h2'
  have hnow : st.goes.now = .var m := by unfold St.now; rw [g1]; exact hy
  obtain ⟨j1, j2⟩ := goes_ts g1
  have hb : ∀ a : Nat, (Ex.bound (Ex.wu n) k a st.goes).2.e = 231 ∨ ((Ex.bound (Ex.wu n) k a st.goes).2.e = 0 ∧ (Ex.bound (Ex.wu n) k a st.goes).2.ts = R ∧ Ex.same ⟨k, ai, (m.val : Int), T.on .nil⟩ (Ex.bound (Ex.wu n) k a st.goes).1 = true) := by
    intro a
    unfold Ex.bound
    rw [hnow]
    simp only []
    rcases (wu_rb h n).within st.goes.goes A2 R (by rw [j2, g2]; exact h1) j1 hA2 h4 with i5 | ⟨i5, i6, i7⟩
    · exact .inl i5
    · refine .inr ⟨i5, i6, ?_⟩
      unfold Ex.one
      rw [show Ex.same ⟨k, ai, (m.val : Int), T.on .nil⟩ ⟨k, (a : Int), (m.val : Int), (Ex.within (Ex.wu n) st.goes.goes).1.on .nil⟩ = (decide (k = k) && decide ((m.val : Int) = (m.val : Int)) && Fo.same (T.on .nil) ((Ex.within (Ex.wu n) st.goes.goes).1.on .nil)) from rfl, Fo.same_on, i7]
      simp [Fo.same]
  rw [Ex.lev_un]
  unfold Ex.un
  rcases hq with ⟨rfl, rfl⟩ | ⟨rfl, rfl⟩
  · rw [if_neg (by simpa using h1), may_other h2' (by rw [hx]; decide), if_neg (by simp), may_at h1 h2' hx, if_pos rfl]
    exact hb _
  · rw [if_neg (by simpa using h1), may_other h2' (by rw [hx]; decide), if_neg (by simp), may_other h2' (by rw [hx]; decide), if_neg (by simp), may_at h1 h2' hx, if_pos rfl]
    exact hb _
theorem UB.leaf {k v ai : Int} {t : Tok} (h : (∃ m : Fin 8, t = .var m ∧ k = 1 ∧ v = (m.val : Int)) ∨ (t = .zero ∧ k = 2 ∧ v = 0) ∨ (t = .one ∧ k = 2 ∧ v = 1)) : UB [t] ⟨k, ai, v, .nil⟩ := fun n => by
  intro st A R h1 h2 h3 h4
  obtain ⟨x, rfl, hx⟩ : ∃ x, A = [x] ∧ x.1 = t := by
    cases A with
    | nil => simp at h3
    | cons x r => cases r with
      | nil => exact ⟨x, rfl, by simpa using h3⟩
      | cons y r => simp at h3
  have h2' : st.ts = x :: R := by rw [h2]; simp
  have hnow : st.now = t := by unfold St.now; rw [h2']; exact hx
  obtain ⟨g1, g2⟩ := goes_ts h2'
  rw [Ex.lev_un]
  unfold Ex.un
  have hn : ∀ u : Tok, (u = .not ∨ u = .all ∨ u = .any) → st.may u = false := fun u hu => may_other h2' (by rw [hx]; rcases h with ⟨m, rfl, _⟩ | ⟨rfl, _⟩ | ⟨rfl, _⟩ <;> rcases hu with rfl | rfl | rfl <;> simp)
  rw [if_neg (by simpa using h1), hn _ (.inl rfl), if_neg (by simp), hn _ (.inr (.inl rfl)), if_neg (by simp), hn _ (.inr (.inr rfl)), if_neg (by simp)]
  unfold Ex.prim
  rw [hnow]
  rcases h with ⟨m, rfl, rfl, rfl⟩ | ⟨rfl, rfl, rfl⟩ | ⟨rfl, rfl, rfl⟩
  · exact .inr ⟨by simp only []; rw [g2]; exact h1, g1, by simp [Ex.same, Fo.same]⟩
  · exact .inr ⟨by simp only []; rw [g2]; exact h1, g1, by simp [Ex.same, Fo.same]⟩
  · exact .inr ⟨by simp only []; rw [g2]; exact h1, g1, by simp [Ex.same, Fo.same]⟩
end Go.Proofs.Ytfgokhafiffbaaa

/-
  Formulas, plain: the signs of what is printed; a print is read back, or is too deep.
-/
namespace Go.Proofs.Ytfgokhafiffbaaa
set_option linter.unusedVariables false
open Go.RowKit

theorem one_of {t : Tok} {C : List (Tok × Nat)} (h : C.map Prod.fst = [t]) : ∃ x, C = [x] ∧ x.1 = t := by
  cases C with
  | nil => simp at h
  | cons x r => cases r with
    | nil => exact ⟨x, rfl, by simpa using h⟩
    | cons y r => simp at h
theorem must231 {st : St} (h : st.e = 231) (t : Tok) : (st.must t).e = 231 := by rw [must_keep (by rw [h]; decide), h]
theorem UB.ite {a b c : List Tok} {X Y Z : Tr} {ai v : Int} (ha : IB a X) (hb : IB b Y) (hc : IB c Z) (hv : v = 0) :
    UB ([.ite, .lp] ++ a ++ [.comma] ++ b ++ [.comma] ++ c ++ [.rp]) ⟨9, ai, v, X.on (Y.on (Z.on .nil))⟩ := fun n => by
  intro st A R h1 h2 h3 h4
  obtain ⟨A1, D4, rfl, h3, e4⟩ := List.map_eq_append_iff.1 h3
  obtain ⟨A1, C, rfl, h3, eC⟩ := List.map_eq_append_iff.1 h3
  obtain ⟨A1, D3, rfl, h3, e3⟩ := List.map_eq_append_iff.1 h3
  obtain ⟨A1, B, rfl, h3, eB⟩ := List.map_eq_append_iff.1 h3
  obtain ⟨A1, D2, rfl, h3, e2⟩ := List.map_eq_append_iff.1 h3
  obtain ⟨D1, A1, rfl, e1, eA⟩ := List.map_eq_append_iff.1 h3
  obtain ⟨x4, rfl, k4⟩ := one_of e4
  obtain ⟨x3, rfl, k3⟩ := one_of e3
  obtain ⟨x2, rfl, k2⟩ := one_of e2
  obtain ⟨x, y, rfl, hx, hy⟩ : ∃ x y, D1 = [x, y] ∧ x.1 = .ite ∧ y.1 = .lp := by
    cases D1 with
    | nil => simp at e1
    | cons x r => cases r with
      | nil => simp at e1
      | cons y r => cases r with
        | nil => exact ⟨x, y, rfl, by simpa using e1⟩
        | cons z r => simp at e1
  have h2' : st.ts = x :: (y :: (A1 ++ (x2 :: (B ++ (x3 :: (C ++ (x4 :: R))))))) := by rw [h2]; simp
  have hnow : st.now = .ite := by unfold St.now; rw [h2']; exact hx
  obtain ⟨g1, g2⟩ := goes_ts h2'
  have hm : st.may .ite = true := may_at h1 h2' hx
  rw [Ex.lev_un]
  unfold Ex.un
  rw [if_neg (by simpa using h1), may_other h2' (by rw [hx]; decide), if_neg (by simp), may_other h2' (by rw [hx]; decide), if_neg (by simp), may_other h2' (by rw [hx]; decide), if_neg (by simp)]
  unfold Ex.prim
  rw [hnow]
  simp only []
  rw [may_other h2' (by rw [hx]; decide), if_neg (by simp), hm, if_pos rfl]
  unfold Ex.ite
  simp only []
  have hw := fun {ts : List Tok} {T : Tr} (h : IB ts T) => (wf_rb h n).within
  have hk := (GdR.all n).iff
  have hkeep : ∀ (st : St), st.e = 231 → (Ex.within (Ex.wf n) st).2.e = 231 := fun st h => by
    have : Gd (Ex.within (Ex.wf n)) := GdO.within (by cases n with
      | zero => exact True.intro
      | succ n => exact (GdR.all n).iff)
    rw [this.keep st (by rw [h]; decide), h]
  have hst : ∀ (z : Tok × Nat) (Q : List (Tok × Nat)), (z.1 = .comma ∨ z.1 = .rp) → Stop opS (z :: Q) := fun z Q hz w r e => by
    cases e; rcases hz with hz | hz <;> rw [hz] <;> rfl
  obtain ⟨m1, m2⟩ := must_at (by rw [g2]; exact h1) g1 hy
  rcases hw ha _ A1 _ m1 m2 eA (hst x2 _ (.inl k2)) with i5 | ⟨i5, i6, i7⟩
  · left; exact must231 (hkeep _ (must231 (hkeep _ (must231 i5 _)) _)) _
  · obtain ⟨n1, n2⟩ := must_at i5 i6 k2
    rcases hw hb _ B _ n1 n2 eB (hst x3 _ (.inl k3)) with j5 | ⟨j5, j6, j7⟩
    · left; exact must231 (hkeep _ (must231 j5 _)) _
    · obtain ⟨o1, o2⟩ := must_at j5 j6 k3
      rcases hw hc _ C _ o1 o2 eC (hst x4 _ (.inr k4)) with l5 | ⟨l5, l6, l7⟩
      · left; exact must231 l5 _
      · obtain ⟨q1, q2⟩ := must_at l5 l6 k4
        refine .inr ⟨q1, q2, ?_⟩
        subst hv
        generalize Ex.within (Ex.wf n) (st.goes.must .lp) = r1 at *
        generalize Ex.within (Ex.wf n) (r1.2.must .comma) = r2 at *
        generalize Ex.within (Ex.wf n) (r2.2.must .comma) = r3 at *
        rw [show Ex.same ⟨9, ai, 0, X.on (Y.on (Z.on .nil))⟩ ⟨9, (st.at_ : Int), 0, r1.1.on (r2.1.on (r3.1.on .nil))⟩ = (decide ((9 : Int) = 9) && decide ((0 : Int) = 0) && Fo.same (X.on (Y.on (Z.on .nil))) (r1.1.on (r2.1.on (r3.1.on .nil)))) from rfl, Fo.same_on, Fo.same_on, Fo.same_on, i7, j7, l7]
        simp [Fo.same]
/-- the signs of each formula of a list are read back -/
def Fo.ub : Fo → Prop
  | .nil => True
  | .cons k a v kids rest => UB (Ex.pt ⟨k, a, v, kids⟩) ⟨k, a, v, kids⟩ ∧ rest.ub
theorem Fo.ub_on {x : Tr} {r : Fo} (h : (x.on r).ub) : UB (Ex.pt x) x ∧ r.ub := h
theorem UB.fo : ∀ F : Fo, F.allPlain = true → F.ub
  | .nil, _ => True.intro
  | .cons k a v kids rest, hp => by
    have hp' : ((⟨k, a, v, kids⟩ : Tr).on rest).allPlain = true := hp
    rw [Fo.allPlain_on, Bool.and_eq_true, Bool.and_eq_true] at hp'
    obtain ⟨⟨hpl, hka⟩, hre⟩ := hp'
    obtain ⟨h1, h2, h3, h4, h5⟩ := plain_shape hpl
    simp only [] at h1 h2 h3 h4 h5 hka
    refine ⟨?_, UB.fo rest hre⟩
    have hub := UB.fo kids hka
    have hv0 : ¬ (k = 1 ∨ k = 2 ∨ k = 10 ∨ k = 11) → v = 0 := fun h => by
      have ht : Ex.top k = 0 := by unfold Ex.top; rw [if_neg (by omega), if_neg (by omega)]
      omega
    have hv7 : (k = 1 ∨ k = 10 ∨ k = 11) → ∃ m : Fin 8, v = (m.val : Int) := fun h => by
      have ht : Ex.top k = 7 := by unfold Ex.top; rw [if_pos (by omega)]
      exact ⟨⟨v.toNat, by omega⟩, by simp; omega⟩
    have hfin : ∀ m : Fin 8, Fin.ofNat 8 ((m.val : Int)).toNat = m := fun m => by apply Fin.ext; simp
    unfold Ex.pt Ex.ptk
    simp only []
    have hc : k = 1 ∨ k = 2 ∨ k = 3 ∨ (4 ≤ k ∧ k ≤ 8) ∨ k = 9 ∨ k = 10 ∨ k = 11 := by omega
    rcases hc with rfl | rfl | rfl | hk | rfl | rfl | rfl
    · obtain ⟨m, rfl⟩ := hv7 (.inl rfl)
      have e := Fo.len0 (F := kids) (by rw [h3, Ex.kids0 (by omega)])
      subst e
      rw [if_pos rfl, hfin]
      exact UB.leaf (.inl ⟨m, rfl, rfl, rfl⟩)
    · have e := Fo.len0 (F := kids) (by rw [h3, Ex.kids0 (by omega)])
      subst e
      have ht : Ex.top 2 = 1 := by unfold Ex.top; rw [if_neg (by omega), if_pos rfl]
      rw [if_neg (by omega), if_pos rfl]
      by_cases hv : v = 0
      · rw [if_pos hv]; exact UB.leaf (.inr (.inl ⟨rfl, rfl, hv⟩))
      · rw [if_neg hv]; exact UB.leaf (.inr (.inr ⟨rfl, rfl, by omega⟩))
    · obtain ⟨x, e⟩ := Fo.len1 (F := kids) (by rw [h3, Ex.kids1 (by omega)])
      subst e
      have hx := (Fo.ub_on hub).1
      rw [if_neg (by omega), if_neg (by omega), if_pos rfl]
      exact UB.one_ (UB.par hx.iff) (hv0 (by omega))
    · obtain ⟨x, y, e⟩ := Fo.len2 (F := kids) (by rw [h3, Ex.kids2 hk])
      subst e
      have hx := (Fo.ub_on hub).1
      have hy := (Fo.ub_on (Fo.ub_on hub).2).1
      rw [if_neg (by omega), if_neg (by omega), if_neg (by omega), if_neg (by omega), if_neg (by omega), if_neg (by omega)]
      have := UB.par (IB.two (ai := a) hk (UB.par hx.iff) (UB.par hy.iff) (hv0 (by omega)))
      unfold Ex.tpar at this ⊢
      rw [show (x.on (y.on Fo.nil)).pts.getD 0 [] = Ex.pt x from rfl, show (x.on (y.on Fo.nil)).pts.getD 1 [] = Ex.pt y from rfl]
      simpa only [List.append_assoc] using this
    · obtain ⟨x, y, z, e⟩ := Fo.len3 (F := kids) (by rw [h3, Ex.kids3 rfl])
      subst e
      have hx := (Fo.ub_on hub).1
      have hy := (Fo.ub_on (Fo.ub_on hub).2).1
      have hz := (Fo.ub_on (Fo.ub_on (Fo.ub_on hub).2).2).1
      rw [if_neg (by omega), if_neg (by omega), if_neg (by omega), if_neg (by omega), if_neg (by omega), if_pos rfl]
      exact UB.ite (UB.par hx.iff).iff (UB.par hy.iff).iff (UB.par hz.iff).iff (hv0 (by omega))
    · obtain ⟨x, e⟩ := Fo.len1 (F := kids) (by rw [h3, Ex.kids1 (by omega)])
      obtain ⟨m, rfl⟩ := hv7 (.inr (.inl rfl))
      subst e
      have hx := (Fo.ub_on hub).1
      rw [if_neg (by omega), if_neg (by omega), if_neg (by omega), if_pos rfl, hfin]
      exact UB.quant (.inl ⟨rfl, rfl⟩) m (UB.par hx.iff)
    · obtain ⟨x, e⟩ := Fo.len1 (F := kids) (by rw [h3, Ex.kids1 (by omega)])
      obtain ⟨m, rfl⟩ := hv7 (.inr (.inr rfl))
      subst e
      have hx := (Fo.ub_on hub).1
      rw [if_neg (by omega), if_neg (by omega), if_neg (by omega), if_neg (by omega), if_pos rfl, hfin]
      exact UB.quant (.inr ⟨rfl, rfl⟩) m (UB.par hx.iff)
theorem UB.tr {t : Tr} (h : (t.on .nil).allPlain = true) : UB (Ex.pt t) t := (Fo.ub_on (UB.fo (t.on .nil) h)).1

/-- a text goes over into signs and a rest -/
def LexTo (l : List Nat) (ts : List Tok) (r : List Nat) : Prop := ∀ a, ∃ A a', Lx.lex l a = A ++ Lx.lex r a' ∧ A.map Prod.fst = ts
theorem LexTo.trans {l r q : List Nat} {ts us : List Tok} (h : LexTo l ts r) (k : LexTo r us q) : LexTo l (ts ++ us) q := fun a => by
  obtain ⟨A, b, h1, h2⟩ := h a
  obtain ⟨B, c, k1, k2⟩ := k b
  exact ⟨A ++ B, c, by rw [h1, k1, List.append_assoc], by rw [List.map_append, h2, k2]⟩
theorem lex_tok (t : Tok) (r : List Nat) (h1 : t ≠ .eof) (h2 : t ≠ .bad) (hs : Lx.scan (t.txt ++ r) = t) (hk : Lx.skip (t.txt ++ r) = 0) : LexTo (t.txt ++ r) [t] r := fun a => by
  refine ⟨[(t, a)], a + t.txt.length, ?_, rfl⟩
  rw [Lx.lex_eq, hk, List.drop_zero, hs, if_neg (fun h => by rcases h with h | h; exact h1 h; exact h2 h), List.drop_left]
  rfl
theorem lex_tok' (t : Tok) (l : List Nat) (r : List Nat) (ht : t.txt = l) (h1 : t ≠ .eof) (h2 : t ≠ .bad) (hs : Lx.scan (l ++ r) = t) (hk : Lx.skip (l ++ r) = 0) : LexTo (l ++ r) [t] r := by
  subst ht; exact lex_tok t r h1 h2 hs hk
theorem skip_no {c : Nat} (r : List Nat) (h : c ≠ 32 ∧ c ≠ 9 ∧ c ≠ 10) : Lx.skip (c :: r) = 0 := by
  rw [Lx.skip_cons]
  unfold Lx.blank
  simp [h.1, h.2.1, h.2.2]
theorem LexTo.blank (r : List Nat) : LexTo (32 :: r) [] r := fun a => by
  refine ⟨[], a + 1, ?_, rfl⟩
  have hb : Lx.blank 32 = true := by unfold Lx.blank; rfl
  have e : Lx.skip (32 :: r) = 1 + Lx.skip r := by rw [Lx.skip_cons, hb, if_pos rfl]
  rw [List.nil_append, Lx.lex_eq (32 :: r) a, Lx.lex_eq r (a + 1), e, Nat.add_comm 1, List.drop_succ_cons]
  have e2 : a + (Lx.skip r + 1) = a + 1 + Lx.skip r := by omega
  rw [e2]
theorem LexTo.lp (r : List Nat) : LexTo (40 :: r) [.lp] r := lex_tok' .lp [40] r (by unfold Tok.txt; rfl) (by decide) (by decide) (by unfold Lx.scan Lx.pre; simp) (skip_no r (by decide))
theorem LexTo.rp (r : List Nat) : LexTo (41 :: r) [.rp] r := lex_tok' .rp [41] r (by unfold Tok.txt; rfl) (by decide) (by decide) (by unfold Lx.scan Lx.pre; simp) (skip_no r (by decide))
theorem LexTo.comma (r : List Nat) : LexTo (44 :: r) [.comma] r := lex_tok' .comma [44] r (by unfold Tok.txt; rfl) (by decide) (by decide) (by unfold Lx.scan Lx.pre; simp) (skip_no r (by decide))
theorem LexTo.not (r : List Nat) : LexTo (33 :: r) [.not] r := lex_tok' .not [33] r (by unfold Tok.txt; rfl) (by decide) (by decide) (by unfold Lx.scan Lx.pre; simp) (skip_no r (by decide))
theorem LexTo.and (r : List Nat) : LexTo (38 :: r) [.and] r := lex_tok' .and [38] r (by unfold Tok.txt; rfl) (by decide) (by decide) (by unfold Lx.scan Lx.pre; simp) (skip_no r (by decide))
theorem LexTo.or (r : List Nat) : LexTo (124 :: r) [.or] r := lex_tok' .or [124] r (by unfold Tok.txt; rfl) (by decide) (by decide) (by unfold Lx.scan Lx.pre; simp) (skip_no r (by decide))
theorem LexTo.xor (r : List Nat) : LexTo (94 :: r) [.xor] r := lex_tok' .xor [94] r (by unfold Tok.txt; rfl) (by decide) (by decide) (by unfold Lx.scan Lx.pre; simp) (skip_no r (by decide))
theorem LexTo.imp (r : List Nat) : LexTo (45 :: 62 :: r) [.imp] r := lex_tok' .imp [45, 62] r (by unfold Tok.txt; rfl) (by decide) (by decide) (by unfold Lx.scan Lx.pre; simp) (skip_no (62 :: r) (by decide))
theorem LexTo.iff (r : List Nat) : LexTo (60 :: 45 :: 62 :: r) [.iff] r := lex_tok' .iff [60, 45, 62] r (by unfold Tok.txt; rfl) (by decide) (by decide) (by unfold Lx.scan Lx.pre; simp) (skip_no (45 :: 62 :: r) (by decide))
theorem LexTo.zero (r : List Nat) : LexTo (48 :: r) [.zero] r := lex_tok' .zero [48] r (by unfold Tok.txt; rfl) (by decide) (by decide) (by unfold Lx.scan Lx.pre; simp) (skip_no r (by decide))
theorem LexTo.one (r : List Nat) : LexTo (49 :: r) [.one] r := lex_tok' .one [49] r (by unfold Tok.txt; rfl) (by decide) (by decide) (by unfold Lx.scan Lx.pre; simp) (skip_no r (by decide))
/-- no letter, no digit comes next -/
def Brk (r : List Nat) : Prop := Lx.word r = 0
theorem Brk.cons {c : Nat} (r : List Nat) (h : c < 48) : Brk (c :: r) := by
  unfold Brk
  rw [Lx.word_cons, Ex.letter0 (by omega)]
  have : Ex.number c = false := by unfold Ex.number; simp; omega
  rw [this]
  rfl
theorem Brk.nil : Brk [] := Lx.word_nil
theorem word_al {c : Nat} (r : List Nat) (h : 97 ≤ c ∧ c ≤ 122) : Lx.word (c :: r) = 1 + Lx.word r := by rw [Lx.word_cons, Ex.letter1 (.inl h)]; rfl
theorem word_nu {c : Nat} (r : List Nat) (h : 48 ≤ c ∧ c ≤ 57) : Lx.word (c :: r) = 1 + Lx.word r := by
  have : Ex.number c = true := by unfold Ex.number; simp; omega
  rw [Lx.word_cons, this, Bool.or_true, if_pos rfl]
theorem LexTo.var (m : Fin 8) {r : List Nat} (h : Brk r) : LexTo (118 :: (48 + m.val) :: r) [.var m] r := by
  have ht : (Tok.var m).txt = [118, 48 + m.val] := by unfold Tok.txt; rfl
  have := lex_tok (.var m) r (by simp) (by simp) (by
    rw [ht]
    have hw : Lx.word ((48 + m.val) :: r) = 1 := by rw [word_nu _ (by have := m.isLt; omega), h]
    unfold Lx.scan Lx.pre
    simp only [List.cons_append, List.nil_append]
    rw [hw, Ex.letter1 (by omega)]
    simp
    unfold Lx.kw
    rw [Lx.vr_mk (by omega) (by have := m.isLt; omega)]
    simp) (by rw [ht]; exact skip_no _ (by decide))
  rw [ht] at this
  exact this
theorem LexTo.all (r : List Nat) : LexTo (97 :: 108 :: 108 :: 32 :: r) [.all] (32 :: r) := by
  have ht : (Tok.all).txt = [97, 108, 108] := by unfold Tok.txt; rfl
  have := lex_tok .all (32 :: r) (by simp) (by simp) (by
    rw [ht]
    have hw : Lx.word (108 :: 108 :: 32 :: r) = 2 := by rw [word_al _ (by omega), word_al _ (by omega), Brk.cons r (by omega)]
    unfold Lx.scan Lx.pre
    simp only [List.cons_append, List.nil_append]
    rw [hw, Ex.letter1 (by omega)]
    simp
    unfold Lx.kw
    simp) (by rw [ht]; exact skip_no _ (by decide))
  rw [ht] at this
  exact this
theorem LexTo.any (r : List Nat) : LexTo (97 :: 110 :: 121 :: 32 :: r) [.any] (32 :: r) := by
  have ht : (Tok.any).txt = [97, 110, 121] := by unfold Tok.txt; rfl
  have := lex_tok .any (32 :: r) (by simp) (by simp) (by
    rw [ht]
    have hw : Lx.word (110 :: 121 :: 32 :: r) = 2 := by rw [word_al _ (by omega), word_al _ (by omega), Brk.cons r (by omega)]
    unfold Lx.scan Lx.pre
    simp only [List.cons_append, List.nil_append]
    rw [hw, Ex.letter1 (by omega)]
    simp
    unfold Lx.kw
    simp) (by rw [ht]; exact skip_no _ (by decide))
  rw [ht] at this
  exact this
theorem LexTo.ite (r : List Nat) : LexTo (105 :: 116 :: 101 :: 40 :: r) [.ite, .lp] r := by
  have ht : (Tok.ite).txt = [105, 116, 101] := by unfold Tok.txt; rfl
  have := lex_tok .ite (40 :: r) (by simp) (by simp) (by
    rw [ht]
    have hw : Lx.word (116 :: 101 :: 40 :: r) = 2 := by rw [word_al _ (by omega), word_al _ (by omega), Brk.cons r (by omega)]
    unfold Lx.scan Lx.pre
    simp only [List.cons_append, List.nil_append]
    rw [hw, Ex.letter1 (by omega)]
    simp
    unfold Lx.kw
    simp) (by rw [ht]; exact skip_no _ (by decide))
  rw [ht] at this
  exact this.trans (LexTo.lp r)
end Go.Proofs.Ytfgokhafiffbaaa

/-
  Formulas, plain: a print's signs; a print is read back, or is too deep.
-/
namespace Go.Proofs.Ytfgokhafiffbaaa
set_option linter.unusedVariables false
open Go.RowKit

def nl (l : List UInt8) : List Nat := l.map UInt8.toNat
theorem nl_append (a b : List UInt8) : nl (a ++ b) = nl a ++ nl b := by unfold nl; simp
theorem nl_cons (a : UInt8) (b : List UInt8) : nl (a :: b) = a.toNat :: nl b := rfl
theorem nl_nil : nl [] = [] := rfl
theorem dig_nat {m : Nat} (h : m < 8) : (Ex.dig (m : Int)).toNat = 48 + m := by
  unfold Ex.dig
  rw [Int.toNat_natCast]
  simp [Nat.toUInt8, UInt8.toNat_ofNat']
  omega
/-- a piece that goes over into signs whatever follows that is no letter and no digit -/
def LexP (p : List UInt8) (ts : List Tok) : Prop := ∀ r, Brk r → LexTo (nl p ++ r) ts r
def LexA (p : List UInt8) (ts : List Tok) : Prop := ∀ r, LexTo (nl p ++ r) ts r
theorem LexA.app {p q : List UInt8} {ts us : List Tok} (h : LexA p ts) (k : LexA q us) : LexA (p ++ q) (ts ++ us) := fun r => by
  rw [nl_append, List.append_assoc]
  exact (h _).trans (k r)
theorem LexA.p {p : List UInt8} {ts : List Tok} (h : LexA p ts) : LexP p ts := fun r _ => h r
theorem LexA.lp : LexA [40] [.lp] := fun r => LexTo.lp r
theorem LexA.rp : LexA [41] [.rp] := fun r => LexTo.rp r
theorem LexA.comma : LexA [44, 32] [.comma] := fun r => (LexTo.comma (32 :: r)).trans (LexTo.blank r)
theorem LexA.not : LexA [33] [.not] := fun r => LexTo.not r
theorem LexA.ite : LexA [105, 116, 101, 40] [.ite, .lp] := fun r => LexTo.ite r
theorem LexA.bl : LexA [32] [] := fun r => LexTo.blank r
theorem LexP.par {p : List UInt8} {ts : List Tok} (h : LexP p ts) : LexA (Ex.par p) (Ex.tpar ts) := fun r => by
  unfold Ex.par Ex.tpar
  rw [nl_append, nl_append, List.append_assoc, List.append_assoc, List.append_assoc]
  exact (LexTo.lp _).trans ((h _ (Brk.cons r (by decide))).trans (LexTo.rp r))
theorem LexA.sgn {k : Int} (hk : 4 ≤ k ∧ k ≤ 8) : LexA (Ex.sgn k) [Ex.tkop k] := fun r => by
  have hc : k = 4 ∨ k = 5 ∨ k = 6 ∨ k = 7 ∨ k = 8 := by omega
  rcases hc with rfl | rfl | rfl | rfl | rfl
  · exact LexTo.and r
  · exact LexTo.or r
  · exact LexTo.xor r
  · exact LexTo.imp r
  · exact LexTo.iff r
def Fo.lx : Fo → Prop
  | .nil => True
  | .cons k a v kids rest => LexP (Ex.pr ⟨k, a, v, kids⟩) (Ex.pt ⟨k, a, v, kids⟩) ∧ rest.lx
theorem Fo.lx_on {x : Tr} {r : Fo} (h : (x.on r).lx) : LexP (Ex.pr x) (Ex.pt x) ∧ r.lx := h
theorem Fo.lx_all : ∀ F : Fo, F.allPlain = true → F.lx
  | .nil, _ => True.intro
  | .cons k a v kids rest, hp => by
    have hp' : ((⟨k, a, v, kids⟩ : Tr).on rest).allPlain = true := hp
    rw [Fo.allPlain_on, Bool.and_eq_true, Bool.and_eq_true] at hp'
    obtain ⟨⟨hpl, hka⟩, hre⟩ := hp'
    obtain ⟨h1, h2, h3, h4, h5⟩ := plain_shape hpl
    simp only [] at h1 h2 h3 h4 h5 hka
    refine ⟨?_, Fo.lx_all rest hre⟩
    have hub := Fo.lx_all kids hka
    have hv7 : (k = 1 ∨ k = 10 ∨ k = 11) → ∃ m : Fin 8, v = (m.val : Int) := fun h => by
      have ht : Ex.top k = 7 := by unfold Ex.top; rw [if_pos (by omega)]
      exact ⟨⟨v.toNat, by omega⟩, by simp; omega⟩
    have hfin : ∀ m : Fin 8, Fin.ofNat 8 ((m.val : Int)).toNat = m := fun m => by apply Fin.ext; simp
    unfold Ex.pr Ex.pt Ex.prk Ex.ptk
    simp only []
    have hc : k = 1 ∨ k = 2 ∨ k = 3 ∨ (4 ≤ k ∧ k ≤ 8) ∨ k = 9 ∨ k = 10 ∨ k = 11 := by omega
    rcases hc with rfl | rfl | rfl | hk | rfl | rfl | rfl
    · obtain ⟨m, rfl⟩ := hv7 (.inl rfl)
      simp only [Int.reduceEq, reduceIte]
      rw [hfin]
      intro r hr
      have := LexTo.var m hr
      rw [← dig_nat m.isLt] at this
      exact this
    · have ht : Ex.top 2 = 1 := by unfold Ex.top; rw [if_neg (by omega), if_pos rfl]
      simp only [Int.reduceEq, reduceIte]
      intro r hr
      by_cases hv : v = 0
      · subst hv
        exact LexTo.zero r
      · obtain rfl : v = 1 := by omega
        exact LexTo.one r
    · obtain ⟨x, e⟩ := Fo.len1 (F := kids) (by rw [h3, Ex.kids1 (by omega)])
      subst e
      have hx := (Fo.lx_on hub).1
      simp only [Int.reduceEq, reduceIte]
      exact (LexA.not.app hx.par).p
    · obtain ⟨x, y, e⟩ := Fo.len2 (F := kids) (by rw [h3, Ex.kids2 hk])
      subst e
      have hx := (Fo.lx_on hub).1
      have hy := (Fo.lx_on (Fo.lx_on hub).2).1
      simp only [show ¬ k = 1 by omega, show ¬ k = 2 by omega, show ¬ k = 3 by omega, show ¬ k = 10 by omega, show ¬ k = 11 by omega, show ¬ k = 9 by omega, if_false]
      have := ((((LexA.lp.app hx.par).app ((LexA.bl.app (LexA.sgn hk)).app LexA.bl)).app hy.par).app LexA.rp).p
      rw [show (x.on (y.on Fo.nil)).prs.getD 0 [] = Ex.pr x from rfl, show (x.on (y.on Fo.nil)).prs.getD 1 [] = Ex.pr y from rfl, show (x.on (y.on Fo.nil)).pts.getD 0 [] = Ex.pt x from rfl, show (x.on (y.on Fo.nil)).pts.getD 1 [] = Ex.pt y from rfl]
      simpa using this
    · obtain ⟨x, y, z, e⟩ := Fo.len3 (F := kids) (by rw [h3, Ex.kids3 rfl])
      subst e
      have hx := (Fo.lx_on hub).1
      have hy := (Fo.lx_on (Fo.lx_on hub).2).1
      have hz := (Fo.lx_on (Fo.lx_on (Fo.lx_on hub).2).2).1
      simp only [Int.reduceEq, reduceIte]
      exact ((((((LexA.ite.app hx.par).app LexA.comma).app hy.par).app LexA.comma).app hz.par).app LexA.rp).p
    · obtain ⟨x, e⟩ := Fo.len1 (F := kids) (by rw [h3, Ex.kids1 (by omega)])
      obtain ⟨m, rfl⟩ := hv7 (.inr (.inl rfl))
      subst e
      have hx := (Fo.lx_on hub).1
      simp only [Int.reduceEq, reduceIte]
      rw [hfin]
      have hq : LexA ([97, 108, 108, 32, 118] ++ [Ex.dig (m.val : Int)] ++ [32]) [.all, .var m] := fun r => by
        have h1 := LexTo.var m (Brk.cons r (show 32 < 48 by decide))
        rw [← dig_nat m.isLt] at h1
        exact (LexTo.all _).trans ((LexTo.blank _).trans (h1.trans (LexTo.blank r)))
      exact (hq.app hx.par).p
    · obtain ⟨x, e⟩ := Fo.len1 (F := kids) (by rw [h3, Ex.kids1 (by omega)])
      obtain ⟨m, rfl⟩ := hv7 (.inr (.inr rfl))
      subst e
      have hx := (Fo.lx_on hub).1
      simp only [Int.reduceEq, reduceIte]
      rw [hfin]
      have hq : LexA ([97, 110, 121, 32, 118] ++ [Ex.dig (m.val : Int)] ++ [32]) [.any, .var m] := fun r => by
        have h1 := LexTo.var m (Brk.cons r (show 32 < 48 by decide))
        rw [← dig_nat m.isLt] at h1
        exact (LexTo.any _).trans ((LexTo.blank _).trans (h1.trans (LexTo.blank r)))
      exact (hq.app hx.par).p
/-- what is printed is read back as the same, or is too deep -/
theorem Ex.back {t : Tr} (h : (t.on .nil).allPlain = true) (hl : (Ex.pr t).length ≤ 4000) :
    (Ex.parse (nl (Ex.pr t))).2.2 = 231 ∨ ((Ex.parse (nl (Ex.pr t))).2.2 = 0 ∧ Ex.same t (Ex.parse (nl (Ex.pr t))).1 = true) := by
  have hlx := (Fo.lx_on (Fo.lx_all (t.on .nil) h)).1 [] Brk.nil
  rw [List.append_nil] at hlx
  obtain ⟨A, a', hA, hm⟩ := hlx 0
  have hnil : Lx.lex [] a' = [(.eof, a')] := by
    have hs : Lx.skip [] = 0 := Lx.skip_nil
    rw [Lx.lex_eq, hs, List.drop_zero, Lx.scan_nil, if_pos (.inl rfl)]
    rfl
  rw [hnil] at hA
  obtain ⟨E1, E2, E3⟩ := Ex.parse_eq (nl (Ex.pr t)) (by unfold nl; simpa using hl)
  have hb := (UB.tr h).iff 30 ⟨Lx.lex (nl (Ex.pr t)) 0, 0, 0⟩ A [(.eof, a')] rfl hA hm (fun x r e => by cases e; rfl)
  generalize (Ex.lev 30).iff ⟨Lx.lex (nl (Ex.pr t)) 0, 0, 0⟩ = R at *
  rcases hb with h5 | ⟨h5, h6, h7⟩
  · left
    rw [E3 (by rw [h5]; decide)]
    exact h5
  · right
    rw [E1 h5 (by unfold St.now; rw [h6])]
    exact ⟨rfl, h7⟩
theorem Ex.parse_at (l : List Nat) (h : (Ex.parse l).2.2 = 0) : (Ex.parse l).2.1 = 0 := by
  by_cases hl : l.length ≤ 4000
  · obtain ⟨E1, E2, E3⟩ := Ex.parse_eq l hl
    generalize (Ex.lev 30).iff ⟨Lx.lex l 0, 0, 0⟩ = R at *
    by_cases h0 : R.2.e = 0
    · by_cases hn : R.2.now = .eof
      · rw [E1 h0 hn]
      · rw [E2 h0 hn] at h
        exact absurd h (bad_ne 230 (by omega) R.2)
    · rw [E3 h0] at h
      exact absurd h h0
  · unfold Ex.parse
    rw [if_pos (by omega)]
theorem Ex.parse_long {l : List Nat} (h : 4000 < l.length) : (Ex.parse l).2.2 = 232 := by unfold Ex.parse; rw [if_pos h]
end Go.Proofs.Ytfgokhafiffbaaa
