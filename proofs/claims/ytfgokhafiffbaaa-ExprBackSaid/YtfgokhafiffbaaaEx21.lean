/-
  Formulas: table.
-/
import Derived.Test.YtfgokhafiffbaaaEx20
namespace Go.Proofs.Ytfgokhafiffbaaa
set_option linter.unusedVariables false
open Go.RowKit

/-- the cells of three tables -/
def lc (f g h : Tb.T) : Array Value := #[.int .u64 (Tb.wd f 0), .int .u64 (Tb.wd f 1), .int .u64 (Tb.wd f 2), .int .u64 (Tb.wd f 3), .int .u64 (Tb.wd g 0), .int .u64 (Tb.wd g 1), .int .u64 (Tb.wd g 2), .int .u64 (Tb.wd g 3), .int .u64 (Tb.wd h 0), .int .u64 (Tb.wd h 1), .int .u64 (Tb.wd h 2), .int .u64 (Tb.wd h 3)]
/-- the table of a node, of the tables of its kids -/
def Ex.tabk (k v : Int) (l : List Tb.T) : Tb.T :=
  if k = 1 then Tb.var v else if k = 2 then Tb.cst (decide (v = 1)) else if k = 3 then ~~~ (l.getD 0 0#256)
  else if k = 4 then l.getD 0 0#256 &&& l.getD 1 0#256 else if k = 5 then l.getD 0 0#256 ||| l.getD 1 0#256 else if k = 6 then l.getD 0 0#256 ^^^ l.getD 1 0#256
  else if k = 7 then (~~~ (l.getD 0 0#256)) ||| l.getD 1 0#256 else if k = 8 then ~~~ (l.getD 0 0#256 ^^^ l.getD 1 0#256)
  else if k = 9 then (l.getD 0 0#256 &&& l.getD 1 0#256) ||| (~~~ (l.getD 0 0#256) &&& l.getD 2 0#256)
  else if k = 10 then Tb.halves (fun F G => F &&& G) (l.getD 0 0#256) (2 ^ v.toNat) else Tb.halves (fun F G => F ||| G) (l.getD 0 0#256) (2 ^ v.toNat)
def Fo.tabs : Fo → List Tb.T
  | .nil => []
  | .cons k _ v kids rest => Ex.tabk k v kids.tabs :: rest.tabs
def Ex.table (t : Tr) : Tb.T := Ex.tabk t.k t.v t.kids.tabs
/-- where table stands -/
structure TS (w wr : World) (k a v : Int) (sl : Value) (f g h : Tb.T) : Prop where
  be : Below w.heap.size w wr
  e : Blk wr w.heap.size 36 #[.int .i64 k, .int .i64 a, .int .i64 v, sl]
  r : Blk wr (w.heap.size + 1) 29 (Tb.tcells 0#256)
  l : Blk wr (w.heap.size + 2) 67 (lc f g h)
theorem TS.size {w wr : World} {k a v : Int} {sl : Value} {f g h : Tb.T} (s : TS w wr k a v sl f g h) : w.heap.size + 3 ≤ wr.heap.size := s.l.lt
theorem TS.step {w wr u : World} {k a v : Int} {sl : Value} {f g h : Tb.T} (s : TS w wr k a v sl f g h) (hb : Below wr.heap.size wr u) : TS w u k a v sl f g h := by
  have hz := s.size
  exact ⟨s.be.trans (hb.mono s.be.size), s.e.below hb (by omega), s.r.below hb (by omega), s.l.below hb (by omega)⟩
theorem TS.alloc {w wr : World} {k a v : Int} {sl : Value} {f g h : Tb.T} (s : TS w wr k a v sl f g h) (o : Obj) : TS w (wr.alloc o) k a v sl f g h := s.step ((Below.refl _ _).alloc (Nat.le_refl _) o)
theorem lc_zero : (#[.int .u64 0, .int .u64 0, .int .u64 0, .int .u64 0, .int .u64 0, .int .u64 0, .int .u64 0, .int .u64 0, .int .u64 0, .int .u64 0, .int .u64 0, .int .u64 0] : Array Value) = lc 0#256 0#256 0#256 := by
  unfold lc
  rw [Tb.wd_zero 0, Tb.wd_zero 1, Tb.wd_zero 2, Tb.wd_zero 3]
theorem TS.start (w : World) (k a v : Int) (sl : Value) : TS w (((w.alloc (.cells #[.int .i64 k, .int .i64 a, .int .i64 v, sl] 36)).alloc (.cells (Tb.tcells 0#256) 29)).alloc (.cells (lc 0#256 0#256 0#256) 67)) k a v sl 0#256 0#256 0#256 := by
  have h1 := Blk.new w 36 #[.int .i64 k, .int .i64 a, .int .i64 v, sl]
  have h2 := Blk.new (w.alloc (.cells #[.int .i64 k, .int .i64 a, .int .i64 v, sl] 36)) 29 (Tb.tcells 0#256)
  have h3 := Blk.new ((w.alloc (.cells #[.int .i64 k, .int .i64 a, .int .i64 v, sl] 36)).alloc (.cells (Tb.tcells 0#256) 29)) 67 (lc 0#256 0#256 0#256)
  rw [alloc_size] at h2
  rw [alloc_size, alloc_size] at h3
  exact ⟨(((Below.refl _ _).alloc (Nat.le_refl _) _).alloc (by rw [alloc_size]; omega) _).alloc (by rw [alloc_size, alloc_size]; omega) _, (h1.alloc _).alloc _, h2.alloc _, h3⟩

theorem TS.put0 {w wr : World} {k a v : Int} {sl : Value} {f g h : Tb.T} (s : TS w wr k a v sl f g h) (F : Tb.T) : TS w ((((wr.setCell ⟨w.heap.size + 2, 0, none⟩ (.int .u64 (Tb.wd F 0))).setCell ⟨w.heap.size + 2, 1, none⟩ (.int .u64 (Tb.wd F 1))).setCell ⟨w.heap.size + 2, 2, none⟩ (.int .u64 (Tb.wd F 2))).setCell ⟨w.heap.size + 2, 3, none⟩ (.int .u64 (Tb.wd F 3))) k a v sl F g h :=
  ⟨((((s.be.setCell (p := ⟨w.heap.size + 2, 0, none⟩) (by show w.heap.size ≤ w.heap.size + 2; omega) _).setCell (p := ⟨w.heap.size + 2, 1, none⟩) (by show w.heap.size ≤ w.heap.size + 2; omega) _).setCell (p := ⟨w.heap.size + 2, 2, none⟩) (by show w.heap.size ≤ w.heap.size + 2; omega) _).setCell (p := ⟨w.heap.size + 2, 3, none⟩) (by show w.heap.size ≤ w.heap.size + 2; omega) _), ((((s.e.far (p := ⟨w.heap.size + 2, 0, none⟩) (by first | (show w.heap.size ≠ w.heap.size + 2; omega) | (show w.heap.size + 1 ≠ w.heap.size + 2; omega)) _).far (p := ⟨w.heap.size + 2, 1, none⟩) (by first | (show w.heap.size ≠ w.heap.size + 2; omega) | (show w.heap.size + 1 ≠ w.heap.size + 2; omega)) _).far (p := ⟨w.heap.size + 2, 2, none⟩) (by first | (show w.heap.size ≠ w.heap.size + 2; omega) | (show w.heap.size + 1 ≠ w.heap.size + 2; omega)) _).far (p := ⟨w.heap.size + 2, 3, none⟩) (by first | (show w.heap.size ≠ w.heap.size + 2; omega) | (show w.heap.size + 1 ≠ w.heap.size + 2; omega)) _), ((((s.r.far (p := ⟨w.heap.size + 2, 0, none⟩) (by first | (show w.heap.size ≠ w.heap.size + 2; omega) | (show w.heap.size + 1 ≠ w.heap.size + 2; omega)) _).far (p := ⟨w.heap.size + 2, 1, none⟩) (by first | (show w.heap.size ≠ w.heap.size + 2; omega) | (show w.heap.size + 1 ≠ w.heap.size + 2; omega)) _).far (p := ⟨w.heap.size + 2, 2, none⟩) (by first | (show w.heap.size ≠ w.heap.size + 2; omega) | (show w.heap.size + 1 ≠ w.heap.size + 2; omega)) _).far (p := ⟨w.heap.size + 2, 3, none⟩) (by first | (show w.heap.size ≠ w.heap.size + 2; omega) | (show w.heap.size + 1 ≠ w.heap.size + 2; omega)) _), ((((s.l.set_ 0 (.int .u64 (Tb.wd F 0))).set_ 1 (.int .u64 (Tb.wd F 1))).set_ 2 (.int .u64 (Tb.wd F 2))).set_ 3 (.int .u64 (Tb.wd F 3)))⟩
theorem TS.put1 {w wr : World} {k a v : Int} {sl : Value} {f g h : Tb.T} (s : TS w wr k a v sl f g h) (F : Tb.T) : TS w ((((wr.setCell ⟨w.heap.size + 2, 4, none⟩ (.int .u64 (Tb.wd F 0))).setCell ⟨w.heap.size + 2, 5, none⟩ (.int .u64 (Tb.wd F 1))).setCell ⟨w.heap.size + 2, 6, none⟩ (.int .u64 (Tb.wd F 2))).setCell ⟨w.heap.size + 2, 7, none⟩ (.int .u64 (Tb.wd F 3))) k a v sl f F h :=
  ⟨((((s.be.setCell (p := ⟨w.heap.size + 2, 4, none⟩) (by show w.heap.size ≤ w.heap.size + 2; omega) _).setCell (p := ⟨w.heap.size + 2, 5, none⟩) (by show w.heap.size ≤ w.heap.size + 2; omega) _).setCell (p := ⟨w.heap.size + 2, 6, none⟩) (by show w.heap.size ≤ w.heap.size + 2; omega) _).setCell (p := ⟨w.heap.size + 2, 7, none⟩) (by show w.heap.size ≤ w.heap.size + 2; omega) _), ((((s.e.far (p := ⟨w.heap.size + 2, 4, none⟩) (by first | (show w.heap.size ≠ w.heap.size + 2; omega) | (show w.heap.size + 1 ≠ w.heap.size + 2; omega)) _).far (p := ⟨w.heap.size + 2, 5, none⟩) (by first | (show w.heap.size ≠ w.heap.size + 2; omega) | (show w.heap.size + 1 ≠ w.heap.size + 2; omega)) _).far (p := ⟨w.heap.size + 2, 6, none⟩) (by first | (show w.heap.size ≠ w.heap.size + 2; omega) | (show w.heap.size + 1 ≠ w.heap.size + 2; omega)) _).far (p := ⟨w.heap.size + 2, 7, none⟩) (by first | (show w.heap.size ≠ w.heap.size + 2; omega) | (show w.heap.size + 1 ≠ w.heap.size + 2; omega)) _), ((((s.r.far (p := ⟨w.heap.size + 2, 4, none⟩) (by first | (show w.heap.size ≠ w.heap.size + 2; omega) | (show w.heap.size + 1 ≠ w.heap.size + 2; omega)) _).far (p := ⟨w.heap.size + 2, 5, none⟩) (by first | (show w.heap.size ≠ w.heap.size + 2; omega) | (show w.heap.size + 1 ≠ w.heap.size + 2; omega)) _).far (p := ⟨w.heap.size + 2, 6, none⟩) (by first | (show w.heap.size ≠ w.heap.size + 2; omega) | (show w.heap.size + 1 ≠ w.heap.size + 2; omega)) _).far (p := ⟨w.heap.size + 2, 7, none⟩) (by first | (show w.heap.size ≠ w.heap.size + 2; omega) | (show w.heap.size + 1 ≠ w.heap.size + 2; omega)) _), ((((s.l.set_ 4 (.int .u64 (Tb.wd F 0))).set_ 5 (.int .u64 (Tb.wd F 1))).set_ 6 (.int .u64 (Tb.wd F 2))).set_ 7 (.int .u64 (Tb.wd F 3)))⟩
theorem TS.put2 {w wr : World} {k a v : Int} {sl : Value} {f g h : Tb.T} (s : TS w wr k a v sl f g h) (F : Tb.T) : TS w ((((wr.setCell ⟨w.heap.size + 2, 8, none⟩ (.int .u64 (Tb.wd F 0))).setCell ⟨w.heap.size + 2, 9, none⟩ (.int .u64 (Tb.wd F 1))).setCell ⟨w.heap.size + 2, 10, none⟩ (.int .u64 (Tb.wd F 2))).setCell ⟨w.heap.size + 2, 11, none⟩ (.int .u64 (Tb.wd F 3))) k a v sl f g F :=
  ⟨((((s.be.setCell (p := ⟨w.heap.size + 2, 8, none⟩) (by show w.heap.size ≤ w.heap.size + 2; omega) _).setCell (p := ⟨w.heap.size + 2, 9, none⟩) (by show w.heap.size ≤ w.heap.size + 2; omega) _).setCell (p := ⟨w.heap.size + 2, 10, none⟩) (by show w.heap.size ≤ w.heap.size + 2; omega) _).setCell (p := ⟨w.heap.size + 2, 11, none⟩) (by show w.heap.size ≤ w.heap.size + 2; omega) _), ((((s.e.far (p := ⟨w.heap.size + 2, 8, none⟩) (by first | (show w.heap.size ≠ w.heap.size + 2; omega) | (show w.heap.size + 1 ≠ w.heap.size + 2; omega)) _).far (p := ⟨w.heap.size + 2, 9, none⟩) (by first | (show w.heap.size ≠ w.heap.size + 2; omega) | (show w.heap.size + 1 ≠ w.heap.size + 2; omega)) _).far (p := ⟨w.heap.size + 2, 10, none⟩) (by first | (show w.heap.size ≠ w.heap.size + 2; omega) | (show w.heap.size + 1 ≠ w.heap.size + 2; omega)) _).far (p := ⟨w.heap.size + 2, 11, none⟩) (by first | (show w.heap.size ≠ w.heap.size + 2; omega) | (show w.heap.size + 1 ≠ w.heap.size + 2; omega)) _), ((((s.r.far (p := ⟨w.heap.size + 2, 8, none⟩) (by first | (show w.heap.size ≠ w.heap.size + 2; omega) | (show w.heap.size + 1 ≠ w.heap.size + 2; omega)) _).far (p := ⟨w.heap.size + 2, 9, none⟩) (by first | (show w.heap.size ≠ w.heap.size + 2; omega) | (show w.heap.size + 1 ≠ w.heap.size + 2; omega)) _).far (p := ⟨w.heap.size + 2, 10, none⟩) (by first | (show w.heap.size ≠ w.heap.size + 2; omega) | (show w.heap.size + 1 ≠ w.heap.size + 2; omega)) _).far (p := ⟨w.heap.size + 2, 11, none⟩) (by first | (show w.heap.size ≠ w.heap.size + 2; omega) | (show w.heap.size + 1 ≠ w.heap.size + 2; omega)) _), ((((s.l.set_ 8 (.int .u64 (Tb.wd F 0))).set_ 9 (.int .u64 (Tb.wd F 1))).set_ 10 (.int .u64 (Tb.wd F 2))).set_ 11 (.int .u64 (Tb.wd F 3)))⟩
theorem TS.cells {w wr : World} {k a v : Int} {sl : Value} {f g h : Tb.T} (s : TS w wr k a v sl f g h) :
    (wr.cell? ⟨w.heap.size, 0, none⟩ = some (.int .i64 k) ∧ wr.cell? ⟨w.heap.size, 2, none⟩ = some (.int .i64 v) ∧ wr.cell? ⟨w.heap.size, 3, none⟩ = some sl) ∧
    (wr.cell? ⟨w.heap.size + 2, 0, none⟩ = some (.int .u64 (Tb.wd f 0)) ∧ wr.cell? ⟨w.heap.size + 2, 1, none⟩ = some (.int .u64 (Tb.wd f 1)) ∧ wr.cell? ⟨w.heap.size + 2, 2, none⟩ = some (.int .u64 (Tb.wd f 2)) ∧ wr.cell? ⟨w.heap.size + 2, 3, none⟩ = some (.int .u64 (Tb.wd f 3)) ∧ wr.cell? ⟨w.heap.size + 2, 4, none⟩ = some (.int .u64 (Tb.wd g 0)) ∧ wr.cell? ⟨w.heap.size + 2, 5, none⟩ = some (.int .u64 (Tb.wd g 1)) ∧ wr.cell? ⟨w.heap.size + 2, 6, none⟩ = some (.int .u64 (Tb.wd g 2)) ∧ wr.cell? ⟨w.heap.size + 2, 7, none⟩ = some (.int .u64 (Tb.wd g 3)) ∧ wr.cell? ⟨w.heap.size + 2, 8, none⟩ = some (.int .u64 (Tb.wd h 0)) ∧ wr.cell? ⟨w.heap.size + 2, 9, none⟩ = some (.int .u64 (Tb.wd h 1)) ∧ wr.cell? ⟨w.heap.size + 2, 10, none⟩ = some (.int .u64 (Tb.wd h 2)) ∧ wr.cell? ⟨w.heap.size + 2, 11, none⟩ = some (.int .u64 (Tb.wd h 3))) ∧
    (wr.frozen? ⟨w.heap.size + 2, 0, none⟩ = false ∧ wr.frozen? ⟨w.heap.size + 2, 1, none⟩ = false ∧ wr.frozen? ⟨w.heap.size + 2, 2, none⟩ = false ∧ wr.frozen? ⟨w.heap.size + 2, 3, none⟩ = false ∧ wr.frozen? ⟨w.heap.size + 2, 4, none⟩ = false ∧ wr.frozen? ⟨w.heap.size + 2, 5, none⟩ = false ∧ wr.frozen? ⟨w.heap.size + 2, 6, none⟩ = false ∧ wr.frozen? ⟨w.heap.size + 2, 7, none⟩ = false ∧ wr.frozen? ⟨w.heap.size + 2, 8, none⟩ = false ∧ wr.frozen? ⟨w.heap.size + 2, 9, none⟩ = false ∧ wr.frozen? ⟨w.heap.size + 2, 10, none⟩ = false ∧ wr.frozen? ⟨w.heap.size + 2, 11, none⟩ = false) :=
  ⟨⟨s.e.cell 0, s.e.cell 2, s.e.cell 3⟩, ⟨s.l.cell 0, s.l.cell 1, s.l.cell 2, s.l.cell 3, s.l.cell 4, s.l.cell 5, s.l.cell 6, s.l.cell 7, s.l.cell 8, s.l.cell 9, s.l.cell 10, s.l.cell 11⟩, s.l.frozen 0, s.l.frozen 1, s.l.frozen 2, s.l.frozen 3, s.l.frozen 4, s.l.frozen 5, s.l.frozen 6, s.l.frozen 7, s.l.frozen 8, s.l.frozen 9, s.l.frozen 10, s.l.frozen 11⟩
/-- one kid, where it lies -/
structure Kid (w : World) (b o : Nat) (x : Tr) (sx : Value) : Prop where
  lt : b < w.heap.size
  c0 : w.cell? ⟨b, o, none⟩ = some (.int .i64 x.k)
  c1 : w.cell? ⟨b, o + 1, none⟩ = some (.int .i64 x.a)
  c2 : w.cell? ⟨b, o + 2, none⟩ = some (.int .i64 x.v)
  c3 : w.cell? ⟨b, o + 3, none⟩ = some sx
  sl : SlF w (fun g => g < w.heap.size) sx x.kids
theorem Kid.below {w u : World} {b o : Nat} {x : Tr} {sx : Value} (h : Kid w b o x sx) (hb : Below w.heap.size w u) :
    u.cell? ⟨b, o, none⟩ = some (.int .i64 x.k) ∧ u.cell? ⟨b, o + 1, none⟩ = some (.int .i64 x.a) ∧ u.cell? ⟨b, o + 2, none⟩ = some (.int .i64 x.v) ∧ u.cell? ⟨b, o + 3, none⟩ = some sx ∧ SlF u (fun g => g < w.heap.size) sx x.kids :=
  ⟨(hb.cell (p := ⟨b, o, none⟩) h.lt).trans h.c0, (hb.cell (p := ⟨b, o + 1, none⟩) h.lt).trans h.c1, (hb.cell (p := ⟨b, o + 2, none⟩) h.lt).trans h.c2, (hb.cell (p := ⟨b, o + 3, none⟩) h.lt).trans h.c3, h.sl.kept fun g _ hl => hb.block g hl⟩
theorem pow_lt8 {m : Nat} (hm : m < 8) : 2 ^ m < 256 := by
  have : ∀ m : Nat, m < 8 → 2 ^ m < 256 := by decide
  exact this m hm
section
variable {a : Act} {u : World} {o : Oper} {x y : Operand}
theorem exec_loadL {p off : Nat} {F : Tb.T} (hop : o.op = .load 29 x) (hx : a.eval x = .pointer (some ⟨p, off, none⟩)) (h0 : u.cell? ⟨p, off, none⟩ = some (.int .u64 (Tb.wd F 0))) (h1 : u.cell? ⟨p, off + 1, none⟩ = some (.int .u64 (Tb.wd F 1)))
    (h2 : u.cell? ⟨p, off + 2, none⟩ = some (.int .u64 (Tb.wd F 2))) (h3 : u.cell? ⟨p, off + 3, none⟩ = some (.int .u64 (Tb.wd F 3))) :
    (execOp a.eval o).run Try.prog u = .ok (.value (Tb.tv F)) u := by
  unfold execOp
  simp only [hop, hx]
  go_simp
theorem exec_loadI {p off : Nat} {v : Int} (hop : o.op = .load 3 x) (hx : a.eval x = .pointer (some ⟨p, off, none⟩)) (hc : u.cell? ⟨p, off, none⟩ = some (.int .i64 v)) :
    (execOp a.eval o).run Try.prog u = .ok (.value (.int .i64 v)) u := by
  unfold execOp
  simp only [hop, hx]
  go_simp
theorem exec_shl8 {m : Nat} (hop : o.op = .binOp .shl 5 x y 3) (hx : a.eval x = .int .u8 1) (hy : a.eval y = .int .i64 (m : Int)) (h : m < 8) :
    (execOp a.eval o).run Try.prog u = .ok (.value (.int .u8 ((2 ^ m : Nat) : Int))) u := by
  have hc : m = 0 ∨ m = 1 ∨ m = 2 ∨ m = 3 ∨ m = 4 ∨ m = 5 ∨ m = 6 ∨ m = 7 := by omega
  rcases hc with rfl | rfl | rfl | rfl | rfl | rfl | rfl | rfl
  all_goals
    unfold execOp
    simp only [hop, hx, hy]
    rfl
end
/-- what is known of table for what has so few nodes -/
def Tz (n : Nat) : Prop := ∀ (t : Tr) (sl : Value) (B : Nat → Prop) (u : World), (t.on .nil).nodes ≤ n → (t.on .nil).allPlain = true → SlF u B sl t.kids →
  Calls Try.prog 33 #[Ev t sl] u fun e w' => e = .returned (Tb.tv (Ex.table t)) ∧ Below u.heap.size u w'

set_option maxHeartbeats 8000000 in
theorem table_3 (n : Nat) (ih : Tz n) (a : Int) (v : Int) (b o cap : Nat) (w : World) (x : Tr) (sx : Value) (Kx : Kid w b o x sx) (Nx : (x.on .nil).nodes ≤ n) (Px : (x.on .nil).allPlain = true) :
    Calls Try.prog 33 #[.agg #[.int .i64 3, .int .i64 a, .int .i64 v, .slice (some ⟨b, o, none⟩) 1 cap]] w fun e w' => e = .returned (Tb.tv (Ex.tabk 3 v [Ex.table x])) ∧ Below w.heap.size w w' := by
  have H0 := Bx.mk (TS.start w 3 a v (.slice (some ⟨b, o, none⟩) 1 cap))
  have BKx := Bx.mk Kx
  have BNx := Bx.mk Nx
  have BPx := Bx.mk Px
  have IH := Bx.mk ih
  clear ih Kx Nx Px
  go_enter Try.func33, Try.ntmps33
  go_wp2_with fail
  try rw [zeros_tab]
  try rw [lc_zero]
  generalize hW : World.alloc (World.alloc (World.alloc _ _) _) _ = W0
  have H1 : Bx (TS w W0 3 a v (.slice (some ⟨b, o, none⟩) 1 cap) 0#256 0#256 0#256) := ⟨by rw [← hW]; exact H0.out⟩
  clear hW H0
  refine wp_loop_rounds 2 ?_
  rw [rounds_succ]
  have hk0 := BKx.out.below H1.out.be
  obtain ⟨k0, k1, k2, k3, kS⟩ := hk0
  obtain ⟨px, cx, rfl⟩ := kS.is
  have hA := H1.out.alloc (.cells #[.int .i64 x.k, .int .i64 x.a, .int .i64 x.v, .slice px x.kids.len cx] 36)
  have hI := IH.out x _ _ _ BNx.out BPx.out (kS.alloc (.cells #[.int .i64 x.k, .int .i64 x.a, .int .i64 x.v, .slice px x.kids.len cx] 36))
  have HA := Bx.mk hA
  have HI := Bx.mk hI
  clear hA hI kS
  unfold Ev at HI
  go_wp2_with fail
  refine HI.out.mono ?_
  rintro e u0 ⟨rfl, hb0⟩
  have hT := HA.out.step hb0
  clear k0 k1 k2 k3 HI
  obtain ⟨_, ⟨q0, q1, q2, q3, q4, q5, q6, q7, q8, q9, qa, qb⟩, f0, f1, f2, f3, f4, f5, f6, f7, f8, f9, fa, fb⟩ := hT.cells
  have HT := Bx.mk hT
  clear hT hb0 HA
  generalize hF0 : Ex.table x = F0
  have HF0 := Bx.mk hF0
  clear hF0
  unfold Tb.tv
  go_wp2_with fail
  clear q0 q1 q2 q3 q4 q5 q6 q7 q8 q9 qa qb f0 f1 f2 f3 f4 f5 f6 f7 f8 f9 fa fb
  have H2 := Bx.mk (HT.out.put0 F0)
  obtain ⟨⟨e0, e2, e3⟩, ⟨q0, q1, q2, q3, q4, q5, q6, q7, q8, q9, qa, qb⟩, f0, f1, f2, f3, f4, f5, f6, f7, f8, f9, fa, fb⟩ := H2.out.cells
  rw [rounds_succ]
  go_wp2_with fail
  clear e0 e2 e3 q0 q1 q2 q3 q4 q5 q6 q7 q8 q9 qa qb f0 f1 f2 f3 f4 f5 f6 f7 f8 f9 fa fb
  refine (not_any F0 _).mono ?_
  rintro e u9 ⟨rfl, hb9⟩
  have h9 := H2.out.step hb9
  obtain ⟨⟨r0, r1, r2, r3⟩, g0, g1, g2, g3⟩ := tfacts h9.r
  have HSf := Bx.mk (store4 (F := ~~~F0) h9.r)
  have HBf := Bx.mk (below4 (F := ~~~F0) (p := w.heap.size + 1) h9.be (by omega))
  clear h9 hb9
  generalize hR : ~~~F0 = R at HSf HBf ⊢
  have HR := Bx.mk hR
  clear hR
  unfold Tb.tv
  go_wp2_with fail
  clear r0 r1 r2 r3 g0 g1 g2 g3
  obtain ⟨⟨r0, r1, r2, r3⟩, _, _, _, _⟩ := tfacts HSf.out
  refine bodyPost_ret (v := Tb.tv R) (by simp [results, Try.results33, go_sem, r0, r1, r2, r3] <;> rfl) rfl ⟨?_, HBf.out⟩
  rw [← HR.out, ← HF0.out]
  unfold Ex.tabk
  simp
set_option maxHeartbeats 8000000 in
theorem table_1 (n : Nat) (ih : Tz n) (a : Int) (v : Int) (pp : Option Addr) (cap : Nat) (w : World)  :
    Calls Try.prog 33 #[.agg #[.int .i64 1, .int .i64 a, .int .i64 v, .slice pp 0 cap]] w fun e w' => e = .returned (Tb.tv (Ex.tabk 1 v [])) ∧ Below w.heap.size w w' := by
  have H0 := Bx.mk (TS.start w 1 a v (.slice pp 0 cap))
  have IH := Bx.mk ih
  clear ih
  go_enter Try.func33, Try.ntmps33
  go_wp2_with fail
  try rw [zeros_tab]
  try rw [lc_zero]
  generalize hW : World.alloc (World.alloc (World.alloc _ _) _) _ = W0
  have H1 : Bx (TS w W0 1 a v (.slice pp 0 cap) 0#256 0#256 0#256) := ⟨by rw [← hW]; exact H0.out⟩
  clear hW H0
  refine wp_loop_rounds 1 ?_
  obtain ⟨⟨e0, e2, e3⟩, ⟨q0, q1, q2, q3, q4, q5, q6, q7, q8, q9, qa, qb⟩, f0, f1, f2, f3, f4, f5, f6, f7, f8, f9, fa, fb⟩ := H1.out.cells
  rw [rounds_succ]
  go_wp2_with fail
  clear e0 e2 e3 q0 q1 q2 q3 q4 q5 q6 q7 q8 q9 qa qb f0 f1 f2 f3 f4 f5 f6 f7 f8 f9 fa fb
  refine (var_any v _).mono ?_
  rintro e u9 ⟨rfl, hb9⟩
  have h9 := H1.out.step hb9
  obtain ⟨⟨r0, r1, r2, r3⟩, g0, g1, g2, g3⟩ := tfacts h9.r
  have HSf := Bx.mk (store4 (F := Tb.var v) h9.r)
  have HBf := Bx.mk (below4 (F := Tb.var v) (p := w.heap.size + 1) h9.be (by omega))
  clear h9 hb9
  generalize hR : Tb.var v = R at HSf HBf ⊢
  have HR := Bx.mk hR
  clear hR
  unfold Tb.tv
  go_wp2_with fail
  clear r0 r1 r2 r3 g0 g1 g2 g3
  obtain ⟨⟨r0, r1, r2, r3⟩, _, _, _, _⟩ := tfacts HSf.out
  refine bodyPost_ret (v := Tb.tv R) (by simp [results, Try.results33, go_sem, r0, r1, r2, r3] <;> rfl) rfl ⟨?_, HBf.out⟩
  rw [← HR.out]
  unfold Ex.tabk
  simp
set_option maxHeartbeats 8000000 in
theorem table_2 (n : Nat) (ih : Tz n) (a : Int) (v : Int) (pp : Option Addr) (cap : Nat) (w : World)  :
    Calls Try.prog 33 #[.agg #[.int .i64 2, .int .i64 a, .int .i64 v, .slice pp 0 cap]] w fun e w' => e = .returned (Tb.tv (Ex.tabk 2 v [])) ∧ Below w.heap.size w w' := by
  have H0 := Bx.mk (TS.start w 2 a v (.slice pp 0 cap))
  have IH := Bx.mk ih
  clear ih
  go_enter Try.func33, Try.ntmps33
  go_wp2_with fail
  try rw [zeros_tab]
  try rw [lc_zero]
  generalize hW : World.alloc (World.alloc (World.alloc _ _) _) _ = W0
  have H1 : Bx (TS w W0 2 a v (.slice pp 0 cap) 0#256 0#256 0#256) := ⟨by rw [← hW]; exact H0.out⟩
  clear hW H0
  refine wp_loop_rounds 1 ?_
  obtain ⟨⟨e0, e2, e3⟩, ⟨q0, q1, q2, q3, q4, q5, q6, q7, q8, q9, qa, qb⟩, f0, f1, f2, f3, f4, f5, f6, f7, f8, f9, fa, fb⟩ := H1.out.cells
  rw [rounds_succ]
  go_wp2_with fail
  clear e0 e2 e3 q0 q1 q2 q3 q4 q5 q6 q7 q8 q9 qa qb f0 f1 f2 f3 f4 f5 f6 f7 f8 f9 fa fb
  refine (const_any (decide (v = 1)) _).mono ?_
  rintro e u9 ⟨rfl, hb9⟩
  have h9 := H1.out.step hb9
  obtain ⟨⟨r0, r1, r2, r3⟩, g0, g1, g2, g3⟩ := tfacts h9.r
  have HSf := Bx.mk (store4 (F := Tb.cst (decide (v = 1))) h9.r)
  have HBf := Bx.mk (below4 (F := Tb.cst (decide (v = 1))) (p := w.heap.size + 1) h9.be (by omega))
  clear h9 hb9
  generalize hR : Tb.cst (decide (v = 1)) = R at HSf HBf ⊢
  have HR := Bx.mk hR
  clear hR
  unfold Tb.tv
  go_wp2_with fail
  clear r0 r1 r2 r3 g0 g1 g2 g3
  obtain ⟨⟨r0, r1, r2, r3⟩, _, _, _, _⟩ := tfacts HSf.out
  refine bodyPost_ret (v := Tb.tv R) (by simp [results, Try.results33, go_sem, r0, r1, r2, r3] <;> rfl) rfl ⟨?_, HBf.out⟩
  rw [← HR.out]
  unfold Ex.tabk
  simp
set_option maxHeartbeats 8000000 in
theorem table_9 (n : Nat) (ih : Tz n) (a : Int) (v : Int) (b o cap : Nat) (w : World) (x : Tr) (sx : Value) (Kx : Kid w b o x sx) (Nx : (x.on .nil).nodes ≤ n) (Px : (x.on .nil).allPlain = true) (y : Tr) (sy : Value) (Ky : Kid w b (o + 4) y sy) (Ny : (y.on .nil).nodes ≤ n) (Py : (y.on .nil).allPlain = true) (z : Tr) (sz : Value) (Kz : Kid w b (o + 8) z sz) (Nz : (z.on .nil).nodes ≤ n) (Pz : (z.on .nil).allPlain = true) :
    Calls Try.prog 33 #[.agg #[.int .i64 9, .int .i64 a, .int .i64 v, .slice (some ⟨b, o, none⟩) 3 cap]] w fun e w' => e = .returned (Tb.tv (Ex.tabk 9 v [Ex.table x, Ex.table y, Ex.table z])) ∧ Below w.heap.size w w' := by
  have H0 := Bx.mk (TS.start w 9 a v (.slice (some ⟨b, o, none⟩) 3 cap))
  have BKx := Bx.mk Kx
  have BNx := Bx.mk Nx
  have BPx := Bx.mk Px
  have BKy := Bx.mk Ky
  have BNy := Bx.mk Ny
  have BPy := Bx.mk Py
  have BKz := Bx.mk Kz
  have BNz := Bx.mk Nz
  have BPz := Bx.mk Pz
  have IH := Bx.mk ih
  clear ih Kx Nx Px Ky Ny Py Kz Nz Pz
  go_enter Try.func33, Try.ntmps33
  go_wp2_with fail
  try rw [zeros_tab]
  try rw [lc_zero]
  generalize hW : World.alloc (World.alloc (World.alloc _ _) _) _ = W0
  have H1 : Bx (TS w W0 9 a v (.slice (some ⟨b, o, none⟩) 3 cap) 0#256 0#256 0#256) := ⟨by rw [← hW]; exact H0.out⟩
  clear hW H0
  refine wp_loop_rounds 4 ?_
  rw [rounds_succ]
  have hk0 := BKx.out.below H1.out.be
  obtain ⟨k0, k1, k2, k3, kS⟩ := hk0
  obtain ⟨px, cx, rfl⟩ := kS.is
  have hA := H1.out.alloc (.cells #[.int .i64 x.k, .int .i64 x.a, .int .i64 x.v, .slice px x.kids.len cx] 36)
  have hI := IH.out x _ _ _ BNx.out BPx.out (kS.alloc (.cells #[.int .i64 x.k, .int .i64 x.a, .int .i64 x.v, .slice px x.kids.len cx] 36))
  have HA := Bx.mk hA
  have HI := Bx.mk hI
  clear hA hI kS
  unfold Ev at HI
  go_wp2_with fail
  refine HI.out.mono ?_
  rintro e u0 ⟨rfl, hb0⟩
  have hT := HA.out.step hb0
  clear k0 k1 k2 k3 HI
  obtain ⟨_, ⟨q0, q1, q2, q3, q4, q5, q6, q7, q8, q9, qa, qb⟩, f0, f1, f2, f3, f4, f5, f6, f7, f8, f9, fa, fb⟩ := hT.cells
  have HT := Bx.mk hT
  clear hT hb0 HA
  generalize hF0 : Ex.table x = F0
  have HF0 := Bx.mk hF0
  clear hF0
  unfold Tb.tv
  go_wp2_with fail
  clear q0 q1 q2 q3 q4 q5 q6 q7 q8 q9 qa qb f0 f1 f2 f3 f4 f5 f6 f7 f8 f9 fa fb
  have H2 := Bx.mk (HT.out.put0 F0)
  rw [rounds_succ]
  have hk1 := BKy.out.below H2.out.be
  obtain ⟨k0, k1, k2, k3, kS⟩ := hk1
  obtain ⟨py, cy, rfl⟩ := kS.is
  have hA := H2.out.alloc (.cells #[.int .i64 y.k, .int .i64 y.a, .int .i64 y.v, .slice py y.kids.len cy] 36)
  have hI := IH.out y _ _ _ BNy.out BPy.out (kS.alloc (.cells #[.int .i64 y.k, .int .i64 y.a, .int .i64 y.v, .slice py y.kids.len cy] 36))
  have HA := Bx.mk hA
  have HI := Bx.mk hI
  clear hA hI kS
  unfold Ev at HI
  go_wp2_with fail
  refine HI.out.mono ?_
  rintro e u1 ⟨rfl, hb1⟩
  have hT := HA.out.step hb1
  clear k0 k1 k2 k3 HI
  obtain ⟨_, ⟨q0, q1, q2, q3, q4, q5, q6, q7, q8, q9, qa, qb⟩, f0, f1, f2, f3, f4, f5, f6, f7, f8, f9, fa, fb⟩ := hT.cells
  have HT := Bx.mk hT
  clear hT hb1 HA
  generalize hF1 : Ex.table y = F1
  have HF1 := Bx.mk hF1
  clear hF1
  unfold Tb.tv
  go_wp2_with fail
  clear q0 q1 q2 q3 q4 q5 q6 q7 q8 q9 qa qb f0 f1 f2 f3 f4 f5 f6 f7 f8 f9 fa fb
  have H3 := Bx.mk (HT.out.put1 F1)
  rw [rounds_succ]
  have hk2 := BKz.out.below H3.out.be
  obtain ⟨k0, k1, k2, k3, kS⟩ := hk2
  obtain ⟨pz, cz, rfl⟩ := kS.is
  have hA := H3.out.alloc (.cells #[.int .i64 z.k, .int .i64 z.a, .int .i64 z.v, .slice pz z.kids.len cz] 36)
  have hI := IH.out z _ _ _ BNz.out BPz.out (kS.alloc (.cells #[.int .i64 z.k, .int .i64 z.a, .int .i64 z.v, .slice pz z.kids.len cz] 36))
  have HA := Bx.mk hA
  have HI := Bx.mk hI
  clear hA hI kS
  unfold Ev at HI
  go_wp2_with fail
  refine HI.out.mono ?_
  rintro e u2 ⟨rfl, hb2⟩
  have hT := HA.out.step hb2
  clear k0 k1 k2 k3 HI
  obtain ⟨_, ⟨q0, q1, q2, q3, q4, q5, q6, q7, q8, q9, qa, qb⟩, f0, f1, f2, f3, f4, f5, f6, f7, f8, f9, fa, fb⟩ := hT.cells
  have HT := Bx.mk hT
  clear hT hb2 HA
  generalize hF2 : Ex.table z = F2
  have HF2 := Bx.mk hF2
  clear hF2
  unfold Tb.tv
  go_wp2_with fail
  clear q0 q1 q2 q3 q4 q5 q6 q7 q8 q9 qa qb f0 f1 f2 f3 f4 f5 f6 f7 f8 f9 fa fb
  have H4 := Bx.mk (HT.out.put2 F2)
  obtain ⟨⟨e0, e2, e3⟩, ⟨q0, q1, q2, q3, q4, q5, q6, q7, q8, q9, qa, qb⟩, f0, f1, f2, f3, f4, f5, f6, f7, f8, f9, fa, fb⟩ := H4.out.cells
  rw [rounds_succ]
  go_wp2_with fail
  clear e0 e2 e3 q0 q1 q2 q3 q4 q5 q6 q7 q8 q9 qa qb f0 f1 f2 f3 f4 f5 f6 f7 f8 f9 fa fb
  refine (ite_any F0 F1 F2 _).mono ?_
  rintro e u9 ⟨rfl, hb9⟩
  have h9 := H4.out.step hb9
  obtain ⟨⟨r0, r1, r2, r3⟩, g0, g1, g2, g3⟩ := tfacts h9.r
  have HSf := Bx.mk (store4 (F := (F0 &&& F1) ||| (~~~F0 &&& F2)) h9.r)
  have HBf := Bx.mk (below4 (F := (F0 &&& F1) ||| (~~~F0 &&& F2)) (p := w.heap.size + 1) h9.be (by omega))
  clear h9 hb9
  generalize hR : (F0 &&& F1) ||| (~~~F0 &&& F2) = R at HSf HBf ⊢
  have HR := Bx.mk hR
  clear hR
  unfold Tb.tv
  go_wp2_with fail
  clear r0 r1 r2 r3 g0 g1 g2 g3
  obtain ⟨⟨r0, r1, r2, r3⟩, _, _, _, _⟩ := tfacts HSf.out
  refine bodyPost_ret (v := Tb.tv R) (by simp [results, Try.results33, go_sem, r0, r1, r2, r3] <;> rfl) rfl ⟨?_, HBf.out⟩
  rw [← HR.out, ← HF0.out, ← HF1.out, ← HF2.out]
  unfold Ex.tabk
  simp
set_option maxHeartbeats 8000000 in
theorem table_4 (n : Nat) (ih : Tz n) (a : Int) (v : Int) (b o cap : Nat) (w : World) (x : Tr) (sx : Value) (Kx : Kid w b o x sx) (Nx : (x.on .nil).nodes ≤ n) (Px : (x.on .nil).allPlain = true) (y : Tr) (sy : Value) (Ky : Kid w b (o + 4) y sy) (Ny : (y.on .nil).nodes ≤ n) (Py : (y.on .nil).allPlain = true) :
    Calls Try.prog 33 #[.agg #[.int .i64 4, .int .i64 a, .int .i64 v, .slice (some ⟨b, o, none⟩) 2 cap]] w fun e w' => e = .returned (Tb.tv (Ex.tabk 4 v [Ex.table x, Ex.table y])) ∧ Below w.heap.size w w' := by
  have H0 := Bx.mk (TS.start w 4 a v (.slice (some ⟨b, o, none⟩) 2 cap))
  have BKx := Bx.mk Kx
  have BNx := Bx.mk Nx
  have BPx := Bx.mk Px
  have BKy := Bx.mk Ky
  have BNy := Bx.mk Ny
  have BPy := Bx.mk Py
  have IH := Bx.mk ih
  clear ih Kx Nx Px Ky Ny Py
  go_enter Try.func33, Try.ntmps33
  go_wp2_with fail
  try rw [zeros_tab]
  try rw [lc_zero]
  generalize hW : World.alloc (World.alloc (World.alloc _ _) _) _ = W0
  have H1 : Bx (TS w W0 4 a v (.slice (some ⟨b, o, none⟩) 2 cap) 0#256 0#256 0#256) := ⟨by rw [← hW]; exact H0.out⟩
  clear hW H0
  refine wp_loop_rounds 3 ?_
  rw [rounds_succ]
  have hk0 := BKx.out.below H1.out.be
  obtain ⟨k0, k1, k2, k3, kS⟩ := hk0
  obtain ⟨px, cx, rfl⟩ := kS.is
  have hA := H1.out.alloc (.cells #[.int .i64 x.k, .int .i64 x.a, .int .i64 x.v, .slice px x.kids.len cx] 36)
  have hI := IH.out x _ _ _ BNx.out BPx.out (kS.alloc (.cells #[.int .i64 x.k, .int .i64 x.a, .int .i64 x.v, .slice px x.kids.len cx] 36))
  have HA := Bx.mk hA
  have HI := Bx.mk hI
  clear hA hI kS
  unfold Ev at HI
  go_wp2_with fail
  refine HI.out.mono ?_
  rintro e u0 ⟨rfl, hb0⟩
  have hT := HA.out.step hb0
  clear k0 k1 k2 k3 HI
  obtain ⟨_, ⟨q0, q1, q2, q3, q4, q5, q6, q7, q8, q9, qa, qb⟩, f0, f1, f2, f3, f4, f5, f6, f7, f8, f9, fa, fb⟩ := hT.cells
  have HT := Bx.mk hT
  clear hT hb0 HA
  generalize hF0 : Ex.table x = F0
  have HF0 := Bx.mk hF0
  clear hF0
  unfold Tb.tv
  go_wp2_with fail
  clear q0 q1 q2 q3 q4 q5 q6 q7 q8 q9 qa qb f0 f1 f2 f3 f4 f5 f6 f7 f8 f9 fa fb
  have H2 := Bx.mk (HT.out.put0 F0)
  rw [rounds_succ]
  have hk1 := BKy.out.below H2.out.be
  obtain ⟨k0, k1, k2, k3, kS⟩ := hk1
  obtain ⟨py, cy, rfl⟩ := kS.is
  have hA := H2.out.alloc (.cells #[.int .i64 y.k, .int .i64 y.a, .int .i64 y.v, .slice py y.kids.len cy] 36)
  have hI := IH.out y _ _ _ BNy.out BPy.out (kS.alloc (.cells #[.int .i64 y.k, .int .i64 y.a, .int .i64 y.v, .slice py y.kids.len cy] 36))
  have HA := Bx.mk hA
  have HI := Bx.mk hI
  clear hA hI kS
  unfold Ev at HI
  go_wp2_with fail
  refine HI.out.mono ?_
  rintro e u1 ⟨rfl, hb1⟩
  have hT := HA.out.step hb1
  clear k0 k1 k2 k3 HI
  obtain ⟨_, ⟨q0, q1, q2, q3, q4, q5, q6, q7, q8, q9, qa, qb⟩, f0, f1, f2, f3, f4, f5, f6, f7, f8, f9, fa, fb⟩ := hT.cells
  have HT := Bx.mk hT
  clear hT hb1 HA
  generalize hF1 : Ex.table y = F1
  have HF1 := Bx.mk hF1
  clear hF1
  unfold Tb.tv
  go_wp2_with fail
  clear q0 q1 q2 q3 q4 q5 q6 q7 q8 q9 qa qb f0 f1 f2 f3 f4 f5 f6 f7 f8 f9 fa fb
  have H3 := Bx.mk (HT.out.put1 F1)
  obtain ⟨⟨e0, e2, e3⟩, ⟨q0, q1, q2, q3, q4, q5, q6, q7, q8, q9, qa, qb⟩, f0, f1, f2, f3, f4, f5, f6, f7, f8, f9, fa, fb⟩ := H3.out.cells
  rw [rounds_succ]
  go_wp2_with fail
  clear e0 e2 e3 q0 q1 q2 q3 q4 q5 q6 q7 q8 q9 qa qb f0 f1 f2 f3 f4 f5 f6 f7 f8 f9 fa fb
  refine region_any 8 (fun u => TS w u 4 a v (.slice (some ⟨b, o, none⟩) 2 cap) F0 F1 0#256) (by kernel_rfl) ?_
  generalize hu : World.drew _ = u0
  have hS0 : TS w u0 4 a v (.slice (some ⟨b, o, none⟩) 2 cap) F0 F1 0#256 := by rw [← hu]; exact H3.out.step ((Below.refl _ _).drew)
  clear hu
  refine any_take (i := 0) (.pointer (some ⟨w.heap.size, 0, none⟩)) rfl rfl (by kernel_rfl) (by kernel_rfl) (by kernel_rfl) (by kernel_rfl) (fun _ _ d _ _ h => by cases d <;> exact h) (fun u hS => rfl) hS0 ?_
  (try simp only [Act.put]); (try simp only [List.getElem_toArray]); (try simp only [List.getElem_cons_succ]); (try simp only [List.getElem_cons_zero]); (try simp only [List.setIfInBounds_toArray]); (try simp only [List.set_cons_succ]); (try simp only [List.set_cons_zero])
  refine any_take (i := 1) (.int .i64 4) rfl rfl (by kernel_rfl) (by kernel_rfl) (by kernel_rfl) (by kernel_rfl) (fun _ _ d _ _ h => by cases d <;> exact h) (fun u hS => exec_loadI rfl rfl hS.cells.1.1) hS0 ?_
  (try simp only [Act.put]); (try simp only [List.getElem_toArray]); (try simp only [List.getElem_cons_succ]); (try simp only [List.getElem_cons_zero]); (try simp only [List.setIfInBounds_toArray]); (try simp only [List.set_cons_succ]); (try simp only [List.set_cons_zero])
  refine any_take (i := 3) (.pointer (some ⟨w.heap.size + 2, 0, none⟩)) rfl rfl (by kernel_rfl) (by kernel_rfl) (by kernel_rfl) (by kernel_rfl) (fun _ _ d _ _ h => by cases d <;> exact h) (fun u hS => rfl) hS0 ?_
  (try simp only [Act.put]); (try simp only [List.getElem_toArray]); (try simp only [List.getElem_cons_succ]); (try simp only [List.getElem_cons_zero]); (try simp only [List.setIfInBounds_toArray]); (try simp only [List.set_cons_succ]); (try simp only [List.set_cons_zero])
  refine any_take (i := 4) (Tb.tv F0) rfl rfl (by kernel_rfl) (by kernel_rfl) (by kernel_rfl) (by kernel_rfl) (fun _ _ d _ _ h => by cases d <;> exact h) (fun u hS => exec_loadL rfl rfl hS.cells.2.1.1 hS.cells.2.1.2.1 hS.cells.2.1.2.2.1 hS.cells.2.1.2.2.2.1) hS0 ?_
  (try simp only [Act.put]); (try simp only [List.getElem_toArray]); (try simp only [List.getElem_cons_succ]); (try simp only [List.getElem_cons_zero]); (try simp only [List.setIfInBounds_toArray]); (try simp only [List.set_cons_succ]); (try simp only [List.set_cons_zero])
  refine any_take (i := 5) (.pointer (some ⟨w.heap.size + 2, 4, none⟩)) rfl rfl (by kernel_rfl) (by kernel_rfl) (by kernel_rfl) (by kernel_rfl) (fun _ _ d _ _ h => by cases d <;> exact h) (fun u hS => rfl) hS0 ?_
  (try simp only [Act.put]); (try simp only [List.getElem_toArray]); (try simp only [List.getElem_cons_succ]); (try simp only [List.getElem_cons_zero]); (try simp only [List.setIfInBounds_toArray]); (try simp only [List.set_cons_succ]); (try simp only [List.set_cons_zero])
  refine any_take (i := 6) (Tb.tv F1) rfl rfl (by kernel_rfl) (by kernel_rfl) (by kernel_rfl) (by kernel_rfl) (fun _ _ d _ _ h => by cases d <;> exact h) (fun u hS => exec_loadL rfl rfl hS.cells.2.1.2.2.2.2.1 hS.cells.2.1.2.2.2.2.2.1 hS.cells.2.1.2.2.2.2.2.2.1 hS.cells.2.1.2.2.2.2.2.2.2.1) hS0 ?_
  (try simp only [Act.put]); (try simp only [List.getElem_toArray]); (try simp only [List.getElem_cons_succ]); (try simp only [List.getElem_cons_zero]); (try simp only [List.setIfInBounds_toArray]); (try simp only [List.set_cons_succ]); (try simp only [List.set_cons_zero])
  refine any_branch [2] (by kernel_rfl) rfl fun ix hix => ?_
  simp only [List.mem_cons, List.not_mem_nil, or_false] at hix
  subst hix
  refine any_op rfl rfl fun K hK => ?_
  go_simp
  refine (tables_4 _).mono ?_
  rintro e ut ⟨rfl, rfl⟩
  refine hK _ _ (fun _ => hS0) ?_
  (try simp only [Act.put]); (try simp only [List.getElem_toArray]); (try simp only [List.getElem_cons_succ]); (try simp only [List.getElem_cons_zero]); (try simp only [List.setIfInBounds_toArray]); (try simp only [List.set_cons_succ]); (try simp only [List.set_cons_zero])
  clear hK
  refine any_branch [7] (by kernel_rfl) rfl fun ix hix => ?_
  simp only [List.mem_cons, List.not_mem_nil, or_false] at hix
  subst hix
  refine any_op rfl rfl fun K hK => ?_
  go_simp
  refine (and_any F0 F1 _).mono ?_
  rintro e u9 ⟨rfl, hb9⟩
  have h9 := hS0.step hb9
  refine hK _ _ (fun _ => h9) ?_
  (try simp only [Act.put]); (try simp only [List.getElem_toArray]); (try simp only [List.getElem_cons_succ]); (try simp only [List.getElem_cons_zero]); (try simp only [List.setIfInBounds_toArray]); (try simp only [List.set_cons_succ]); (try simp only [List.set_cons_zero])
  clear hK
  refine any_branch [8] (by kernel_rfl) rfl fun ix hix => ?_
  simp only [List.mem_cons, List.not_mem_nil, or_false] at hix
  subst hix
  refine any_op rfl rfl fun K hK => ?_
  obtain ⟨⟨r0, r1, r2, r3⟩, g0, g1, g2, g3⟩ := tfacts h9.r
  have HSf := Bx.mk (store4 (F := F0 &&& F1) h9.r)
  have HBf := Bx.mk (below4 (F := F0 &&& F1) (p := w.heap.size + 1) h9.be (by omega))
  clear hS0
  generalize hR : F0 &&& F1 = R at HSf HBf ⊢
  have HR := Bx.mk hR
  clear hR
  unfold Tb.tv
  go_simp
  refine hK _ _ (fun h => absurd rfl h) ?_
  (try simp only [Act.put]); (try simp only [List.getElem_toArray]); (try simp only [List.getElem_cons_succ]); (try simp only [List.getElem_cons_zero]); (try simp only [List.setIfInBounds_toArray]); (try simp only [List.set_cons_succ]); (try simp only [List.set_cons_zero])
  clear hK
  refine any_end (by kernel_rfl) ?_
  clear h9 hb9
  go_wp2_with fail
  clear r0 r1 r2 r3 g0 g1 g2 g3
  obtain ⟨⟨r0, r1, r2, r3⟩, _, _, _, _⟩ := tfacts HSf.out
  refine bodyPost_ret (v := Tb.tv R) (by simp [results, Try.results33, go_sem, r0, r1, r2, r3] <;> rfl) rfl ⟨?_, HBf.out⟩
  rw [← HR.out, ← HF0.out, ← HF1.out]
  unfold Ex.tabk
  simp
set_option maxHeartbeats 8000000 in
theorem table_5 (n : Nat) (ih : Tz n) (a : Int) (v : Int) (b o cap : Nat) (w : World) (x : Tr) (sx : Value) (Kx : Kid w b o x sx) (Nx : (x.on .nil).nodes ≤ n) (Px : (x.on .nil).allPlain = true) (y : Tr) (sy : Value) (Ky : Kid w b (o + 4) y sy) (Ny : (y.on .nil).nodes ≤ n) (Py : (y.on .nil).allPlain = true) :
    Calls Try.prog 33 #[.agg #[.int .i64 5, .int .i64 a, .int .i64 v, .slice (some ⟨b, o, none⟩) 2 cap]] w fun e w' => e = .returned (Tb.tv (Ex.tabk 5 v [Ex.table x, Ex.table y])) ∧ Below w.heap.size w w' := by
  have H0 := Bx.mk (TS.start w 5 a v (.slice (some ⟨b, o, none⟩) 2 cap))
  have BKx := Bx.mk Kx
  have BNx := Bx.mk Nx
  have BPx := Bx.mk Px
  have BKy := Bx.mk Ky
  have BNy := Bx.mk Ny
  have BPy := Bx.mk Py
  have IH := Bx.mk ih
  clear ih Kx Nx Px Ky Ny Py
  go_enter Try.func33, Try.ntmps33
  go_wp2_with fail
  try rw [zeros_tab]
  try rw [lc_zero]
  generalize hW : World.alloc (World.alloc (World.alloc _ _) _) _ = W0
  have H1 : Bx (TS w W0 5 a v (.slice (some ⟨b, o, none⟩) 2 cap) 0#256 0#256 0#256) := ⟨by rw [← hW]; exact H0.out⟩
  clear hW H0
  refine wp_loop_rounds 3 ?_
  rw [rounds_succ]
  have hk0 := BKx.out.below H1.out.be
  obtain ⟨k0, k1, k2, k3, kS⟩ := hk0
  obtain ⟨px, cx, rfl⟩ := kS.is
  have hA := H1.out.alloc (.cells #[.int .i64 x.k, .int .i64 x.a, .int .i64 x.v, .slice px x.kids.len cx] 36)
  have hI := IH.out x _ _ _ BNx.out BPx.out (kS.alloc (.cells #[.int .i64 x.k, .int .i64 x.a, .int .i64 x.v, .slice px x.kids.len cx] 36))
  have HA := Bx.mk hA
  have HI := Bx.mk hI
  clear hA hI kS
  unfold Ev at HI
  go_wp2_with fail
  refine HI.out.mono ?_
  rintro e u0 ⟨rfl, hb0⟩
  have hT := HA.out.step hb0
  clear k0 k1 k2 k3 HI
  obtain ⟨_, ⟨q0, q1, q2, q3, q4, q5, q6, q7, q8, q9, qa, qb⟩, f0, f1, f2, f3, f4, f5, f6, f7, f8, f9, fa, fb⟩ := hT.cells
  have HT := Bx.mk hT
  clear hT hb0 HA
  generalize hF0 : Ex.table x = F0
  have HF0 := Bx.mk hF0
  clear hF0
  unfold Tb.tv
  go_wp2_with fail
  clear q0 q1 q2 q3 q4 q5 q6 q7 q8 q9 qa qb f0 f1 f2 f3 f4 f5 f6 f7 f8 f9 fa fb
  have H2 := Bx.mk (HT.out.put0 F0)
  rw [rounds_succ]
  have hk1 := BKy.out.below H2.out.be
  obtain ⟨k0, k1, k2, k3, kS⟩ := hk1
  obtain ⟨py, cy, rfl⟩ := kS.is
  have hA := H2.out.alloc (.cells #[.int .i64 y.k, .int .i64 y.a, .int .i64 y.v, .slice py y.kids.len cy] 36)
  have hI := IH.out y _ _ _ BNy.out BPy.out (kS.alloc (.cells #[.int .i64 y.k, .int .i64 y.a, .int .i64 y.v, .slice py y.kids.len cy] 36))
  have HA := Bx.mk hA
  have HI := Bx.mk hI
  clear hA hI kS
  unfold Ev at HI
  go_wp2_with fail
  refine HI.out.mono ?_
  rintro e u1 ⟨rfl, hb1⟩
  have hT := HA.out.step hb1
  clear k0 k1 k2 k3 HI
  obtain ⟨_, ⟨q0, q1, q2, q3, q4, q5, q6, q7, q8, q9, qa, qb⟩, f0, f1, f2, f3, f4, f5, f6, f7, f8, f9, fa, fb⟩ := hT.cells
  have HT := Bx.mk hT
  clear hT hb1 HA
  generalize hF1 : Ex.table y = F1
  have HF1 := Bx.mk hF1
  clear hF1
  unfold Tb.tv
  go_wp2_with fail
  clear q0 q1 q2 q3 q4 q5 q6 q7 q8 q9 qa qb f0 f1 f2 f3 f4 f5 f6 f7 f8 f9 fa fb
  have H3 := Bx.mk (HT.out.put1 F1)
  obtain ⟨⟨e0, e2, e3⟩, ⟨q0, q1, q2, q3, q4, q5, q6, q7, q8, q9, qa, qb⟩, f0, f1, f2, f3, f4, f5, f6, f7, f8, f9, fa, fb⟩ := H3.out.cells
  rw [rounds_succ]
  go_wp2_with fail
  clear e0 e2 e3 q0 q1 q2 q3 q4 q5 q6 q7 q8 q9 qa qb f0 f1 f2 f3 f4 f5 f6 f7 f8 f9 fa fb
  refine region_any 8 (fun u => TS w u 5 a v (.slice (some ⟨b, o, none⟩) 2 cap) F0 F1 0#256) (by kernel_rfl) ?_
  generalize hu : World.drew _ = u0
  have hS0 : TS w u0 5 a v (.slice (some ⟨b, o, none⟩) 2 cap) F0 F1 0#256 := by rw [← hu]; exact H3.out.step ((Below.refl _ _).drew)
  clear hu
  refine any_take (i := 0) (.pointer (some ⟨w.heap.size, 0, none⟩)) rfl rfl (by kernel_rfl) (by kernel_rfl) (by kernel_rfl) (by kernel_rfl) (fun _ _ d _ _ h => by cases d <;> exact h) (fun u hS => rfl) hS0 ?_
  (try simp only [Act.put]); (try simp only [List.getElem_toArray]); (try simp only [List.getElem_cons_succ]); (try simp only [List.getElem_cons_zero]); (try simp only [List.setIfInBounds_toArray]); (try simp only [List.set_cons_succ]); (try simp only [List.set_cons_zero])
  refine any_take (i := 1) (.int .i64 5) rfl rfl (by kernel_rfl) (by kernel_rfl) (by kernel_rfl) (by kernel_rfl) (fun _ _ d _ _ h => by cases d <;> exact h) (fun u hS => exec_loadI rfl rfl hS.cells.1.1) hS0 ?_
  (try simp only [Act.put]); (try simp only [List.getElem_toArray]); (try simp only [List.getElem_cons_succ]); (try simp only [List.getElem_cons_zero]); (try simp only [List.setIfInBounds_toArray]); (try simp only [List.set_cons_succ]); (try simp only [List.set_cons_zero])
  refine any_take (i := 3) (.pointer (some ⟨w.heap.size + 2, 0, none⟩)) rfl rfl (by kernel_rfl) (by kernel_rfl) (by kernel_rfl) (by kernel_rfl) (fun _ _ d _ _ h => by cases d <;> exact h) (fun u hS => rfl) hS0 ?_
  (try simp only [Act.put]); (try simp only [List.getElem_toArray]); (try simp only [List.getElem_cons_succ]); (try simp only [List.getElem_cons_zero]); (try simp only [List.setIfInBounds_toArray]); (try simp only [List.set_cons_succ]); (try simp only [List.set_cons_zero])
  refine any_take (i := 4) (Tb.tv F0) rfl rfl (by kernel_rfl) (by kernel_rfl) (by kernel_rfl) (by kernel_rfl) (fun _ _ d _ _ h => by cases d <;> exact h) (fun u hS => exec_loadL rfl rfl hS.cells.2.1.1 hS.cells.2.1.2.1 hS.cells.2.1.2.2.1 hS.cells.2.1.2.2.2.1) hS0 ?_
  (try simp only [Act.put]); (try simp only [List.getElem_toArray]); (try simp only [List.getElem_cons_succ]); (try simp only [List.getElem_cons_zero]); (try simp only [List.setIfInBounds_toArray]); (try simp only [List.set_cons_succ]); (try simp only [List.set_cons_zero])
  refine any_take (i := 5) (.pointer (some ⟨w.heap.size + 2, 4, none⟩)) rfl rfl (by kernel_rfl) (by kernel_rfl) (by kernel_rfl) (by kernel_rfl) (fun _ _ d _ _ h => by cases d <;> exact h) (fun u hS => rfl) hS0 ?_
  (try simp only [Act.put]); (try simp only [List.getElem_toArray]); (try simp only [List.getElem_cons_succ]); (try simp only [List.getElem_cons_zero]); (try simp only [List.setIfInBounds_toArray]); (try simp only [List.set_cons_succ]); (try simp only [List.set_cons_zero])
  refine any_take (i := 6) (Tb.tv F1) rfl rfl (by kernel_rfl) (by kernel_rfl) (by kernel_rfl) (by kernel_rfl) (fun _ _ d _ _ h => by cases d <;> exact h) (fun u hS => exec_loadL rfl rfl hS.cells.2.1.2.2.2.2.1 hS.cells.2.1.2.2.2.2.2.1 hS.cells.2.1.2.2.2.2.2.2.1 hS.cells.2.1.2.2.2.2.2.2.2.1) hS0 ?_
  (try simp only [Act.put]); (try simp only [List.getElem_toArray]); (try simp only [List.getElem_cons_succ]); (try simp only [List.getElem_cons_zero]); (try simp only [List.setIfInBounds_toArray]); (try simp only [List.set_cons_succ]); (try simp only [List.set_cons_zero])
  refine any_branch [2] (by kernel_rfl) rfl fun ix hix => ?_
  simp only [List.mem_cons, List.not_mem_nil, or_false] at hix
  subst hix
  refine any_op rfl rfl fun K hK => ?_
  go_simp
  refine (tables_5 _).mono ?_
  rintro e ut ⟨rfl, rfl⟩
  refine hK _ _ (fun _ => hS0) ?_
  (try simp only [Act.put]); (try simp only [List.getElem_toArray]); (try simp only [List.getElem_cons_succ]); (try simp only [List.getElem_cons_zero]); (try simp only [List.setIfInBounds_toArray]); (try simp only [List.set_cons_succ]); (try simp only [List.set_cons_zero])
  clear hK
  refine any_branch [7] (by kernel_rfl) rfl fun ix hix => ?_
  simp only [List.mem_cons, List.not_mem_nil, or_false] at hix
  subst hix
  refine any_op rfl rfl fun K hK => ?_
  go_simp
  refine (or_any F0 F1 _).mono ?_
  rintro e u9 ⟨rfl, hb9⟩
  have h9 := hS0.step hb9
  refine hK _ _ (fun _ => h9) ?_
  (try simp only [Act.put]); (try simp only [List.getElem_toArray]); (try simp only [List.getElem_cons_succ]); (try simp only [List.getElem_cons_zero]); (try simp only [List.setIfInBounds_toArray]); (try simp only [List.set_cons_succ]); (try simp only [List.set_cons_zero])
  clear hK
  refine any_branch [8] (by kernel_rfl) rfl fun ix hix => ?_
  simp only [List.mem_cons, List.not_mem_nil, or_false] at hix
  subst hix
  refine any_op rfl rfl fun K hK => ?_
  obtain ⟨⟨r0, r1, r2, r3⟩, g0, g1, g2, g3⟩ := tfacts h9.r
  have HSf := Bx.mk (store4 (F := F0 ||| F1) h9.r)
  have HBf := Bx.mk (below4 (F := F0 ||| F1) (p := w.heap.size + 1) h9.be (by omega))
  clear hS0
  generalize hR : F0 ||| F1 = R at HSf HBf ⊢
  have HR := Bx.mk hR
  clear hR
  unfold Tb.tv
  go_simp
  refine hK _ _ (fun h => absurd rfl h) ?_
  (try simp only [Act.put]); (try simp only [List.getElem_toArray]); (try simp only [List.getElem_cons_succ]); (try simp only [List.getElem_cons_zero]); (try simp only [List.setIfInBounds_toArray]); (try simp only [List.set_cons_succ]); (try simp only [List.set_cons_zero])
  clear hK
  refine any_end (by kernel_rfl) ?_
  clear h9 hb9
  go_wp2_with fail
  clear r0 r1 r2 r3 g0 g1 g2 g3
  obtain ⟨⟨r0, r1, r2, r3⟩, _, _, _, _⟩ := tfacts HSf.out
  refine bodyPost_ret (v := Tb.tv R) (by simp [results, Try.results33, go_sem, r0, r1, r2, r3] <;> rfl) rfl ⟨?_, HBf.out⟩
  rw [← HR.out, ← HF0.out, ← HF1.out]
  unfold Ex.tabk
  simp
set_option maxHeartbeats 8000000 in
theorem table_6 (n : Nat) (ih : Tz n) (a : Int) (v : Int) (b o cap : Nat) (w : World) (x : Tr) (sx : Value) (Kx : Kid w b o x sx) (Nx : (x.on .nil).nodes ≤ n) (Px : (x.on .nil).allPlain = true) (y : Tr) (sy : Value) (Ky : Kid w b (o + 4) y sy) (Ny : (y.on .nil).nodes ≤ n) (Py : (y.on .nil).allPlain = true) :
    Calls Try.prog 33 #[.agg #[.int .i64 6, .int .i64 a, .int .i64 v, .slice (some ⟨b, o, none⟩) 2 cap]] w fun e w' => e = .returned (Tb.tv (Ex.tabk 6 v [Ex.table x, Ex.table y])) ∧ Below w.heap.size w w' := by
  have H0 := Bx.mk (TS.start w 6 a v (.slice (some ⟨b, o, none⟩) 2 cap))
  have BKx := Bx.mk Kx
  have BNx := Bx.mk Nx
  have BPx := Bx.mk Px
  have BKy := Bx.mk Ky
  have BNy := Bx.mk Ny
  have BPy := Bx.mk Py
  have IH := Bx.mk ih
  clear ih Kx Nx Px Ky Ny Py
  go_enter Try.func33, Try.ntmps33
  go_wp2_with fail
  try rw [zeros_tab]
  try rw [lc_zero]
  generalize hW : World.alloc (World.alloc (World.alloc _ _) _) _ = W0
  have H1 : Bx (TS w W0 6 a v (.slice (some ⟨b, o, none⟩) 2 cap) 0#256 0#256 0#256) := ⟨by rw [← hW]; exact H0.out⟩
  clear hW H0
  refine wp_loop_rounds 3 ?_
  rw [rounds_succ]
  have hk0 := BKx.out.below H1.out.be
  obtain ⟨k0, k1, k2, k3, kS⟩ := hk0
  obtain ⟨px, cx, rfl⟩ := kS.is
  have hA := H1.out.alloc (.cells #[.int .i64 x.k, .int .i64 x.a, .int .i64 x.v, .slice px x.kids.len cx] 36)
  have hI := IH.out x _ _ _ BNx.out BPx.out (kS.alloc (.cells #[.int .i64 x.k, .int .i64 x.a, .int .i64 x.v, .slice px x.kids.len cx] 36))
  have HA := Bx.mk hA
  have HI := Bx.mk hI
  clear hA hI kS
  unfold Ev at HI
  go_wp2_with fail
  refine HI.out.mono ?_
  rintro e u0 ⟨rfl, hb0⟩
  have hT := HA.out.step hb0
  clear k0 k1 k2 k3 HI
  obtain ⟨_, ⟨q0, q1, q2, q3, q4, q5, q6, q7, q8, q9, qa, qb⟩, f0, f1, f2, f3, f4, f5, f6, f7, f8, f9, fa, fb⟩ := hT.cells
  have HT := Bx.mk hT
  clear hT hb0 HA
  generalize hF0 : Ex.table x = F0
  have HF0 := Bx.mk hF0
  clear hF0
  unfold Tb.tv
  go_wp2_with fail
  clear q0 q1 q2 q3 q4 q5 q6 q7 q8 q9 qa qb f0 f1 f2 f3 f4 f5 f6 f7 f8 f9 fa fb
  have H2 := Bx.mk (HT.out.put0 F0)
  rw [rounds_succ]
  have hk1 := BKy.out.below H2.out.be
  obtain ⟨k0, k1, k2, k3, kS⟩ := hk1
  obtain ⟨py, cy, rfl⟩ := kS.is
  have hA := H2.out.alloc (.cells #[.int .i64 y.k, .int .i64 y.a, .int .i64 y.v, .slice py y.kids.len cy] 36)
  have hI := IH.out y _ _ _ BNy.out BPy.out (kS.alloc (.cells #[.int .i64 y.k, .int .i64 y.a, .int .i64 y.v, .slice py y.kids.len cy] 36))
  have HA := Bx.mk hA
  have HI := Bx.mk hI
  clear hA hI kS
  unfold Ev at HI
  go_wp2_with fail
  refine HI.out.mono ?_
  rintro e u1 ⟨rfl, hb1⟩
  have hT := HA.out.step hb1
  clear k0 k1 k2 k3 HI
  obtain ⟨_, ⟨q0, q1, q2, q3, q4, q5, q6, q7, q8, q9, qa, qb⟩, f0, f1, f2, f3, f4, f5, f6, f7, f8, f9, fa, fb⟩ := hT.cells
  have HT := Bx.mk hT
  clear hT hb1 HA
  generalize hF1 : Ex.table y = F1
  have HF1 := Bx.mk hF1
  clear hF1
  unfold Tb.tv
  go_wp2_with fail
  clear q0 q1 q2 q3 q4 q5 q6 q7 q8 q9 qa qb f0 f1 f2 f3 f4 f5 f6 f7 f8 f9 fa fb
  have H3 := Bx.mk (HT.out.put1 F1)
  obtain ⟨⟨e0, e2, e3⟩, ⟨q0, q1, q2, q3, q4, q5, q6, q7, q8, q9, qa, qb⟩, f0, f1, f2, f3, f4, f5, f6, f7, f8, f9, fa, fb⟩ := H3.out.cells
  rw [rounds_succ]
  go_wp2_with fail
  clear e0 e2 e3 q0 q1 q2 q3 q4 q5 q6 q7 q8 q9 qa qb f0 f1 f2 f3 f4 f5 f6 f7 f8 f9 fa fb
  refine region_any 8 (fun u => TS w u 6 a v (.slice (some ⟨b, o, none⟩) 2 cap) F0 F1 0#256) (by kernel_rfl) ?_
  generalize hu : World.drew _ = u0
  have hS0 : TS w u0 6 a v (.slice (some ⟨b, o, none⟩) 2 cap) F0 F1 0#256 := by rw [← hu]; exact H3.out.step ((Below.refl _ _).drew)
  clear hu
  refine any_take (i := 0) (.pointer (some ⟨w.heap.size, 0, none⟩)) rfl rfl (by kernel_rfl) (by kernel_rfl) (by kernel_rfl) (by kernel_rfl) (fun _ _ d _ _ h => by cases d <;> exact h) (fun u hS => rfl) hS0 ?_
  (try simp only [Act.put]); (try simp only [List.getElem_toArray]); (try simp only [List.getElem_cons_succ]); (try simp only [List.getElem_cons_zero]); (try simp only [List.setIfInBounds_toArray]); (try simp only [List.set_cons_succ]); (try simp only [List.set_cons_zero])
  refine any_take (i := 1) (.int .i64 6) rfl rfl (by kernel_rfl) (by kernel_rfl) (by kernel_rfl) (by kernel_rfl) (fun _ _ d _ _ h => by cases d <;> exact h) (fun u hS => exec_loadI rfl rfl hS.cells.1.1) hS0 ?_
  (try simp only [Act.put]); (try simp only [List.getElem_toArray]); (try simp only [List.getElem_cons_succ]); (try simp only [List.getElem_cons_zero]); (try simp only [List.setIfInBounds_toArray]); (try simp only [List.set_cons_succ]); (try simp only [List.set_cons_zero])
  refine any_take (i := 3) (.pointer (some ⟨w.heap.size + 2, 0, none⟩)) rfl rfl (by kernel_rfl) (by kernel_rfl) (by kernel_rfl) (by kernel_rfl) (fun _ _ d _ _ h => by cases d <;> exact h) (fun u hS => rfl) hS0 ?_
  (try simp only [Act.put]); (try simp only [List.getElem_toArray]); (try simp only [List.getElem_cons_succ]); (try simp only [List.getElem_cons_zero]); (try simp only [List.setIfInBounds_toArray]); (try simp only [List.set_cons_succ]); (try simp only [List.set_cons_zero])
  refine any_take (i := 4) (Tb.tv F0) rfl rfl (by kernel_rfl) (by kernel_rfl) (by kernel_rfl) (by kernel_rfl) (fun _ _ d _ _ h => by cases d <;> exact h) (fun u hS => exec_loadL rfl rfl hS.cells.2.1.1 hS.cells.2.1.2.1 hS.cells.2.1.2.2.1 hS.cells.2.1.2.2.2.1) hS0 ?_
  (try simp only [Act.put]); (try simp only [List.getElem_toArray]); (try simp only [List.getElem_cons_succ]); (try simp only [List.getElem_cons_zero]); (try simp only [List.setIfInBounds_toArray]); (try simp only [List.set_cons_succ]); (try simp only [List.set_cons_zero])
  refine any_take (i := 5) (.pointer (some ⟨w.heap.size + 2, 4, none⟩)) rfl rfl (by kernel_rfl) (by kernel_rfl) (by kernel_rfl) (by kernel_rfl) (fun _ _ d _ _ h => by cases d <;> exact h) (fun u hS => rfl) hS0 ?_
  (try simp only [Act.put]); (try simp only [List.getElem_toArray]); (try simp only [List.getElem_cons_succ]); (try simp only [List.getElem_cons_zero]); (try simp only [List.setIfInBounds_toArray]); (try simp only [List.set_cons_succ]); (try simp only [List.set_cons_zero])
  refine any_take (i := 6) (Tb.tv F1) rfl rfl (by kernel_rfl) (by kernel_rfl) (by kernel_rfl) (by kernel_rfl) (fun _ _ d _ _ h => by cases d <;> exact h) (fun u hS => exec_loadL rfl rfl hS.cells.2.1.2.2.2.2.1 hS.cells.2.1.2.2.2.2.2.1 hS.cells.2.1.2.2.2.2.2.2.1 hS.cells.2.1.2.2.2.2.2.2.2.1) hS0 ?_
  (try simp only [Act.put]); (try simp only [List.getElem_toArray]); (try simp only [List.getElem_cons_succ]); (try simp only [List.getElem_cons_zero]); (try simp only [List.setIfInBounds_toArray]); (try simp only [List.set_cons_succ]); (try simp only [List.set_cons_zero])
  refine any_branch [2] (by kernel_rfl) rfl fun ix hix => ?_
  simp only [List.mem_cons, List.not_mem_nil, or_false] at hix
  subst hix
  refine any_op rfl rfl fun K hK => ?_
  go_simp
  refine (tables_6 _).mono ?_
  rintro e ut ⟨rfl, rfl⟩
  refine hK _ _ (fun _ => hS0) ?_
  (try simp only [Act.put]); (try simp only [List.getElem_toArray]); (try simp only [List.getElem_cons_succ]); (try simp only [List.getElem_cons_zero]); (try simp only [List.setIfInBounds_toArray]); (try simp only [List.set_cons_succ]); (try simp only [List.set_cons_zero])
  clear hK
  refine any_branch [7] (by kernel_rfl) rfl fun ix hix => ?_
  simp only [List.mem_cons, List.not_mem_nil, or_false] at hix
  subst hix
  refine any_op rfl rfl fun K hK => ?_
  go_simp
  refine (xor_any F0 F1 _).mono ?_
  rintro e u9 ⟨rfl, hb9⟩
  have h9 := hS0.step hb9
  refine hK _ _ (fun _ => h9) ?_
  (try simp only [Act.put]); (try simp only [List.getElem_toArray]); (try simp only [List.getElem_cons_succ]); (try simp only [List.getElem_cons_zero]); (try simp only [List.setIfInBounds_toArray]); (try simp only [List.set_cons_succ]); (try simp only [List.set_cons_zero])
  clear hK
  refine any_branch [8] (by kernel_rfl) rfl fun ix hix => ?_
  simp only [List.mem_cons, List.not_mem_nil, or_false] at hix
  subst hix
  refine any_op rfl rfl fun K hK => ?_
  obtain ⟨⟨r0, r1, r2, r3⟩, g0, g1, g2, g3⟩ := tfacts h9.r
  have HSf := Bx.mk (store4 (F := F0 ^^^ F1) h9.r)
  have HBf := Bx.mk (below4 (F := F0 ^^^ F1) (p := w.heap.size + 1) h9.be (by omega))
  clear hS0
  generalize hR : F0 ^^^ F1 = R at HSf HBf ⊢
  have HR := Bx.mk hR
  clear hR
  unfold Tb.tv
  go_simp
  refine hK _ _ (fun h => absurd rfl h) ?_
  (try simp only [Act.put]); (try simp only [List.getElem_toArray]); (try simp only [List.getElem_cons_succ]); (try simp only [List.getElem_cons_zero]); (try simp only [List.setIfInBounds_toArray]); (try simp only [List.set_cons_succ]); (try simp only [List.set_cons_zero])
  clear hK
  refine any_end (by kernel_rfl) ?_
  clear h9 hb9
  go_wp2_with fail
  clear r0 r1 r2 r3 g0 g1 g2 g3
  obtain ⟨⟨r0, r1, r2, r3⟩, _, _, _, _⟩ := tfacts HSf.out
  refine bodyPost_ret (v := Tb.tv R) (by simp [results, Try.results33, go_sem, r0, r1, r2, r3] <;> rfl) rfl ⟨?_, HBf.out⟩
  rw [← HR.out, ← HF0.out, ← HF1.out]
  unfold Ex.tabk
  simp
set_option maxHeartbeats 8000000 in
theorem table_7 (n : Nat) (ih : Tz n) (a : Int) (v : Int) (b o cap : Nat) (w : World) (x : Tr) (sx : Value) (Kx : Kid w b o x sx) (Nx : (x.on .nil).nodes ≤ n) (Px : (x.on .nil).allPlain = true) (y : Tr) (sy : Value) (Ky : Kid w b (o + 4) y sy) (Ny : (y.on .nil).nodes ≤ n) (Py : (y.on .nil).allPlain = true) :
    Calls Try.prog 33 #[.agg #[.int .i64 7, .int .i64 a, .int .i64 v, .slice (some ⟨b, o, none⟩) 2 cap]] w fun e w' => e = .returned (Tb.tv (Ex.tabk 7 v [Ex.table x, Ex.table y])) ∧ Below w.heap.size w w' := by
  have H0 := Bx.mk (TS.start w 7 a v (.slice (some ⟨b, o, none⟩) 2 cap))
  have BKx := Bx.mk Kx
  have BNx := Bx.mk Nx
  have BPx := Bx.mk Px
  have BKy := Bx.mk Ky
  have BNy := Bx.mk Ny
  have BPy := Bx.mk Py
  have IH := Bx.mk ih
  clear ih Kx Nx Px Ky Ny Py
  go_enter Try.func33, Try.ntmps33
  go_wp2_with fail
  try rw [zeros_tab]
  try rw [lc_zero]
  generalize hW : World.alloc (World.alloc (World.alloc _ _) _) _ = W0
  have H1 : Bx (TS w W0 7 a v (.slice (some ⟨b, o, none⟩) 2 cap) 0#256 0#256 0#256) := ⟨by rw [← hW]; exact H0.out⟩
  clear hW H0
  refine wp_loop_rounds 3 ?_
  rw [rounds_succ]
  have hk0 := BKx.out.below H1.out.be
  obtain ⟨k0, k1, k2, k3, kS⟩ := hk0
  obtain ⟨px, cx, rfl⟩ := kS.is
  have hA := H1.out.alloc (.cells #[.int .i64 x.k, .int .i64 x.a, .int .i64 x.v, .slice px x.kids.len cx] 36)
  have hI := IH.out x _ _ _ BNx.out BPx.out (kS.alloc (.cells #[.int .i64 x.k, .int .i64 x.a, .int .i64 x.v, .slice px x.kids.len cx] 36))
  have HA := Bx.mk hA
  have HI := Bx.mk hI
  clear hA hI kS
  unfold Ev at HI
  go_wp2_with fail
  refine HI.out.mono ?_
  rintro e u0 ⟨rfl, hb0⟩
  have hT := HA.out.step hb0
  clear k0 k1 k2 k3 HI
  obtain ⟨_, ⟨q0, q1, q2, q3, q4, q5, q6, q7, q8, q9, qa, qb⟩, f0, f1, f2, f3, f4, f5, f6, f7, f8, f9, fa, fb⟩ := hT.cells
  have HT := Bx.mk hT
  clear hT hb0 HA
  generalize hF0 : Ex.table x = F0
  have HF0 := Bx.mk hF0
  clear hF0
  unfold Tb.tv
  go_wp2_with fail
  clear q0 q1 q2 q3 q4 q5 q6 q7 q8 q9 qa qb f0 f1 f2 f3 f4 f5 f6 f7 f8 f9 fa fb
  have H2 := Bx.mk (HT.out.put0 F0)
  rw [rounds_succ]
  have hk1 := BKy.out.below H2.out.be
  obtain ⟨k0, k1, k2, k3, kS⟩ := hk1
  obtain ⟨py, cy, rfl⟩ := kS.is
  have hA := H2.out.alloc (.cells #[.int .i64 y.k, .int .i64 y.a, .int .i64 y.v, .slice py y.kids.len cy] 36)
  have hI := IH.out y _ _ _ BNy.out BPy.out (kS.alloc (.cells #[.int .i64 y.k, .int .i64 y.a, .int .i64 y.v, .slice py y.kids.len cy] 36))
  have HA := Bx.mk hA
  have HI := Bx.mk hI
  clear hA hI kS
  unfold Ev at HI
  go_wp2_with fail
  refine HI.out.mono ?_
  rintro e u1 ⟨rfl, hb1⟩
  have hT := HA.out.step hb1
  clear k0 k1 k2 k3 HI
  obtain ⟨_, ⟨q0, q1, q2, q3, q4, q5, q6, q7, q8, q9, qa, qb⟩, f0, f1, f2, f3, f4, f5, f6, f7, f8, f9, fa, fb⟩ := hT.cells
  have HT := Bx.mk hT
  clear hT hb1 HA
  generalize hF1 : Ex.table y = F1
  have HF1 := Bx.mk hF1
  clear hF1
  unfold Tb.tv
  go_wp2_with fail
  clear q0 q1 q2 q3 q4 q5 q6 q7 q8 q9 qa qb f0 f1 f2 f3 f4 f5 f6 f7 f8 f9 fa fb
  have H3 := Bx.mk (HT.out.put1 F1)
  obtain ⟨⟨e0, e2, e3⟩, ⟨q0, q1, q2, q3, q4, q5, q6, q7, q8, q9, qa, qb⟩, f0, f1, f2, f3, f4, f5, f6, f7, f8, f9, fa, fb⟩ := H3.out.cells
  rw [rounds_succ]
  go_wp2_with fail
  clear e0 e2 e3 q0 q1 q2 q3 q4 q5 q6 q7 q8 q9 qa qb f0 f1 f2 f3 f4 f5 f6 f7 f8 f9 fa fb
  refine region_any 8 (fun u => TS w u 7 a v (.slice (some ⟨b, o, none⟩) 2 cap) F0 F1 0#256) (by kernel_rfl) ?_
  generalize hu : World.drew _ = u0
  have hS0 : TS w u0 7 a v (.slice (some ⟨b, o, none⟩) 2 cap) F0 F1 0#256 := by rw [← hu]; exact H3.out.step ((Below.refl _ _).drew)
  clear hu
  refine any_take (i := 0) (.pointer (some ⟨w.heap.size, 0, none⟩)) rfl rfl (by kernel_rfl) (by kernel_rfl) (by kernel_rfl) (by kernel_rfl) (fun _ _ d _ _ h => by cases d <;> exact h) (fun u hS => rfl) hS0 ?_
  (try simp only [Act.put]); (try simp only [List.getElem_toArray]); (try simp only [List.getElem_cons_succ]); (try simp only [List.getElem_cons_zero]); (try simp only [List.setIfInBounds_toArray]); (try simp only [List.set_cons_succ]); (try simp only [List.set_cons_zero])
  refine any_take (i := 1) (.int .i64 7) rfl rfl (by kernel_rfl) (by kernel_rfl) (by kernel_rfl) (by kernel_rfl) (fun _ _ d _ _ h => by cases d <;> exact h) (fun u hS => exec_loadI rfl rfl hS.cells.1.1) hS0 ?_
  (try simp only [Act.put]); (try simp only [List.getElem_toArray]); (try simp only [List.getElem_cons_succ]); (try simp only [List.getElem_cons_zero]); (try simp only [List.setIfInBounds_toArray]); (try simp only [List.set_cons_succ]); (try simp only [List.set_cons_zero])
  refine any_take (i := 3) (.pointer (some ⟨w.heap.size + 2, 0, none⟩)) rfl rfl (by kernel_rfl) (by kernel_rfl) (by kernel_rfl) (by kernel_rfl) (fun _ _ d _ _ h => by cases d <;> exact h) (fun u hS => rfl) hS0 ?_
  (try simp only [Act.put]); (try simp only [List.getElem_toArray]); (try simp only [List.getElem_cons_succ]); (try simp only [List.getElem_cons_zero]); (try simp only [List.setIfInBounds_toArray]); (try simp only [List.set_cons_succ]); (try simp only [List.set_cons_zero])
  refine any_take (i := 4) (Tb.tv F0) rfl rfl (by kernel_rfl) (by kernel_rfl) (by kernel_rfl) (by kernel_rfl) (fun _ _ d _ _ h => by cases d <;> exact h) (fun u hS => exec_loadL rfl rfl hS.cells.2.1.1 hS.cells.2.1.2.1 hS.cells.2.1.2.2.1 hS.cells.2.1.2.2.2.1) hS0 ?_
  (try simp only [Act.put]); (try simp only [List.getElem_toArray]); (try simp only [List.getElem_cons_succ]); (try simp only [List.getElem_cons_zero]); (try simp only [List.setIfInBounds_toArray]); (try simp only [List.set_cons_succ]); (try simp only [List.set_cons_zero])
  refine any_take (i := 5) (.pointer (some ⟨w.heap.size + 2, 4, none⟩)) rfl rfl (by kernel_rfl) (by kernel_rfl) (by kernel_rfl) (by kernel_rfl) (fun _ _ d _ _ h => by cases d <;> exact h) (fun u hS => rfl) hS0 ?_
  (try simp only [Act.put]); (try simp only [List.getElem_toArray]); (try simp only [List.getElem_cons_succ]); (try simp only [List.getElem_cons_zero]); (try simp only [List.setIfInBounds_toArray]); (try simp only [List.set_cons_succ]); (try simp only [List.set_cons_zero])
  refine any_take (i := 6) (Tb.tv F1) rfl rfl (by kernel_rfl) (by kernel_rfl) (by kernel_rfl) (by kernel_rfl) (fun _ _ d _ _ h => by cases d <;> exact h) (fun u hS => exec_loadL rfl rfl hS.cells.2.1.2.2.2.2.1 hS.cells.2.1.2.2.2.2.2.1 hS.cells.2.1.2.2.2.2.2.2.1 hS.cells.2.1.2.2.2.2.2.2.2.1) hS0 ?_
  (try simp only [Act.put]); (try simp only [List.getElem_toArray]); (try simp only [List.getElem_cons_succ]); (try simp only [List.getElem_cons_zero]); (try simp only [List.setIfInBounds_toArray]); (try simp only [List.set_cons_succ]); (try simp only [List.set_cons_zero])
  refine any_branch [2] (by kernel_rfl) rfl fun ix hix => ?_
  simp only [List.mem_cons, List.not_mem_nil, or_false] at hix
  subst hix
  refine any_op rfl rfl fun K hK => ?_
  go_simp
  refine (tables_7 _).mono ?_
  rintro e ut ⟨rfl, rfl⟩
  refine hK _ _ (fun _ => hS0) ?_
  (try simp only [Act.put]); (try simp only [List.getElem_toArray]); (try simp only [List.getElem_cons_succ]); (try simp only [List.getElem_cons_zero]); (try simp only [List.setIfInBounds_toArray]); (try simp only [List.set_cons_succ]); (try simp only [List.set_cons_zero])
  clear hK
  refine any_branch [7] (by kernel_rfl) rfl fun ix hix => ?_
  simp only [List.mem_cons, List.not_mem_nil, or_false] at hix
  subst hix
  refine any_op rfl rfl fun K hK => ?_
  go_simp
  refine (tables1_any F0 F1 _).mono ?_
  rintro e u9 ⟨rfl, hb9⟩
  have h9 := hS0.step hb9
  refine hK _ _ (fun _ => h9) ?_
  (try simp only [Act.put]); (try simp only [List.getElem_toArray]); (try simp only [List.getElem_cons_succ]); (try simp only [List.getElem_cons_zero]); (try simp only [List.setIfInBounds_toArray]); (try simp only [List.set_cons_succ]); (try simp only [List.set_cons_zero])
  clear hK
  refine any_branch [8] (by kernel_rfl) rfl fun ix hix => ?_
  simp only [List.mem_cons, List.not_mem_nil, or_false] at hix
  subst hix
  refine any_op rfl rfl fun K hK => ?_
  obtain ⟨⟨r0, r1, r2, r3⟩, g0, g1, g2, g3⟩ := tfacts h9.r
  have HSf := Bx.mk (store4 (F := (~~~F0) ||| F1) h9.r)
  have HBf := Bx.mk (below4 (F := (~~~F0) ||| F1) (p := w.heap.size + 1) h9.be (by omega))
  clear hS0
  generalize hR : (~~~F0) ||| F1 = R at HSf HBf ⊢
  have HR := Bx.mk hR
  clear hR
  unfold Tb.tv
  go_simp
  refine hK _ _ (fun h => absurd rfl h) ?_
  (try simp only [Act.put]); (try simp only [List.getElem_toArray]); (try simp only [List.getElem_cons_succ]); (try simp only [List.getElem_cons_zero]); (try simp only [List.setIfInBounds_toArray]); (try simp only [List.set_cons_succ]); (try simp only [List.set_cons_zero])
  clear hK
  refine any_end (by kernel_rfl) ?_
  clear h9 hb9
  go_wp2_with fail
  clear r0 r1 r2 r3 g0 g1 g2 g3
  obtain ⟨⟨r0, r1, r2, r3⟩, _, _, _, _⟩ := tfacts HSf.out
  refine bodyPost_ret (v := Tb.tv R) (by simp [results, Try.results33, go_sem, r0, r1, r2, r3] <;> rfl) rfl ⟨?_, HBf.out⟩
  rw [← HR.out, ← HF0.out, ← HF1.out]
  unfold Ex.tabk
  simp
set_option maxHeartbeats 8000000 in
theorem table_8 (n : Nat) (ih : Tz n) (a : Int) (v : Int) (b o cap : Nat) (w : World) (x : Tr) (sx : Value) (Kx : Kid w b o x sx) (Nx : (x.on .nil).nodes ≤ n) (Px : (x.on .nil).allPlain = true) (y : Tr) (sy : Value) (Ky : Kid w b (o + 4) y sy) (Ny : (y.on .nil).nodes ≤ n) (Py : (y.on .nil).allPlain = true) :
    Calls Try.prog 33 #[.agg #[.int .i64 8, .int .i64 a, .int .i64 v, .slice (some ⟨b, o, none⟩) 2 cap]] w fun e w' => e = .returned (Tb.tv (Ex.tabk 8 v [Ex.table x, Ex.table y])) ∧ Below w.heap.size w w' := by
  have H0 := Bx.mk (TS.start w 8 a v (.slice (some ⟨b, o, none⟩) 2 cap))
  have BKx := Bx.mk Kx
  have BNx := Bx.mk Nx
  have BPx := Bx.mk Px
  have BKy := Bx.mk Ky
  have BNy := Bx.mk Ny
  have BPy := Bx.mk Py
  have IH := Bx.mk ih
  clear ih Kx Nx Px Ky Ny Py
  go_enter Try.func33, Try.ntmps33
  go_wp2_with fail
  try rw [zeros_tab]
  try rw [lc_zero]
  generalize hW : World.alloc (World.alloc (World.alloc _ _) _) _ = W0
  have H1 : Bx (TS w W0 8 a v (.slice (some ⟨b, o, none⟩) 2 cap) 0#256 0#256 0#256) := ⟨by rw [← hW]; exact H0.out⟩
  clear hW H0
  refine wp_loop_rounds 3 ?_
  rw [rounds_succ]
  have hk0 := BKx.out.below H1.out.be
  obtain ⟨k0, k1, k2, k3, kS⟩ := hk0
  obtain ⟨px, cx, rfl⟩ := kS.is
  have hA := H1.out.alloc (.cells #[.int .i64 x.k, .int .i64 x.a, .int .i64 x.v, .slice px x.kids.len cx] 36)
  have hI := IH.out x _ _ _ BNx.out BPx.out (kS.alloc (.cells #[.int .i64 x.k, .int .i64 x.a, .int .i64 x.v, .slice px x.kids.len cx] 36))
  have HA := Bx.mk hA
  have HI := Bx.mk hI
  clear hA hI kS
  unfold Ev at HI
  go_wp2_with fail
  refine HI.out.mono ?_
  rintro e u0 ⟨rfl, hb0⟩
  have hT := HA.out.step hb0
  clear k0 k1 k2 k3 HI
  obtain ⟨_, ⟨q0, q1, q2, q3, q4, q5, q6, q7, q8, q9, qa, qb⟩, f0, f1, f2, f3, f4, f5, f6, f7, f8, f9, fa, fb⟩ := hT.cells
  have HT := Bx.mk hT
  clear hT hb0 HA
  generalize hF0 : Ex.table x = F0
  have HF0 := Bx.mk hF0
  clear hF0
  unfold Tb.tv
  go_wp2_with fail
  clear q0 q1 q2 q3 q4 q5 q6 q7 q8 q9 qa qb f0 f1 f2 f3 f4 f5 f6 f7 f8 f9 fa fb
  have H2 := Bx.mk (HT.out.put0 F0)
  rw [rounds_succ]
  have hk1 := BKy.out.below H2.out.be
  obtain ⟨k0, k1, k2, k3, kS⟩ := hk1
  obtain ⟨py, cy, rfl⟩ := kS.is
  have hA := H2.out.alloc (.cells #[.int .i64 y.k, .int .i64 y.a, .int .i64 y.v, .slice py y.kids.len cy] 36)
  have hI := IH.out y _ _ _ BNy.out BPy.out (kS.alloc (.cells #[.int .i64 y.k, .int .i64 y.a, .int .i64 y.v, .slice py y.kids.len cy] 36))
  have HA := Bx.mk hA
  have HI := Bx.mk hI
  clear hA hI kS
  unfold Ev at HI
  go_wp2_with fail
  refine HI.out.mono ?_
  rintro e u1 ⟨rfl, hb1⟩
  have hT := HA.out.step hb1
  clear k0 k1 k2 k3 HI
  obtain ⟨_, ⟨q0, q1, q2, q3, q4, q5, q6, q7, q8, q9, qa, qb⟩, f0, f1, f2, f3, f4, f5, f6, f7, f8, f9, fa, fb⟩ := hT.cells
  have HT := Bx.mk hT
  clear hT hb1 HA
  generalize hF1 : Ex.table y = F1
  have HF1 := Bx.mk hF1
  clear hF1
  unfold Tb.tv
  go_wp2_with fail
  clear q0 q1 q2 q3 q4 q5 q6 q7 q8 q9 qa qb f0 f1 f2 f3 f4 f5 f6 f7 f8 f9 fa fb
  have H3 := Bx.mk (HT.out.put1 F1)
  obtain ⟨⟨e0, e2, e3⟩, ⟨q0, q1, q2, q3, q4, q5, q6, q7, q8, q9, qa, qb⟩, f0, f1, f2, f3, f4, f5, f6, f7, f8, f9, fa, fb⟩ := H3.out.cells
  rw [rounds_succ]
  go_wp2_with fail
  clear e0 e2 e3 q0 q1 q2 q3 q4 q5 q6 q7 q8 q9 qa qb f0 f1 f2 f3 f4 f5 f6 f7 f8 f9 fa fb
  refine region_any 8 (fun u => TS w u 8 a v (.slice (some ⟨b, o, none⟩) 2 cap) F0 F1 0#256) (by kernel_rfl) ?_
  generalize hu : World.drew _ = u0
  have hS0 : TS w u0 8 a v (.slice (some ⟨b, o, none⟩) 2 cap) F0 F1 0#256 := by rw [← hu]; exact H3.out.step ((Below.refl _ _).drew)
  clear hu
  refine any_take (i := 0) (.pointer (some ⟨w.heap.size, 0, none⟩)) rfl rfl (by kernel_rfl) (by kernel_rfl) (by kernel_rfl) (by kernel_rfl) (fun _ _ d _ _ h => by cases d <;> exact h) (fun u hS => rfl) hS0 ?_
  (try simp only [Act.put]); (try simp only [List.getElem_toArray]); (try simp only [List.getElem_cons_succ]); (try simp only [List.getElem_cons_zero]); (try simp only [List.setIfInBounds_toArray]); (try simp only [List.set_cons_succ]); (try simp only [List.set_cons_zero])
  refine any_take (i := 1) (.int .i64 8) rfl rfl (by kernel_rfl) (by kernel_rfl) (by kernel_rfl) (by kernel_rfl) (fun _ _ d _ _ h => by cases d <;> exact h) (fun u hS => exec_loadI rfl rfl hS.cells.1.1) hS0 ?_
  (try simp only [Act.put]); (try simp only [List.getElem_toArray]); (try simp only [List.getElem_cons_succ]); (try simp only [List.getElem_cons_zero]); (try simp only [List.setIfInBounds_toArray]); (try simp only [List.set_cons_succ]); (try simp only [List.set_cons_zero])
  refine any_take (i := 3) (.pointer (some ⟨w.heap.size + 2, 0, none⟩)) rfl rfl (by kernel_rfl) (by kernel_rfl) (by kernel_rfl) (by kernel_rfl) (fun _ _ d _ _ h => by cases d <;> exact h) (fun u hS => rfl) hS0 ?_
  (try simp only [Act.put]); (try simp only [List.getElem_toArray]); (try simp only [List.getElem_cons_succ]); (try simp only [List.getElem_cons_zero]); (try simp only [List.setIfInBounds_toArray]); (try simp only [List.set_cons_succ]); (try simp only [List.set_cons_zero])
  refine any_take (i := 4) (Tb.tv F0) rfl rfl (by kernel_rfl) (by kernel_rfl) (by kernel_rfl) (by kernel_rfl) (fun _ _ d _ _ h => by cases d <;> exact h) (fun u hS => exec_loadL rfl rfl hS.cells.2.1.1 hS.cells.2.1.2.1 hS.cells.2.1.2.2.1 hS.cells.2.1.2.2.2.1) hS0 ?_
  (try simp only [Act.put]); (try simp only [List.getElem_toArray]); (try simp only [List.getElem_cons_succ]); (try simp only [List.getElem_cons_zero]); (try simp only [List.setIfInBounds_toArray]); (try simp only [List.set_cons_succ]); (try simp only [List.set_cons_zero])
  refine any_take (i := 5) (.pointer (some ⟨w.heap.size + 2, 4, none⟩)) rfl rfl (by kernel_rfl) (by kernel_rfl) (by kernel_rfl) (by kernel_rfl) (fun _ _ d _ _ h => by cases d <;> exact h) (fun u hS => rfl) hS0 ?_
  (try simp only [Act.put]); (try simp only [List.getElem_toArray]); (try simp only [List.getElem_cons_succ]); (try simp only [List.getElem_cons_zero]); (try simp only [List.setIfInBounds_toArray]); (try simp only [List.set_cons_succ]); (try simp only [List.set_cons_zero])
  refine any_take (i := 6) (Tb.tv F1) rfl rfl (by kernel_rfl) (by kernel_rfl) (by kernel_rfl) (by kernel_rfl) (fun _ _ d _ _ h => by cases d <;> exact h) (fun u hS => exec_loadL rfl rfl hS.cells.2.1.2.2.2.2.1 hS.cells.2.1.2.2.2.2.2.1 hS.cells.2.1.2.2.2.2.2.2.1 hS.cells.2.1.2.2.2.2.2.2.2.1) hS0 ?_
  (try simp only [Act.put]); (try simp only [List.getElem_toArray]); (try simp only [List.getElem_cons_succ]); (try simp only [List.getElem_cons_zero]); (try simp only [List.setIfInBounds_toArray]); (try simp only [List.set_cons_succ]); (try simp only [List.set_cons_zero])
  refine any_branch [2] (by kernel_rfl) rfl fun ix hix => ?_
  simp only [List.mem_cons, List.not_mem_nil, or_false] at hix
  subst hix
  refine any_op rfl rfl fun K hK => ?_
  go_simp
  refine (tables_8 _).mono ?_
  rintro e ut ⟨rfl, rfl⟩
  refine hK _ _ (fun _ => hS0) ?_
  (try simp only [Act.put]); (try simp only [List.getElem_toArray]); (try simp only [List.getElem_cons_succ]); (try simp only [List.getElem_cons_zero]); (try simp only [List.setIfInBounds_toArray]); (try simp only [List.set_cons_succ]); (try simp only [List.set_cons_zero])
  clear hK
  refine any_branch [7] (by kernel_rfl) rfl fun ix hix => ?_
  simp only [List.mem_cons, List.not_mem_nil, or_false] at hix
  subst hix
  refine any_op rfl rfl fun K hK => ?_
  go_simp
  refine (tables2_any F0 F1 _).mono ?_
  rintro e u9 ⟨rfl, hb9⟩
  have h9 := hS0.step hb9
  refine hK _ _ (fun _ => h9) ?_
  (try simp only [Act.put]); (try simp only [List.getElem_toArray]); (try simp only [List.getElem_cons_succ]); (try simp only [List.getElem_cons_zero]); (try simp only [List.setIfInBounds_toArray]); (try simp only [List.set_cons_succ]); (try simp only [List.set_cons_zero])
  clear hK
  refine any_branch [8] (by kernel_rfl) rfl fun ix hix => ?_
  simp only [List.mem_cons, List.not_mem_nil, or_false] at hix
  subst hix
  refine any_op rfl rfl fun K hK => ?_
  obtain ⟨⟨r0, r1, r2, r3⟩, g0, g1, g2, g3⟩ := tfacts h9.r
  have HSf := Bx.mk (store4 (F := ~~~(F0 ^^^ F1)) h9.r)
  have HBf := Bx.mk (below4 (F := ~~~(F0 ^^^ F1)) (p := w.heap.size + 1) h9.be (by omega))
  clear hS0
  generalize hR : ~~~(F0 ^^^ F1) = R at HSf HBf ⊢
  have HR := Bx.mk hR
  clear hR
  unfold Tb.tv
  go_simp
  refine hK _ _ (fun h => absurd rfl h) ?_
  (try simp only [Act.put]); (try simp only [List.getElem_toArray]); (try simp only [List.getElem_cons_succ]); (try simp only [List.getElem_cons_zero]); (try simp only [List.setIfInBounds_toArray]); (try simp only [List.set_cons_succ]); (try simp only [List.set_cons_zero])
  clear hK
  refine any_end (by kernel_rfl) ?_
  clear h9 hb9
  go_wp2_with fail
  clear r0 r1 r2 r3 g0 g1 g2 g3
  obtain ⟨⟨r0, r1, r2, r3⟩, _, _, _, _⟩ := tfacts HSf.out
  refine bodyPost_ret (v := Tb.tv R) (by simp [results, Try.results33, go_sem, r0, r1, r2, r3] <;> rfl) rfl ⟨?_, HBf.out⟩
  rw [← HR.out, ← HF0.out, ← HF1.out]
  unfold Ex.tabk
  simp
set_option maxHeartbeats 8000000 in
theorem table_10 (n : Nat) (ih : Tz n) (a : Int) (m : Nat) (hm : m < 8) (b o cap : Nat) (w : World) (x : Tr) (sx : Value) (Kx : Kid w b o x sx) (Nx : (x.on .nil).nodes ≤ n) (Px : (x.on .nil).allPlain = true) :
    Calls Try.prog 33 #[.agg #[.int .i64 10, .int .i64 a, .int .i64 (m : Int), .slice (some ⟨b, o, none⟩) 1 cap]] w fun e w' => e = .returned (Tb.tv (Ex.tabk 10 (m : Int) [Ex.table x])) ∧ Below w.heap.size w w' := by
  have H0 := Bx.mk (TS.start w 10 a (m : Int) (.slice (some ⟨b, o, none⟩) 1 cap))
  have BKx := Bx.mk Kx
  have BNx := Bx.mk Nx
  have BPx := Bx.mk Px
  have IH := Bx.mk ih
  clear ih Kx Nx Px
  go_enter Try.func33, Try.ntmps33
  go_wp2_with fail
  try rw [zeros_tab]
  try rw [lc_zero]
  generalize hW : World.alloc (World.alloc (World.alloc _ _) _) _ = W0
  have H1 : Bx (TS w W0 10 a (m : Int) (.slice (some ⟨b, o, none⟩) 1 cap) 0#256 0#256 0#256) := ⟨by rw [← hW]; exact H0.out⟩
  clear hW H0
  refine wp_loop_rounds 2 ?_
  rw [rounds_succ]
  have hk0 := BKx.out.below H1.out.be
  obtain ⟨k0, k1, k2, k3, kS⟩ := hk0
  obtain ⟨px, cx, rfl⟩ := kS.is
  have hA := H1.out.alloc (.cells #[.int .i64 x.k, .int .i64 x.a, .int .i64 x.v, .slice px x.kids.len cx] 36)
  have hI := IH.out x _ _ _ BNx.out BPx.out (kS.alloc (.cells #[.int .i64 x.k, .int .i64 x.a, .int .i64 x.v, .slice px x.kids.len cx] 36))
  have HA := Bx.mk hA
  have HI := Bx.mk hI
  clear hA hI kS
  unfold Ev at HI
  go_wp2_with fail
  refine HI.out.mono ?_
  rintro e u0 ⟨rfl, hb0⟩
  have hT := HA.out.step hb0
  clear k0 k1 k2 k3 HI
  obtain ⟨_, ⟨q0, q1, q2, q3, q4, q5, q6, q7, q8, q9, qa, qb⟩, f0, f1, f2, f3, f4, f5, f6, f7, f8, f9, fa, fb⟩ := hT.cells
  have HT := Bx.mk hT
  clear hT hb0 HA
  generalize hF0 : Ex.table x = F0
  have HF0 := Bx.mk hF0
  clear hF0
  unfold Tb.tv
  go_wp2_with fail
  clear q0 q1 q2 q3 q4 q5 q6 q7 q8 q9 qa qb f0 f1 f2 f3 f4 f5 f6 f7 f8 f9 fa fb
  have H2 := Bx.mk (HT.out.put0 F0)
  obtain ⟨⟨e0, e2, e3⟩, ⟨q0, q1, q2, q3, q4, q5, q6, q7, q8, q9, qa, qb⟩, f0, f1, f2, f3, f4, f5, f6, f7, f8, f9, fa, fb⟩ := H2.out.cells
  rw [rounds_succ]
  go_wp2_with fail
  clear e0 e2 e3 q0 q1 q2 q3 q4 q5 q6 q7 q8 q9 qa qb f0 f1 f2 f3 f4 f5 f6 f7 f8 f9 fa fb
  refine region_any 6 (fun u => TS w u 10 a (m : Int) (.slice (some ⟨b, o, none⟩) 1 cap) F0 0#256 0#256) (by kernel_rfl) ?_
  generalize hu : World.drew _ = u0
  have hS0 : TS w u0 10 a (m : Int) (.slice (some ⟨b, o, none⟩) 1 cap) F0 0#256 0#256 := by rw [← hu]; exact H2.out.step ((Below.refl _ _).drew)
  clear hu
  refine any_take (i := 0) (.pointer (some ⟨w.heap.size + 2, 0, none⟩)) rfl rfl (by kernel_rfl) (by kernel_rfl) (by kernel_rfl) (by kernel_rfl) (fun _ _ d _ _ h => by cases d <;> exact h) (fun u hS => rfl) hS0 ?_
  (try simp only [Act.put]); (try simp only [List.getElem_toArray]); (try simp only [List.getElem_cons_succ]); (try simp only [List.getElem_cons_zero]); (try simp only [List.setIfInBounds_toArray]); (try simp only [List.set_cons_succ]); (try simp only [List.set_cons_zero])
  refine any_take (i := 1) (Tb.tv F0) rfl rfl (by kernel_rfl) (by kernel_rfl) (by kernel_rfl) (by kernel_rfl) (fun _ _ d _ _ h => by cases d <;> exact h) (fun u hS => exec_loadL rfl rfl hS.cells.2.1.1 hS.cells.2.1.2.1 hS.cells.2.1.2.2.1 hS.cells.2.1.2.2.2.1) hS0 ?_
  (try simp only [Act.put]); (try simp only [List.getElem_toArray]); (try simp only [List.getElem_cons_succ]); (try simp only [List.getElem_cons_zero]); (try simp only [List.setIfInBounds_toArray]); (try simp only [List.set_cons_succ]); (try simp only [List.set_cons_zero])
  refine any_take (i := 2) (.pointer (some ⟨w.heap.size, 2, none⟩)) rfl rfl (by kernel_rfl) (by kernel_rfl) (by kernel_rfl) (by kernel_rfl) (fun _ _ d _ _ h => by cases d <;> exact h) (fun u hS => rfl) hS0 ?_
  (try simp only [Act.put]); (try simp only [List.getElem_toArray]); (try simp only [List.getElem_cons_succ]); (try simp only [List.getElem_cons_zero]); (try simp only [List.setIfInBounds_toArray]); (try simp only [List.set_cons_succ]); (try simp only [List.set_cons_zero])
  refine any_take (i := 3) (.int .i64 (m : Int)) rfl rfl (by kernel_rfl) (by kernel_rfl) (by kernel_rfl) (by kernel_rfl) (fun _ _ d _ _ h => by cases d <;> exact h) (fun u hS => exec_loadI rfl rfl hS.cells.1.2.1) hS0 ?_
  (try simp only [Act.put]); (try simp only [List.getElem_toArray]); (try simp only [List.getElem_cons_succ]); (try simp only [List.getElem_cons_zero]); (try simp only [List.setIfInBounds_toArray]); (try simp only [List.set_cons_succ]); (try simp only [List.set_cons_zero])
  refine any_take (i := 4) (.int .u8 ((2 ^ m : Nat) : Int)) rfl rfl (by kernel_rfl) (by kernel_rfl) (by kernel_rfl) (by kernel_rfl) (fun _ _ d _ _ h => by cases d <;> exact h) (fun u hS => exec_shl8 rfl rfl rfl hm) hS0 ?_
  (try simp only [Act.put]); (try simp only [List.getElem_toArray]); (try simp only [List.getElem_cons_succ]); (try simp only [List.getElem_cons_zero]); (try simp only [List.setIfInBounds_toArray]); (try simp only [List.set_cons_succ]); (try simp only [List.set_cons_zero])
  refine any_branch [5] (by kernel_rfl) rfl fun ix hix => ?_
  simp only [List.mem_cons, List.not_mem_nil, or_false] at hix
  subst hix
  refine any_op rfl rfl fun K hK => ?_
  go_simp
  refine (forall_any F0 (2 ^ m) _ (pow_lt8 hm)).mono ?_
  rintro e u9 ⟨rfl, hb9⟩
  have h9 := hS0.step hb9
  refine hK _ _ (fun _ => h9) ?_
  (try simp only [Act.put]); (try simp only [List.getElem_toArray]); (try simp only [List.getElem_cons_succ]); (try simp only [List.getElem_cons_zero]); (try simp only [List.setIfInBounds_toArray]); (try simp only [List.set_cons_succ]); (try simp only [List.set_cons_zero])
  clear hK
  refine any_branch [6] (by kernel_rfl) rfl fun ix hix => ?_
  simp only [List.mem_cons, List.not_mem_nil, or_false] at hix
  subst hix
  refine any_op rfl rfl fun K hK => ?_
  obtain ⟨⟨r0, r1, r2, r3⟩, g0, g1, g2, g3⟩ := tfacts h9.r
  have HSf := Bx.mk (store4 (F := Tb.halves (fun F G => F &&& G) F0 (2 ^ m)) h9.r)
  have HBf := Bx.mk (below4 (F := Tb.halves (fun F G => F &&& G) F0 (2 ^ m)) (p := w.heap.size + 1) h9.be (by omega))
  clear hS0
  generalize hR : Tb.halves (fun F G => F &&& G) F0 (2 ^ m) = R at HSf HBf ⊢
  have HR := Bx.mk hR
  clear hR
  unfold Tb.tv
  go_simp
  refine hK _ _ (fun h => absurd rfl h) ?_
  (try simp only [Act.put]); (try simp only [List.getElem_toArray]); (try simp only [List.getElem_cons_succ]); (try simp only [List.getElem_cons_zero]); (try simp only [List.setIfInBounds_toArray]); (try simp only [List.set_cons_succ]); (try simp only [List.set_cons_zero])
  clear hK
  refine any_end (by kernel_rfl) ?_
  clear h9 hb9
  go_wp2_with fail
  clear r0 r1 r2 r3 g0 g1 g2 g3
  obtain ⟨⟨r0, r1, r2, r3⟩, _, _, _, _⟩ := tfacts HSf.out
  refine bodyPost_ret (v := Tb.tv R) (by simp [results, Try.results33, go_sem, r0, r1, r2, r3] <;> rfl) rfl ⟨?_, HBf.out⟩
  rw [← HR.out, ← HF0.out]
  unfold Ex.tabk
  simp
set_option maxHeartbeats 8000000 in
theorem table_11 (n : Nat) (ih : Tz n) (a : Int) (m : Nat) (hm : m < 8) (b o cap : Nat) (w : World) (x : Tr) (sx : Value) (Kx : Kid w b o x sx) (Nx : (x.on .nil).nodes ≤ n) (Px : (x.on .nil).allPlain = true) :
    Calls Try.prog 33 #[.agg #[.int .i64 11, .int .i64 a, .int .i64 (m : Int), .slice (some ⟨b, o, none⟩) 1 cap]] w fun e w' => e = .returned (Tb.tv (Ex.tabk 11 (m : Int) [Ex.table x])) ∧ Below w.heap.size w w' := by
  have H0 := Bx.mk (TS.start w 11 a (m : Int) (.slice (some ⟨b, o, none⟩) 1 cap))
  have BKx := Bx.mk Kx
  have BNx := Bx.mk Nx
  have BPx := Bx.mk Px
  have IH := Bx.mk ih
  clear ih Kx Nx Px
  go_enter Try.func33, Try.ntmps33
  go_wp2_with fail
  try rw [zeros_tab]
  try rw [lc_zero]
  generalize hW : World.alloc (World.alloc (World.alloc _ _) _) _ = W0
  have H1 : Bx (TS w W0 11 a (m : Int) (.slice (some ⟨b, o, none⟩) 1 cap) 0#256 0#256 0#256) := ⟨by rw [← hW]; exact H0.out⟩
  clear hW H0
  refine wp_loop_rounds 2 ?_
  rw [rounds_succ]
  have hk0 := BKx.out.below H1.out.be
  obtain ⟨k0, k1, k2, k3, kS⟩ := hk0
  obtain ⟨px, cx, rfl⟩ := kS.is
  have hA := H1.out.alloc (.cells #[.int .i64 x.k, .int .i64 x.a, .int .i64 x.v, .slice px x.kids.len cx] 36)
  have hI := IH.out x _ _ _ BNx.out BPx.out (kS.alloc (.cells #[.int .i64 x.k, .int .i64 x.a, .int .i64 x.v, .slice px x.kids.len cx] 36))
  have HA := Bx.mk hA
  have HI := Bx.mk hI
  clear hA hI kS
  unfold Ev at HI
  go_wp2_with fail
  refine HI.out.mono ?_
  rintro e u0 ⟨rfl, hb0⟩
  have hT := HA.out.step hb0
  clear k0 k1 k2 k3 HI
  obtain ⟨_, ⟨q0, q1, q2, q3, q4, q5, q6, q7, q8, q9, qa, qb⟩, f0, f1, f2, f3, f4, f5, f6, f7, f8, f9, fa, fb⟩ := hT.cells
  have HT := Bx.mk hT
  clear hT hb0 HA
  generalize hF0 : Ex.table x = F0
  have HF0 := Bx.mk hF0
  clear hF0
  unfold Tb.tv
  go_wp2_with fail
  clear q0 q1 q2 q3 q4 q5 q6 q7 q8 q9 qa qb f0 f1 f2 f3 f4 f5 f6 f7 f8 f9 fa fb
  have H2 := Bx.mk (HT.out.put0 F0)
  obtain ⟨⟨e0, e2, e3⟩, ⟨q0, q1, q2, q3, q4, q5, q6, q7, q8, q9, qa, qb⟩, f0, f1, f2, f3, f4, f5, f6, f7, f8, f9, fa, fb⟩ := H2.out.cells
  rw [rounds_succ]
  go_wp2_with fail
  clear e0 e2 e3 q0 q1 q2 q3 q4 q5 q6 q7 q8 q9 qa qb f0 f1 f2 f3 f4 f5 f6 f7 f8 f9 fa fb
  refine region_any 6 (fun u => TS w u 11 a (m : Int) (.slice (some ⟨b, o, none⟩) 1 cap) F0 0#256 0#256) (by kernel_rfl) ?_
  generalize hu : World.drew _ = u0
  have hS0 : TS w u0 11 a (m : Int) (.slice (some ⟨b, o, none⟩) 1 cap) F0 0#256 0#256 := by rw [← hu]; exact H2.out.step ((Below.refl _ _).drew)
  clear hu
  refine any_take (i := 0) (.pointer (some ⟨w.heap.size + 2, 0, none⟩)) rfl rfl (by kernel_rfl) (by kernel_rfl) (by kernel_rfl) (by kernel_rfl) (fun _ _ d _ _ h => by cases d <;> exact h) (fun u hS => rfl) hS0 ?_
  (try simp only [Act.put]); (try simp only [List.getElem_toArray]); (try simp only [List.getElem_cons_succ]); (try simp only [List.getElem_cons_zero]); (try simp only [List.setIfInBounds_toArray]); (try simp only [List.set_cons_succ]); (try simp only [List.set_cons_zero])
  refine any_take (i := 1) (Tb.tv F0) rfl rfl (by kernel_rfl) (by kernel_rfl) (by kernel_rfl) (by kernel_rfl) (fun _ _ d _ _ h => by cases d <;> exact h) (fun u hS => exec_loadL rfl rfl hS.cells.2.1.1 hS.cells.2.1.2.1 hS.cells.2.1.2.2.1 hS.cells.2.1.2.2.2.1) hS0 ?_
  (try simp only [Act.put]); (try simp only [List.getElem_toArray]); (try simp only [List.getElem_cons_succ]); (try simp only [List.getElem_cons_zero]); (try simp only [List.setIfInBounds_toArray]); (try simp only [List.set_cons_succ]); (try simp only [List.set_cons_zero])
  refine any_take (i := 2) (.pointer (some ⟨w.heap.size, 2, none⟩)) rfl rfl (by kernel_rfl) (by kernel_rfl) (by kernel_rfl) (by kernel_rfl) (fun _ _ d _ _ h => by cases d <;> exact h) (fun u hS => rfl) hS0 ?_
  (try simp only [Act.put]); (try simp only [List.getElem_toArray]); (try simp only [List.getElem_cons_succ]); (try simp only [List.getElem_cons_zero]); (try simp only [List.setIfInBounds_toArray]); (try simp only [List.set_cons_succ]); (try simp only [List.set_cons_zero])
  refine any_take (i := 3) (.int .i64 (m : Int)) rfl rfl (by kernel_rfl) (by kernel_rfl) (by kernel_rfl) (by kernel_rfl) (fun _ _ d _ _ h => by cases d <;> exact h) (fun u hS => exec_loadI rfl rfl hS.cells.1.2.1) hS0 ?_
  (try simp only [Act.put]); (try simp only [List.getElem_toArray]); (try simp only [List.getElem_cons_succ]); (try simp only [List.getElem_cons_zero]); (try simp only [List.setIfInBounds_toArray]); (try simp only [List.set_cons_succ]); (try simp only [List.set_cons_zero])
  refine any_take (i := 4) (.int .u8 ((2 ^ m : Nat) : Int)) rfl rfl (by kernel_rfl) (by kernel_rfl) (by kernel_rfl) (by kernel_rfl) (fun _ _ d _ _ h => by cases d <;> exact h) (fun u hS => exec_shl8 rfl rfl rfl hm) hS0 ?_
  (try simp only [Act.put]); (try simp only [List.getElem_toArray]); (try simp only [List.getElem_cons_succ]); (try simp only [List.getElem_cons_zero]); (try simp only [List.setIfInBounds_toArray]); (try simp only [List.set_cons_succ]); (try simp only [List.set_cons_zero])
  refine any_branch [5] (by kernel_rfl) rfl fun ix hix => ?_
  simp only [List.mem_cons, List.not_mem_nil, or_false] at hix
  subst hix
  refine any_op rfl rfl fun K hK => ?_
  go_simp
  refine (exists_any F0 (2 ^ m) _ (pow_lt8 hm)).mono ?_
  rintro e u9 ⟨rfl, hb9⟩
  have h9 := hS0.step hb9
  refine hK _ _ (fun _ => h9) ?_
  (try simp only [Act.put]); (try simp only [List.getElem_toArray]); (try simp only [List.getElem_cons_succ]); (try simp only [List.getElem_cons_zero]); (try simp only [List.setIfInBounds_toArray]); (try simp only [List.set_cons_succ]); (try simp only [List.set_cons_zero])
  clear hK
  refine any_branch [6] (by kernel_rfl) rfl fun ix hix => ?_
  simp only [List.mem_cons, List.not_mem_nil, or_false] at hix
  subst hix
  refine any_op rfl rfl fun K hK => ?_
  obtain ⟨⟨r0, r1, r2, r3⟩, g0, g1, g2, g3⟩ := tfacts h9.r
  have HSf := Bx.mk (store4 (F := Tb.halves (fun F G => F ||| G) F0 (2 ^ m)) h9.r)
  have HBf := Bx.mk (below4 (F := Tb.halves (fun F G => F ||| G) F0 (2 ^ m)) (p := w.heap.size + 1) h9.be (by omega))
  clear hS0
  generalize hR : Tb.halves (fun F G => F ||| G) F0 (2 ^ m) = R at HSf HBf ⊢
  have HR := Bx.mk hR
  clear hR
  unfold Tb.tv
  go_simp
  refine hK _ _ (fun h => absurd rfl h) ?_
  (try simp only [Act.put]); (try simp only [List.getElem_toArray]); (try simp only [List.getElem_cons_succ]); (try simp only [List.getElem_cons_zero]); (try simp only [List.setIfInBounds_toArray]); (try simp only [List.set_cons_succ]); (try simp only [List.set_cons_zero])
  clear hK
  refine any_end (by kernel_rfl) ?_
  clear h9 hb9
  go_wp2_with fail
  clear r0 r1 r2 r3 g0 g1 g2 g3
  obtain ⟨⟨r0, r1, r2, r3⟩, _, _, _, _⟩ := tfacts HSf.out
  refine bodyPost_ret (v := Tb.tv R) (by simp [results, Try.results33, go_sem, r0, r1, r2, r3] <;> rfl) rfl ⟨?_, HBf.out⟩
  rw [← HR.out, ← HF0.out]
  unfold Ex.tabk
  simp
end Go.Proofs.Ytfgokhafiffbaaa
