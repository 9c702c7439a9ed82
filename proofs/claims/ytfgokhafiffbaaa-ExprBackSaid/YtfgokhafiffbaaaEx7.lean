/-
  Formulas: trees, how they lie in memory; the parser's plain form, first part.
-/
import Derived.Test.YtfgokhafiffbaaaEx6
namespace Go.Proofs.Ytfgokhafiffbaaa
set_option linter.unusedVariables false
open Go.RowKit

/-- a list of formulas -/
inductive Fo where
  | nil
  | cons (k a v : Int) (kids rest : Fo)
  deriving DecidableEq
structure Tr where
  k : Int
  a : Int
  v : Int
  kids : Fo
  deriving DecidableEq
def Fo.len : Fo → Nat
  | .nil => 0
  | .cons _ _ _ _ r => r.len + 1
def Tr.on (t : Tr) (r : Fo) : Fo := .cons t.k t.a t.v t.kids r
def Tr.zero : Tr := ⟨0, 0, 0, .nil⟩
def Ev (t : Tr) (sl : Value) : Value := .agg #[.int .i64 t.k, .int .i64 t.a, .int .i64 t.v, sl]
def Ge (n : Nat) (g : Nat) : Prop := n ≤ g
/-- what lies at (b, o) reads as the list; all of its blocks are such as B says -/
def RdF (w : World) (B : Nat → Prop) : Fo → Nat → Nat → Prop
  | .nil, _, _ => True
  | .cons k a v kids rest, b, o => B b ∧ w.cell? ⟨b, o, none⟩ = some (.int .i64 k) ∧ w.cell? ⟨b, o + 1, none⟩ = some (.int .i64 a) ∧ w.cell? ⟨b, o + 2, none⟩ = some (.int .i64 v) ∧
      (∃ p cap b' o', w.cell? ⟨b, o + 3, none⟩ = some (.slice p kids.len cap) ∧ ((kids = .nil ∧ p = none ∧ cap = 0) ∨ p = some ⟨b', o', none⟩) ∧ kids.len ≤ cap ∧ RdF w B kids b' o') ∧ RdF w B rest b (o + 4)
/-- the slice reads as the list -/
def SlF (w : World) (B : Nat → Prop) (v : Value) (F : Fo) : Prop :=
  ∃ p cap b o, v = .slice p F.len cap ∧ ((F = .nil ∧ p = none ∧ cap = 0) ∨ p = some ⟨b, o, none⟩) ∧ F.len ≤ cap ∧ RdF w B F b o
theorem RdF.kept {w w' : World} {B : Nat → Prop} (h : ∀ g, B g → g < w.heap.size → w'.heap[g]? = w.heap[g]?) : ∀ (F : Fo) (b o : Nat), RdF w B F b o → RdF w' B F b o
  | .nil, _, _, _ => True.intro
  | .cons k a v kids rest, b, o, hr => by
    obtain ⟨hb, h0, h1, h2, ⟨p, cap, b', o', h3, hp, hc, hk⟩, hrest⟩ := hr
    have hlt : b < w.heap.size := World.block_lt_of_cell? w _ h0
    have e : ∀ i, w'.cell? ⟨b, i, none⟩ = w.cell? ⟨b, i, none⟩ := fun i => World.cell?_of_block (a := ⟨b, i, none⟩) (h b hb hlt)
    exact ⟨hb, (e _).trans h0, (e _).trans h1, (e _).trans h2, ⟨p, cap, b', o', (e _).trans h3, hp, hc, RdF.kept h kids b' o' hk⟩, RdF.kept h rest b (o + 4) hrest⟩
theorem RdF.mono {w : World} {B B' : Nat → Prop} (h : ∀ g, g < w.heap.size → B g → B' g) : ∀ (F : Fo) (b o : Nat), RdF w B F b o → RdF w B' F b o
  | .nil, _, _, _ => True.intro
  | .cons k a v kids rest, b, o, hr => by
    obtain ⟨hb, h0, h1, h2, ⟨p, cap, b', o', h3, hp, hc, hk⟩, hrest⟩ := hr
    exact ⟨h b (World.block_lt_of_cell? w _ h0) hb, h0, h1, h2, ⟨p, cap, b', o', h3, hp, hc, RdF.mono h kids b' o' hk⟩, RdF.mono h rest b (o + 4) hrest⟩
theorem SlF.kept {w w' : World} {B : Nat → Prop} {v : Value} {F : Fo} (hs : SlF w B v F) (h : ∀ g, B g → g < w.heap.size → w'.heap[g]? = w.heap[g]?) : SlF w' B v F := by
  obtain ⟨p, cap, b, o, h1, h2, h3, h4⟩ := hs
  exact ⟨p, cap, b, o, h1, h2, h3, RdF.kept h F b o h4⟩
theorem SlF.mono' {w : World} {B B' : Nat → Prop} {v : Value} {F : Fo} (hs : SlF w B v F) (h : ∀ g, g < w.heap.size → B g → B' g) : SlF w B' v F := by
  obtain ⟨p, cap, b, o, h1, h2, h3, h4⟩ := hs
  exact ⟨p, cap, b, o, h1, h2, h3, RdF.mono h F b o h4⟩
theorem SlF.mono {w : World} {B B' : Nat → Prop} {v : Value} {F : Fo} (hs : SlF w B v F) (h : ∀ g, B g → B' g) : SlF w B' v F := hs.mono' fun g _ => h g
theorem SlF.below {w w' : World} {B : Nat → Prop} {v : Value} {F : Fo} (hs : SlF w B v F) (h : Below w.heap.size w w') : SlF w' B v F := hs.kept fun g _ hl => h.block g hl
theorem SlF.alloc {w : World} {B : Nat → Prop} {v : Value} {F : Fo} (hs : SlF w B v F) (o : Obj) : SlF (w.alloc o) B v F := hs.kept fun g _ hl => Below.heap_alloc w o g hl
theorem SlF.drew {w : World} {B : Nat → Prop} {v : Value} {F : Fo} (hs : SlF w B v F) : SlF w.drew B v F := hs.kept fun g _ hl => rfl
theorem SlF.nil (w : World) (B : Nat → Prop) : SlF w B (.slice none 0 0) .nil := ⟨none, 0, 0, 0, rfl, .inl ⟨rfl, rfl, rfl⟩, Nat.le_refl _, True.intro⟩
theorem Fo.len_nil : Fo.nil.len = 0 := rfl
theorem Fo.len_on (t : Tr) (r : Fo) : (t.on r).len = r.len + 1 := rfl
/-- a list that lies in a block -/
theorem RdF.on {w : World} {B : Nat → Prop} {b o : Nat} {t : Tr} {sl : Value} {r : Fo} (hb : B b) (h0 : w.cell? ⟨b, o, none⟩ = some (.int .i64 t.k)) (h1 : w.cell? ⟨b, o + 1, none⟩ = some (.int .i64 t.a)) (h2 : w.cell? ⟨b, o + 2, none⟩ = some (.int .i64 t.v))
    (h3 : w.cell? ⟨b, o + 3, none⟩ = some sl) (hs : SlF w B sl t.kids) (hr : RdF w B r b (o + 4)) : RdF w B (t.on r) b o := by
  obtain ⟨p, cap, b', o', rfl, hp, hc, hk⟩ := hs
  exact ⟨hb, h0, h1, h2, ⟨p, cap, b', o', h3, hp, hc, hk⟩, hr⟩
theorem SlF.mk {w : World} {B : Nat → Prop} {b o cap : Nat} {F : Fo} (hc : F.len ≤ cap) (h : RdF w B F b o) : SlF w B (.slice (some ⟨b, o, none⟩) F.len cap) F := ⟨_, cap, b, o, rfl, .inr rfl, hc, h⟩
theorem SlF.is {w : World} {B : Nat → Prop} {v : Value} {F : Fo} (h : SlF w B v F) : ∃ p cap, v = .slice p F.len cap := by
  obtain ⟨p, cap, b, o, h1, _⟩ := h
  exact ⟨p, cap, h1⟩

/-- one deeper: at the last depth it's refused -/
def Ex.within (read : Option (St → Tr × St)) (st : St) : Tr × St :=
  match read with
  | none => (Tr.zero, st.bad 231)
  | some f => if st.e = 0 then f st else (Tr.zero, st)
def Ex.two (k : Int) (a : Nat) (x y : Tr) : Tr := ⟨k, a, 0, x.on (y.on .nil)⟩
def Ex.one (k : Int) (a : Nat) (v : Int) (x : Tr) : Tr := ⟨k, a, v, x.on .nil⟩
def Ex.chainF : Nat → Tok → Int → (St → Tr × St) → Tr → St → Tr × St
  | 0, _, _, _, x, st => (x, st)
  | n + 1, t, k, read, x, st => if st.may t then Ex.chainF n t k read (Ex.two k st.at_ x (read st.goes).1) (read st.goes).2 else (x, st)
def Ex.chain (t : Tok) (k : Int) (read : St → Tr × St) (st : St) : Tr × St := Ex.chainF (read st).2.ts.length t k read (read st).1 (read st).2
def Ex.imp (w : Option (St → Tr × St)) (read : St → Tr × St) (st : St) : Tr × St :=
  if (read st).2.may .imp then (Ex.two 7 (read st).2.at_ (read st).1 (Ex.within w (read st).2.goes).1, (Ex.within w (read st).2.goes).2) else read st
def Ex.bound (w : Option (St → Tr × St)) (k : Int) (a : Nat) (st : St) : Tr × St :=
  match st.now with
  | .var n => (Ex.one k a n.val (Ex.within w st.goes).1, (Ex.within w st.goes).2)
  | _ => (Tr.zero, st.bad 230)
def Ex.ite (w : Option (St → Tr × St)) (a : Nat) (st : St) : Tr × St :=
  let r1 := Ex.within w (st.must .lp)
  let r2 := Ex.within w (r1.2.must .comma)
  let r3 := Ex.within w (r2.2.must .comma)
  (⟨9, a, 0, r1.1.on (r2.1.on (r3.1.on .nil))⟩, r3.2.must .rp)
def Ex.prim (w : Option (St → Tr × St)) (st : St) : Tr × St :=
  match st.now with
  | .var n => (⟨1, st.at_, n.val, .nil⟩, st.goes)
  | .zero => (⟨2, st.at_, 0, .nil⟩, st.goes)
  | .one => (⟨2, st.at_, 1, .nil⟩, st.goes)
  | _ => if st.may .lp then ((Ex.within w st.goes).1, (Ex.within w st.goes).2.must .rp)
    else if st.may .ite then Ex.ite w st.at_ st.goes else (Tr.zero, st.bad 230)
def Ex.un (wu wi : Option (St → Tr × St)) (st : St) : Tr × St :=
  if st.e ≠ 0 then (Tr.zero, st)
  else if st.may .not then (Ex.one 3 st.at_ 0 (Ex.within wu st.goes).1, (Ex.within wu st.goes).2)
  else if st.may .all then Ex.bound wu 10 st.at_ st.goes
  else if st.may .any then Ex.bound wu 11 st.at_ st.goes
  else Ex.prim wi st
structure Rd where
  iff : St → Tr × St
  imp : St → Tr × St
  un : St → Tr × St
/-- the readers where so many levels are left -/
def Ex.mk (wu wi wf : Option (St → Tr × St)) : Rd :=
  let un := Ex.un wu wf
  let imp := Ex.imp wi (Ex.chain .or 5 (Ex.chain .xor 6 (Ex.chain .and 4 un)))
  ⟨Ex.chain .iff 8 imp, imp, un⟩
def Ex.lev : Nat → Rd
  | 0 => Ex.mk none none none
  | n + 1 => Ex.mk (some (Ex.lev n).un) (some (Ex.lev n).imp) (some (Ex.lev n).iff)
/-- the plain parser: tree, place, error -/
def Ex.parse (l : List Nat) : Tr × Nat × Nat :=
  if l.length > 4000 then (Tr.zero, 0, 232) else
  let r := (Ex.lev 30).iff ⟨Lx.lex l 0, 0, 0⟩
  let st := if r.2.e = 0 ∧ r.2.now ≠ .eof then r.2.bad 230 else r.2
  if st.e = 0 then (r.1, 0, 0) else (Tr.zero, st.eat, st.e)
end Go.Proofs.Ytfgokhafiffbaaa
