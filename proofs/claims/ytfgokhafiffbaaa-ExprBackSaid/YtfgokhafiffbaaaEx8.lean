/-
  Formulas: within, one deeper.
-/
import Derived.Test.YtfgokhafiffbaaaEx7
import Derived.Defers
namespace Go.Proofs.Ytfgokhafiffbaaa
set_option linter.unusedVariables false
open Go.RowKit

/-- what a reader gives: a tree, and the state behind it -/
def Gives (N d : Nat) (s : ByteArray) (w : World) (r : Tr × St) (e : Ending) (w' : World) : Prop :=
  ∃ sl, e = .returned (Ev r.1 sl) ∧ SlF w' (Ge w.heap.size) sl r.1.kids ∧ PS w' N d s r.2 ∧ Gb N w w'
def Pz (f : FuncId) (d : Nat) (p : St → Tr × St) : Prop :=
  ∀ (N : Nat) (s : ByteArray) (st : St) (w : World), PS w N d s st → Calls Try.prog f #[.pointer (some ⟨N, 0, none⟩)] w (Gives N d s w (p st))

set_option maxHeartbeats 4000000 in
theorem within1_d (bp N d : Nat) (w : World) (hd : d < 100) (hb : w.cell? ⟨bp, 0, none⟩ = some (.pointer (some ⟨N, 0, none⟩))) (hc : w.cell? ⟨N, 3, none⟩ = some (.int .i64 ((d + 1 : Nat) : Int))) (hf : w.frozen? ⟨N, 3, none⟩ = false) :
    CallsD Try.prog 78 #[.pointer (some ⟨bp, 0, none⟩)] .returning w fun e u' w' => u' = .returning ∧ (e = .returned (.tuple #[]) ∧ w' = w.setCell ⟨N, 3, none⟩ (.int .i64 (d : Int))) := by
  have hk : wrap64 (((d + 1 : Nat) : Int) - 1) = (d : Int) := by rw [w64 _ (by omega)]; omega
  go_enter_d Try.func78, Try.ntmps78
  go_wp2_with fail
  go_end0
  exact ⟨rfl, rfl⟩
theorem PS.deep' {w : World} {N d : Nat} {s : ByteArray} {st : St} (h : PS w N d s st) (d' : Nat) {x : Int} (hx : x = (d' : Int)) : PS (w.setCell ⟨N, 3, none⟩ (.int .i64 x)) N d' s st := by subst hx; exact h.deep d'
theorem cells4 {w : World} {g : Nat} {t : TypeId} {a b c d : Value} (h : Blk w g t #[a, b, c, d]) : w.cell? ⟨g, 0, none⟩ = some a ∧ w.cell? ⟨g, 1, none⟩ = some b ∧ w.cell? ⟨g, 2, none⟩ = some c ∧ w.cell? ⟨g, 3, none⟩ = some d ∧
    w.frozen? ⟨g, 0, none⟩ = false ∧ w.frozen? ⟨g, 1, none⟩ = false ∧ w.frozen? ⟨g, 2, none⟩ = false ∧ w.frozen? ⟨g, 3, none⟩ = false :=
  ⟨h.cell 0, h.cell 1, h.cell 2, h.cell 3, h.frozen 0, h.frozen 1, h.frozen 2, h.frozen 3⟩
/-- four cells of a block of one's own written -/
theorem PS.st4 {w : World} {N d R : Nat} {s : ByteArray} {st : St} (h : PS w N d s st) (hne : N ≠ R) (a b c e : Value) : PS ((((w.setCell ⟨R, 0, none⟩ a).setCell ⟨R, 1, none⟩ b).setCell ⟨R, 2, none⟩ c).setCell ⟨R, 3, none⟩ e) N d s st :=
  (((h.far (p := ⟨R, 0, none⟩) hne a).far (p := ⟨R, 1, none⟩) hne b).far (p := ⟨R, 2, none⟩) hne c).far (p := ⟨R, 3, none⟩) hne e
theorem Gb.st4 {w w' : World} {N R : Nat} (h : Gb N w w') (hR : w.heap.size ≤ R) (a b c e : Value) : Gb N w ((((w'.setCell ⟨R, 0, none⟩ a).setCell ⟨R, 1, none⟩ b).setCell ⟨R, 2, none⟩ c).setCell ⟨R, 3, none⟩ e) :=
  (((h.set (p := ⟨R, 0, none⟩) (.inr hR) a).set (p := ⟨R, 1, none⟩) (.inr hR) b).set (p := ⟨R, 2, none⟩) (.inr hR) c).set (p := ⟨R, 3, none⟩) (.inr hR) e
theorem SlF.far {w : World} {B : Nat → Prop} {v : Value} {F : Fo} (hs : SlF w B v F) {p : Addr} (hR : ¬ B p.block) (a : Value) : SlF (w.setCell p a) B v F :=
  hs.kept fun g hg hl => Below.heap_setCell _ _ _ _ (fun e => hR (e ▸ hg))
theorem SlF.st4 {w : World} {B : Nat → Prop} {R : Nat} {v : Value} {F : Fo} (hs : SlF w B v F) (hR : ¬ B R) (a b c e : Value) : SlF ((((w.setCell ⟨R, 0, none⟩ a).setCell ⟨R, 1, none⟩ b).setCell ⟨R, 2, none⟩ c).setCell ⟨R, 3, none⟩ e) B v F :=
  (((hs.far (p := ⟨R, 0, none⟩) hR a).far (p := ⟨R, 1, none⟩) hR b).far (p := ⟨R, 2, none⟩) hR c).far (p := ⟨R, 3, none⟩) hR e
theorem Blk.st4 {w : World} {R g : Nat} {t : TypeId} {cs : Array Value} (h : Blk w g t cs) (hne : g ≠ R) (a b c e : Value) : Blk ((((w.setCell ⟨R, 0, none⟩ a).setCell ⟨R, 1, none⟩ b).setCell ⟨R, 2, none⟩ c).setCell ⟨R, 3, none⟩ e) g t cs :=
  (((h.far (p := ⟨R, 0, none⟩) hne a).far (p := ⟨R, 1, none⟩) hne b).far (p := ⟨R, 2, none⟩) hne c).far (p := ⟨R, 3, none⟩) hne e
theorem Blk.own4 {w : World} {R : Nat} {t : TypeId} {x y z u : Value} (h : Blk w R t #[x, y, z, u]) (a b c e : Value) : Blk ((((w.setCell ⟨R, 0, none⟩ a).setCell ⟨R, 1, none⟩ b).setCell ⟨R, 2, none⟩ c).setCell ⟨R, 3, none⟩ e) R t #[a, b, c, e] :=
  (((h.set_ 0 a).set_ 1 b).set_ 2 c).set_ 3 e
theorem size_st4 (w : World) (R : Nat) (a b c e : Value) : ((((w.setCell ⟨R, 0, none⟩ a).setCell ⟨R, 1, none⟩ b).setCell ⟨R, 2, none⟩ c).setCell ⟨R, 3, none⟩ e).heap.size = w.heap.size := by simp [World.setCell]
theorem size_set (w : World) (p : Addr) (a : Value) : (w.setCell p a).heap.size = w.heap.size := by simp [World.setCell]
theorem SlF.gbs {w w' : World} {N : Nat} {B : Nat → Prop} {v : Value} {F : Fo} (hs : SlF w B v F) (hB : ¬ B N) (h : Gb N w w') : SlF w' B v F :=
  hs.kept fun g hg hl => h.block g hl (fun e => hB ((Option.some.inj e) ▸ hg))
/-- the cells that hold the zero formula -/
def z4 : Array Value := #[.int .i64 0, .int .i64 0, .int .i64 0, .slice none 0 0]
theorem bad_ne (x : Nat) (hx : x ≠ 0) (st : St) : (st.bad x).e ≠ 0 := by
  unfold St.bad
  split
  · exact hx
  · assumption

set_option maxHeartbeats 4000000 in
theorem within_no (N d : Nat) (s : ByteArray) (st : St) (w : World) (f : Value) (h : PS w N d s st) (hd : d < 30) (he : ¬ st.e = 0) :
    Calls Try.prog 63 #[.pointer (some ⟨N, 0, none⟩), f] w (Gives N d s w (Tr.zero, st)) := by
  have hmf : ∀ (fn : Fn) (first cap : Array Value) (w : World), (Instr.makeFunc fn first cap).run Try.prog w = .ok (.func fn first cap) w := fun _ _ _ _ => rfl
  obtain ⟨c0, c1, c2, c3, c4, c5, f1, f2, f3, f4, f5⟩ := pb_cells h.blk
  have q : ¬ (st.e : Int) = 0 := by omega
  have q2 : ¬ ((d : Int) + 1) > 30 := by omega
  have hk : wrap64 ((d : Int) + 1) = (d : Int) + 1 := by rw [w64 _ (by omega)]
  have hlt := h.lt
  have HP := Bx.mk (((h.deep' (d + 1) (x := (d : Int) + 1) (by omega)).alloc (Obj.cells #[.pointer (some ⟨N, 0, none⟩)] 58)).alloc (Obj.cells #[.int .i64 0, .int .i64 0, .int .i64 0, .slice none 0 0] 36))
  have HG := Bx.mk ((((Gb.refl N w).set (p := ⟨N, 3, none⟩) (.inl rfl) (.int .i64 ((d : Int) + 1))).alloc (Obj.cells #[.pointer (some ⟨N, 0, none⟩)] 58)).alloc (Obj.cells #[.int .i64 0, .int .i64 0, .int .i64 0, .slice none 0 0] 36))
  clear h he c0 c1 c2 c5 f1 f2 f4 f5
  go_enter_defers Try.func63, Try.ntmps63
  go_wp2_with fail
  refine leaves_cons (f := 78) (args := #[.pointer (some ⟨w.heap.size, 0, none⟩)]) (by simp) (by simp [go_sem]) ?_
  refine (within1_d w.heap.size N d _ (by omega) ?_ (HP.out.blk.cell 3) (HP.out.blk.frozen 3)).mono ?_
  · go_simp
  rintro e u' w'' ⟨rfl, rfl, rfl⟩
  refine ⟨Ev Tr.zero (.slice none 0 0), ?_, .slice none 0 0, rfl, SlF.nil _ _, HP.out.deep d, HG.out.set (p := ⟨N, 3, none⟩) (.inl rfl) _⟩
  simp [results, Try.results63, go_sem]
  rfl

set_option maxHeartbeats 4000000 in
theorem within_deep (N d : Nat) (s : ByteArray) (st : St) (w : World) (f : Value) (h : PS w N d s st) (hd : d = 30) :
    Calls Try.prog 63 #[.pointer (some ⟨N, 0, none⟩), f] w (Gives N d s w (Tr.zero, st.bad 231)) := by
  have hmf : ∀ (fn : Fn) (first cap : Array Value) (w : World), (Instr.makeFunc fn first cap).run Try.prog w = .ok (.func fn first cap) w := fun _ _ _ _ => rfl
  obtain ⟨c0, c1, c2, c3, c4, c5, f1, f2, f3, f4, f5⟩ := pb_cells h.blk
  have q2 : ((d : Int) + 1) > 30 := by omega
  have hk : wrap64 ((d : Int) + 1) = (d : Int) + 1 := by rw [w64 _ (by omega)]
  have hlt := h.lt
  have HP := Bx.mk (((h.deep' (d + 1) (x := (d : Int) + 1) (by omega)).alloc (Obj.cells #[.pointer (some ⟨N, 0, none⟩)] 58)).alloc (Obj.cells #[.int .i64 0, .int .i64 0, .int .i64 0, .slice none 0 0] 36))
  have HG := Bx.mk ((((Gb.refl N w).set (p := ⟨N, 3, none⟩) (.inl rfl) (.int .i64 ((d : Int) + 1))).alloc (Obj.cells #[.pointer (some ⟨N, 0, none⟩)] 58)).alloc (Obj.cells #[.int .i64 0, .int .i64 0, .int .i64 0, .slice none 0 0] 36))
  have HD := Bx.mk hd
  have hne := bad_ne 231 (by omega) st
  have q' : ¬ ((st.bad 231).e : Int) = 0 := by omega
  clear h c0 c1 c2 c4 c5 f1 f2 f4 f5 hd hne
  go_enter_defers Try.func63, Try.ntmps63
  go_wp2_with fail
  refine (bad_st N (d + 1) 231 s st _ HP.out).mono ?_
  rintro e w1 ⟨rfl, hP1, hG1⟩
  have hb := hG1.blk ((Blk.new (w.setCell ⟨N, 3, none⟩ (.int .i64 ((d : Int) + 1))) 58 #[.pointer (some ⟨N, 0, none⟩)]).alloc _) (by simp [World.setCell]; omega)
  have hr := hG1.blk (Blk.new ((w.setCell ⟨N, 3, none⟩ (.int .i64 ((d : Int) + 1))).alloc (Obj.cells #[.pointer (some ⟨N, 0, none⟩)] 58)) 36 #[.int .i64 0, .int .i64 0, .int .i64 0, .slice none 0 0]) (by simp [World.setCell]; omega)
  have hz1 : (w.setCell ⟨N, 3, none⟩ (.int .i64 ((d : Int) + 1))).heap.size = w.heap.size := by simp [World.setCell]
  rw [hz1] at hb
  rw [alloc_size, hz1] at hr
  have b0 := hb.cell 0
  simp only [List.getElem?_toArray, List.getElem?_cons_zero] at b0
  obtain ⟨r0, r1, r2, r3, g0, g1, g2, g3⟩ := cells4 hr
  obtain ⟨c0, c1, c2, c3, c4, c5, f1, f2, f3, f4, f5⟩ := pb_cells hP1.blk
  have HP1 := Bx.mk hP1
  have HG1 := Bx.mk hG1
  have HR := Bx.mk hr
  clear hP1 hG1 hb hr c0 c1 c2 c5 f1 f2 f4 f5
  go_wp2_with fail
  refine leaves_cons (f := 78) (args := #[.pointer (some ⟨w.heap.size, 0, none⟩)]) (by simp) (by simp [go_sem]) ?_
  have hP2 := HP1.out.st4 (R := w.heap.size + 1) (by omega) (.int .i64 0) (.int .i64 0) (.int .i64 0) (.slice none 0 0)
  refine (within1_d w.heap.size N d _ (by have := HD.out; omega) ?_ (hP2.blk.cell 3) (hP2.blk.frozen 3)).mono ?_
  · go_simp
  rintro e u' w'' ⟨rfl, rfl, rfl⟩
  have hR2 := (HR.out.own4 (.int .i64 0) (.int .i64 0) (.int .i64 0) (.slice none 0 0)).far (p := ⟨N, 3, none⟩) (by show w.heap.size + 1 ≠ N; omega) (.int .i64 (d : Int))
  obtain ⟨r0, r1, r2, r3, _, _, _, _⟩ := cells4 hR2
  refine ⟨Ev Tr.zero (.slice none 0 0), ?_, .slice none 0 0, rfl, SlF.nil _ _, hP2.deep d, ((HG.out.trans HG1.out).st4 (by omega) _ _ _ _).set (p := ⟨N, 3, none⟩) (.inl rfl) _⟩
  simp [results, Try.results63, go_sem, r0, r1, r2, r3]
  rfl

set_option maxHeartbeats 4000000 in
theorem within_yes (N d : Nat) (s : ByteArray) (st : St) (w : World) (f : FuncId) (p : St → Tr × St) (hcf : ∀ args w, (callFunc f args).run Try.prog w = .ok (.enter f args) w) (hp : Pz f (d + 1) p) (h : PS w N d s st) (hd : d < 30) (he : st.e = 0) :
    Calls Try.prog 63 #[.pointer (some ⟨N, 0, none⟩), .func (.func f) #[] #[]] w (Gives N d s w (p st)) := by
  have hmf : ∀ (fn : Fn) (first cap : Array Value) (w : World), (Instr.makeFunc fn first cap).run Try.prog w = .ok (.func fn first cap) w := fun _ _ _ _ => rfl
  obtain ⟨c0, c1, c2, c3, c4, c5, f1, f2, f3, f4, f5⟩ := pb_cells h.blk
  have q : (st.e : Int) = 0 := by omega
  have q2 : ¬ ((d : Int) + 1) > 30 := by omega
  have hk : wrap64 ((d : Int) + 1) = (d : Int) + 1 := by rw [w64 _ (by omega)]
  have hlt := h.lt
  have HP := Bx.mk (((h.deep' (d + 1) (x := (d : Int) + 1) (by omega)).alloc (Obj.cells #[.pointer (some ⟨N, 0, none⟩)] 58)).alloc (Obj.cells #[.int .i64 0, .int .i64 0, .int .i64 0, .slice none 0 0] 36))
  have HG := Bx.mk ((((Gb.refl N w).set (p := ⟨N, 3, none⟩) (.inl rfl) (.int .i64 ((d : Int) + 1))).alloc (Obj.cells #[.pointer (some ⟨N, 0, none⟩)] 58)).alloc (Obj.cells #[.int .i64 0, .int .i64 0, .int .i64 0, .slice none 0 0] 36))
  clear h c0 c1 c2 c5 f1 f2 f4 f5
  go_enter_defers Try.func63, Try.ntmps63
  go_wp2_with fail
  refine (hp N s st _ HP.out).mono ?_
  rintro e w1 ⟨sl, rfl, hS1, hP1, hG1⟩
  have hb := hG1.blk ((Blk.new (w.setCell ⟨N, 3, none⟩ (.int .i64 ((d : Int) + 1))) 58 #[.pointer (some ⟨N, 0, none⟩)]).alloc _) (by simp [World.setCell]; omega)
  have hr := hG1.blk (Blk.new ((w.setCell ⟨N, 3, none⟩ (.int .i64 ((d : Int) + 1))).alloc (Obj.cells #[.pointer (some ⟨N, 0, none⟩)] 58)) 36 #[.int .i64 0, .int .i64 0, .int .i64 0, .slice none 0 0]) (by simp [World.setCell]; omega)
  have hz1 : (w.setCell ⟨N, 3, none⟩ (.int .i64 ((d : Int) + 1))).heap.size = w.heap.size := by simp [World.setCell]
  rw [hz1] at hb
  rw [alloc_size, hz1] at hr
  have b0 := hb.cell 0
  simp only [List.getElem?_toArray, List.getElem?_cons_zero] at b0
  obtain ⟨r0, r1, r2, r3, g0, g1, g2, g3⟩ := cells4 hr
  obtain ⟨c0, c1, c2, c3, c4, c5, f1, f2, f3, f4, f5⟩ := pb_cells hP1.blk
  obtain ⟨pp, cap, rfl⟩ := hS1.is
  simp only [alloc_size, size_set] at hS1
  have HP1 := Bx.mk hP1
  have HG1 := Bx.mk hG1
  have HR := Bx.mk hr
  have HS1 := Bx.mk hS1
  clear hP1 hG1 hb hr hS1 c0 c1 c2 c5 f1 f2 f4 f5
  unfold Ev
  go_wp2_with fail
  refine leaves_cons (f := 78) (args := #[.pointer (some ⟨w.heap.size, 0, none⟩)]) (by simp) (by simp [go_sem]) ?_
  have hP2 := HP1.out.st4 (R := w.heap.size + 1) (by omega) (.int .i64 (p st).1.k) (.int .i64 (p st).1.a) (.int .i64 (p st).1.v) (.slice pp (p st).1.kids.len cap)
  refine (within1_d w.heap.size N d _ (by omega) ?_ (hP2.blk.cell 3) (hP2.blk.frozen 3)).mono ?_
  · go_simp
  rintro e u' w'' ⟨rfl, rfl, rfl⟩
  have hR2 := (HR.out.own4 (.int .i64 (p st).1.k) (.int .i64 (p st).1.a) (.int .i64 (p st).1.v) (.slice pp (p st).1.kids.len cap)).far (p := ⟨N, 3, none⟩) (by show w.heap.size + 1 ≠ N; omega) (.int .i64 (d : Int))
  obtain ⟨r0, r1, r2, r3, _, _, _, _⟩ := cells4 hR2
  have hS2 := ((HS1.out.st4 (R := w.heap.size + 1) (by unfold Ge; omega) (.int .i64 (p st).1.k) (.int .i64 (p st).1.a) (.int .i64 (p st).1.v) (.slice pp (p st).1.kids.len cap)).far (p := ⟨N, 3, none⟩) (by unfold Ge; show ¬ _ ≤ N; omega) (.int .i64 (d : Int))).mono (B' := Ge w.heap.size) (by unfold Ge; intro g hg; omega)
  refine ⟨Ev (p st).1 (.slice pp (p st).1.kids.len cap), ?_, .slice pp (p st).1.kids.len cap, rfl, hS2, hP2.deep d, ((HG.out.trans HG1.out).st4 (by omega) _ _ _ _).set (p := ⟨N, 3, none⟩) (.inl rfl) _⟩
  simp [results, Try.results63, go_sem, r0, r1, r2, r3]
  rfl

/-- what stands for the reader one deeper -/
def Rz (f : FuncId) (d : Nat) (r : Option (St → Tr × St)) : Prop :=
  match r with
  | none => d = 30
  | some p => d < 30 ∧ Pz f (d + 1) p
theorem within_any (N d : Nat) (s : ByteArray) (st : St) (w : World) (f : FuncId) (r : Option (St → Tr × St)) (hcf : ∀ args w, (callFunc f args).run Try.prog w = .ok (.enter f args) w) (hr : Rz f d r) (h : PS w N d s st) :
    Calls Try.prog 63 #[.pointer (some ⟨N, 0, none⟩), .func (.func f) #[] #[]] w (Gives N d s w (Ex.within r st)) := by
  cases r with
  | none => exact within_deep N d s st w _ h hr
  | some p =>
    by_cases he : st.e = 0
    · have e : Ex.within (some p) st = p st := by unfold Ex.within; exact if_pos he
      rw [e]
      exact within_yes N d s st w f p hcf hr.2 h hr.1 he
    · have e : Ex.within (some p) st = (Tr.zero, st) := by unfold Ex.within; exact if_neg he
      rw [e]
      exact within_no N d s st w _ h hr.1 he
end Go.Proofs.Ytfgokhafiffbaaa
