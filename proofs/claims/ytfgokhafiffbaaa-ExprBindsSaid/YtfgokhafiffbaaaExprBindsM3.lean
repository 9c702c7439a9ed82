/-
  Texts on which the law ExprBinds rests, part 3 of 22.
-/
import Derived.Test.YtfgokhafiffbaaaExprBindsM2
import Derived.Laws.OwnMore
/-
  Formulas: slices of formulas that the call makes by append.
-/
namespace Go.Proofs.Ytfgokhafiffbaaa
set_option linter.unusedVariables false
open Go.RowKit

def Fo.app : Fo → Fo → Fo
  | .nil, G => G
  | .cons k a v kids rest, G => .cons k a v kids (rest.app G)
theorem Fo.len_app : ∀ (F G : Fo), (F.app G).len = F.len + G.len
  | .nil, G => by simp [Fo.app, Fo.len]
  | .cons k a v kids rest, G => by simp [Fo.app, Fo.len, Fo.len_app rest G]; omega
/-- the cells of a list -/
def RowF (w : World) (B : Nat → Prop) : Fo → List Value → Prop
  | .nil, L => L = []
  | .cons k a v kids rest, L => ∃ sl L', L = .int .i64 k :: .int .i64 a :: .int .i64 v :: sl :: L' ∧ SlF w B sl kids ∧ RowF w B rest L'
theorem RowF.length {w : World} {B : Nat → Prop} : ∀ {F : Fo} {L : List Value}, RowF w B F L → L.length = F.len * 4
  | .nil, L, h => by rw [show L = [] from h]; rfl
  | .cons k a v kids rest, L, h => by
    obtain ⟨sl, L', rfl, _, hr⟩ := h
    have := RowF.length hr
    simp [Fo.len, this]
    omega
theorem RowF.app {w : World} {B : Nat → Prop} {G : Fo} {M : List Value} (hG : RowF w B G M) : ∀ {F : Fo} {L : List Value}, RowF w B F L → RowF w B (F.app G) (L ++ M)
  | .nil, L, h => by rw [show L = [] from h]; exact hG
  | .cons k a v kids rest, L, h => by
    obtain ⟨sl, L', rfl, hs, hr⟩ := h
    exact ⟨sl, L' ++ M, rfl, hs, RowF.app hG hr⟩
theorem RowF.kept {w w' : World} {B : Nat → Prop} (hk : ∀ g, B g → g < w.heap.size → w'.heap[g]? = w.heap[g]?) : ∀ {F : Fo} {L : List Value}, RowF w B F L → RowF w' B F L
  | .nil, L, h => h
  | .cons k a v kids rest, L, h => by
    obtain ⟨sl, L', rfl, hs, hr⟩ := h
    exact ⟨sl, L', rfl, hs.kept hk, RowF.kept hk hr⟩
theorem RowF.mono' {w : World} {B B' : Nat → Prop} (hk : ∀ g, g < w.heap.size → B g → B' g) : ∀ {F : Fo} {L : List Value}, RowF w B F L → RowF w B' F L
  | .nil, L, h => h
  | .cons k a v kids rest, L, h => by
    obtain ⟨sl, L', rfl, hs, hr⟩ := h
    exact ⟨sl, L', rfl, hs.mono' hk, RowF.mono' hk hr⟩
theorem SlF.shape {w : World} {B : Nat → Prop} {v : Value} {F : Fo} (h : SlF w B v F) : v.oneCell' = true := by
  obtain ⟨p, cap, rfl⟩ := h.is
  rfl
theorem RowF.one {w : World} {B : Nat → Prop} : ∀ {F : Fo} {L : List Value}, RowF w B F L → ∀ u ∈ L, u.oneCell' = true
  | .nil, L, h => by rw [show L = [] from h]; intro u hu; cases hu
  | .cons k a v kids rest, L, h => by
    obtain ⟨sl, L', rfl, hs, hr⟩ := h
    intro u hu
    simp only [List.mem_cons] at hu
    rcases hu with rfl | rfl | rfl | rfl | hu
    · rfl
    · rfl
    · rfl
    · exact hs.shape
    · exact RowF.one hr u hu
theorem RowF.rd {w : World} {B : Nat → Prop} {b : Nat} (hB : B b) : ∀ {F : Fo} {L : List Value} {o : Nat}, RowF w B F L → (∀ j u, L[j]? = some u → w.cell? ⟨b, o + j, none⟩ = some u) → RdF w B F b o
  | .nil, L, o, h, _ => True.intro
  | .cons k a v kids rest, L, o, h, hc => by
    obtain ⟨sl, L', rfl, ⟨p, cap, b', o', rfl, h1, h2, h3⟩, hr⟩ := h
    refine ⟨hB, hc 0 _ rfl, hc 1 _ rfl, hc 2 _ rfl, ⟨p, cap, b', o', hc 3 _ rfl, h1, h2, h3⟩, ?_⟩
    refine RowF.rd hB hr fun j u hj => ?_
    have := hc (j + 4) u (by simpa using hj)
    rwa [show o + (j + 4) = o + 4 + j from by omega] at this
theorem RdF.row {w : World} {B : Nat → Prop} : ∀ {F : Fo} {b o : Nat}, RdF w B F b o → ∃ L, RowF w B F L ∧ ∀ j u, L[j]? = some u → w.cell? ⟨b, o + j, none⟩ = some u
  | .nil, b, o, _ => ⟨[], rfl, fun j u h => by simp at h⟩
  | .cons k a v kids rest, b, o, h => by
    obtain ⟨hb, h0, h1, h2, ⟨p, cap, b', o', h3, hp, hc, hk⟩, hr⟩ := h
    obtain ⟨L, hL, hcell⟩ := RdF.row hr
    refine ⟨.int .i64 k :: .int .i64 a :: .int .i64 v :: .slice p kids.len cap :: L, ⟨_, L, rfl, ⟨p, cap, b', o', rfl, hp, hc, hk⟩, hL⟩, ?_⟩
    intro j u hj
    match j, hj with
    | 0, hj => cases hj; exact h0
    | 1, hj => cases hj; exact h1
    | 2, hj => cases hj; exact h2
    | 3, hj => cases hj; exact h3
    | j + 4, hj =>
      have := hcell j u (by simpa using hj)
      rwa [show o + 4 + j = o + (j + 4) from by omega] at this

/-- an append whose run is known, for the walk -/
theorem wpList_app {P : Program} {w w' : World} {ops : Array Oper} {rest : List Oper} {o : Oper} {a : Act} {Q : Exit → Act → World → Prop} {v y v' : Value} (s x : Operand) (t u : TypeId)
    (hr : (Builtin.append_ #[t, u] o.type #[v, y]).run P w = .ok v' w') (hgd : o.guard = none)
    (ho : o.op = .call { callee := .builtin .append, args := #[s, x], argTypes := #[t, u] }) (hs : a.eval s = v) (hx : a.eval x = y)
    (h : wpList P ops Q rest (a.put o.dst v') w') : wpList P ops Q (o :: rest) a w := by
  refine wpList_plain hgd fun K hK => ?_
  unfold Oper.wp execOp
  simp only [ho, resolve, invoke, builtin, Sem.run_bind, Sem.run_pure, Result.andThen_ok, List.map_toArray, List.map_cons, List.map_nil, hs, hx, hr]
  exact hK _ _ h

set_option maxRecDepth 100000 in
/-- formulas appended: the slice lies where it lay, or in a new block -/
theorem own_app {w : World} {base : Nat} {v : Value} {n : Nat} {L : List Value} (h : w.ownsRow base 36 4 v n L) (b o m c : Nat) (news : List Value) (hl : news.length = m * 4) (hm : v = .slice none 0 0 → 0 < m)
    (hnews : ∀ j u, news[j]? = some u → w.cell? ⟨b, o + j, none⟩ = some u) (hone : ∀ u ∈ news, u.oneCell' = true) (hn : n + m < 1000000) (hb : base ≤ w.heap.size) (ty : TypeId) :
    ∃ v' w', (Builtin.append_ #[34, 34] ty #[v, .slice (some ⟨b, o, none⟩) m c]).run Try.prog w = .ok v' w' ∧ w'.ownsRow base 36 4 v' (n + m) (L ++ news) ∧ w.grownBy w' v.ownBlock ∧
      (v'.ownBlock = v.ownBlock ∨ v'.ownBlock = some w.heap.size) := by
  obtain ⟨i0, hi, hz⟩ : ∃ i, Try.prog.info? 36 = some i ∧ i.zero = some (.agg #[.int .i64 0, .int .i64 0, .int .i64 0, .slice none 0 0]) ∧ i.size = 4 ∧ i.bytes = 48 := by
    refine ⟨_, rfl, ?_⟩
    exact ⟨by kernel_rfl, by kernel_rfl, by kernel_rfl⟩
  have hnews' : ∀ j u, news[j]? = some u → w.cell? ((⟨b, o, none⟩ : Addr).add j) = some u := fun j u hj => by
    have := hnews j u hj
    simp only [Addr.add]
    split
    · rename_i e0; subst e0; exact this
    · exact this
  obtain ⟨v', w', hr, h1, h2, h3⟩ := run_append_own (P := Try.prog) w base 34 ty 36 i0 _ 4 48 Try.underlying34 hi hz.1 hz.2.1 hz.2.2 rfl (by omega) _ _ _ h ⟨b, o, none⟩ m c news hl hnews' hone (by unfold maxLen; omega) (by omega) hb
  refine ⟨v', w', hr, h1, h2, ?_⟩
  rcases h.2 with ⟨rfl, h0⟩ | ⟨g, cap, cur, rfl, hbg, hg, hnc, hcm, hcs, htake⟩
  · right
    have hr2 := run_append_nil (P := Try.prog) w 34 ty 36 i0 _ Try.underlying34 hi hz.1 ⟨b, o, none⟩ m c news (by rw [hz.2.1]; exact hl) hnews' (hm rfl) (by omega) (by rw [hz.2.2]; omega)
    rw [hr] at hr2
    cases hr2
    rfl
  · by_cases hroom : n + m ≤ cap
    · left
      have hr2 := run_append_room (P := Try.prog) w 34 ty 36 i0 Try.underlying34 hi g n cap cur hg ⟨b, o, none⟩ m c news (by rw [hz.2.1]; exact hl) hnews' hone hroom (by rw [hl, hcs, hz.2.1]; omega)
      rw [hr] at hr2
      cases hr2
      rfl
    · right
      have holds : ∀ j u, L[j]? = some u → w.cell? ((⟨g, 0, none⟩ : Addr).add j) = some u := h.cells (g := g) rfl
      have hr2 := run_append_grow (P := Try.prog) w 34 ty 36 i0 _ Try.underlying34 hi hz.1 ⟨g, 0, none⟩ n cap L (by rw [hz.2.1]; exact h.1) holds ⟨b, o, none⟩ m c news (by rw [hz.2.1]; exact hl) hnews' (by omega) (by omega) (growslice_fits (by omega) (by rw [hz.2.2]; omega))
      rw [hr] at hr2
      cases hr2
      rfl
theorem own_slf {w : World} {base : Nat} {v : Value} {n : Nat} {L : List Value} {F : Fo} {B : Nat → Prop} (h : w.ownsRow base 36 4 v n L) (hF : RowF w B F L) (hB : ∀ k, v.ownBlock = some k → B k) : SlF w B v F := by
  have hl := hF.length
  rw [h.1] at hl
  have hn : n = F.len := by omega
  subst hn
  rcases h.2 with ⟨rfl, h0⟩ | ⟨g, cap, cur, rfl, hbg, hg, hnc, hcm, hcs, htake⟩
  · cases F with
    | nil => exact SlF.nil w B
    | cons k a v kids rest => simp [Fo.len] at h0
  · refine SlF.mk hnc (RowF.rd (hB g rfl) hF fun j u hj => ?_)
    have := h.cells (g := g) rfl j u hj
    rw [Nat.zero_add]
    simp only [Addr.add] at this
    split at this
    · rename_i e0; subst e0; exact this
    · simpa using this

/-- where a call stands that collects formulas in a slice of its own -/
structure IT (w wr : World) (N d : Nat) (s : ByteArray) (st : St) (v : Value) (n : Nat) (F : Fo) : Prop where
  ps : PS wr N d s st
  gb : Gb N w wr
  res : Blk wr w.heap.size 36 #[.int .i64 0, .int .i64 0, .int .i64 0, .slice none 0 0]
  lt : N < w.heap.size
  len : F.len = n
  own : ∃ L, wr.ownsRow (w.heap.size + 1) 36 4 v n L ∧ RowF wr (fun g => w.heap.size < g ∧ some g ≠ v.ownBlock) F L
theorem IT.size {w wr : World} {N d : Nat} {s : ByteArray} {st : St} {v : Value} {n : Nat} {F : Fo} (h : IT w wr N d s st v n F) : w.heap.size + 1 ≤ wr.heap.size := h.res.lt
theorem IT.own_lt {w wr : World} {N d : Nat} {s : ByteArray} {st : St} {v : Value} {n : Nat} {F : Fo} (h : IT w wr N d s st v n F) {k : Nat} (hk : v.ownBlock = some k) : w.heap.size + 1 ≤ k ∧ k < wr.heap.size := by
  obtain ⟨L, h1, _⟩ := h.own
  exact h1.lt k hk
theorem IT.step {w wr w2 : World} {N d : Nat} {s : ByteArray} {st st' : St} {v : Value} {n : Nat} {F : Fo} (h : IT w wr N d s st v n F) (hp : PS w2 N d s st') (hg : Gb N wr w2) : IT w w2 N d s st' v n F := by
  have hlt := h.lt
  refine ⟨hp, h.gb.trans hg, hg.blk h.res (by omega), h.lt, h.len, ?_⟩
  have hw := fun k (hk : v.ownBlock = some k) => h.own_lt hk
  obtain ⟨L, h1, h2⟩ := h.own
  refine ⟨L, h1.kept hg ?_, h2.kept fun g hgB hl => hg.block g hl (fun e => ?_)⟩
  · cases e : v.ownBlock with
    | none => simp
    | some k => right; intro e2; have := Option.some.inj e2; have := hw k e; omega
  · have := Option.some.inj e
    have := hgB.1
    omega
theorem IT.app {w wr : World} {N d : Nat} {s : ByteArray} {st : St} {v : Value} {n : Nat} {F : Fo} (h : IT w wr N d s st v n F) (hn : n < 10) (y : Tr) (sy : Value) (hy : SlF wr (fun g => w.heap.size < g ∧ some g ≠ v.ownBlock) sy y.kids) (c : Nat) (ty : TypeId) :
    ∃ v' w', (Builtin.append_ #[34, 34] ty #[v, .slice (some ⟨wr.heap.size, 0, none⟩) 1 c]).run Try.prog (wr.alloc (.cells #[.int .i64 y.k, .int .i64 y.a, .int .i64 y.v, sy] 36)) = .ok v' w' ∧ IT w w' N d s st v' (n + 1) (F.app (y.on .nil)) := by
  have hlt := h.lt
  have hsz := h.size
  obtain ⟨py, cy, hsy⟩ := hy.is
  have hw := fun k (hk : v.ownBlock = some k) => h.own_lt hk
  obtain ⟨L, h1, h2⟩ := h.own
  have hb := Blk.new wr 36 #[.int .i64 y.k, .int .i64 y.a, .int .i64 y.v, sy]
  have hG0 := World.grownBy_alloc wr (.cells #[.int .i64 y.k, .int .i64 y.a, .int .i64 y.v, sy] 36) none
  have h1' := h1.kept hG0 (by cases e : v.ownBlock <;> simp)
  have hP' := h.ps.alloc (.cells #[.int .i64 y.k, .int .i64 y.a, .int .i64 y.v, sy] 36)
  have hR' := h.res.alloc (.cells #[.int .i64 y.k, .int .i64 y.a, .int .i64 y.v, sy] 36)
  have hgb' := h.gb.alloc (.cells #[.int .i64 y.k, .int .i64 y.a, .int .i64 y.v, sy] 36)
  have h2' : RowF (wr.alloc (.cells #[.int .i64 y.k, .int .i64 y.a, .int .i64 y.v, sy] 36)) (fun g => w.heap.size < g ∧ some g ≠ v.ownBlock ∧ g < wr.heap.size) (F.app (y.on .nil)) (L ++ [.int .i64 y.k, .int .i64 y.a, .int .i64 y.v, sy]) := by
    refine RowF.kept (w := wr) (fun g _ hl => Below.heap_alloc _ _ _ hl) (RowF.app ?_ (h2.mono' fun g hg hB => ⟨hB.1, hB.2, hg⟩))
    exact ⟨sy, [], rfl, hy.mono' fun g hg hB => ⟨hB.1, hB.2, hg⟩, rfl⟩
  have hz0 := alloc_size wr (.cells #[.int .i64 y.k, .int .i64 y.a, .int .i64 y.v, sy] 36)
  generalize wr.alloc (.cells #[.int .i64 y.k, .int .i64 y.a, .int .i64 y.v, sy] 36) = wa at hb h1' hP' hR' hgb' h2' hz0 ⊢
  obtain ⟨v', w', hr, ho, hg, hbk⟩ := own_app h1' wr.heap.size 0 1 c [.int .i64 y.k, .int .i64 y.a, .int .i64 y.v, sy] rfl (fun _ => by omega) (fun j u hj => by
      rw [Nat.zero_add, hb.cell]
      rw [← hj]
      match j with
      | 0 => rfl
      | 1 => rfl
      | 2 => rfl
      | 3 => rfl
      | j + 4 => rfl) (by
      intro u hu
      simp only [List.mem_cons, List.not_mem_nil, or_false] at hu
      rcases hu with rfl | rfl | rfl | rfl
      · rfl
      · rfl
      · rfl
      · exact hy.shape) (by omega) (by omega) ty
  have hne : ∀ g, g ≤ w.heap.size → some g ≠ v.ownBlock := fun g hg e => by have := hw g e.symm; omega
  refine ⟨v', w', hr, ⟨⟨⟨(hg.block N (by omega) (hne N (by omega))).trans hP'.blk.eq⟩, hP'.len, hP'.size, hP'.toks⟩, ?_, ⟨(hg.block w.heap.size (by omega) (hne _ (Nat.le_refl _))).trans hR'.eq⟩, hlt, by rw [Fo.len_app, h.len]; rfl, ?_⟩⟩
  · exact ⟨hg.os.trans hgb'.os, hg.tape.trans hgb'.tape, hg.output.trans hgb'.output, Nat.le_trans hgb'.size hg.size, fun i hi hi2 => (hg.block i (by omega) (hne i (by omega))).trans (hgb'.block i hi hi2)⟩
  · refine ⟨_, ho, (h2'.kept fun g hB hl => hg.block g hl hB.2.1).mono' fun g hl hB => ⟨hB.1, ?_⟩⟩
    rcases hbk with e | e
    · rw [e]; exact hB.2.1
    · rw [e]; intro e2; have := Option.some.inj e2; have := hB.2.2; omega
end Go.Proofs.Ytfgokhafiffbaaa

/-
  Formulas: ite.
-/
namespace Go.Proofs.Ytfgokhafiffbaaa
set_option linter.unusedVariables false
open Go.RowKit

theorem ite_ix0 (w : World) : (Instr.index 49 (.agg #[.string { data := #[40] }, .string { data := #[44] }, .string { data := #[44] }]) (.int .i64 0)).run Try.prog w = .ok (.string { data := #[40] }) w := by kernel_rfl
theorem ite_ix1 (w : World) : (Instr.index 49 (.agg #[.string { data := #[40] }, .string { data := #[44] }, .string { data := #[44] }]) (.int .i64 1)).run Try.prog w = .ok (.string { data := #[44] }) w := by kernel_rfl
theorem ite_ix2 (w : World) : (Instr.index 49 (.agg #[.string { data := #[40] }, .string { data := #[44] }, .string { data := #[44] }]) (.int .i64 2)).run Try.prog w = .ok (.string { data := #[44] }) w := by kernel_rfl
set_option maxHeartbeats 8000000 in
theorem pite_any (N d : Nat) (s : ByteArray) (st : St) (w : World) (at_ : Nat) (r : Option (St → Tr × St)) (hr : Rz 31 d r) (h : PS w N d s st) :
    Calls Try.prog 91 #[.pointer (some ⟨N, 0, none⟩), .int .i64 (at_ : Int)] w (Gives N d s w (Ex.ite r at_ st)) := by
  have hlt := h.lt
  have HI0 : Bx (IT w (w.alloc (Obj.cells #[.int .i64 0, .int .i64 0, .int .i64 0, .slice none 0 0] 36)) N d s st (.slice none 0 0) 0 .nil) := ⟨⟨h.alloc _, (Gb.refl N w).alloc _, Blk.new w 36 #[.int .i64 0, .int .i64 0, .int .i64 0, .slice none 0 0], hlt, rfl, ⟨[], World.ownsRow_nil _ _ _ 4, rfl⟩⟩⟩
  have hW := fun st' u (hu : PS u N d s st') => within_any N d s st' u 31 r (fun _ _ => rfl) hr hu
  have HW := Bx.mk hW
  have e40 : ({ data := #[40] } : ByteArray) = Tok.str .lp := by unfold Tok.str Tok.txt strOf; decide +kernel
  have e41 : ({ data := #[41] } : ByteArray) = Tok.str .rp := by unfold Tok.str Tok.txt strOf; decide +kernel
  have e44 : ({ data := #[44] } : ByteArray) = Tok.str .comma := by unfold Tok.str Tok.txt strOf; decide +kernel
  have E40 := Bx.mk e40
  have E41 := Bx.mk e41
  have E44 := Bx.mk e44
  clear e40 e41 e44 hW hr h
  have i0 := ite_ix0
  have i1 := ite_ix1
  have i2 := ite_ix2
  have HE : Bx (Ex.ite r at_ st = (⟨9, at_, 0, (Ex.within r (st.must .lp)).1.on ((Ex.within r ((Ex.within r (st.must .lp)).2.must .comma)).1.on ((Ex.within r ((Ex.within r ((Ex.within r (st.must .lp)).2.must .comma)).2.must .comma)).1.on .nil))⟩, (Ex.within r ((Ex.within r ((Ex.within r (st.must .lp)).2.must .comma)).2.must .comma)).2.must .rp)) := ⟨rfl⟩
  generalize Ex.ite r at_ st = R at HE ⊢
  go_enter Try.func91, Try.ntmps91
  go_wp2_with fail
  refine wp_loop_rounds 4 ?_
  rw [rounds_succ]
  go_wp2_with fail
  refine (must_st N d .lp _ s _ _ HI0.out.ps E40.out (by decide) (by decide)).mono ?_
  rintro e wm0 ⟨rfl, hPm, hGm⟩
  have HM0 := Bx.mk (HI0.out.step hPm hGm)
  have hWi := HW.out _ _ HM0.out.ps
  clear hPm hGm HI0
  generalize hy0 : Ex.within r (st.must .lp) = Y0 at hWi
  have HY0 := Bx.mk hy0
  clear hy0
  go_wp2_with fail
  refine hWi.mono ?_
  clear hWi
  rintro e wi0 ⟨sy0, rfl, hSy, hPy, hGy⟩
  have hI := HM0.out.step hPy hGy
  have hsz := HM0.out.size
  have hol := fun k (hk : Value.ownBlock (.slice none 0 0) = some k) => HM0.out.own_lt hk
  have hSy' : SlF wi0 (fun g => w.heap.size < g ∧ some g ≠ Value.ownBlock (.slice none 0 0)) sy0 Y0.1.kids := hSy.mono fun g hg => by unfold Ge at hg; exact ⟨by omega, fun e => by have := hol g e.symm; omega⟩
  obtain ⟨py0, cy0, hq0⟩ := hSy.is
  obtain ⟨v1, wa0, hr0, hI'⟩ := hI.app (by omega) Y0.1 sy0 hSy' 1 34
  have HI1 := Bx.mk hI'
  clear hI hSy' hSy hPy hGy hI' hol HM0
  subst hq0
  unfold Ev
  go_wp2_with (refine wpList_app _ _ _ _ hr0 rfl rfl rfl rfl ?_)
  rw [rounds_succ]
  go_wp2_with fail
  refine (must_st N d .comma _ s _ _ HI1.out.ps E44.out (by decide) (by decide)).mono ?_
  rintro e wm1 ⟨rfl, hPm, hGm⟩
  have HM1 := Bx.mk (HI1.out.step hPm hGm)
  have hWi := HW.out _ _ HM1.out.ps
  clear hPm hGm HI1
  generalize hy1 : Ex.within r (Y0.2.must .comma) = Y1 at hWi
  have HY1 := Bx.mk hy1
  clear hy1
  go_wp2_with fail
  refine hWi.mono ?_
  clear hWi
  rintro e wi1 ⟨sy1, rfl, hSy, hPy, hGy⟩
  have hI := HM1.out.step hPy hGy
  have hsz := HM1.out.size
  have hol := fun k (hk : Value.ownBlock v1 = some k) => HM1.out.own_lt hk
  have hSy' : SlF wi1 (fun g => w.heap.size < g ∧ some g ≠ Value.ownBlock v1) sy1 Y1.1.kids := hSy.mono fun g hg => by unfold Ge at hg; exact ⟨by omega, fun e => by have := hol g e.symm; omega⟩
  obtain ⟨py1, cy1, hq1⟩ := hSy.is
  obtain ⟨v2, wa1, hr1, hI'⟩ := hI.app (by omega) Y1.1 sy1 hSy' 1 34
  have HI2 := Bx.mk hI'
  clear hI hSy' hSy hPy hGy hI' hol HM1
  subst hq1
  unfold Ev
  go_wp2_with (refine wpList_app _ _ _ _ hr1 rfl rfl rfl rfl ?_)
  rw [rounds_succ]
  go_wp2_with fail
  refine (must_st N d .comma _ s _ _ HI2.out.ps E44.out (by decide) (by decide)).mono ?_
  rintro e wm2 ⟨rfl, hPm, hGm⟩
  have HM2 := Bx.mk (HI2.out.step hPm hGm)
  have hWi := HW.out _ _ HM2.out.ps
  clear hPm hGm HI2
  generalize hy2 : Ex.within r (Y1.2.must .comma) = Y2 at hWi
  have HY2 := Bx.mk hy2
  clear hy2
  go_wp2_with fail
  refine hWi.mono ?_
  clear hWi
  rintro e wi2 ⟨sy2, rfl, hSy, hPy, hGy⟩
  have hI := HM2.out.step hPy hGy
  have hsz := HM2.out.size
  have hol := fun k (hk : Value.ownBlock v2 = some k) => HM2.out.own_lt hk
  have hSy' : SlF wi2 (fun g => w.heap.size < g ∧ some g ≠ Value.ownBlock v2) sy2 Y2.1.kids := hSy.mono fun g hg => by unfold Ge at hg; exact ⟨by omega, fun e => by have := hol g e.symm; omega⟩
  obtain ⟨py2, cy2, hq2⟩ := hSy.is
  obtain ⟨v3, wa2, hr2, hI'⟩ := hI.app (by omega) Y2.1 sy2 hSy' 1 34
  have HI3 := Bx.mk hI'
  clear hI hSy' hSy hPy hGy hI' hol HM2
  subst hq2
  unfold Ev
  go_wp2_with (refine wpList_app _ _ _ _ hr2 rfl rfl rfl rfl ?_)
  rw [rounds_succ]
  go_wp2_with fail
  refine (must_st N d .rp _ s _ _ HI3.out.ps E41.out (by decide) (by decide)).mono ?_
  rintro e w4 ⟨rfl, hP4, hG4⟩
  have hI4 := HI3.out.step hP4 hG4
  obtain ⟨L, ho, hF⟩ := hI4.own
  have hS4 := own_slf (B := fun g => w.heap.size < g) ho (hF.mono' fun g _ hB => hB.1) (fun k hk => (hI4.own_lt hk).1)
  obtain ⟨pv, cv, hv⟩ := hS4.is
  obtain ⟨r0, r1, r2, r3, g0, g1, g2, g3⟩ := cells4 hI4.res
  have HI4 := Bx.mk hI4
  have HS4 := Bx.mk hS4
  clear hI4 hS4 hP4 hG4 ho hF
  subst hv
  go_wp2_with fail
  have hE := Blk.own4 HI4.out.res (.int .i64 9) (.int .i64 (at_ : Int)) (.int .i64 0) (.slice pv (((Fo.nil.app (Y0.1.on .nil)).app (Y1.1.on .nil)).app (Y2.1.on .nil)).len cv)
  clear r0 r1 r2 r3 g0 g1 g2 g3
  obtain ⟨r0, r1, r2, r3, _, _, _, _⟩ := cells4 hE
  refine bodyPost_ret (v := Ev (⟨9, at_, 0, ((Fo.nil.app (Y0.1.on .nil)).app (Y1.1.on .nil)).app (Y2.1.on .nil)⟩ : Tr) (.slice pv (((Fo.nil.app (Y0.1.on .nil)).app (Y1.1.on .nil)).app (Y2.1.on .nil)).len cv)) (by simp [results, Try.results91, go_sem, r0, r1, r2, r3]; rfl) rfl ?_
  rw [HE.out, HY0.out, HY1.out, HY2.out]
  exact ⟨.slice pv (((Fo.nil.app (Y0.1.on .nil)).app (Y1.1.on .nil)).app (Y2.1.on .nil)).len cv, rfl, (HS4.out.st4 (R := w.heap.size) (fun h => by omega) _ _ _ _).mono (B' := Ge w.heap.size) (fun g hg => by unfold Ge; omega), HI4.out.ps.st4 (R := w.heap.size) (by omega) _ _ _ _, HI4.out.gb.st4 (Nat.le_refl _) _ _ _ _⟩
end Go.Proofs.Ytfgokhafiffbaaa

/-
  Formulas: prim.
-/
namespace Go.Proofs.Ytfgokhafiffbaaa
set_option linter.unusedVariables false
open Go.RowKit
theorem tok_cells {w : World} {g : Nat} {s : ByteArray} {a : Int} (h : Blk w g 60 #[.string s, .int .i64 a]) : w.cell? ⟨g, 0, none⟩ = some (.string s) ∧ w.cell? ⟨g, 1, none⟩ = some (.int .i64 a) := ⟨h.cell 0, h.cell 1⟩
theorem Tok.zero_at : (bl (Tok.zero).str)[0]? = some 48 := by rw [Tok.bl_str]; unfold Tok.txt; rfl
theorem Tok.one_at : (bl (Tok.one).str)[0]? = some 49 := by rw [Tok.bl_str]; unfold Tok.txt; rfl
theorem ba_of {b : ByteArray} {t : Tok} (h : bl b = t.txt) : b = t.str := bl_inj (by rw [Tok.bl_str, h])
theorem e48 : ({ data := #[48] } : ByteArray) = Tok.str .zero := by unfold Tok.str Tok.txt strOf; decide +kernel
theorem e49 : ({ data := #[49] } : ByteArray) = Tok.str .one := by unfold Tok.str Tok.txt strOf; decide +kernel
theorem e40 : ({ data := #[40] } : ByteArray) = Tok.str .lp := by unfold Tok.str Tok.txt strOf; decide +kernel
theorem e41 : ({ data := #[41] } : ByteArray) = Tok.str .rp := by unfold Tok.str Tok.txt strOf; decide +kernel
theorem eite : ({ data := #[105, 116, 101] } : ByteArray) = Tok.str .ite := by unfold Tok.str Tok.txt strOf; decide +kernel
theorem eall : ({ data := #[97, 108, 108] } : ByteArray) = Tok.str .all := by unfold Tok.str Tok.txt strOf; decide +kernel
theorem eany : ({ data := #[97, 110, 121] } : ByteArray) = Tok.str .any := by unfold Tok.str Tok.txt strOf; decide +kernel
theorem enot : ({ data := #[33] } : ByteArray) = Tok.str .not := by unfold Tok.str Tok.txt strOf; decide +kernel
/-- a sign against a constant text, in the walk's own forms -/
theorem tok_isnt (t u : Tok) (l : List UInt8) (hu : ({ data := l.toArray } : ByteArray) = Tok.str u) (h : t ≠ u) : ¬ t.str.toList = l ∧ (t.str.toList == l) = false := by
  have hx : ¬ t.str.toList = l := fun e => by
    have e2 : bl t.str = bl u.str := by
      rw [← hu, show bl ({ data := l.toArray } : ByteArray) = l.map UInt8.toNat from bl_mk l]
      unfold bl
      rw [← ByteArray.toList_eq, e]
    rw [Tok.bl_str, Tok.bl_str] at e2
    exact h (Tok.txt_inj e2)
  exact ⟨hx, beq_eq_false_iff_ne.2 hx⟩

set_option maxHeartbeats 8000000 in
theorem prim_var (N d : Nat) (s : ByteArray) (st : St) (w : World) (n : Fin 8) (hn : st.now = .var n) (h : PS w N d s st) :
    Calls Try.prog 89 #[.pointer (some ⟨N, 0, none⟩)] w (Gives N d s w (⟨1, st.at_, n.val, .nil⟩, st.goes)) := by
  have hlt := h.lt
  have HP0 := Bx.mk ((h.alloc (Obj.cells #[.int .i64 0, .int .i64 0, .int .i64 0, .slice none 0 0] 36)).alloc (Obj.cells #[.string st.now.str, .int .i64 (st.at_ : Int)] 60))
  have HR0 := Bx.mk ((Blk.new w 36 #[.int .i64 0, .int .i64 0, .int .i64 0, .slice none 0 0]).alloc (Obj.cells #[.string st.now.str, .int .i64 (st.at_ : Int)] 60))
  have HG0 := Bx.mk (((Gb.refl N w).alloc (Obj.cells #[.int .i64 0, .int .i64 0, .int .i64 0, .slice none 0 0] 36)).alloc (Obj.cells #[.string st.now.str, .int .i64 (st.at_ : Int)] 60))
  have ht0 := Blk.new (w.alloc (Obj.cells #[.int .i64 0, .int .i64 0, .int .i64 0, .slice none 0 0] 36)) 60 #[.string st.now.str, .int .i64 (st.at_ : Int)]
  rw [alloc_size] at ht0
  have HT0 := Bx.mk ht0
  obtain ⟨c0, c1, c2, c3, c4, c5, f1, f2, f3, f4, f5⟩ := pb_cells h.blk
  have hV := variable_any st.now.str
  rw [Tok.bl_str] at hV
  clear c0 c3 c4 c5 f1 f2 f3 f4 f5 h ht0

  rw [hn, Lx.vr_var] at hV
  have hT := run_idx1 (Tok.var_at n)
  have hn8 := n.isLt
  have hw1 : IntKind.u8.wrap (48 + (n.val : Int) - 48) = (n.val : Int) := by rw [IntKind.wrap_u8]; omega
  have hw2 : IntKind.i64.wrap (n.val : Int) = (n.val : Int) := by rw [IntKind.wrap_i64]; omega

  have HGo := Bx.mk (goes_st N d s st _ HP0.out (by rw [hn]; simp) (by rw [hn]; simp))
  have HV := Bx.mk hV
  have HN := Bx.mk hn
  rw [hn] at c1
  clear hV
  go_enter Try.func89, Try.ntmps89
  go_wp2_with fail
  refine (HV.out _).mono ?_
  rintro e w1 ⟨rfl, rfl⟩
  go_wp2_with fail
  rw [← HN.out]
  refine HGo.out.mono ?_
  rintro e w2 ⟨rfl, hP4, hG4⟩
  have hR4 := hG4.blk HR0.out (by omega)
  have hT4 := hG4.blk HT0.out (by omega)
  obtain ⟨t0, t1⟩ := tok_cells hT4
  obtain ⟨r0, r1, r2, r3, g0, g1, g2, g3⟩ := cells4 hR4
  rw [HN.out] at t0
  have HP4 := Bx.mk hP4
  have HG4 := Bx.mk hG4
  have HR4 := Bx.mk hR4
  clear hP4 hG4 hR4 hT4 c1 c2
  go_wp2_with fail
  go_still_tail 8, (by kernel_rfl)
  go_wp2_with fail
  clear r0 r1 r2 r3 g0 g1 g2 g3
  have hE := (Blk.own4 HR4.out (.int .i64 1) (.int .i64 (st.at_ : Int)) (.int .i64 n.val) (.slice none 0 0)).drew
  obtain ⟨r0, r1, r2, r3, _, _, _, _⟩ := cells4 hE
  refine bodyPost_ret (v := Ev (⟨1, st.at_, n.val, .nil⟩ : Tr) (.slice none 0 0)) (by simp [results, Try.results89, go_sem, r0, r1, r2, r3]; rfl) rfl ?_
  exact ⟨.slice none 0 0, rfl, SlF.nil _ _, (HP4.out.st4 (R := w.heap.size) (by omega) _ _ _ _).drew, ((HG0.out.trans HG4.out).st4 (Nat.le_refl _) _ _ _ _).drew⟩

set_option maxHeartbeats 8000000 in
theorem prim_zero (N d : Nat) (s : ByteArray) (st : St) (w : World) (hn : st.now = .zero) (h : PS w N d s st) :
    Calls Try.prog 89 #[.pointer (some ⟨N, 0, none⟩)] w (Gives N d s w (⟨2, st.at_, 0, .nil⟩, st.goes)) := by
  have hlt := h.lt
  have HP0 := Bx.mk ((h.alloc (Obj.cells #[.int .i64 0, .int .i64 0, .int .i64 0, .slice none 0 0] 36)).alloc (Obj.cells #[.string st.now.str, .int .i64 (st.at_ : Int)] 60))
  have HR0 := Bx.mk ((Blk.new w 36 #[.int .i64 0, .int .i64 0, .int .i64 0, .slice none 0 0]).alloc (Obj.cells #[.string st.now.str, .int .i64 (st.at_ : Int)] 60))
  have HG0 := Bx.mk (((Gb.refl N w).alloc (Obj.cells #[.int .i64 0, .int .i64 0, .int .i64 0, .slice none 0 0] 36)).alloc (Obj.cells #[.string st.now.str, .int .i64 (st.at_ : Int)] 60))
  have ht0 := Blk.new (w.alloc (Obj.cells #[.int .i64 0, .int .i64 0, .int .i64 0, .slice none 0 0] 36)) 60 #[.string st.now.str, .int .i64 (st.at_ : Int)]
  rw [alloc_size] at ht0
  have HT0 := Bx.mk ht0
  obtain ⟨c0, c1, c2, c3, c4, c5, f1, f2, f3, f4, f5⟩ := pb_cells h.blk
  have hV := variable_any st.now.str
  rw [Tok.bl_str] at hV
  clear c0 c3 c4 c5 f1 f2 f3 f4 f5 h ht0

  rw [hn, Lx.vr_not .zero (by intro n; simp)] at hV
  have hT := run_idx0 (Tok.zero_at)
  have z48 : (Tok.str .zero).toList = 48 :: [] := by rw [Tok.str, show (Tok.zero).txt = [48] from by unfold Tok.txt; rfl]; unfold strOf; decide +kernel

  have HGo := Bx.mk (goes_st N d s st _ HP0.out (by rw [hn]; simp) (by rw [hn]; simp))
  have HV := Bx.mk hV
  have HN := Bx.mk hn
  rw [hn] at c1
  clear hV
  go_enter Try.func89, Try.ntmps89
  go_wp2_with fail
  refine (HV.out _).mono ?_
  rintro e w1 ⟨rfl, rfl⟩
  go_wp2_with fail
  rw [← HN.out]
  refine HGo.out.mono ?_
  rintro e w2 ⟨rfl, hP4, hG4⟩
  have hR4 := hG4.blk HR0.out (by omega)
  have hT4 := hG4.blk HT0.out (by omega)
  obtain ⟨t0, t1⟩ := tok_cells hT4
  obtain ⟨r0, r1, r2, r3, g0, g1, g2, g3⟩ := cells4 hR4
  rw [HN.out] at t0
  have HP4 := Bx.mk hP4
  have HG4 := Bx.mk hG4
  have HR4 := Bx.mk hR4
  clear hP4 hG4 hR4 hT4 c1 c2
  go_wp2_with fail
  go_still_tail 8, (by kernel_rfl)
  go_wp2_with fail
  clear r0 r1 r2 r3 g0 g1 g2 g3
  have hE := (Blk.own4 HR4.out (.int .i64 2) (.int .i64 (st.at_ : Int)) (.int .i64 0) (.slice none 0 0)).drew
  obtain ⟨r0, r1, r2, r3, _, _, _, _⟩ := cells4 hE
  refine bodyPost_ret (v := Ev (⟨2, st.at_, 0, .nil⟩ : Tr) (.slice none 0 0)) (by simp [results, Try.results89, go_sem, r0, r1, r2, r3]; rfl) rfl ?_
  exact ⟨.slice none 0 0, rfl, SlF.nil _ _, (HP4.out.st4 (R := w.heap.size) (by omega) _ _ _ _).drew, ((HG0.out.trans HG4.out).st4 (Nat.le_refl _) _ _ _ _).drew⟩

set_option maxHeartbeats 8000000 in
theorem prim_one (N d : Nat) (s : ByteArray) (st : St) (w : World) (hn : st.now = .one) (h : PS w N d s st) :
    Calls Try.prog 89 #[.pointer (some ⟨N, 0, none⟩)] w (Gives N d s w (⟨2, st.at_, 1, .nil⟩, st.goes)) := by
  have hlt := h.lt
  have HP0 := Bx.mk ((h.alloc (Obj.cells #[.int .i64 0, .int .i64 0, .int .i64 0, .slice none 0 0] 36)).alloc (Obj.cells #[.string st.now.str, .int .i64 (st.at_ : Int)] 60))
  have HR0 := Bx.mk ((Blk.new w 36 #[.int .i64 0, .int .i64 0, .int .i64 0, .slice none 0 0]).alloc (Obj.cells #[.string st.now.str, .int .i64 (st.at_ : Int)] 60))
  have HG0 := Bx.mk (((Gb.refl N w).alloc (Obj.cells #[.int .i64 0, .int .i64 0, .int .i64 0, .slice none 0 0] 36)).alloc (Obj.cells #[.string st.now.str, .int .i64 (st.at_ : Int)] 60))
  have ht0 := Blk.new (w.alloc (Obj.cells #[.int .i64 0, .int .i64 0, .int .i64 0, .slice none 0 0] 36)) 60 #[.string st.now.str, .int .i64 (st.at_ : Int)]
  rw [alloc_size] at ht0
  have HT0 := Bx.mk ht0
  obtain ⟨c0, c1, c2, c3, c4, c5, f1, f2, f3, f4, f5⟩ := pb_cells h.blk
  have hV := variable_any st.now.str
  rw [Tok.bl_str] at hV
  clear c0 c3 c4 c5 f1 f2 f3 f4 f5 h ht0

  rw [hn, Lx.vr_not .one (by intro n; simp)] at hV
  have hT := run_idx0 (Tok.one_at)
  have z48 : (Tok.str .one).toList = 49 :: [] := by rw [Tok.str, show (Tok.one).txt = [49] from by unfold Tok.txt; rfl]; unfold strOf; decide +kernel

  have HGo := Bx.mk (goes_st N d s st _ HP0.out (by rw [hn]; simp) (by rw [hn]; simp))
  have HV := Bx.mk hV
  have HN := Bx.mk hn
  rw [hn] at c1
  clear hV
  go_enter Try.func89, Try.ntmps89
  go_wp2_with fail
  refine (HV.out _).mono ?_
  rintro e w1 ⟨rfl, rfl⟩
  go_wp2_with fail
  rw [← HN.out]
  refine HGo.out.mono ?_
  rintro e w2 ⟨rfl, hP4, hG4⟩
  have hR4 := hG4.blk HR0.out (by omega)
  have hT4 := hG4.blk HT0.out (by omega)
  obtain ⟨t0, t1⟩ := tok_cells hT4
  obtain ⟨r0, r1, r2, r3, g0, g1, g2, g3⟩ := cells4 hR4
  rw [HN.out] at t0
  have HP4 := Bx.mk hP4
  have HG4 := Bx.mk hG4
  have HR4 := Bx.mk hR4
  clear hP4 hG4 hR4 hT4 c1 c2
  go_wp2_with fail
  go_still_tail 8, (by kernel_rfl)
  go_wp2_with fail
  clear r0 r1 r2 r3 g0 g1 g2 g3
  have hE := (Blk.own4 HR4.out (.int .i64 2) (.int .i64 (st.at_ : Int)) (.int .i64 1) (.slice none 0 0)).drew
  obtain ⟨r0, r1, r2, r3, _, _, _, _⟩ := cells4 hE
  refine bodyPost_ret (v := Ev (⟨2, st.at_, 1, .nil⟩ : Tr) (.slice none 0 0)) (by simp [results, Try.results89, go_sem, r0, r1, r2, r3]; rfl) rfl ?_
  exact ⟨.slice none 0 0, rfl, SlF.nil _ _, (HP4.out.st4 (R := w.heap.size) (by omega) _ _ _ _).drew, ((HG0.out.trans HG4.out).st4 (Nat.le_refl _) _ _ _ _).drew⟩

set_option maxHeartbeats 8000000 in
theorem prim_lp (N d : Nat) (s : ByteArray) (st : St) (w : World) (hv : ∀ n, st.now ≠ .var n) (hz : st.now ≠ .zero) (ho : st.now ≠ .one) (r : Option (St → Tr × St)) (hr : Rz 31 d r) (hm : st.may .lp = true) (h : PS w N d s st) :
    Calls Try.prog 89 #[.pointer (some ⟨N, 0, none⟩)] w (Gives N d s w ((Ex.within r st.goes).1, (Ex.within r st.goes).2.must .rp)) := by
  have hlt := h.lt
  have HP0 := Bx.mk ((h.alloc (Obj.cells #[.int .i64 0, .int .i64 0, .int .i64 0, .slice none 0 0] 36)).alloc (Obj.cells #[.string st.now.str, .int .i64 (st.at_ : Int)] 60))
  have HR0 := Bx.mk ((Blk.new w 36 #[.int .i64 0, .int .i64 0, .int .i64 0, .slice none 0 0]).alloc (Obj.cells #[.string st.now.str, .int .i64 (st.at_ : Int)] 60))
  have HG0 := Bx.mk (((Gb.refl N w).alloc (Obj.cells #[.int .i64 0, .int .i64 0, .int .i64 0, .slice none 0 0] 36)).alloc (Obj.cells #[.string st.now.str, .int .i64 (st.at_ : Int)] 60))
  have ht0 := Blk.new (w.alloc (Obj.cells #[.int .i64 0, .int .i64 0, .int .i64 0, .slice none 0 0] 36)) 60 #[.string st.now.str, .int .i64 (st.at_ : Int)]
  rw [alloc_size] at ht0
  have HT0 := Bx.mk ht0
  obtain ⟨c0, c1, c2, c3, c4, c5, f1, f2, f3, f4, f5⟩ := pb_cells h.blk
  have hV := variable_any st.now.str
  rw [Tok.bl_str] at hV
  clear c0 c3 c4 c5 f1 f2 f3 f4 f5 h ht0

  rw [Lx.vr_not _ hv] at hV
  have HV := Bx.mk hV
  have k0 := tok_isnt st.now .zero [48] e48 hz
  have k1 := tok_isnt st.now .one [49] e49 ho
  obtain ⟨k00, k01⟩ := k0
  obtain ⟨k10, k11⟩ := k1
  have hM := may_st N d .lp ({ data := #[40] }) s _ _ HP0.out e40 (by decide) (by decide)
  rw [hm, if_pos rfl] at hM
  have HM := Bx.mk hM
  have hW := fun u (hu : PS u N d s st.goes) => within_any N d s st.goes u 31 r (fun _ _ => rfl) hr hu
  have HW := Bx.mk hW
  clear hV hM hW hr
  generalize Ex.within r st.goes = Y at HW ⊢
  go_enter Try.func89, Try.ntmps89
  go_wp2_with fail
  refine (HV.out _).mono ?_
  rintro e w1 ⟨rfl, rfl⟩
  go_wp2_with fail
  refine HM.out.mono ?_
  rintro e w2 ⟨rfl, hP4, hG4⟩
  have hR4 := hG4.blk HR0.out (by omega)
  have hz4 := hG4.size
  rw [alloc_size, alloc_size] at hz4
  have hW4 := HW.out _ hP4
  have HG4 := Bx.mk hG4
  clear hP4 hG4
  go_wp2_with fail
  refine hW4.mono ?_
  clear hW4
  rintro e w3 ⟨sy, rfl, hS5, hP5, hG5⟩
  obtain ⟨py, cy, rfl⟩ := hS5.is
  have hz5 := hG5.size
  have hR5 := (hG5.blk hR4 (by omega)).alloc (Obj.cells #[.int .i64 Y.1.k, .int .i64 Y.1.a, .int .i64 Y.1.v, .slice py Y.1.kids.len cy] 36)
  have hX5 := Blk.new w3 36 #[.int .i64 Y.1.k, .int .i64 Y.1.a, .int .i64 Y.1.v, .slice py Y.1.kids.len cy]
  have hP6 := hP5.alloc (Obj.cells #[.int .i64 Y.1.k, .int .i64 Y.1.a, .int .i64 Y.1.v, .slice py Y.1.kids.len cy] 36)
  have hG6 := (hG5.alloc (Obj.cells #[.int .i64 Y.1.k, .int .i64 Y.1.a, .int .i64 Y.1.v, .slice py Y.1.kids.len cy] 36))
  have hS6 := (hS5.mono (B' := Ge (w.heap.size + 1)) fun g hg => by unfold Ge at hg ⊢; omega).alloc (Obj.cells #[.int .i64 Y.1.k, .int .i64 Y.1.a, .int .i64 Y.1.v, .slice py Y.1.kids.len cy] 36)
  have hM2 := must_st N d .rp ({ data := #[41] }) s _ _ hP6 e41 (by decide) (by decide)
  have HM2 := Bx.mk hM2
  have HR5 := Bx.mk hR5
  have HX5 := Bx.mk hX5
  have HG6 := Bx.mk hG6
  have HS6 := Bx.mk hS6
  clear hM2 hR5 hX5 hG6 hS6 hP6 hP5 hS5 hG5 hR4
  unfold Ev
  go_wp2_with fail
  refine HM2.out.mono ?_
  rintro e w5 ⟨rfl, hP7, hG7⟩
  have hR7 := hG7.blk HR5.out (by omega)
  have hX7 := hG7.blk HX5.out (by omega)
  obtain ⟨o0, o1, o2, o3, _, _, _, _⟩ := cells4 hX7
  obtain ⟨r0, r1, r2, r3, g0, g1, g2, g3⟩ := cells4 hR7
  have HP7 := Bx.mk hP7
  have HG7 := Bx.mk hG7
  have HR7 := Bx.mk hR7
  clear hP7 hG7 hR7 hX7
  go_wp2_with fail
  clear r0 r1 r2 r3 g0 g1 g2 g3
  have hE := (Blk.own4 HR7.out (.int .i64 Y.1.k) (.int .i64 Y.1.a) (.int .i64 Y.1.v) (.slice py Y.1.kids.len cy))
  obtain ⟨r0, r1, r2, r3, _, _, _, _⟩ := cells4 hE
  refine bodyPost_ret (v := Ev Y.1 (.slice py Y.1.kids.len cy)) (by simp [results, Try.results89, go_sem, r0, r1, r2, r3]; rfl) rfl ?_
  exact ⟨.slice py Y.1.kids.len cy, rfl, ((HS6.out.gbs (fun h => by unfold Ge at h; omega) HG7.out).st4 (R := w.heap.size) (fun h => by unfold Ge at h; omega) _ _ _ _).mono (fun g hg => by unfold Ge at hg ⊢; omega), (HP7.out.st4 (R := w.heap.size) (by omega) _ _ _ _), ((HG0.out.trans (HG4.out.trans (HG6.out.trans HG7.out))).st4 (Nat.le_refl _) _ _ _ _)⟩

set_option maxHeartbeats 8000000 in
theorem prim_ite (N d : Nat) (s : ByteArray) (st : St) (w : World) (hv : ∀ n, st.now ≠ .var n) (hz : st.now ≠ .zero) (ho : st.now ≠ .one) (r : Option (St → Tr × St)) (hr : Rz 31 d r) (hm : st.may .lp = false) (hi : st.may .ite = true) (h : PS w N d s st) :
    Calls Try.prog 89 #[.pointer (some ⟨N, 0, none⟩)] w (Gives N d s w (Ex.ite r st.at_ st.goes)) := by
  have hlt := h.lt
  have HP0 := Bx.mk ((h.alloc (Obj.cells #[.int .i64 0, .int .i64 0, .int .i64 0, .slice none 0 0] 36)).alloc (Obj.cells #[.string st.now.str, .int .i64 (st.at_ : Int)] 60))
  have HR0 := Bx.mk ((Blk.new w 36 #[.int .i64 0, .int .i64 0, .int .i64 0, .slice none 0 0]).alloc (Obj.cells #[.string st.now.str, .int .i64 (st.at_ : Int)] 60))
  have HG0 := Bx.mk (((Gb.refl N w).alloc (Obj.cells #[.int .i64 0, .int .i64 0, .int .i64 0, .slice none 0 0] 36)).alloc (Obj.cells #[.string st.now.str, .int .i64 (st.at_ : Int)] 60))
  have ht0 := Blk.new (w.alloc (Obj.cells #[.int .i64 0, .int .i64 0, .int .i64 0, .slice none 0 0] 36)) 60 #[.string st.now.str, .int .i64 (st.at_ : Int)]
  rw [alloc_size] at ht0
  have HT0 := Bx.mk ht0
  obtain ⟨c0, c1, c2, c3, c4, c5, f1, f2, f3, f4, f5⟩ := pb_cells h.blk
  have hV := variable_any st.now.str
  rw [Tok.bl_str] at hV
  clear c0 c3 c4 c5 f1 f2 f3 f4 f5 h ht0

  rw [Lx.vr_not _ hv] at hV
  have HV := Bx.mk hV
  have k0 := tok_isnt st.now .zero [48] e48 hz
  have k1 := tok_isnt st.now .one [49] e49 ho
  obtain ⟨k00, k01⟩ := k0
  obtain ⟨k10, k11⟩ := k1
  have hM := may_st N d .lp ({ data := #[40] }) s _ _ HP0.out e40 (by decide) (by decide)
  rw [hm, if_neg (by simp)] at hM
  have HM := Bx.mk hM
  have hM2 := fun u (hu : PS u N d s st) => may_st N d .ite ({ data := #[105, 116, 101] }) s st u hu eite (by decide) (by decide)
  rw [hi, if_pos rfl] at hM2
  have HM2 := Bx.mk hM2
  have hW := fun u (hu : PS u N d s st.goes) => pite_any N d s st.goes u st.at_ r hr hu
  have HW := Bx.mk hW
  clear hV hM hW hr hM2
  generalize Ex.ite r st.at_ st.goes = Y at HW ⊢
  go_enter Try.func89, Try.ntmps89
  go_wp2_with fail
  refine (HV.out _).mono ?_
  rintro e w1 ⟨rfl, rfl⟩
  go_wp2_with fail
  refine HM.out.mono ?_
  rintro e w2 ⟨rfl, hP4, hG4⟩
  have hR4 := hG4.blk HR0.out (by omega)
  have hz4 := hG4.size
  rw [alloc_size, alloc_size] at hz4
  have hM4 := HM2.out _ hP4
  have HG4 := Bx.mk hG4
  have hT4 := hG4.blk HT0.out (by omega)
  clear hP4 hG4
  go_wp2_with fail
  refine hM4.mono ?_
  clear hM4
  rintro e w3 ⟨rfl, hP5, hG5⟩
  have hz5 := hG5.size
  have hR5 := (hG5.blk hR4 (by omega))
  have hT5 := (hG5.blk hT4 (by omega))
  obtain ⟨t0, t1⟩ := tok_cells hT5
  have hW5 := HW.out _ hP5
  have HG5 := Bx.mk hG5
  have HR5 := Bx.mk hR5
  clear hR4 hT4 hP5 hG5 hR5 hT5
  go_wp2_with fail
  refine hW5.mono ?_
  clear hW5
  rintro e w4 ⟨sy, rfl, hS6, hP6, hG6⟩
  obtain ⟨py, cy, rfl⟩ := hS6.is
  have hR6 := hG6.blk HR5.out (by omega)
  have hS7 := hS6.mono (B' := Ge (w.heap.size + 1)) fun g hg => by unfold Ge at hg ⊢; omega
  obtain ⟨r0, r1, r2, r3, g0, g1, g2, g3⟩ := cells4 hR6
  have HP6 := Bx.mk hP6
  have HG6 := Bx.mk hG6
  have HR6 := Bx.mk hR6
  have HS7 := Bx.mk hS7
  clear hP6 hG6 hR6 hS6 hS7
  unfold Ev
  go_wp2_with fail
  clear r0 r1 r2 r3 g0 g1 g2 g3
  have hE := (Blk.own4 HR6.out (.int .i64 Y.1.k) (.int .i64 Y.1.a) (.int .i64 Y.1.v) (.slice py Y.1.kids.len cy))
  obtain ⟨r0, r1, r2, r3, _, _, _, _⟩ := cells4 hE
  refine bodyPost_ret (v := Ev Y.1 (.slice py Y.1.kids.len cy)) (by simp [results, Try.results89, go_sem, r0, r1, r2, r3]; rfl) rfl ?_
  exact ⟨.slice py Y.1.kids.len cy, rfl, (HS7.out.st4 (R := w.heap.size) (fun h => by unfold Ge at h; omega) _ _ _ _).mono (fun g hg => by unfold Ge at hg ⊢; omega), (HP6.out.st4 (R := w.heap.size) (by omega) _ _ _ _), ((HG0.out.trans (HG4.out.trans (HG5.out.trans HG6.out))).st4 (Nat.le_refl _) _ _ _ _)⟩

set_option maxHeartbeats 8000000 in
theorem prim_no (N d : Nat) (s : ByteArray) (st : St) (w : World) (hv : ∀ n, st.now ≠ .var n) (hz : st.now ≠ .zero) (ho : st.now ≠ .one) (hm : st.may .lp = false) (hi : st.may .ite = false) (h : PS w N d s st) :
    Calls Try.prog 89 #[.pointer (some ⟨N, 0, none⟩)] w (Gives N d s w (Tr.zero, st.bad 230)) := by
  have hlt := h.lt
  have HP0 := Bx.mk ((h.alloc (Obj.cells #[.int .i64 0, .int .i64 0, .int .i64 0, .slice none 0 0] 36)).alloc (Obj.cells #[.string st.now.str, .int .i64 (st.at_ : Int)] 60))
  have HR0 := Bx.mk ((Blk.new w 36 #[.int .i64 0, .int .i64 0, .int .i64 0, .slice none 0 0]).alloc (Obj.cells #[.string st.now.str, .int .i64 (st.at_ : Int)] 60))
  have HG0 := Bx.mk (((Gb.refl N w).alloc (Obj.cells #[.int .i64 0, .int .i64 0, .int .i64 0, .slice none 0 0] 36)).alloc (Obj.cells #[.string st.now.str, .int .i64 (st.at_ : Int)] 60))
  have ht0 := Blk.new (w.alloc (Obj.cells #[.int .i64 0, .int .i64 0, .int .i64 0, .slice none 0 0] 36)) 60 #[.string st.now.str, .int .i64 (st.at_ : Int)]
  rw [alloc_size] at ht0
  have HT0 := Bx.mk ht0
  obtain ⟨c0, c1, c2, c3, c4, c5, f1, f2, f3, f4, f5⟩ := pb_cells h.blk
  have hV := variable_any st.now.str
  rw [Tok.bl_str] at hV
  clear c0 c3 c4 c5 f1 f2 f3 f4 f5 h ht0

  rw [Lx.vr_not _ hv] at hV
  have HV := Bx.mk hV
  have k0 := tok_isnt st.now .zero [48] e48 hz
  have k1 := tok_isnt st.now .one [49] e49 ho
  obtain ⟨k00, k01⟩ := k0
  obtain ⟨k10, k11⟩ := k1
  have hM := may_st N d .lp ({ data := #[40] }) s _ _ HP0.out e40 (by decide) (by decide)
  rw [hm, if_neg (by simp)] at hM
  have HM := Bx.mk hM
  have hM2 := fun u (hu : PS u N d s st) => may_st N d .ite ({ data := #[105, 116, 101] }) s st u hu eite (by decide) (by decide)
  rw [hi, if_neg (by simp)] at hM2
  have HM2 := Bx.mk hM2
  clear hV hM hM2
  go_enter Try.func89, Try.ntmps89
  go_wp2_with fail
  refine (HV.out _).mono ?_
  rintro e w1 ⟨rfl, rfl⟩
  go_wp2_with fail
  refine HM.out.mono ?_
  rintro e w2 ⟨rfl, hP4, hG4⟩
  have hR4 := hG4.blk HR0.out (by omega)
  have hz4 := hG4.size
  rw [alloc_size, alloc_size] at hz4
  have hM4 := HM2.out _ hP4
  have HG4 := Bx.mk hG4
  clear hP4 hG4
  go_wp2_with fail
  refine hM4.mono ?_
  clear hM4
  rintro e w3 ⟨rfl, hP5, hG5⟩
  have hz5 := hG5.size
  have hR5 := (hG5.blk hR4 (by omega))
  have hW5 := bad_st N d 230 s st _ hP5
  have HG5 := Bx.mk hG5
  have HR5 := Bx.mk hR5
  clear hR4 hP5 hG5 hR5
  go_wp2_with fail
  refine hW5.mono ?_
  clear hW5
  rintro e w4 ⟨rfl, hP6, hG6⟩
  have hR6 := hG6.blk HR5.out (by omega)
  obtain ⟨r0, r1, r2, r3, g0, g1, g2, g3⟩ := cells4 hR6
  have HP6 := Bx.mk hP6
  have HG6 := Bx.mk hG6
  have HR6 := Bx.mk hR6
  clear hP6 hG6 hR6
  go_wp2_with fail
  clear r0 r1 r2 r3 g0 g1 g2 g3
  have hE := (Blk.own4 HR6.out (.int .i64 0) (.int .i64 0) (.int .i64 0) (.slice none 0 0))
  obtain ⟨r0, r1, r2, r3, _, _, _, _⟩ := cells4 hE
  refine bodyPost_ret (v := Ev Tr.zero (.slice none 0 0)) (by simp [results, Try.results89, go_sem, r0, r1, r2, r3]; rfl) rfl ?_
  exact ⟨.slice none 0 0, rfl, SlF.nil _ _, (HP6.out.st4 (R := w.heap.size) (by omega) _ _ _ _), ((HG0.out.trans (HG4.out.trans (HG5.out.trans HG6.out))).st4 (Nat.le_refl _) _ _ _ _)⟩

theorem prim_any (N d : Nat) (s : ByteArray) (st : St) (w : World) (r : Option (St → Tr × St)) (hr : Rz 31 d r) (h : PS w N d s st) :
    Calls Try.prog 89 #[.pointer (some ⟨N, 0, none⟩)] w (Gives N d s w (Ex.prim r st)) := by
  by_cases hv : ∃ n, st.now = .var n
  · obtain ⟨n, hn⟩ := hv
    rw [show Ex.prim r st = (⟨1, st.at_, n.val, .nil⟩, st.goes) from by unfold Ex.prim; rw [hn]]
    exact prim_var N d s st w n hn h
  by_cases hz : st.now = .zero
  · rw [show Ex.prim r st = (⟨2, st.at_, 0, .nil⟩, st.goes) from by unfold Ex.prim; rw [hz]]
    exact prim_zero N d s st w hz h
  by_cases ho : st.now = .one
  · rw [show Ex.prim r st = (⟨2, st.at_, 1, .nil⟩, st.goes) from by unfold Ex.prim; rw [ho]]
    exact prim_one N d s st w ho h
  have hv' : ∀ n, st.now ≠ .var n := fun n e => hv ⟨n, e⟩
  have hE : Ex.prim r st = if st.may .lp then ((Ex.within r st.goes).1, (Ex.within r st.goes).2.must .rp) else if st.may .ite then Ex.ite r st.at_ st.goes else (Tr.zero, st.bad 230) := by
    unfold Ex.prim
    split
    · rename_i n e; exact absurd e (hv' n)
    · rename_i e; exact absurd e hz
    · rename_i e; exact absurd e ho
    · rfl
  rw [hE]
  cases hm : st.may .lp with
  | true => rw [if_pos rfl]; exact prim_lp N d s st w hv' hz ho r hr hm h
  | false =>
    rw [if_neg (by simp)]
    cases hi : st.may .ite with
    | true => rw [if_pos rfl]; exact prim_ite N d s st w hv' hz ho r hr hm hi h
    | false => rw [if_neg (by simp)]; exact prim_no N d s st w hv' hz ho hm hi h

end Go.Proofs.Ytfgokhafiffbaaa

/-
  Formulas: un.
-/
namespace Go.Proofs.Ytfgokhafiffbaaa
set_option linter.unusedVariables false
open Go.RowKit

set_option maxHeartbeats 8000000 in
theorem pun_err (N d : Nat) (s : ByteArray) (st : St) (w : World) (he : ¬ st.e = 0) (h : PS w N d s st) :
    Calls Try.prog 87 #[.pointer (some ⟨N, 0, none⟩)] w (Gives N d s w (Tr.zero, st)) := by
  have hlt := h.lt
  have HP0 := Bx.mk (h.alloc (Obj.cells #[.int .i64 0, .int .i64 0, .int .i64 0, .slice none 0 0] 36))
  have HR0 := Bx.mk (Blk.new w 36 #[.int .i64 0, .int .i64 0, .int .i64 0, .slice none 0 0])
  have HG0 := Bx.mk ((Gb.refl N w).alloc (Obj.cells #[.int .i64 0, .int .i64 0, .int .i64 0, .slice none 0 0] 36))
  obtain ⟨c0, c1, c2, c3, c4, c5, f1, f2, f3, f4, f5⟩ := pb_cells h.blk
  clear c0 c1 c3 c5 f1 f2 f3 f4 f5 h
  have q : ¬ (st.e : Int) = 0 := by omega
  clear he
  go_enter Try.func87, Try.ntmps87
  go_wp2_with fail

  obtain ⟨r0, r1, r2, r3, _, _, _, _⟩ := cells4 HR0.out
  refine bodyPost_ret (v := Ev Tr.zero (.slice none 0 0)) (by simp [results, Try.results87, go_sem, r0, r1, r2, r3]; rfl) rfl ?_
  exact ⟨.slice none 0 0, rfl, SlF.nil _ _, HP0.out, HG0.out⟩

set_option maxHeartbeats 8000000 in
theorem pun_not (N d : Nat) (s : ByteArray) (st : St) (w : World) (he : st.e = 0) (m0 : st.may .not = true) (r : Option (St → Tr × St)) (hr : Rz 87 d r) (h : PS w N d s st) :
    Calls Try.prog 87 #[.pointer (some ⟨N, 0, none⟩)] w (Gives N d s w (Ex.one 3 st.at_ 0 (Ex.within r st.goes).1, (Ex.within r st.goes).2)) := by
  have hlt := h.lt
  have HP0 := Bx.mk (h.alloc (Obj.cells #[.int .i64 0, .int .i64 0, .int .i64 0, .slice none 0 0] 36))
  have HR0 := Bx.mk (Blk.new w 36 #[.int .i64 0, .int .i64 0, .int .i64 0, .slice none 0 0])
  have HG0 := Bx.mk ((Gb.refl N w).alloc (Obj.cells #[.int .i64 0, .int .i64 0, .int .i64 0, .slice none 0 0] 36))
  obtain ⟨c0, c1, c2, c3, c4, c5, f1, f2, f3, f4, f5⟩ := pb_cells h.blk
  clear c0 c1 c3 c5 f1 f2 f3 f4 f5 h
  have q : (st.e : Int) = 0 := by omega
  have hM0 := fun u (hu : PS u N d s st) => may_st N d .not ({ data := #[33] }) s st u hu enot (by decide) (by decide)
  rw [m0, if_pos rfl] at hM0
  have HM0 := Bx.mk hM0
  clear hM0
  have hW := fun u (hu : PS u N d s st.goes) => within_any N d s st.goes u 87 r (fun _ _ => rfl) hr hu
  have HW := Bx.mk hW
  clear he hW hr m0
  generalize Ex.within r st.goes = Y at HW ⊢
  go_enter Try.func87, Try.ntmps87
  go_wp2_with fail
  refine (HM0.out _ HP0.out).mono ?_
  rintro e wm0 ⟨rfl, hP0, hG0⟩
  have HP1 := Bx.mk hP0
  have HG1 := Bx.mk (HG0.out.trans hG0)
  have HR1 := Bx.mk (hG0.blk HR0.out (by omega))
  have hz0 := hG0.size
  rw [alloc_size] at hz0
  clear hP0 hG0
  go_wp2_with fail
  refine (HW.out _ HP1.out).mono ?_
  rintro e w3 ⟨sy, rfl, hS5, hP5, hG5⟩
  obtain ⟨py, cy, rfl⟩ := hS5.is
  have hz5 := hG5.size
  have hR5 := (hG5.blk HR1.out (by omega)).alloc (Obj.cells #[.int .i64 Y.1.k, .int .i64 Y.1.a, .int .i64 Y.1.v, .slice py Y.1.kids.len cy] 36)
  have hP6 := hP5.alloc (Obj.cells #[.int .i64 Y.1.k, .int .i64 Y.1.a, .int .i64 Y.1.v, .slice py Y.1.kids.len cy] 36)
  have hG6 := (HG1.out.trans hG5).alloc (Obj.cells #[.int .i64 Y.1.k, .int .i64 Y.1.a, .int .i64 Y.1.v, .slice py Y.1.kids.len cy] 36)
  have hS6 := SlF.single 36 (hS5.mono (B' := Ge (w.heap.size + 1)) fun g hg => by unfold Ge at hg ⊢; omega) (by unfold Ge; omega)
  obtain ⟨r0, r1, r2, r3, g0, g1, g2, g3⟩ := cells4 hR5
  have HP6 := Bx.mk hP6
  have HG6 := Bx.mk hG6
  have HR6 := Bx.mk hR5
  have HS6 := Bx.mk hS6
  clear hP5 hG5 hR5 hS5 hP6 hG6 hS6
  unfold Ev
  go_wp2_with fail
  clear r0 r1 r2 r3 g0 g1 g2 g3
  have hE := (Blk.own4 HR6.out (.int .i64 3) (.int .i64 (st.at_ : Int)) (.int .i64 0) (.slice (some ⟨w3.heap.size, 0, none⟩) 1 1))
  obtain ⟨r0, r1, r2, r3, _, _, _, _⟩ := cells4 hE
  refine bodyPost_ret (v := Ev (Ex.one 3 st.at_ 0 Y.1) (.slice (some ⟨w3.heap.size, 0, none⟩) 1 1)) (by simp [results, Try.results87, go_sem, r0, r1, r2, r3]; rfl) rfl ?_
  exact ⟨.slice (some ⟨w3.heap.size, 0, none⟩) 1 1, rfl, (HS6.out.st4 (R := w.heap.size) (fun h => by unfold Ge at h; omega) _ _ _ _).mono (fun g hg => by unfold Ge at hg ⊢; omega), (HP6.out.st4 (R := w.heap.size) (by omega) _ _ _ _), (HG6.out.st4 (Nat.le_refl _) _ _ _ _)⟩

set_option maxHeartbeats 8000000 in
theorem pun_all (N d : Nat) (s : ByteArray) (st : St) (w : World) (he : st.e = 0) (m0 : st.may .not = false) (m1 : st.may .all = true) (r : Option (St → Tr × St)) (hr : Rz 87 d r) (h : PS w N d s st) :
    Calls Try.prog 87 #[.pointer (some ⟨N, 0, none⟩)] w (Gives N d s w (Ex.bound r 10 st.at_ st.goes)) := by
  have hlt := h.lt
  have HP0 := Bx.mk (h.alloc (Obj.cells #[.int .i64 0, .int .i64 0, .int .i64 0, .slice none 0 0] 36))
  have HR0 := Bx.mk (Blk.new w 36 #[.int .i64 0, .int .i64 0, .int .i64 0, .slice none 0 0])
  have HG0 := Bx.mk ((Gb.refl N w).alloc (Obj.cells #[.int .i64 0, .int .i64 0, .int .i64 0, .slice none 0 0] 36))
  obtain ⟨c0, c1, c2, c3, c4, c5, f1, f2, f3, f4, f5⟩ := pb_cells h.blk
  clear c0 c1 c3 c5 f1 f2 f3 f4 f5 h
  have q : (st.e : Int) = 0 := by omega
  have hM0 := fun u (hu : PS u N d s st) => may_st N d .not ({ data := #[33] }) s st u hu enot (by decide) (by decide)
  rw [m0, if_neg (by simp)] at hM0
  have HM0 := Bx.mk hM0
  clear hM0
  have hM1 := fun u (hu : PS u N d s st) => may_st N d .all ({ data := #[97, 108, 108] }) s st u hu eall (by decide) (by decide)
  rw [m1, if_pos rfl] at hM1
  have HM1 := Bx.mk hM1
  clear hM1
  have hW := fun u (hu : PS u N d s st.goes) => bound_any N d s st.goes u 10 st.at_ r hr hu
  have HW := Bx.mk hW
  clear he hW hr m0 m1
  generalize Ex.bound r 10 st.at_ st.goes = Y at HW ⊢
  go_enter Try.func87, Try.ntmps87
  go_wp2_with fail
  refine (HM0.out _ HP0.out).mono ?_
  rintro e wm0 ⟨rfl, hP0, hG0⟩
  have HP1 := Bx.mk hP0
  have HG1 := Bx.mk (HG0.out.trans hG0)
  have HR1 := Bx.mk (hG0.blk HR0.out (by omega))
  have hz0 := hG0.size
  rw [alloc_size] at hz0
  clear hP0 hG0
  go_wp2_with fail
  refine (HM1.out _ HP1.out).mono ?_
  rintro e wm1 ⟨rfl, hP1, hG1⟩
  have HP2 := Bx.mk hP1
  have HG2 := Bx.mk (HG1.out.trans hG1)
  have HR2 := Bx.mk (hG1.blk HR1.out (by omega))
  have hz1 := hG1.size
  skip
  clear hP1 hG1
  go_wp2_with fail
  refine (HW.out _ HP2.out).mono ?_
  rintro e w3 ⟨sy, rfl, hS5, hP5, hG5⟩
  obtain ⟨py, cy, rfl⟩ := hS5.is
  have hR5 := (hG5.blk HR2.out (by omega))
  have hG6 := (HG2.out.trans hG5)
  have hS6 := (hS5.mono (B' := Ge (w.heap.size + 1)) fun g hg => by unfold Ge at hg ⊢; omega)
  obtain ⟨r0, r1, r2, r3, g0, g1, g2, g3⟩ := cells4 hR5
  have HP6 := Bx.mk hP5
  have HG6 := Bx.mk hG6
  have HR6 := Bx.mk hR5
  have HS6 := Bx.mk hS6
  clear hP5 hG5 hR5 hS5 hG6 hS6
  unfold Ev
  go_wp2_with fail
  clear r0 r1 r2 r3 g0 g1 g2 g3
  have hE := (Blk.own4 HR6.out (.int .i64 Y.1.k) (.int .i64 Y.1.a) (.int .i64 Y.1.v) (.slice py Y.1.kids.len cy))
  obtain ⟨r0, r1, r2, r3, _, _, _, _⟩ := cells4 hE
  refine bodyPost_ret (v := Ev Y.1 (.slice py Y.1.kids.len cy)) (by simp [results, Try.results87, go_sem, r0, r1, r2, r3]; rfl) rfl ?_
  exact ⟨.slice py Y.1.kids.len cy, rfl, (HS6.out.st4 (R := w.heap.size) (fun h => by unfold Ge at h; omega) _ _ _ _).mono (fun g hg => by unfold Ge at hg ⊢; omega), (HP6.out.st4 (R := w.heap.size) (by omega) _ _ _ _), (HG6.out.st4 (Nat.le_refl _) _ _ _ _)⟩

set_option maxHeartbeats 8000000 in
theorem pun_any (N d : Nat) (s : ByteArray) (st : St) (w : World) (he : st.e = 0) (m0 : st.may .not = false) (m1 : st.may .all = false) (m2 : st.may .any = true) (r : Option (St → Tr × St)) (hr : Rz 87 d r) (h : PS w N d s st) :
    Calls Try.prog 87 #[.pointer (some ⟨N, 0, none⟩)] w (Gives N d s w (Ex.bound r 11 st.at_ st.goes)) := by
  have hlt := h.lt
  have HP0 := Bx.mk (h.alloc (Obj.cells #[.int .i64 0, .int .i64 0, .int .i64 0, .slice none 0 0] 36))
  have HR0 := Bx.mk (Blk.new w 36 #[.int .i64 0, .int .i64 0, .int .i64 0, .slice none 0 0])
  have HG0 := Bx.mk ((Gb.refl N w).alloc (Obj.cells #[.int .i64 0, .int .i64 0, .int .i64 0, .slice none 0 0] 36))
  obtain ⟨c0, c1, c2, c3, c4, c5, f1, f2, f3, f4, f5⟩ := pb_cells h.blk
  clear c0 c1 c3 c5 f1 f2 f3 f4 f5 h
  have q : (st.e : Int) = 0 := by omega
  have hM0 := fun u (hu : PS u N d s st) => may_st N d .not ({ data := #[33] }) s st u hu enot (by decide) (by decide)
  rw [m0, if_neg (by simp)] at hM0
  have HM0 := Bx.mk hM0
  clear hM0
  have hM1 := fun u (hu : PS u N d s st) => may_st N d .all ({ data := #[97, 108, 108] }) s st u hu eall (by decide) (by decide)
  rw [m1, if_neg (by simp)] at hM1
  have HM1 := Bx.mk hM1
  clear hM1
  have hM2 := fun u (hu : PS u N d s st) => may_st N d .any ({ data := #[97, 110, 121] }) s st u hu eany (by decide) (by decide)
  rw [m2, if_pos rfl] at hM2
  have HM2 := Bx.mk hM2
  clear hM2
  have hW := fun u (hu : PS u N d s st.goes) => bound_any N d s st.goes u 11 st.at_ r hr hu
  have HW := Bx.mk hW
  clear he hW hr m0 m1 m2
  generalize Ex.bound r 11 st.at_ st.goes = Y at HW ⊢
  go_enter Try.func87, Try.ntmps87
  go_wp2_with fail
  refine (HM0.out _ HP0.out).mono ?_
  rintro e wm0 ⟨rfl, hP0, hG0⟩
  have HP1 := Bx.mk hP0
  have HG1 := Bx.mk (HG0.out.trans hG0)
  have HR1 := Bx.mk (hG0.blk HR0.out (by omega))
  have hz0 := hG0.size
  rw [alloc_size] at hz0
  clear hP0 hG0
  go_wp2_with fail
  refine (HM1.out _ HP1.out).mono ?_
  rintro e wm1 ⟨rfl, hP1, hG1⟩
  have HP2 := Bx.mk hP1
  have HG2 := Bx.mk (HG1.out.trans hG1)
  have HR2 := Bx.mk (hG1.blk HR1.out (by omega))
  have hz1 := hG1.size
  skip
  clear hP1 hG1
  go_wp2_with fail
  refine (HM2.out _ HP2.out).mono ?_
  rintro e wm2 ⟨rfl, hP2, hG2⟩
  have HP3 := Bx.mk hP2
  have HG3 := Bx.mk (HG2.out.trans hG2)
  have HR3 := Bx.mk (hG2.blk HR2.out (by omega))
  have hz2 := hG2.size
  skip
  clear hP2 hG2
  go_wp2_with fail
  refine (HW.out _ HP3.out).mono ?_
  rintro e w3 ⟨sy, rfl, hS5, hP5, hG5⟩
  obtain ⟨py, cy, rfl⟩ := hS5.is
  have hR5 := (hG5.blk HR3.out (by omega))
  have hG6 := (HG3.out.trans hG5)
  have hS6 := (hS5.mono (B' := Ge (w.heap.size + 1)) fun g hg => by unfold Ge at hg ⊢; omega)
  obtain ⟨r0, r1, r2, r3, g0, g1, g2, g3⟩ := cells4 hR5
  have HP6 := Bx.mk hP5
  have HG6 := Bx.mk hG6
  have HR6 := Bx.mk hR5
  have HS6 := Bx.mk hS6
  clear hP5 hG5 hR5 hS5 hG6 hS6
  unfold Ev
  go_wp2_with fail
  clear r0 r1 r2 r3 g0 g1 g2 g3
  have hE := (Blk.own4 HR6.out (.int .i64 Y.1.k) (.int .i64 Y.1.a) (.int .i64 Y.1.v) (.slice py Y.1.kids.len cy))
  obtain ⟨r0, r1, r2, r3, _, _, _, _⟩ := cells4 hE
  refine bodyPost_ret (v := Ev Y.1 (.slice py Y.1.kids.len cy)) (by simp [results, Try.results87, go_sem, r0, r1, r2, r3]; rfl) rfl ?_
  exact ⟨.slice py Y.1.kids.len cy, rfl, (HS6.out.st4 (R := w.heap.size) (fun h => by unfold Ge at h; omega) _ _ _ _).mono (fun g hg => by unfold Ge at hg ⊢; omega), (HP6.out.st4 (R := w.heap.size) (by omega) _ _ _ _), (HG6.out.st4 (Nat.le_refl _) _ _ _ _)⟩

set_option maxHeartbeats 8000000 in
theorem pun_prim (N d : Nat) (s : ByteArray) (st : St) (w : World) (he : st.e = 0) (m0 : st.may .not = false) (m1 : st.may .all = false) (m2 : st.may .any = false) (r : Option (St → Tr × St)) (hr : Rz 31 d r) (h : PS w N d s st) :
    Calls Try.prog 87 #[.pointer (some ⟨N, 0, none⟩)] w (Gives N d s w (Ex.prim r st)) := by
  have hlt := h.lt
  have HP0 := Bx.mk (h.alloc (Obj.cells #[.int .i64 0, .int .i64 0, .int .i64 0, .slice none 0 0] 36))
  have HR0 := Bx.mk (Blk.new w 36 #[.int .i64 0, .int .i64 0, .int .i64 0, .slice none 0 0])
  have HG0 := Bx.mk ((Gb.refl N w).alloc (Obj.cells #[.int .i64 0, .int .i64 0, .int .i64 0, .slice none 0 0] 36))
  obtain ⟨c0, c1, c2, c3, c4, c5, f1, f2, f3, f4, f5⟩ := pb_cells h.blk
  clear c0 c1 c3 c5 f1 f2 f3 f4 f5 h
  have q : (st.e : Int) = 0 := by omega
  have hM0 := fun u (hu : PS u N d s st) => may_st N d .not ({ data := #[33] }) s st u hu enot (by decide) (by decide)
  rw [m0, if_neg (by simp)] at hM0
  have HM0 := Bx.mk hM0
  clear hM0
  have hM1 := fun u (hu : PS u N d s st) => may_st N d .all ({ data := #[97, 108, 108] }) s st u hu eall (by decide) (by decide)
  rw [m1, if_neg (by simp)] at hM1
  have HM1 := Bx.mk hM1
  clear hM1
  have hM2 := fun u (hu : PS u N d s st) => may_st N d .any ({ data := #[97, 110, 121] }) s st u hu eany (by decide) (by decide)
  rw [m2, if_neg (by simp)] at hM2
  have HM2 := Bx.mk hM2
  clear hM2
  have hW := fun u (hu : PS u N d s st) => prim_any N d s st u r hr hu
  have HW := Bx.mk hW
  clear he hW hr m0 m1 m2
  generalize Ex.prim r st = Y at HW ⊢
  go_enter Try.func87, Try.ntmps87
  go_wp2_with fail
  refine (HM0.out _ HP0.out).mono ?_
  rintro e wm0 ⟨rfl, hP0, hG0⟩
  have HP1 := Bx.mk hP0
  have HG1 := Bx.mk (HG0.out.trans hG0)
  have HR1 := Bx.mk (hG0.blk HR0.out (by omega))
  have hz0 := hG0.size
  rw [alloc_size] at hz0
  clear hP0 hG0
  go_wp2_with fail
  refine (HM1.out _ HP1.out).mono ?_
  rintro e wm1 ⟨rfl, hP1, hG1⟩
  have HP2 := Bx.mk hP1
  have HG2 := Bx.mk (HG1.out.trans hG1)
  have HR2 := Bx.mk (hG1.blk HR1.out (by omega))
  have hz1 := hG1.size
  skip
  clear hP1 hG1
  go_wp2_with fail
  refine (HM2.out _ HP2.out).mono ?_
  rintro e wm2 ⟨rfl, hP2, hG2⟩
  have HP3 := Bx.mk hP2
  have HG3 := Bx.mk (HG2.out.trans hG2)
  have HR3 := Bx.mk (hG2.blk HR2.out (by omega))
  have hz2 := hG2.size
  skip
  clear hP2 hG2
  go_wp2_with fail
  refine (HW.out _ HP3.out).mono ?_
  rintro e w3 ⟨sy, rfl, hS5, hP5, hG5⟩
  obtain ⟨py, cy, rfl⟩ := hS5.is
  have hR5 := (hG5.blk HR3.out (by omega))
  have hG6 := (HG3.out.trans hG5)
  have hS6 := (hS5.mono (B' := Ge (w.heap.size + 1)) fun g hg => by unfold Ge at hg ⊢; omega)
  obtain ⟨r0, r1, r2, r3, g0, g1, g2, g3⟩ := cells4 hR5
  have HP6 := Bx.mk hP5
  have HG6 := Bx.mk hG6
  have HR6 := Bx.mk hR5
  have HS6 := Bx.mk hS6
  clear hP5 hG5 hR5 hS5 hG6 hS6
  unfold Ev
  go_wp2_with fail
  clear r0 r1 r2 r3 g0 g1 g2 g3
  have hE := (Blk.own4 HR6.out (.int .i64 Y.1.k) (.int .i64 Y.1.a) (.int .i64 Y.1.v) (.slice py Y.1.kids.len cy))
  obtain ⟨r0, r1, r2, r3, _, _, _, _⟩ := cells4 hE
  refine bodyPost_ret (v := Ev Y.1 (.slice py Y.1.kids.len cy)) (by simp [results, Try.results87, go_sem, r0, r1, r2, r3]; rfl) rfl ?_
  exact ⟨.slice py Y.1.kids.len cy, rfl, (HS6.out.st4 (R := w.heap.size) (fun h => by unfold Ge at h; omega) _ _ _ _).mono (fun g hg => by unfold Ge at hg ⊢; omega), (HP6.out.st4 (R := w.heap.size) (by omega) _ _ _ _), (HG6.out.st4 (Nat.le_refl _) _ _ _ _)⟩

theorem un_any (d : Nat) (ru rf : Option (St → Tr × St)) (hu : Rz 87 d ru) (hf : Rz 31 d rf) : Pz 87 d (Ex.un ru rf) := by
  intro N s st w h
  unfold Ex.un
  by_cases he : st.e = 0
  · rw [if_neg (by rw [he]; simp)]
    cases m0 : st.may .not with
    | true => rw [if_pos rfl]; exact pun_not N d s st w he m0 ru hu h
    | false =>
      rw [if_neg (by simp)]
      cases m1 : st.may .all with
      | true => rw [if_pos rfl]; exact pun_all N d s st w he m0 m1 ru hu h
      | false =>
        rw [if_neg (by simp)]
        cases m2 : st.may .any with
        | true => rw [if_pos rfl]; exact pun_any N d s st w he m0 m1 m2 ru hu h
        | false => rw [if_neg (by simp)]; exact pun_prim N d s st w he m0 m1 m2 rf hf h
  · rw [if_pos he]; exact pun_err N d s st w he h
end Go.Proofs.Ytfgokhafiffbaaa

/-
  Formulas: all readers, by the levels that are left; Parse.
-/
namespace Go.Proofs.Ytfgokhafiffbaaa
set_option linter.unusedVariables false
open Go.RowKit

theorem mono_bound {r : Option (St → Tr × St)} (hr : MonoO r) (k : Int) (a : Nat) : Mono (Ex.bound r k a) := fun st => by
  unfold Ex.bound
  split
  · exact Nat.le_trans (hr.within _) (goes_le st)
  · exact bad_le _ st
theorem mono_ite {r : Option (St → Tr × St)} (hr : MonoO r) (a : Nat) : Mono (Ex.ite r a) := fun st =>
  Nat.le_trans (must_le _ _) (Nat.le_trans (hr.within _) (Nat.le_trans (must_le _ _) (Nat.le_trans (hr.within _) (Nat.le_trans (must_le _ _) (Nat.le_trans (hr.within _) (must_le _ _))))))
theorem mono_prim {r : Option (St → Tr × St)} (hr : MonoO r) : Mono (Ex.prim r) := fun st => by
  unfold Ex.prim
  split
  · exact goes_le st
  · exact goes_le st
  · exact goes_le st
  · split
    · exact Nat.le_trans (must_le _ _) (Nat.le_trans (hr.within _) (goes_le st))
    · split
      · exact Nat.le_trans (mono_ite hr _ _) (goes_le st)
      · exact bad_le _ st
theorem mono_un {ru rf : Option (St → Tr × St)} (hu : MonoO ru) (hf : MonoO rf) : Mono (Ex.un ru rf) := fun st => by
  unfold Ex.un
  split
  · exact Nat.le_refl _
  · split
    · exact Nat.le_trans (hu.within _) (goes_le st)
    · split
      · exact Nat.le_trans (mono_bound hu _ _ _) (goes_le st)
      · split
        · exact Nat.le_trans (mono_bound hu _ _ _) (goes_le st)
        · exact mono_prim hf st
/-- what holds of the readers at a level -/
structure Lv (d : Nat) (r : Rd) : Prop where
  iff : Pz 31 d r.iff
  imp : Pz 44 d r.imp
  un : Pz 87 d r.un
  miff : Mono r.iff
  mimp : Mono r.imp
  mun : Mono r.un
theorem Lv.mk' (d : Nat) (ru ri rf : Option (St → Tr × St)) (hu : Rz 87 d ru) (hi : Rz 44 d ri) (hf : Rz 31 d rf) (mu : MonoO ru) (mi : MonoO ri) (mf : MonoO rf) : Lv d (Ex.mk ru ri rf) := by
  have u := un_any d ru rf hu hf
  have m := mono_un mu mf
  have a := pand_any d _ u m
  have x := pxor_any d _ a m.chain
  have o := por_any d _ x m.chain.chain
  have i := pimp_any d _ ri o hi
  have mi : Mono (Ex.imp ri (Ex.chain .or 5 (Ex.chain .xor 6 (Ex.chain .and 4 (Ex.un ru rf))))) := Mono.imp mi m.chain.chain.chain
  have f := piff_any d _ i mi
  exact ⟨f, i, u, mi.chain, mi, m⟩
theorem Lv.all : ∀ n, n ≤ 30 → Lv (30 - n) (Ex.lev n)
  | 0, _ => Lv.mk' 30 none none none rfl rfl rfl True.intro True.intro True.intro
  | n + 1, h => by
    have ih := Lv.all n (by omega)
    have e : 30 - (n + 1) + 1 = 30 - n := by omega
    refine Lv.mk' (30 - (n + 1)) _ _ _ ⟨by omega, ?_⟩ ⟨by omega, ?_⟩ ⟨by omega, ?_⟩ ih.mun ih.mimp ih.miff
    · rw [e]; exact ih.un
    · rw [e]; exact ih.imp
    · rw [e]; exact ih.iff
theorem top_any : Pz 31 0 (Ex.lev 30).iff := (Lv.all 30 (Nat.le_refl _)).iff

/-- what Parse hands back -/
def Pv (t : Tr) (sl : Value) (a e : Nat) : Value := .tuple #[Ev t sl, .int .i64 (a : Int), .int .i64 (e : Int)]
def Parsed (w : World) (r : Tr × Nat × Nat) (e : Ending) (w' : World) : Prop :=
  ∃ sl, e = .returned (Pv r.1 sl r.2.1 r.2.2) ∧ SlF w' (Ge w.heap.size) sl r.1.kids ∧ Below w.heap.size w w'
set_option maxHeartbeats 8000000 in
theorem parse_long (s : ByteArray) (w : World) (h : 4000 < s.size) : Calls Try.prog 13 #[.string s] w (Parsed w (Ex.parse (bl s))) := by
  have hE : Ex.parse (bl s) = (Tr.zero, 0, 232) := by unfold Ex.parse; rw [if_pos (by rw [bl_length]; exact h)]
  rw [hE]
  have q : (s.size : Int) > 4000 := by omega
  clear h hE
  go_enter Try.func13, Try.ntmps13
  go_wp2_with fail
  obtain ⟨r0, r1, r2, r3, _, _, _, _⟩ := cells4 (Blk.new w 36 #[.int .i64 0, .int .i64 0, .int .i64 0, .slice none 0 0])
  refine bodyPost_ret (v := Pv Tr.zero (.slice none 0 0) 0 232) (by simp [results, Try.results13, go_sem, r0, r1, r2, r3]; rfl) rfl ?_
  exact ⟨_, rfl, SlF.nil _ _, (Below.refl _ _).alloc (Nat.le_refl _) _⟩
theorem isEmpty_tok (t : Tok) : t.str.toList.isEmpty = decide (t = .eof) := by
  by_cases h : t = .eof
  · subst h
    rw [decide_eq_true rfl, ByteArray.toList_eq]
    unfold Tok.str Tok.txt strOf
    rfl
  · rw [decide_eq_false h]
    have hl := Tok.txt_len t h
    rw [← Tok.bl_str, bl_length] at hl
    rw [ByteArray.toList_eq]
    cases e : t.str.data.toList with
    | nil => have : t.str.size = t.str.data.toList.length := by simp
             rw [e] at this; have h0 : t.str.size = 0 := this; omega
    | cons a r => rfl
theorem Ex.parse_eq (l : List Nat) (h : l.length ≤ 4000) : ((((Ex.lev 30).iff ⟨Lx.lex l 0, 0, 0⟩).2.e = 0 → ((Ex.lev 30).iff ⟨Lx.lex l 0, 0, 0⟩).2.now = .eof → Ex.parse l = (((Ex.lev 30).iff ⟨Lx.lex l 0, 0, 0⟩).1, 0, 0)) ∧
    (((Ex.lev 30).iff ⟨Lx.lex l 0, 0, 0⟩).2.e = 0 → ((Ex.lev 30).iff ⟨Lx.lex l 0, 0, 0⟩).2.now ≠ .eof → Ex.parse l = (Tr.zero, (((Ex.lev 30).iff ⟨Lx.lex l 0, 0, 0⟩).2.bad 230).eat, (((Ex.lev 30).iff ⟨Lx.lex l 0, 0, 0⟩).2.bad 230).e)) ∧
    (((Ex.lev 30).iff ⟨Lx.lex l 0, 0, 0⟩).2.e ≠ 0 → Ex.parse l = (Tr.zero, ((Ex.lev 30).iff ⟨Lx.lex l 0, 0, 0⟩).2.eat, ((Ex.lev 30).iff ⟨Lx.lex l 0, 0, 0⟩).2.e))) := by
  unfold Ex.parse
  rw [if_neg (by omega)]
  simp only []
  generalize (Ex.lev 30).iff ⟨Lx.lex l 0, 0, 0⟩ = R
  have hb := bad_ne 230 (by omega) R.2
  refine ⟨fun h1 h2 => ?_, fun h1 h2 => ?_, fun h1 => ?_⟩
  · have e : (if R.2.e = 0 ∧ R.2.now ≠ .eof then R.2.bad 230 else R.2) = R.2 := if_neg (fun h => h.2 h2)
    rw [e, if_pos h1]
  · have e : (if R.2.e = 0 ∧ R.2.now ≠ .eof then R.2.bad 230 else R.2) = R.2.bad 230 := if_pos ⟨h1, h2⟩
    rw [e, if_neg hb]
  · have e : (if R.2.e = 0 ∧ R.2.now ≠ .eof then R.2.bad 230 else R.2) = R.2 := if_neg (fun h => h1 h.1)
    rw [e, if_neg h1]
/-- where Parse stands behind its reader -/
structure Ph (w wr : World) (s : ByteArray) (R : Tr × St) (b : Nat) (pp : Option Addr) (cap : Nat) : Prop where
  ps : PS wr (w.heap.size + 1) 0 s R.2
  be : Below w.heap.size w wr
  res : Blk wr w.heap.size 36 #[.int .i64 0, .int .i64 0, .int .i64 0, .slice none 0 0]
  own : Blk wr b 36 #[.int .i64 R.1.k, .int .i64 R.1.a, .int .i64 R.1.v, .slice pp R.1.kids.len cap]
  sl : SlF wr (Ge (w.heap.size + 2)) (.slice pp R.1.kids.len cap) R.1.kids
  lt : w.heap.size + 1 < b
set_option maxHeartbeats 8000000 in
theorem parse_short (s : ByteArray) (w : World) (h : s.size ≤ 4000) : Calls Try.prog 13 #[.string s] w (Parsed w (Ex.parse (bl s))) := by
  have q : ¬ (s.size : Int) > 4000 := by omega
  have hB0 : Blk ((w.alloc (Obj.cells #[.int .i64 0, .int .i64 0, .int .i64 0, .slice none 0 0] 36)).alloc (Obj.cells (PB s { data := #[] } 0 0 0 0) 62)) (w.heap.size + 1) 62 (PB s { data := #[] } 0 0 0 0) := by
    have := Blk.new (w.alloc (Obj.cells #[.int .i64 0, .int .i64 0, .int .i64 0, .slice none 0 0] 36)) 62 (PB s { data := #[] } 0 0 0 0)
    rwa [alloc_size] at this
  have hR0 := (Blk.new w 36 #[.int .i64 0, .int .i64 0, .int .i64 0, .slice none 0 0]).alloc (Obj.cells (PB s { data := #[] } 0 0 0 0) 62)
  have hG0 := ((Below.refl w.heap.size w).alloc (Nat.le_refl _) (Obj.cells #[.int .i64 0, .int .i64 0, .int .i64 0, .slice none 0 0] 36)).alloc (by rw [alloc_size]; omega) (Obj.cells (PB s { data := #[] } 0 0 0 0) 62)
  have hz0 : ((w.alloc (Obj.cells #[.int .i64 0, .int .i64 0, .int .i64 0, .slice none 0 0] 36)).alloc (Obj.cells (PB s { data := #[] } 0 0 0 0) 62)).heap.size = w.heap.size + 2 := by rw [alloc_size, alloc_size]
  have hgo := goes_any (w.heap.size + 1) s { data := #[] } 0 0 0 0 _ _ _ hB0 h (Nat.zero_le _) rfl rfl
  generalize hW : (w.alloc (Obj.cells #[.int .i64 0, .int .i64 0, .int .i64 0, .slice none 0 0] 36)).alloc (Obj.cells (PB s { data := #[] } 0 0 0 0) 62) = W0 at hB0 hR0 hG0 hz0 hgo
  have HW0 := Bx.mk hW
  have HR0 := Bx.mk hR0
  have HG0 := Bx.mk hG0
  have HGO := Bx.mk hgo
  have HE := Bx.mk (Ex.parse_eq (bl s) (by rw [bl_length]; exact h))
  have HT := Bx.mk fun u (hu : PS u (w.heap.size + 1) 0 s ⟨Lx.lex (bl s) 0, 0, 0⟩) => top_any (w.heap.size + 1) s ⟨Lx.lex (bl s) 0, 0, 0⟩ u hu
  generalize (Ex.lev 30).iff ⟨Lx.lex (bl s) 0, 0, 0⟩ = R at HE HT
  generalize Ex.parse (bl s) = RR at HE ⊢
  clear hW hB0 hR0 hG0 hgo
  go_enter Try.func13, Try.ntmps13
  go_wp2_with fail
  rw [show (w.alloc (Obj.cells #[.int .i64 0, .int .i64 0, .int .i64 0, .slice none 0 0] 36)).alloc (Obj.cells #[.string s, .string { data := #[] }, .int .i64 0, .int .i64 0, .int .i64 0, .int .i64 0] 62) = W0 from HW0.out]
  refine HGO.out.mono ?_
  rintro e w1 ⟨rfl, hB1, hG1⟩
  have hP1 := PS.fresh (a := 0) rfl rfl hB1 (Nat.zero_le _) h
  rw [List.drop_zero] at hP1
  have hT1 := HT.out w1 hP1
  have HG1 := Bx.mk hG1
  clear hB1 hP1 hG1
  go_wp2_with fail
  refine hT1.mono ?_
  clear hT1
  rintro e w2 ⟨sl, rfl, hS2, hP2, hG2⟩
  obtain ⟨pp, cap, rfl⟩ := hS2.is
  have hz1 := HG1.out.size
  have hz2 := hG2.size
  have hR2 := hG2.blk (HG1.out.blk HR0.out (by omega)) (by omega)
  have hH : Ph w (w2.alloc (Obj.cells #[.int .i64 R.1.k, .int .i64 R.1.a, .int .i64 R.1.v, .slice pp R.1.kids.len cap] 36)) s R w2.heap.size pp cap :=
    ⟨hP2.alloc _, (Gb.to_below (Gb.to_below HG0.out HG1.out (by omega)) hG2 (by omega)).alloc (by omega) _, hR2.alloc _, Blk.new _ _ _, (hS2.mono fun g hg => by unfold Ge at hg ⊢; omega).alloc _, by omega⟩
  have HH := Bx.mk hH
  clear hS2 hP2 hG2 hR2 hH hz1
  unfold Ev
  obtain ⟨c0, c1, c2, c3, c4, c5, f1, f2, f3, f4, f5⟩ := pb_cells HH.out.ps.blk
  have hie := isEmpty_tok R.2.now
  have hr := HH.out.res
  have ho := HH.out.own
  obtain ⟨r0, r1, r2, r3, g0, g1, g2, g3⟩ := cells4 hr
  obtain ⟨o0, o1, o2, o3, _, _, _, _⟩ := cells4 ho
  by_cases he : R.2.e = 0
  · have qe : (R.2.e : Int) = 0 := by omega
    by_cases hn : R.2.now = .eof
    · have hE : RR = (R.1, 0, 0) := HE.out.1 he hn
      have HE2 := Bx.mk hE
      rw [decide_eq_true hn] at hie
      clear hE he c0 c2 c3 c5 f1 f2 f3 f4 f5 hr ho
      rw [hn] at c1 hie
      clear hn
      go_wp2_with fail
      have hf := HH.out.res.own4 (.int .i64 R.1.k) (.int .i64 R.1.a) (.int .i64 R.1.v) (.slice pp R.1.kids.len cap)
      clear r0 r1 r2 r3 g0 g1 g2 g3
      obtain ⟨r0, r1, r2, r3, _, _, _, _⟩ := cells4 hf
      refine bodyPost_ret (v := Pv R.1 (.slice pp R.1.kids.len cap) 0 0) (by simp [results, Try.results13, go_sem, r0, r1, r2, r3]; rfl) rfl ?_
      rw [HE2.out]
      exact ⟨_, rfl, (HH.out.sl.st4 (R := w.heap.size) (fun h => by unfold Ge at h; omega) _ _ _ _).mono (fun g hg => by unfold Ge at hg ⊢; omega), (((HH.out.be.setCell (p := ⟨w.heap.size, 0, none⟩) (Nat.le_refl _) _).setCell (p := ⟨w.heap.size, 1, none⟩) (Nat.le_refl _) _).setCell (p := ⟨w.heap.size, 2, none⟩) (Nat.le_refl _) _).setCell (p := ⟨w.heap.size, 3, none⟩) (Nat.le_refl _) _⟩
    · have hE : RR = (Tr.zero, (R.2.bad 230).eat, (R.2.bad 230).e) := HE.out.2.1 he hn
      have HE2 := Bx.mk hE
      rw [decide_eq_false hn] at hie
      have hbad := bad_st (w.heap.size + 1) 0 230 s R.2 _ HH.out.ps
      have hq := bad_ne 230 (by omega) R.2
      have HB := Bx.mk hbad
      clear hE he hn c0 c2 c3 c5 f1 f2 f3 f4 f5 hr ho hbad
      go_wp2_with fail
      refine HB.out.mono ?_
      rintro e w3 ⟨rfl, hP3, hG3⟩
      have hR3 := hG3.blk HH.out.res (by omega)
      have hb3 := Gb.to_below HH.out.be hG3 (by omega)
      obtain ⟨c0, c1, c2, c3, c4, c5, f1, f2, f3, f4, f5⟩ := pb_cells hP3.blk
      obtain ⟨r0, r1, r2, r3, g0, g1, g2, g3⟩ := cells4 hR3
      have HR3 := Bx.mk hR3
      have HB3 := Bx.mk hb3
      have qe2 : ¬ ((R.2.bad 230).e : Int) = 0 := by omega
      clear hP3 hG3 hR3 hb3 c0 c1 c2 c3 f1 f2 f3 f4 f5
      go_wp2_with fail
      have hR4 := HR3.out.drew
      have hS0 : (fun u => u.cell? ⟨w.heap.size + 1, 4, none⟩ = some (.int .i64 ((R.2.bad 230).e : Int)) ∧ u.cell? ⟨w.heap.size + 1, 5, none⟩ = some (.int .i64 ((R.2.bad 230).eat : Int)) ∧ ∃ v0 v1 v2 v3, Blk u w.heap.size 36 #[v0, v1, v2, v3]) w3.drew := ⟨c4, c5, _, _, _, _, hR4⟩
      clear r0 r1 r2 r3 g0 g1 g2 g3
      refine region_any 100 (fun u => u.cell? ⟨w.heap.size + 1, 4, none⟩ = some (.int .i64 ((R.2.bad 230).e : Int)) ∧ u.cell? ⟨w.heap.size + 1, 5, none⟩ = some (.int .i64 ((R.2.bad 230).eat : Int)) ∧ ∃ v0 v1 v2 v3, Blk u w.heap.size 36 #[v0, v1, v2, v3]) (by kernel_rfl) ?_
      have hB4 := HB3.out.drew
      generalize w3.drew = u0 at hS0 hR4 hB4 ⊢
      refine any_take (i := 0) (.agg #[.int .i64 0, .int .i64 0, .int .i64 0, .slice none 0 0]) rfl rfl (by kernel_rfl) (by kernel_rfl) (by kernel_rfl) (by kernel_rfl) (fun _ _ d _ _ h => by cases d <;> exact h) (fun u hS => by obtain ⟨k4, k5, _⟩ := hS; first | rfl | (unfold execOp; go_simp)) hS0 ?_
      (try simp only [Act.put]); (try simp only [List.getElem_toArray]); (try simp only [List.getElem_cons_succ]); (try simp only [List.getElem_cons_zero]); (try simp only [List.setIfInBounds_toArray]); (try simp only [List.set_cons_succ]); (try simp only [List.set_cons_zero])
      refine any_take (i := 1) (.pointer (some ⟨w.heap.size + 1, 0, none⟩)) rfl rfl (by kernel_rfl) (by kernel_rfl) (by kernel_rfl) (by kernel_rfl) (fun _ _ d _ _ h => by cases d <;> exact h) (fun u hS => by obtain ⟨k4, k5, _⟩ := hS; first | rfl | (unfold execOp; go_simp)) hS0 ?_
      (try simp only [Act.put]); (try simp only [List.getElem_toArray]); (try simp only [List.getElem_cons_succ]); (try simp only [List.getElem_cons_zero]); (try simp only [List.setIfInBounds_toArray]); (try simp only [List.set_cons_succ]); (try simp only [List.set_cons_zero])
      refine any_take (i := 2) (.pointer (some ⟨w.heap.size + 1, 0, none⟩)) rfl rfl (by kernel_rfl) (by kernel_rfl) (by kernel_rfl) (by kernel_rfl) (fun _ _ d _ _ h => by cases d <;> exact h) (fun u hS => by obtain ⟨k4, k5, _⟩ := hS; first | rfl | (unfold execOp; go_simp)) hS0 ?_
      (try simp only [Act.put]); (try simp only [List.getElem_toArray]); (try simp only [List.getElem_cons_succ]); (try simp only [List.getElem_cons_zero]); (try simp only [List.setIfInBounds_toArray]); (try simp only [List.set_cons_succ]); (try simp only [List.set_cons_zero])
      refine any_take (i := 3) (.pointer (some ⟨w.heap.size + 1, 5, none⟩)) rfl rfl (by kernel_rfl) (by kernel_rfl) (by kernel_rfl) (by kernel_rfl) (fun _ _ d _ _ h => by cases d <;> exact h) (fun u hS => by obtain ⟨k4, k5, _⟩ := hS; first | rfl | (unfold execOp; go_simp)) hS0 ?_
      (try simp only [Act.put]); (try simp only [List.getElem_toArray]); (try simp only [List.getElem_cons_succ]); (try simp only [List.getElem_cons_zero]); (try simp only [List.setIfInBounds_toArray]); (try simp only [List.set_cons_succ]); (try simp only [List.set_cons_zero])
      refine any_take (i := 4) (.int .i64 ((R.2.bad 230).eat : Int)) rfl rfl (by kernel_rfl) (by kernel_rfl) (by kernel_rfl) (by kernel_rfl) (fun _ _ d _ _ h => by cases d <;> exact h) (fun u hS => by obtain ⟨k4, k5, _⟩ := hS; first | rfl | (unfold execOp; go_simp)) hS0 ?_
      (try simp only [Act.put]); (try simp only [List.getElem_toArray]); (try simp only [List.getElem_cons_succ]); (try simp only [List.getElem_cons_zero]); (try simp only [List.setIfInBounds_toArray]); (try simp only [List.set_cons_succ]); (try simp only [List.set_cons_zero])
      refine any_take (i := 5) (.pointer (some ⟨w.heap.size + 1, 0, none⟩)) rfl rfl (by kernel_rfl) (by kernel_rfl) (by kernel_rfl) (by kernel_rfl) (fun _ _ d _ _ h => by cases d <;> exact h) (fun u hS => by obtain ⟨k4, k5, _⟩ := hS; first | rfl | (unfold execOp; go_simp)) hS0 ?_
      (try simp only [Act.put]); (try simp only [List.getElem_toArray]); (try simp only [List.getElem_cons_succ]); (try simp only [List.getElem_cons_zero]); (try simp only [List.setIfInBounds_toArray]); (try simp only [List.set_cons_succ]); (try simp only [List.set_cons_zero])
      refine any_take (i := 6) (.pointer (some ⟨w.heap.size + 1, 0, none⟩)) rfl rfl (by kernel_rfl) (by kernel_rfl) (by kernel_rfl) (by kernel_rfl) (fun _ _ d _ _ h => by cases d <;> exact h) (fun u hS => by obtain ⟨k4, k5, _⟩ := hS; first | rfl | (unfold execOp; go_simp)) hS0 ?_
      (try simp only [Act.put]); (try simp only [List.getElem_toArray]); (try simp only [List.getElem_cons_succ]); (try simp only [List.getElem_cons_zero]); (try simp only [List.setIfInBounds_toArray]); (try simp only [List.set_cons_succ]); (try simp only [List.set_cons_zero])
      refine any_take (i := 7) (.pointer (some ⟨w.heap.size + 1, 4, none⟩)) rfl rfl (by kernel_rfl) (by kernel_rfl) (by kernel_rfl) (by kernel_rfl) (fun _ _ d _ _ h => by cases d <;> exact h) (fun u hS => by obtain ⟨k4, k5, _⟩ := hS; first | rfl | (unfold execOp; go_simp)) hS0 ?_
      (try simp only [Act.put]); (try simp only [List.getElem_toArray]); (try simp only [List.getElem_cons_succ]); (try simp only [List.getElem_cons_zero]); (try simp only [List.setIfInBounds_toArray]); (try simp only [List.set_cons_succ]); (try simp only [List.set_cons_zero])
      refine any_take (i := 8) (.int .i64 ((R.2.bad 230).e : Int)) rfl rfl (by kernel_rfl) (by kernel_rfl) (by kernel_rfl) (by kernel_rfl) (fun _ _ d _ _ h => by cases d <;> exact h) (fun u hS => by obtain ⟨k4, k5, _⟩ := hS; first | rfl | (unfold execOp; go_simp)) hS0 ?_
      (try simp only [Act.put]); (try simp only [List.getElem_toArray]); (try simp only [List.getElem_cons_succ]); (try simp only [List.getElem_cons_zero]); (try simp only [List.setIfInBounds_toArray]); (try simp only [List.set_cons_succ]); (try simp only [List.set_cons_zero])
      obtain ⟨k4, k5, v0, v1, v2, v3, hRS⟩ := hS0
      obtain ⟨r0, r1, r2, r3, g0, g1, g2, g3⟩ := cells4 hRS
      refine any_branch [9] (by kernel_rfl) rfl fun ix hix => ?_
      simp only [List.mem_cons, List.not_mem_nil, or_false] at hix
      subst hix
      refine any_op rfl rfl fun K hK => ?_
      go_simp
      have hS1 : (fun u => u.cell? ⟨w.heap.size + 1, 4, none⟩ = some (.int .i64 ((R.2.bad 230).e : Int)) ∧ u.cell? ⟨w.heap.size + 1, 5, none⟩ = some (.int .i64 ((R.2.bad 230).eat : Int)) ∧ ∃ v0 v1 v2 v3, Blk u w.heap.size 36 #[v0, v1, v2, v3]) ((((u0.setCell ⟨w.heap.size, 0, none⟩ (.int .i64 0)).setCell ⟨w.heap.size, 1, none⟩ (.int .i64 0)).setCell ⟨w.heap.size, 2, none⟩ (.int .i64 0)).setCell ⟨w.heap.size, 3, none⟩ (.slice none 0 0)) := ⟨by rw [set_far (.inl (by omega)), set_far (.inl (by omega)), set_far (.inl (by omega)), set_far (.inl (by omega))]; exact k4, by rw [set_far (.inl (by omega)), set_far (.inl (by omega)), set_far (.inl (by omega)), set_far (.inl (by omega))]; exact k5, _, _, _, _, hRS.own4 (.int .i64 0) (.int .i64 0) (.int .i64 0) (.slice none 0 0)⟩
      refine hK _ _ (fun _ => hS1) ?_
      (try simp only [Act.put]); (try simp only [List.getElem_toArray]); (try simp only [List.getElem_cons_succ]); (try simp only [List.getElem_cons_zero]); (try simp only [List.setIfInBounds_toArray]); (try simp only [List.set_cons_succ]); (try simp only [List.set_cons_zero])
      clear hK
      refine any_branch [10] (by kernel_rfl) rfl fun ix hix => ?_
      simp only [List.mem_cons, List.not_mem_nil, or_false] at hix
      subst hix
      refine any_op rfl rfl fun K hK => ?_
      go_simp
      refine hK _ _ (fun _ => hS1) ?_
      (try simp only [Act.put]); (try simp only [List.getElem_toArray]); (try simp only [List.getElem_cons_succ]); (try simp only [List.getElem_cons_zero]); (try simp only [List.setIfInBounds_toArray]); (try simp only [List.set_cons_succ]); (try simp only [List.set_cons_zero])
      clear hK
      refine any_branch [11] (by kernel_rfl) rfl fun ix hix => ?_
      simp only [List.mem_cons, List.not_mem_nil, or_false] at hix
      subst hix
      refine any_op rfl rfl fun K hK => ?_
      go_simp
      refine hK _ _ (fun _ => hS1) ?_
      (try simp only [Act.put]); (try simp only [List.getElem_toArray]); (try simp only [List.getElem_cons_succ]); (try simp only [List.getElem_cons_zero]); (try simp only [List.setIfInBounds_toArray]); (try simp only [List.set_cons_succ]); (try simp only [List.set_cons_zero])
      clear hK
      refine any_end (by kernel_rfl) ?_
      go_wp2_with fail
      have hf := (hR4.own4 (.int .i64 0) (.int .i64 0) (.int .i64 0) (.slice none 0 0))
      clear r0 r1 r2 r3 g0 g1 g2 g3
      obtain ⟨r0, r1, r2, r3, _, _, _, _⟩ := cells4 hf
      refine bodyPost_ret (v := Pv Tr.zero (.slice none 0 0) (R.2.bad 230).eat (R.2.bad 230).e) (by simp [results, Try.results13, go_sem, r0, r1, r2, r3]; rfl) rfl ?_
      rw [HE2.out]
      exact ⟨_, rfl, SlF.nil _ _, (((hB4.setCell (p := ⟨w.heap.size, 0, none⟩) (Nat.le_refl _) _).setCell (p := ⟨w.heap.size, 1, none⟩) (Nat.le_refl _) _).setCell (p := ⟨w.heap.size, 2, none⟩) (Nat.le_refl _) _).setCell (p := ⟨w.heap.size, 3, none⟩) (Nat.le_refl _) _⟩
  · have qe : ¬ (R.2.e : Int) = 0 := by omega
    have qe2 : ((R.2.e : Int) == 0) = false := by rw [beq_eq_false_iff_ne]; omega
    have hE : RR = (Tr.zero, R.2.eat, R.2.e) := HE.out.2.2 he
    have HE2 := Bx.mk hE
    clear hE he c0 c1 c2 c3 f1 f2 f3 f4 f5 hr ho hie
    go_wp2_with fail
    have hR4 := HH.out.res.drew
    have hS0 : (fun u => u.cell? ⟨w.heap.size + 1, 4, none⟩ = some (.int .i64 (R.2.e : Int)) ∧ u.cell? ⟨w.heap.size + 1, 5, none⟩ = some (.int .i64 (R.2.eat : Int)) ∧ ∃ v0 v1 v2 v3, Blk u w.heap.size 36 #[v0, v1, v2, v3]) (w2.alloc (Obj.cells #[.int .i64 R.1.k, .int .i64 R.1.a, .int .i64 R.1.v, .slice pp R.1.kids.len cap] 36)).drew := ⟨c4, c5, _, _, _, _, hR4⟩
    clear r0 r1 r2 r3 g0 g1 g2 g3
    refine region_any 100 (fun u => u.cell? ⟨w.heap.size + 1, 4, none⟩ = some (.int .i64 (R.2.e : Int)) ∧ u.cell? ⟨w.heap.size + 1, 5, none⟩ = some (.int .i64 (R.2.eat : Int)) ∧ ∃ v0 v1 v2 v3, Blk u w.heap.size 36 #[v0, v1, v2, v3]) (by kernel_rfl) ?_
    have hB4 := HH.out.be.drew
    generalize (w2.alloc (Obj.cells #[.int .i64 R.1.k, .int .i64 R.1.a, .int .i64 R.1.v, .slice pp R.1.kids.len cap] 36)).drew = u0 at hS0 hR4 hB4 ⊢
    refine any_take (i := 0) (.agg #[.int .i64 0, .int .i64 0, .int .i64 0, .slice none 0 0]) rfl rfl (by kernel_rfl) (by kernel_rfl) (by kernel_rfl) (by kernel_rfl) (fun _ _ d _ _ h => by cases d <;> exact h) (fun u hS => by obtain ⟨k4, k5, _⟩ := hS; first | rfl | (unfold execOp; go_simp)) hS0 ?_
    (try simp only [Act.put]); (try simp only [List.getElem_toArray]); (try simp only [List.getElem_cons_succ]); (try simp only [List.getElem_cons_zero]); (try simp only [List.setIfInBounds_toArray]); (try simp only [List.set_cons_succ]); (try simp only [List.set_cons_zero])
    refine any_take (i := 1) (.pointer (some ⟨w.heap.size + 1, 0, none⟩)) rfl rfl (by kernel_rfl) (by kernel_rfl) (by kernel_rfl) (by kernel_rfl) (fun _ _ d _ _ h => by cases d <;> exact h) (fun u hS => by obtain ⟨k4, k5, _⟩ := hS; first | rfl | (unfold execOp; go_simp)) hS0 ?_
    (try simp only [Act.put]); (try simp only [List.getElem_toArray]); (try simp only [List.getElem_cons_succ]); (try simp only [List.getElem_cons_zero]); (try simp only [List.setIfInBounds_toArray]); (try simp only [List.set_cons_succ]); (try simp only [List.set_cons_zero])
    refine any_take (i := 2) (.pointer (some ⟨w.heap.size + 1, 0, none⟩)) rfl rfl (by kernel_rfl) (by kernel_rfl) (by kernel_rfl) (by kernel_rfl) (fun _ _ d _ _ h => by cases d <;> exact h) (fun u hS => by obtain ⟨k4, k5, _⟩ := hS; first | rfl | (unfold execOp; go_simp)) hS0 ?_
    (try simp only [Act.put]); (try simp only [List.getElem_toArray]); (try simp only [List.getElem_cons_succ]); (try simp only [List.getElem_cons_zero]); (try simp only [List.setIfInBounds_toArray]); (try simp only [List.set_cons_succ]); (try simp only [List.set_cons_zero])
    refine any_take (i := 3) (.pointer (some ⟨w.heap.size + 1, 5, none⟩)) rfl rfl (by kernel_rfl) (by kernel_rfl) (by kernel_rfl) (by kernel_rfl) (fun _ _ d _ _ h => by cases d <;> exact h) (fun u hS => by obtain ⟨k4, k5, _⟩ := hS; first | rfl | (unfold execOp; go_simp)) hS0 ?_
    (try simp only [Act.put]); (try simp only [List.getElem_toArray]); (try simp only [List.getElem_cons_succ]); (try simp only [List.getElem_cons_zero]); (try simp only [List.setIfInBounds_toArray]); (try simp only [List.set_cons_succ]); (try simp only [List.set_cons_zero])
    refine any_take (i := 4) (.int .i64 (R.2.eat : Int)) rfl rfl (by kernel_rfl) (by kernel_rfl) (by kernel_rfl) (by kernel_rfl) (fun _ _ d _ _ h => by cases d <;> exact h) (fun u hS => by obtain ⟨k4, k5, _⟩ := hS; first | rfl | (unfold execOp; go_simp)) hS0 ?_
    (try simp only [Act.put]); (try simp only [List.getElem_toArray]); (try simp only [List.getElem_cons_succ]); (try simp only [List.getElem_cons_zero]); (try simp only [List.setIfInBounds_toArray]); (try simp only [List.set_cons_succ]); (try simp only [List.set_cons_zero])
    refine any_take (i := 5) (.pointer (some ⟨w.heap.size + 1, 0, none⟩)) rfl rfl (by kernel_rfl) (by kernel_rfl) (by kernel_rfl) (by kernel_rfl) (fun _ _ d _ _ h => by cases d <;> exact h) (fun u hS => by obtain ⟨k4, k5, _⟩ := hS; first | rfl | (unfold execOp; go_simp)) hS0 ?_
    (try simp only [Act.put]); (try simp only [List.getElem_toArray]); (try simp only [List.getElem_cons_succ]); (try simp only [List.getElem_cons_zero]); (try simp only [List.setIfInBounds_toArray]); (try simp only [List.set_cons_succ]); (try simp only [List.set_cons_zero])
    refine any_take (i := 6) (.pointer (some ⟨w.heap.size + 1, 0, none⟩)) rfl rfl (by kernel_rfl) (by kernel_rfl) (by kernel_rfl) (by kernel_rfl) (fun _ _ d _ _ h => by cases d <;> exact h) (fun u hS => by obtain ⟨k4, k5, _⟩ := hS; first | rfl | (unfold execOp; go_simp)) hS0 ?_
    (try simp only [Act.put]); (try simp only [List.getElem_toArray]); (try simp only [List.getElem_cons_succ]); (try simp only [List.getElem_cons_zero]); (try simp only [List.setIfInBounds_toArray]); (try simp only [List.set_cons_succ]); (try simp only [List.set_cons_zero])
    refine any_take (i := 7) (.pointer (some ⟨w.heap.size + 1, 4, none⟩)) rfl rfl (by kernel_rfl) (by kernel_rfl) (by kernel_rfl) (by kernel_rfl) (fun _ _ d _ _ h => by cases d <;> exact h) (fun u hS => by obtain ⟨k4, k5, _⟩ := hS; first | rfl | (unfold execOp; go_simp)) hS0 ?_
    (try simp only [Act.put]); (try simp only [List.getElem_toArray]); (try simp only [List.getElem_cons_succ]); (try simp only [List.getElem_cons_zero]); (try simp only [List.setIfInBounds_toArray]); (try simp only [List.set_cons_succ]); (try simp only [List.set_cons_zero])
    refine any_take (i := 8) (.int .i64 (R.2.e : Int)) rfl rfl (by kernel_rfl) (by kernel_rfl) (by kernel_rfl) (by kernel_rfl) (fun _ _ d _ _ h => by cases d <;> exact h) (fun u hS => by obtain ⟨k4, k5, _⟩ := hS; first | rfl | (unfold execOp; go_simp)) hS0 ?_
    (try simp only [Act.put]); (try simp only [List.getElem_toArray]); (try simp only [List.getElem_cons_succ]); (try simp only [List.getElem_cons_zero]); (try simp only [List.setIfInBounds_toArray]); (try simp only [List.set_cons_succ]); (try simp only [List.set_cons_zero])
    obtain ⟨k4, k5, v0, v1, v2, v3, hRS⟩ := hS0
    obtain ⟨r0, r1, r2, r3, g0, g1, g2, g3⟩ := cells4 hRS
    refine any_branch [9] (by kernel_rfl) rfl fun ix hix => ?_
    simp only [List.mem_cons, List.not_mem_nil, or_false] at hix
    subst hix
    refine any_op rfl rfl fun K hK => ?_
    go_simp
    have hS1 : (fun u => u.cell? ⟨w.heap.size + 1, 4, none⟩ = some (.int .i64 (R.2.e : Int)) ∧ u.cell? ⟨w.heap.size + 1, 5, none⟩ = some (.int .i64 (R.2.eat : Int)) ∧ ∃ v0 v1 v2 v3, Blk u w.heap.size 36 #[v0, v1, v2, v3]) ((((u0.setCell ⟨w.heap.size, 0, none⟩ (.int .i64 0)).setCell ⟨w.heap.size, 1, none⟩ (.int .i64 0)).setCell ⟨w.heap.size, 2, none⟩ (.int .i64 0)).setCell ⟨w.heap.size, 3, none⟩ (.slice none 0 0)) := ⟨by rw [set_far (.inl (by omega)), set_far (.inl (by omega)), set_far (.inl (by omega)), set_far (.inl (by omega))]; exact k4, by rw [set_far (.inl (by omega)), set_far (.inl (by omega)), set_far (.inl (by omega)), set_far (.inl (by omega))]; exact k5, _, _, _, _, hRS.own4 (.int .i64 0) (.int .i64 0) (.int .i64 0) (.slice none 0 0)⟩
    refine hK _ _ (fun _ => hS1) ?_
    (try simp only [Act.put]); (try simp only [List.getElem_toArray]); (try simp only [List.getElem_cons_succ]); (try simp only [List.getElem_cons_zero]); (try simp only [List.setIfInBounds_toArray]); (try simp only [List.set_cons_succ]); (try simp only [List.set_cons_zero])
    clear hK
    refine any_branch [10] (by kernel_rfl) rfl fun ix hix => ?_
    simp only [List.mem_cons, List.not_mem_nil, or_false] at hix
    subst hix
    refine any_op rfl rfl fun K hK => ?_
    go_simp
    refine hK _ _ (fun _ => hS1) ?_
    (try simp only [Act.put]); (try simp only [List.getElem_toArray]); (try simp only [List.getElem_cons_succ]); (try simp only [List.getElem_cons_zero]); (try simp only [List.setIfInBounds_toArray]); (try simp only [List.set_cons_succ]); (try simp only [List.set_cons_zero])
    clear hK
    refine any_branch [11] (by kernel_rfl) rfl fun ix hix => ?_
    simp only [List.mem_cons, List.not_mem_nil, or_false] at hix
    subst hix
    refine any_op rfl rfl fun K hK => ?_
    go_simp
    refine hK _ _ (fun _ => hS1) ?_
    (try simp only [Act.put]); (try simp only [List.getElem_toArray]); (try simp only [List.getElem_cons_succ]); (try simp only [List.getElem_cons_zero]); (try simp only [List.setIfInBounds_toArray]); (try simp only [List.set_cons_succ]); (try simp only [List.set_cons_zero])
    clear hK
    refine any_end (by kernel_rfl) ?_
    go_wp2_with fail
    have hf := (hR4.own4 (.int .i64 0) (.int .i64 0) (.int .i64 0) (.slice none 0 0))
    clear r0 r1 r2 r3 g0 g1 g2 g3
    obtain ⟨r0, r1, r2, r3, _, _, _, _⟩ := cells4 hf
    refine bodyPost_ret (v := Pv Tr.zero (.slice none 0 0) R.2.eat R.2.e) (by simp [results, Try.results13, go_sem, r0, r1, r2, r3]; rfl) rfl ?_
    rw [HE2.out]
    exact ⟨_, rfl, SlF.nil _ _, (((hB4.setCell (p := ⟨w.heap.size, 0, none⟩) (Nat.le_refl _) _).setCell (p := ⟨w.heap.size, 1, none⟩) (Nat.le_refl _) _).setCell (p := ⟨w.heap.size, 2, none⟩) (Nat.le_refl _) _).setCell (p := ⟨w.heap.size, 3, none⟩) (Nat.le_refl _) _⟩
theorem parse_any (s : ByteArray) (w : World) : Calls Try.prog 13 #[.string s] w (Parsed w (Ex.parse (bl s))) := by
  by_cases h : s.size ≤ 4000
  · exact parse_short s w h
  · exact parse_long s w (by omega)
end Go.Proofs.Ytfgokhafiffbaaa
