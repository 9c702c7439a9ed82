/-
  Formulas: slices of formulas that the call makes by append.
-/
import Derived.Test.YtfgokhafiffbaaaEx12
import Derived.Laws.OwnMore
namespace Go.Proofs.Ytfgokhafiffbaaa
set_option linter.unusedVariables false
open Go.RowKit

def Fo.app : Fo → Fo → Fo
  | .nil, G => G
  | .cons k a v kids rest, G => .cons k a v kids (rest.app G)
theorem Fo.len_app : ∀ (F G : Fo), (F.app G).len = F.len + G.len
  | .nil, G => by simp [Fo.app, Fo.len]
  | .cons k a v kids rest, G => by simp [Fo.app, Fo.len, Fo.len_app rest G]; omega
/-- the cells of a list -/
def RowF (w : World) (B : Nat → Prop) : Fo → List Value → Prop
  | .nil, L => L = []
  | .cons k a v kids rest, L => ∃ sl L', L = .int .i64 k :: .int .i64 a :: .int .i64 v :: sl :: L' ∧ SlF w B sl kids ∧ RowF w B rest L'
theorem RowF.length {w : World} {B : Nat → Prop} : ∀ {F : Fo} {L : List Value}, RowF w B F L → L.length = F.len * 4
  | .nil, L, h => by rw [show L = [] from h]; rfl
  | .cons k a v kids rest, L, h => by
    obtain ⟨sl, L', rfl, _, hr⟩ := h
    have := RowF.length hr
    simp [Fo.len, this]
    omega
theorem RowF.app {w : World} {B : Nat → Prop} {G : Fo} {M : List Value} (hG : RowF w B G M) : ∀ {F : Fo} {L : List Value}, RowF w B F L → RowF w B (F.app G) (L ++ M)
  | .nil, L, h => by rw [show L = [] from h]; exact hG
  | .cons k a v kids rest, L, h => by
    obtain ⟨sl, L', rfl, hs, hr⟩ := h
    exact ⟨sl, L' ++ M, rfl, hs, RowF.app hG hr⟩
theorem RowF.kept {w w' : World} {B : Nat → Prop} (hk : ∀ g, B g → g < w.heap.size → w'.heap[g]? = w.heap[g]?) : ∀ {F : Fo} {L : List Value}, RowF w B F L → RowF w' B F L
  | .nil, L, h => h
  | .cons k a v kids rest, L, h => by
    obtain ⟨sl, L', rfl, hs, hr⟩ := h
    exact ⟨sl, L', rfl, hs.kept hk, RowF.kept hk hr⟩
theorem RowF.mono' {w : World} {B B' : Nat → Prop} (hk : ∀ g, g < w.heap.size → B g → B' g) : ∀ {F : Fo} {L : List Value}, RowF w B F L → RowF w B' F L
  | .nil, L, h => h
  | .cons k a v kids rest, L, h => by
    obtain ⟨sl, L', rfl, hs, hr⟩ := h
    exact ⟨sl, L', rfl, hs.mono' hk, RowF.mono' hk hr⟩
theorem SlF.shape {w : World} {B : Nat → Prop} {v : Value} {F : Fo} (h : SlF w B v F) : v.oneCell' = true := by
  obtain ⟨p, cap, rfl⟩ := h.is
  rfl
theorem RowF.one {w : World} {B : Nat → Prop} : ∀ {F : Fo} {L : List Value}, RowF w B F L → ∀ u ∈ L, u.oneCell' = true
  | .nil, L, h => by rw [show L = [] from h]; intro u hu; cases hu
  | .cons k a v kids rest, L, h => by
    obtain ⟨sl, L', rfl, hs, hr⟩ := h
    intro u hu
    simp only [List.mem_cons] at hu
    rcases hu with rfl | rfl | rfl | rfl | hu
    · rfl
    · rfl
    · rfl
    · exact hs.shape
    · exact RowF.one hr u hu
theorem RowF.rd {w : World} {B : Nat → Prop} {b : Nat} (hB : B b) : ∀ {F : Fo} {L : List Value} {o : Nat}, RowF w B F L → (∀ j u, L[j]? = some u → w.cell? ⟨b, o + j, none⟩ = some u) → RdF w B F b o
  | .nil, L, o, h, _ => True.intro
  | .cons k a v kids rest, L, o, h, hc => by
    obtain ⟨sl, L', rfl, ⟨p, cap, b', o', rfl, h1, h2, h3⟩, hr⟩ := h
    refine ⟨hB, hc 0 _ rfl, hc 1 _ rfl, hc 2 _ rfl, ⟨p, cap, b', o', hc 3 _ rfl, h1, h2, h3⟩, ?_⟩
    refine RowF.rd hB hr fun j u hj => ?_
    have := hc (j + 4) u (by simpa using hj)
    rwa [show o + (j + 4) = o + 4 + j from by omega] at this
theorem RdF.row {w : World} {B : Nat → Prop} : ∀ {F : Fo} {b o : Nat}, RdF w B F b o → ∃ L, RowF w B F L ∧ ∀ j u, L[j]? = some u → w.cell? ⟨b, o + j, none⟩ = some u
  | .nil, b, o, _ => ⟨[], rfl, fun j u h => by simp at h⟩
  | .cons k a v kids rest, b, o, h => by
    obtain ⟨hb, h0, h1, h2, ⟨p, cap, b', o', h3, hp, hc, hk⟩, hr⟩ := h
    obtain ⟨L, hL, hcell⟩ := RdF.row hr
    refine ⟨.int .i64 k :: .int .i64 a :: .int .i64 v :: .slice p kids.len cap :: L, ⟨_, L, rfl, ⟨p, cap, b', o', rfl, hp, hc, hk⟩, hL⟩, ?_⟩
    intro j u hj
    match j, hj with
    | 0, hj => cases hj; exact h0
    | 1, hj => cases hj; exact h1
    | 2, hj => cases hj; exact h2
    | 3, hj => cases hj; exact h3
    | j + 4, hj =>
      have := hcell j u (by simpa using hj)
      rwa [show o + 4 + j = o + (j + 4) from by omega] at this

/-- an append whose run is known, for the walk -/
theorem wpList_app {P : Program} {w w' : World} {ops : Array Oper} {rest : List Oper} {o : Oper} {a : Act} {Q : Exit → Act → World → Prop} {v y v' : Value} (s x : Operand) (t u : TypeId)
    (hr : (Builtin.append_ #[t, u] o.type #[v, y]).run P w = .ok v' w') (hgd : o.guard = none)
    (ho : o.op = .call { callee := .builtin .append, args := #[s, x], argTypes := #[t, u] }) (hs : a.eval s = v) (hx : a.eval x = y)
    (h : wpList P ops Q rest (a.put o.dst v') w') : wpList P ops Q (o :: rest) a w := by
  refine wpList_plain hgd fun K hK => ?_
  unfold Oper.wp execOp
  simp only [ho, resolve, invoke, builtin, Sem.run_bind, Sem.run_pure, Result.andThen_ok, List.map_toArray, List.map_cons, List.map_nil, hs, hx, hr]
  exact hK _ _ h

set_option maxRecDepth 100000 in
/-- formulas appended: the slice lies where it lay, or in a new block -/
theorem own_app {w : World} {base : Nat} {v : Value} {n : Nat} {L : List Value} (h : w.ownsRow base 36 4 v n L) (b o m c : Nat) (news : List Value) (hl : news.length = m * 4) (hm : v = .slice none 0 0 → 0 < m)
    (hnews : ∀ j u, news[j]? = some u → w.cell? ⟨b, o + j, none⟩ = some u) (hone : ∀ u ∈ news, u.oneCell' = true) (hn : n + m < 1000000) (hb : base ≤ w.heap.size) (ty : TypeId) :
    ∃ v' w', (Builtin.append_ #[34, 34] ty #[v, .slice (some ⟨b, o, none⟩) m c]).run Try.prog w = .ok v' w' ∧ w'.ownsRow base 36 4 v' (n + m) (L ++ news) ∧ w.grownBy w' v.ownBlock ∧
      (v'.ownBlock = v.ownBlock ∨ v'.ownBlock = some w.heap.size) := by
  obtain ⟨i0, hi, hz⟩ : ∃ i, Try.prog.info? 36 = some i ∧ i.zero = some (.agg #[.int .i64 0, .int .i64 0, .int .i64 0, .slice none 0 0]) ∧ i.size = 4 ∧ i.bytes = 48 := by
    refine ⟨_, rfl, ?_⟩
    exact ⟨by kernel_rfl, by kernel_rfl, by kernel_rfl⟩
  have hnews' : ∀ j u, news[j]? = some u → w.cell? ((⟨b, o, none⟩ : Addr).add j) = some u := fun j u hj => by
    have := hnews j u hj
    simp only [Addr.add]
    split
    · rename_i e0; subst e0; exact this
    · exact this
  obtain ⟨v', w', hr, h1, h2, h3⟩ := run_append_own (P := Try.prog) w base 34 ty 36 i0 _ 4 48 Try.underlying34 hi hz.1 hz.2.1 hz.2.2 rfl (by omega) _ _ _ h ⟨b, o, none⟩ m c news hl hnews' hone (by unfold maxLen; omega) (by omega) hb
  refine ⟨v', w', hr, h1, h2, ?_⟩
  rcases h.2 with ⟨rfl, h0⟩ | ⟨g, cap, cur, rfl, hbg, hg, hnc, hcm, hcs, htake⟩
  · right
    have hr2 := run_append_nil (P := Try.prog) w 34 ty 36 i0 _ Try.underlying34 hi hz.1 ⟨b, o, none⟩ m c news (by rw [hz.2.1]; exact hl) hnews' (hm rfl) (by omega) (by rw [hz.2.2]; omega)
    rw [hr] at hr2
    cases hr2
    rfl
  · by_cases hroom : n + m ≤ cap
    · left
      have hr2 := run_append_room (P := Try.prog) w 34 ty 36 i0 Try.underlying34 hi g n cap cur hg ⟨b, o, none⟩ m c news (by rw [hz.2.1]; exact hl) hnews' hone hroom (by rw [hl, hcs, hz.2.1]; omega)
      rw [hr] at hr2
      cases hr2
      rfl
    · right
      have holds : ∀ j u, L[j]? = some u → w.cell? ((⟨g, 0, none⟩ : Addr).add j) = some u := h.cells (g := g) rfl
      have hr2 := run_append_grow (P := Try.prog) w 34 ty 36 i0 _ Try.underlying34 hi hz.1 ⟨g, 0, none⟩ n cap L (by rw [hz.2.1]; exact h.1) holds ⟨b, o, none⟩ m c news (by rw [hz.2.1]; exact hl) hnews' (by omega) (by omega) (growslice_fits (by omega) (by rw [hz.2.2]; omega))
      rw [hr] at hr2
      cases hr2
      rfl
theorem own_slf {w : World} {base : Nat} {v : Value} {n : Nat} {L : List Value} {F : Fo} {B : Nat → Prop} (h : w.ownsRow base 36 4 v n L) (hF : RowF w B F L) (hB : ∀ k, v.ownBlock = some k → B k) : SlF w B v F := by
  have hl := hF.length
  rw [h.1] at hl
  have hn : n = F.len := by omega
  subst hn
  rcases h.2 with ⟨rfl, h0⟩ | ⟨g, cap, cur, rfl, hbg, hg, hnc, hcm, hcs, htake⟩
  · cases F with
    | nil => exact SlF.nil w B
    | cons k a v kids rest => simp [Fo.len] at h0
  · refine SlF.mk hnc (RowF.rd (hB g rfl) hF fun j u hj => ?_)
    have := h.cells (g := g) rfl j u hj
    rw [Nat.zero_add]
    simp only [Addr.add] at this
    split at this
    · rename_i e0; subst e0; exact this
    · simpa using this

/-- where a call stands that collects formulas in a slice of its own -/
structure IT (w wr : World) (N d : Nat) (s : ByteArray) (st : St) (v : Value) (n : Nat) (F : Fo) : Prop where
  ps : PS wr N d s st
  gb : Gb N w wr
  res : Blk wr w.heap.size 36 #[.int .i64 0, .int .i64 0, .int .i64 0, .slice none 0 0]
  lt : N < w.heap.size
  len : F.len = n
  own : ∃ L, wr.ownsRow (w.heap.size + 1) 36 4 v n L ∧ RowF wr (fun g => w.heap.size < g ∧ some g ≠ v.ownBlock) F L
theorem IT.size {w wr : World} {N d : Nat} {s : ByteArray} {st : St} {v : Value} {n : Nat} {F : Fo} (h : IT w wr N d s st v n F) : w.heap.size + 1 ≤ wr.heap.size := h.res.lt
theorem IT.own_lt {w wr : World} {N d : Nat} {s : ByteArray} {st : St} {v : Value} {n : Nat} {F : Fo} (h : IT w wr N d s st v n F) {k : Nat} (hk : v.ownBlock = some k) : w.heap.size + 1 ≤ k ∧ k < wr.heap.size := by
  obtain ⟨L, h1, _⟩ := h.own
  exact h1.lt k hk
theorem IT.step {w wr w2 : World} {N d : Nat} {s : ByteArray} {st st' : St} {v : Value} {n : Nat} {F : Fo} (h : IT w wr N d s st v n F) (hp : PS w2 N d s st') (hg : Gb N wr w2) : IT w w2 N d s st' v n F := by
  have hlt := h.lt
  refine ⟨hp, h.gb.trans hg, hg.blk h.res (by omega), h.lt, h.len, ?_⟩
  have hw := fun k (hk : v.ownBlock = some k) => h.own_lt hk
  obtain ⟨L, h1, h2⟩ := h.own
  refine ⟨L, h1.kept hg ?_, h2.kept fun g hgB hl => hg.block g hl (fun e => ?_)⟩
  · cases e : v.ownBlock with
    | none => simp
    | some k => right; intro e2; have := Option.some.inj e2; have := hw k e; omega
  · have := Option.some.inj e
    have := hgB.1
    omega
theorem IT.app {w wr : World} {N d : Nat} {s : ByteArray} {st : St} {v : Value} {n : Nat} {F : Fo} (h : IT w wr N d s st v n F) (hn : n < 10) (y : Tr) (sy : Value) (hy : SlF wr (fun g => w.heap.size < g ∧ some g ≠ v.ownBlock) sy y.kids) (c : Nat) (ty : TypeId) :
    ∃ v' w', (Builtin.append_ #[34, 34] ty #[v, .slice (some ⟨wr.heap.size, 0, none⟩) 1 c]).run Try.prog (wr.alloc (.cells #[.int .i64 y.k, .int .i64 y.a, .int .i64 y.v, sy] 36)) = .ok v' w' ∧ IT w w' N d s st v' (n + 1) (F.app (y.on .nil)) := by
  have hlt := h.lt
  have hsz := h.size
  obtain ⟨py, cy, hsy⟩ := hy.is
  have hw := fun k (hk : v.ownBlock = some k) => h.own_lt hk
  obtain ⟨L, h1, h2⟩ := h.own
  have hb := Blk.new wr 36 #[.int .i64 y.k, .int .i64 y.a, .int .i64 y.v, sy]
  have hG0 := World.grownBy_alloc wr (.cells #[.int .i64 y.k, .int .i64 y.a, .int .i64 y.v, sy] 36) none
  have h1' := h1.kept hG0 (by cases e : v.ownBlock <;> simp)
  have hP' := h.ps.alloc (.cells #[.int .i64 y.k, .int .i64 y.a, .int .i64 y.v, sy] 36)
  have hR' := h.res.alloc (.cells #[.int .i64 y.k, .int .i64 y.a, .int .i64 y.v, sy] 36)
  have hgb' := h.gb.alloc (.cells #[.int .i64 y.k, .int .i64 y.a, .int .i64 y.v, sy] 36)
  have h2' : RowF (wr.alloc (.cells #[.int .i64 y.k, .int .i64 y.a, .int .i64 y.v, sy] 36)) (fun g => w.heap.size < g ∧ some g ≠ v.ownBlock ∧ g < wr.heap.size) (F.app (y.on .nil)) (L ++ [.int .i64 y.k, .int .i64 y.a, .int .i64 y.v, sy]) := by
    refine RowF.kept (w := wr) (fun g _ hl => Below.heap_alloc _ _ _ hl) (RowF.app ?_ (h2.mono' fun g hg hB => ⟨hB.1, hB.2, hg⟩))
    exact ⟨sy, [], rfl, hy.mono' fun g hg hB => ⟨hB.1, hB.2, hg⟩, rfl⟩
  have hz0 := alloc_size wr (.cells #[.int .i64 y.k, .int .i64 y.a, .int .i64 y.v, sy] 36)
  generalize wr.alloc (.cells #[.int .i64 y.k, .int .i64 y.a, .int .i64 y.v, sy] 36) = wa at hb h1' hP' hR' hgb' h2' hz0 ⊢
  obtain ⟨v', w', hr, ho, hg, hbk⟩ := own_app h1' wr.heap.size 0 1 c [.int .i64 y.k, .int .i64 y.a, .int .i64 y.v, sy] rfl (fun _ => by omega) (fun j u hj => by
      rw [Nat.zero_add, hb.cell]
      rw [← hj]
      match j with
      | 0 => rfl
      | 1 => rfl
      | 2 => rfl
      | 3 => rfl
      | j + 4 => rfl) (by
      intro u hu
      simp only [List.mem_cons, List.not_mem_nil, or_false] at hu
      rcases hu with rfl | rfl | rfl | rfl
      · rfl
      · rfl
      · rfl
      · exact hy.shape) (by omega) (by omega) ty
  have hne : ∀ g, g ≤ w.heap.size → some g ≠ v.ownBlock := fun g hg e => by have := hw g e.symm; omega
  refine ⟨v', w', hr, ⟨⟨⟨(hg.block N (by omega) (hne N (by omega))).trans hP'.blk.eq⟩, hP'.len, hP'.size, hP'.toks⟩, ?_, ⟨(hg.block w.heap.size (by omega) (hne _ (Nat.le_refl _))).trans hR'.eq⟩, hlt, by rw [Fo.len_app, h.len]; rfl, ?_⟩⟩
  · exact ⟨hg.os.trans hgb'.os, hg.tape.trans hgb'.tape, hg.output.trans hgb'.output, Nat.le_trans hgb'.size hg.size, fun i hi hi2 => (hg.block i (by omega) (hne i (by omega))).trans (hgb'.block i hi hi2)⟩
  · refine ⟨_, ho, (h2'.kept fun g hB hl => hg.block g hl hB.2.1).mono' fun g hl hB => ⟨hB.1, ?_⟩⟩
    rcases hbk with e | e
    · rw [e]; exact hB.2.1
    · rw [e]; intro e2; have := Option.some.inj e2; have := hB.2.2; omega
end Go.Proofs.Ytfgokhafiffbaaa
