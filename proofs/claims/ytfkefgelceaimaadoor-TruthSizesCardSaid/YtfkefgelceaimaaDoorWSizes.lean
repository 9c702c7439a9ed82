/-
  The walk of the law TruthSizes.
-/
import Derived.Test.YtfkefgelceaimaaDoorWCounts
import Derived.Test.YtfkefgelceaimaaDoorSizePlain2
import Derived.Laws.CopyOwn
import Derived.Test.YtfkefgelceaimaaDoorRowKit2
namespace Go.Proofs.YtfkefgelceaimaaDoor
set_option linter.unusedVariables false
open Go.RowKit

/-- a slice of bytes that came in -/
def BytesVal (w : World) (v : Value) (bs : List Nat) : Prop :=
  ∃ p cap, v = .slice p bs.length cap ∧ ∀ j x : Nat, bs[j]? = some x → x < 256 ∧ ∃ g off, p = some ⟨g, off, none⟩ ∧ w.cell? ⟨g, off + j, none⟩ = some (.int .u8 (x : Int))
/-- a slice of ints of the call's own -/
structure ISl (w : World) (base : Nat) (v : Value) (xs : List Int) : Prop where
  own : w.ownsRow base 3 1 v xs.length (xs.map (Value.int .i64))
/-- numbers put in, one by one -/
def ins (xs : List Int) (k : Nat) (v : Int) : List Int := xs.take k ++ (v :: xs.drop k)
structure SZ (w wr : World) (f g : Tb.T) (v : Nat) (lv : Value) (xs : List Int) : Prop where
  keep : Keep w wr [(w.heap.size, f), (w.heap.size + 1, g)]
  row : ISl wr w.heap.size lv xs
  off : ∀ k, lv.ownBlock = some k → w.heap.size + 1 < k
  len : xs.length = v
  perm : xs.Perm ((List.range v).map fun (i : Nat) => (i : Int))

theorem iapp_run {w w1 : World} {v : Value} {xs : List Int} (h : ISl w1 w.heap.size v xs) (hw : w.heap.size ≤ w1.heap.size) (hn : xs.length < 1000) :
    ∃ g' cap' cur w', (Builtin.append_ #[26, 26] 26 #[v, .slice (some ⟨w1.heap.size, 0, none⟩) 1 1]).run Tryd.prog (w1.alloc (.cells #[.int .i64 0] 3)) = .ok (.slice (some ⟨g', 0, none⟩) (xs.length + 1) cap') w' ∧
      w'.heap[g']? = some (.cells cur 3 (0, 0)) ∧ xs.length + 1 ≤ cap' ∧ cur.size = cap' ∧ cap' ≤ maxLen ∧ cur.toList.take (xs.length + 1) = (xs ++ [0]).map (Value.int .i64) ∧
      (w1.alloc (.cells #[.int .i64 0] 3)).grownBy w' v.ownBlock ∧ w.heap.size ≤ g' ∧ (some g' = v.ownBlock ∨ g' = w1.heap.size + 1) := by
  obtain ⟨i0, hi, hz⟩ : ∃ i, Tryd.prog.info? 3 = some i ∧ i.zero = some (.int .i64 0) ∧ i.size = 1 ∧ i.bytes = 8 := by
    refine ⟨_, rfl, ?_⟩
    exact ⟨by kernel_rfl, by kernel_rfl, by kernel_rfl⟩
  have hB := Blk.new w1 3 #[Value.int .i64 0]
  have hgr := World.grownBy_alloc w1 (.cells #[.int .i64 0] 3) none
  have hsz : (w1.alloc (.cells #[.int .i64 0] 3)).heap.size = w1.heap.size + 1 := by simp
  have h1 : (w1.alloc (.cells #[.int .i64 0] 3)).ownsRow w.heap.size 3 1 v xs.length (xs.map (Value.int .i64)) := h.own.kept hgr (by cases e : v.ownBlock <;> simp)
  have hnews : ∀ j u, ([Value.int .i64 0] : List Value)[j]? = some u → (w1.alloc (.cells #[.int .i64 0] 3)).cell? ((⟨w1.heap.size, 0, none⟩ : Addr).add j) = some u := fun j u hj => by
    match j, hj with
    | 0, hj => simp at hj; subst hj; simp only [Addr.add, if_true]; rw [hB.cell]; rfl
    | j + 1, hj => simp at hj
  have hone : ∀ u ∈ ([Value.int .i64 0] : List Value), u.oneCell' = true := fun u hu => by simp at hu; subst hu; rfl
  obtain ⟨v', w', hr, ho, hg, hnil⟩ := run_append_own (P := Tryd.prog) (w1.alloc (.cells #[.int .i64 0] 3)) w.heap.size 26 26 3 i0 _ 1 8 Tryd.underlying26 hi hz.1 hz.2.1 hz.2.2 rfl (by omega) _ _ _ h1 ⟨w1.heap.size, 0, none⟩ 1 1 [.int .i64 0] rfl hnews hone (by unfold maxLen; omega) (by omega) (by omega)
  rcases ho.2 with ⟨h', _⟩ | ⟨g', cap', cur, rfl, hbg, hcur, hle, hcm, hcs, htake⟩
  · have := hnil.1 h'
    simp at this
  refine ⟨g', cap', cur, w', hr, hcur, hle, by simpa using hcs, hcm, by simpa using htake, hg, hbg, ?_⟩
  rcases h1.2 with ⟨rfl, h0⟩ | ⟨g, cap, cu, rfl, hbg2, hgg, hnc, hcm2, hcs2, htake2⟩
  · right
    obtain rfl : xs = [] := List.eq_nil_of_length_eq_zero h0
    have hr2 := run_append_nil (P := Tryd.prog) (w1.alloc (.cells #[.int .i64 0] 3)) 26 26 3 i0 _ Tryd.underlying26 hi hz.1 ⟨w1.heap.size, 0, none⟩ 1 1 [.int .i64 0] (by rw [hz.2.1]; rfl) hnews (by omega) (by omega) (by rw [hz.2.2]; omega)
    rw [hr] at hr2
    cases hr2
    exact hsz
  · by_cases hroom : xs.length + 1 ≤ cap
    · left
      have hr2 := run_append_room (P := Tryd.prog) (w1.alloc (.cells #[.int .i64 0] 3)) 26 26 3 i0 Tryd.underlying26 hi g xs.length cap cu hgg ⟨w1.heap.size, 0, none⟩ 1 1 [.int .i64 0] (by rw [hz.2.1]; rfl) hnews hone hroom (by rw [hcs2, hz.2.1]; simp; omega)
      rw [hr] at hr2
      cases hr2
      rfl
    · right
      have holds : ∀ j u, (xs.map (Value.int .i64))[j]? = some u → (w1.alloc (.cells #[.int .i64 0] 3)).cell? ((⟨g, 0, none⟩ : Addr).add j) = some u := h1.cells (g := g) rfl
      have hr2 := run_append_grow (P := Tryd.prog) (w1.alloc (.cells #[.int .i64 0] 3)) 26 26 3 i0 _ Tryd.underlying26 hi hz.1 ⟨g, 0, none⟩ xs.length cap (xs.map (Value.int .i64)) (by rw [hz.2.1]; simp) holds ⟨w1.heap.size, 0, none⟩ 1 1 [.int .i64 0] (by rw [hz.2.1]; rfl) hnews (by omega) (by omega) (growslice_fits (by omega) (by rw [hz.2.2]; omega))
      rw [hr] at hr2
      cases hr2
      exact hsz
/-- the row behind copy and store -/
theorem ins_row {xs : List Int} {cur : List Value} {k v : Nat} (hk : k ≤ xs.length) (hl : xs.length + 1 ≤ cur.length) (ht : cur.take (xs.length + 1) = (xs ++ [0]).map (Value.int .i64)) :
    ((splice cur (k + 1) ((xs.drop k).map (Value.int .i64))).set k (.int .i64 (v : Int))).take (xs.length + 1) = (ins xs k (v : Int)).map (Value.int .i64) := by
  have hcl : ((xs.drop k).map (Value.int .i64)).length = xs.length - k := by simp
  have h1 : cur.take (k + 1) = ((xs ++ [0]).map (Value.int .i64)).take (k + 1) := by
    rw [← ht, List.take_take, Nat.min_eq_left (by omega)]
  have h2 : cur.take k = (xs.take k).map (Value.int .i64) := by
    have : cur.take k = (cur.take (k + 1)).take k := by rw [List.take_take, Nat.min_eq_left (by omega)]
    rw [this, h1, List.take_take, Nat.min_eq_left (by omega), ← List.map_take, List.take_append_of_le_length hk]
  apply List.ext_getElem?
  intro j
  unfold splice ins
  rw [List.getElem?_take]
  by_cases hj : j < xs.length + 1
  · rw [if_pos hj, List.getElem?_set]
    have htl : (cur.take (k + 1)).length = k + 1 := by rw [List.length_take]; omega
    by_cases e : k = j
    · subst e
      have : k < (cur.take (k + 1) ++ ((xs.drop k).map (Value.int .i64) ++ cur.drop (k + 1 + ((xs.drop k).map (Value.int .i64)).length))).length := by rw [List.length_append, htl]; omega
      rw [if_pos rfl, if_pos this, List.map_append, List.map_cons, List.getElem?_append_right (by simp; omega), List.length_map, List.length_take, Nat.min_eq_left hk]
      simp
    · rw [if_neg e]
      by_cases hlt : j < k
      · rw [List.getElem?_append_left (by omega), List.map_append, List.getElem?_append_left (by simp; omega), ← h2, List.getElem?_take, List.getElem?_take, if_pos (by omega), if_pos hlt]
      · rw [List.getElem?_append_right (by omega), htl, List.getElem?_append_left (by rw [hcl]; omega), List.map_append, List.map_cons, List.getElem?_append_right (by simp; omega), List.length_map, List.length_take, Nat.min_eq_left hk]
        obtain ⟨d, hd⟩ : ∃ d, j - k = d + 1 := ⟨j - k - 1, by omega⟩
        rw [hd, List.getElem?_cons_succ, show j - (k + 1) = d from by omega]
  · rw [if_neg hj, List.getElem?_eq_none (by simp; omega)]
theorem ins_perm {xs : List Int} {k v : Nat} (h : xs.Perm ((List.range v).map fun (i : Nat) => (i : Int))) : (ins xs k (v : Int)).Perm ((List.range (v + 1)).map fun (i : Nat) => (i : Int)) := by
  unfold ins
  refine (List.perm_middle (l₁ := xs.take k) (l₂ := xs.drop k) (a := (v : Int))).trans ?_
  rw [List.take_append_drop, List.range_succ, List.map_append]
  refine (List.Perm.cons _ h).trans ?_
  simp only [List.map_cons, List.map_nil]
  exact (List.perm_append_singleton _ _).symm
theorem ins_length {xs : List Int} {k : Nat} {v : Int} : (ins xs k v).length = xs.length + 1 := by
  unfold ins; simp; omega

/-- behind the append, the copy and the store -/
theorem iapp_after {w wc w2 : World} {f g : Tb.T} {v k g' cap' : Nat} {lv : Value} {xs : List Int} {cur : Array Value} (hS : SZ w wc f g v lv xs)
    (hcur : w2.heap[g']? = some (.cells cur 3 (0, 0))) (hgr : (wc.alloc (.cells #[.int .i64 0] 3)).grownBy w2 lv.ownBlock)
    (hcs : cur.size = cap') (hcm : cap' ≤ maxLen) (hle : v + 1 ≤ cap') (htk : cur.toList.take (xs.length + 1) = (xs ++ [0]).map (Value.int .i64))
    (hbg : w.heap.size ≤ g') (hwh : some g' = lv.ownBlock ∨ g' = wc.heap.size + 1) (hkv : k ≤ v) :
    w.heap.size + 1 < g' ∧
      ∀ w3, Below (w.heap.size + 2) w2 w3 → w3.heap[g']? = some (.cells (splice cur.toList (k + 1) ((xs.drop k).map (Value.int .i64))).toArray 3 (0, 0)) →
        (∃ u, w3.cell? ⟨g', k, none⟩ = some u) ∧ w3.frozen? ⟨g', k, none⟩ = false ∧
        SZ w (w3.setCell ⟨g', k, none⟩ (.int .i64 (v : Int))) f g (v + 1) (.slice (some ⟨g', 0, none⟩) (v + 1) cap') (ins xs k v) := by
  have hl := hS.len
  have hA : w.heap.size + 1 < g' := by
    rcases hwh with h | h
    · exact hS.off g' h.symm
    · have := hS.keep.lt (k := 1) rfl; omega
  have hk2 := hS.keep.lt (k := 1) rfl
  have hb : Below (w.heap.size + 2) (wc.alloc (.cells #[.int .i64 0] 3)) w2 := ⟨hgr.os, hgr.tape, hgr.output, hgr.size, fun j hj => hgr.block j (by simp; omega) (by
    intro h
    have := hS.off j h.symm
    omega)⟩
  have hK := (hS.keep.alloc (.cells #[.int .i64 0] 3)).stepB hb (by intro e he; simp at he; rcases he with rfl | rfl <;> simp) (by omega)
  have hlen : (splice cur.toList (k + 1) ((xs.drop k).map (Value.int .i64))).length = cap' := by
    rw [length_splice]
    · simpa using hcs
    · simp; omega
  refine ⟨hA, fun w3 hb3 hg3 => ⟨?_, ?_, ?_⟩⟩
  · have hBk : Blk w3 g' 3 _ := ⟨hg3⟩
    refine ⟨_, (hBk.cell k).trans (Array.getElem?_eq_getElem (by rw [List.size_toArray, hlen]; omega))⟩
  · exact (Blk.mk hg3).frozen k
  · refine ⟨(hK.stepB hb3 (by intro e he; simp at he; rcases he with rfl | rfl <;> simp) (by omega)).far _ (by intro e he; simp at he; rcases he with rfl | rfl <;> simp <;> omega) hbg, ⟨?_⟩, ?_, by rw [ins_length, hl], ins_perm hS.perm⟩
    · refine ⟨by simp, .inr ⟨g', cap', _, by rw [ins_length, hl], hbg, ((Blk.mk hg3).set_ k (.int .i64 (v : Int))).eq, by rw [ins_length, hl]; exact hle, hcm, by rw [Array.size_setIfInBounds, List.size_toArray, hlen, Nat.mul_one], ?_⟩⟩
      rw [ins_length, Nat.mul_one]
      have := ins_row (xs := xs) (cur := cur.toList) (k := k) (v := v) (by omega) (by simp [hcs]; omega) htk
      simpa using this
    · intro j h
      simp [Value.ownBlock] at h
      omega

/-- what is copied lies there -/
theorem ins_src {xs : List Int} {cur : Array Value} {k : Nat} {w : World} {g' : Nat} (hcur : w.heap[g']? = some (.cells cur 3 (0, 0))) (htk : cur.toList.take (xs.length + 1) = (xs ++ [0]).map (Value.int .i64))
    (j : Nat) (u : Value) (h : ((xs.drop k).map (Value.int .i64))[j]? = some u) : w.cell? ((⟨g', k, none⟩ : Addr).add j) = some u := by
  rw [List.getElem?_map, List.getElem?_drop] at h
  have hlt : k + j < xs.length := by
    cases e : xs[k + j]? with
    | none => rw [e] at h; cases h
    | some y => exact (List.getElem?_eq_some_iff.1 e).1
  have e1 : (cur.toList.take (xs.length + 1))[k + j]? = some u := by
    rw [htk, List.getElem?_map, List.getElem?_append_left hlt]
    exact h
  rw [List.getElem?_take, if_pos (by omega), Array.getElem?_toList] at e1
  have ea : (⟨g', k, none⟩ : Addr).add j = ⟨g', k + j, none⟩ := by
    simp only [Addr.add]
    split
    · rename_i e0; subst e0; rfl
    · rfl
  rw [ea, (Blk.mk hcur).cell]
  exact e1

/-- a cut 'l[j:]' of a row of one's own, in a region whose order is open: where it lies is told only if there is room behind it -/
theorem still_cut {ops : Array Oper} {w : World} {Q : Act → Prop} {a : Act} {o : Oper} {rest : List Oper} (hgd : o.guard = none) (x l : Operand)
    (ho : o.op = .slice 26 x (some l) none none) (g n c j : Nat) (hx : a.eval x = .slice (some ⟨g, 0, none⟩) n c) (hl : a.eval l = .int .i64 (j : Int)) (hj : j ≤ n)
    (h : ∀ p, Bx (j < c → p = some ⟨g, j, none⟩) → wpStill Tryd.prog ops w Q rest (a.put o.dst (.slice p (n - j) (c - j)))) : wpStill Tryd.prog ops w Q (o :: rest) a := by
  refine wpStill_step (fun K hK => ?_)
  have hw : Region.wanted o (yielded ops a.tmps) = true := by simp [Region.wanted, hgd]
  rw [if_pos hw]
  have e1 : (execOp a.eval o).run Tryd.prog w = .ok (.value (.slice (if c = j then some ⟨g, 0, none⟩ else some ⟨g, j, none⟩) (n - j) (c - j))) w := by
    have h1 : (Instr.slice 26 (.slice (some ⟨g, 0, none⟩) n c) (some (.int .i64 (j : Int))) none none).run Tryd.prog w = _ := run_slice_l (P := Tryd.prog) w 26 (some ⟨g, 0, none⟩) n c (by kernel_rfl) .i64 (j : Int) (by omega) (by omega)
    have h2 : (sizeOf (Tryd.prog.elem 26)).run Tryd.prog w = .ok 1 w := by go_simp
    have h3 := run_sliceAt_slice (P := Tryd.prog) w 26 (.slice (some ⟨g, 0, none⟩) n c) (some (.int .i64 (j : Int))) none none (by kernel_rfl)
    simp only [execOp, ho, Option.map_some, Option.map_none, hx, hl, Sem.run_bind, h3, h1, h2, Result.andThen_ok, Sem.run_pure, sliced, Int.toNat_natCast, Option.map_some, Addr.add]
    congr 3
    by_cases e : c = j
    · simp [e]
    · simp [e]
      intro h0
      omega
  unfold Oper.still
  rw [e1]
  refine ⟨rfl, hK _ (h _ ⟨fun hlt => by rw [if_neg (by omega)]⟩)⟩

theorem u8_bitv : ∀ x : Nat, x < 256 → ∀ v : Nat, v < 8 → bits .and .u8 ((x : Int) / 2 ^ v) 1 = if x.testBit v then 1 else 0 := by decide +kernel
theorem perm8_of {xs : List Int} (h : xs.Perm ((List.range 8).map fun (i : Nat) => (i : Int))) : Tb.Perm8 xs := by
  have hl : xs.length = 8 := by rw [h.length_eq]; rfl
  refine ⟨hl, fun k hk => ?_, fun v hv => ?_, fun j k x hj hk h1 h2 => ?_⟩
  · have hm : xs[k]'(by omega) ∈ xs := List.getElem_mem _
    rw [h.mem_iff, List.mem_map] at hm
    obtain ⟨v, hv, e⟩ := hm
    exact ⟨v, List.mem_range.1 hv, by rw [List.getElem?_eq_getElem (by omega), e]⟩
  · have hm : (v : Int) ∈ xs := by rw [h.mem_iff, List.mem_map]; exact ⟨v, List.mem_range.2 hv, rfl⟩
    obtain ⟨k, hk⟩ := List.getElem?_of_mem hm
    have := (List.getElem?_eq_some_iff.1 hk).1
    exact ⟨k, by omega, hk⟩
  · have hn : xs.Nodup := h.nodup_iff.2 (by decide)
    exact (List.getElem?_inj (i := j) (j := k) (by omega) hn).1 (h1.trans h2.symm)

section
variable {P : Program} {ops : Array Oper} {Q : Exit → Act → World → Prop} {S : World → Prop} {x n i : Nat} {listed : Array Bool} {a : Act} {w : World} {o : Oper}
theorem any_take (v : Value) (ho : ops[i]? = some o) (hw : Region.wanted o (yielded ops a.tmps) = true) (hs : Region.noSelect ops = true) (hlast : lastB .any ops x = true) (hfree : Region.free .any ops listed i = true)
    (hr : (Region.ready .any ops listed).contains i = true) (hQ : ∀ c a d v w, Q (.panic c) (Act.put a d v) w → Q (.panic c) a w) (hv : ∀ w, S w → (execOp a.eval o).run P w = .ok (.value v) w) (hS : S w)
    (h : AnyE P .any ops Q S x n (listed.setIfInBounds i true) (a.put o.dst v) w) : AnyE P .any ops Q S x (n + 1) listed a w :=
  AnyE.first ho hs hlast (fun c a w => hQ c a _ _ w) n listed a w (Region.free_spec ho hfree) (List.contains_iff_mem.1 hr) (.inl ⟨hw, hv⟩) hS h
theorem any_branch (L : List Nat) (hr : (Region.ready .any ops listed == L) = true) (hne : L.isEmpty = false) (h : ∀ i ∈ L, wpOp P ops Q i (fun a' w' => (i ≠ x → S w') ∧ AnyE P .any ops Q S x n (listed.setIfInBounds i true) a' w') a w) :
    AnyE P .any ops Q S x (n + 1) listed a w := by
  have e : Region.ready .any ops listed = L := by simpa using hr
  subst e
  exact ⟨fun h0 => by rw [h0] at hne; simp at hne, h⟩
theorem any_op (ho : ops[i]? = some o) (hw : Region.wanted o (yielded ops a.tmps) = true)
    (h : ∀ K : Act → World → Prop, (∀ a' w', (i ≠ x → S w') → AnyE P .any ops Q S x n (listed.setIfInBounds i true) a' w' → K a' w') → o.wp P a w K Q) : wpOp P ops Q i (fun a' w' => (i ≠ x → S w') ∧ AnyE P .any ops Q S x n (listed.setIfInBounds i true) a' w') a w := by
  unfold wpOp
  simp only [ho, hw, if_true]
  exact .inl (h _ fun a w h1 h2 => ⟨h1, h2⟩)
theorem any_end (hr : (Region.ready .any ops listed).isEmpty = true) (h : Q .normal a w) : AnyE P .any ops Q S x 0 listed a w := ⟨by simpa using hr, h⟩
theorem region_any {id : Nat} (x : Nat) (S : World → Prop) (hm : P.follows .mixedOrders = true) (h : AnyE P .any ops Q S x ops.size (Array.replicate ops.size false) a w.drew) : (Code.region id ops true).wp P Q a w :=
  wp_region_any hm (AnyE.any _ _ _ _ h)
end
theorem tabs_blk {u : World} {p : Nat} {ty : TypeId} {L : List Tb.T} {cs : Array Value} (hB : Blk u p ty cs) (hc : cs.toList = Tb.flat L) : TabsAt u (some ⟨p, 0, none⟩) L :=
  ⟨fun j F hj => ⟨p, 0, rfl, fun i hi => by rw [hB.cell, ← Array.getElem?_toList, hc, show 0 + j * 4 + i = 4 * j + i from by omega]; exact Tb.flat_get L j F i hj hi⟩⟩
theorem SZ.step {w u u' : World} {f g : Tb.T} {v : Nat} {lv : Value} {xs : List Int} (h : SZ w u f g v lv xs) (hb : Below u.heap.size u u') : SZ w u' f g v lv xs :=
  ⟨h.keep.step hb, ⟨h.row.own.kept (below_grown hb) (by cases e : lv.ownBlock <;> simp)⟩, h.off, h.len, h.perm⟩
theorem SZ.ints {w u : World} {f g : Tb.T} {v : Nat} {lv : Value} {xs : List Int} (h : SZ w u f g v lv xs) : IntsVal u lv xs := by
  rcases h.row.own.2 with ⟨h', h0⟩ | ⟨b, cap, cur, h', hbg, hg, hnc, hcm, hcs, htake⟩
  · exact .inl ⟨h', List.eq_nil_of_length_eq_zero h0⟩
  · refine .inr ⟨b, 0, cap, h', hnc, fun j x hj => ?_⟩
    have hlt : j < xs.length := (List.getElem?_eq_some_iff.1 hj).1
    have e1 : (cur.toList.take (xs.length * 1))[j]? = some (.int .i64 x) := by rw [htake, List.getElem?_map, hj]; rfl
    rw [List.getElem?_take, if_pos (by omega), Array.getElem?_toList] at e1
    rw [Nat.zero_add, (Blk.mk hg).cell]
    exact e1

set_option maxRecDepth 100000 in
set_option maxHeartbeats 8000000 in
theorem sizes_walk (f g : Tb.T) (vb : Value) (bs : List Nat) (w : World) (hV : BytesVal w vb bs) (hT : TabAt w) (hG : 0 < w.heap.size) :
    Calls Tryd.prog 5 #[Tb.tv f, Tb.tv g, vb] w fun e w' => e = .returned (.bool true) ∧ Below w.heap.size w w' := by
  obtain ⟨pb, capb, rfl, hB⟩ := hV
  have hK := ((Keep.nil w).new f).new g
  simp only [List.cons_append, List.nil_append, alloc_size] at hK
  have hT3 : TabAt ((w.alloc (.cells (Tb.tcells f) 24)).alloc (.cells (Tb.tcells g) 24)) := hT.keep hK.below hG
  have hKn := known3_any _ hT3 (by simp)
  by_cases h8 : bs.length > 8
  · have q1 : (bs.length : Int) > 8 := by omega
    go_enter Tryd.func5, Tryd.ntmps5
    go_wp2_with fail
    refine hKn.mono ?_
    rintro e w5 ⟨rfl, b5⟩
    have hb := (hK.step b5).below
    clear hK hKn b5
    go_wp2_with fail
    go_ret
    exact ⟨rfl, hb⟩
  · have q1 : ¬ (bs.length : Int) > 8 := by omega
    go_enter Tryd.func5, Tryd.ntmps5
    go_wp2_with fail
    refine hKn.mono ?_
    rintro e w5 ⟨rfl, b5⟩
    replace hK := hK.step b5
    clear hKn b5 hT3 hT hG
    go_wp2_with fail
    go_loopw [7, 8, 9] (fun lv i _ wr => ∃ (v : Nat) (xs : List Int), v ≤ 8 ∧ i = .int .i64 v ∧ SZ w wr f g v lv xs) (fun _ i _ _ => 8 - (intOf i).toNat)
    case atStart => exact ⟨0, [], by omega, rfl, hK, ⟨World.ownsRow_nil _ _ _ _⟩, fun k h => by simp [Value.ownBlock] at h, rfl, by simp⟩
    case round =>
      clear hK
      obtain ⟨v, xs, hv8, rfl, hS⟩ := hrel
      by_cases hlt : v < 8
      · obtain ⟨k, hk⟩ : ∃ k, Bx (k = if v < bs.length then (bs.getD v 0) % (v + 1) else 0) := ⟨_, ⟨rfl⟩⟩
        have hkv : k ≤ v := by
          have := hk.out
          split at this
          · have := Nat.mod_lt (bs.getD v 0) (show 0 < v + 1 by omega); omega
          · omega
        go_upto_if 28 with fail
        go_cut [9] (fun kv w' => kv = .int .i64 (k : Int) ∧ w' = wr)
        case first =>
          by_cases hin : v < bs.length
          · obtain ⟨x, hx⟩ : ∃ x, bs[v]? = some x := ⟨_, List.getElem?_eq_getElem hin⟩
            obtain ⟨hx8, gb, offb, rfl, hcb⟩ := hB v x hx
            have c0 : wr.cell? ⟨gb, offb + v, none⟩ = some (.int .u8 (x : Int)) := by rw [hS.keep.below.cell (block_lt_of_cell hcb)]; exact hcb
            have hkx : k = x % (v + 1) := by have := hk.out; rw [if_pos hin, List.getD_eq_getElem?_getD, hx] at this; exact this
            have e1 : (x : Int) % ((v : Int) + 1) = (k : Int) := by rw [hkx]; rfl
            have HK := Bx.mk e1
            have e3 : (x : Int) < 256 := by omega
            clear hS hk hkx e1
            go_wp2_with fail
            go_meet
            case rel => exact ⟨by rw [HK.out], rfl⟩
          · have hk0 : k = 0 := by have := hk.out; rw [if_neg hin] at this; exact this
            clear hk
            subst hk0
            go_wp2_with fail
            go_meet
            case rel => exact ⟨rfl, rfl⟩
        case rest =>
          obtain ⟨rfl, rfl⟩ := hcut
          clear hk
          have hxl := hS.len
          obtain ⟨g', cap', cur, w2, hr2, hcur, hle, hcs, hcm, htk, hgr, hbg, hwh⟩ := iapp_run hS.row hS.keep.below.size (by omega)
          have HS := Bx.mk hS
          have HC := Bx.mk hcur
          have HG := Bx.mk hgr
          clear hS hcur hgr hB
          rw [hxl] at hr2 hle
          go_wp2_with (first | (at_builtin; refine wpList_by_append _ rfl _ _ _ rfl rfl rfl hr2 ?_) | fail)
          obtain ⟨hgA, hrow⟩ := iapp_after HS.out HC.out HG.out hcs hcm hle htk hbg hwh hkv
          have HR := Bx.mk hrow
          clear hrow
          have hC := HC.out
          refine region_tail 7 (by kernel_rfl) (by kernel_rfl) ?_
          simp only [List.take_succ_cons, List.take_zero, List.drop_succ_cons, List.drop_zero]
          repeat still_step
          rw [show IntKind.i64.wrap ((k : Int) + 1) = ((k + 1 : Nat) : Int) from by rw [IntKind.wrap_i64]; omega]
          refine still_cut rfl _ _ rfl g' (v + 1) cap' (k + 1) rfl rfl (by omega) fun p1 hp1 => ?_
          repeat still_step
          refine still_cut rfl _ _ rfl g' (v + 1) cap' k rfl rfl (by omega) fun p2 hp2 => ?_
          refine wpStill_nil ?_
          refine wpList_copy_splice rfl _ _ _ _ rfl 3 (by kernel_rfl) (by kernel_rfl) p1 p2 (v - k) (cap' - (k + 1)) (v + 1 - k) (cap' - k) rfl rfl g' (k + 1) cur.toList 3 (show w2.heap[g']? = some (.cells cur.toList.toArray _ _) by simpa using hC) ((xs.drop k).map (Value.int .i64)) ?_ ?_ ?_ ?_ (w.heap.size + 2) w2 ((Below.refl _ _).drew) (by omega) fun w3 hg3 hb3 => ?_
          · rw [List.length_map, List.length_drop, hxl]
            exact (Nat.min_eq_right (by omega)).symm
          · intro h0
            rw [List.length_map, List.length_drop, hxl] at h0
            exact ⟨hp1.out (by omega), _, hp2.out (by omega), ins_src (w := w2.drew) hC htk⟩
          · rw [List.length_map, List.length_drop, hxl, Array.length_toList, hcs]; omega
          · intro u hu
            obtain ⟨y, _, rfl⟩ := List.mem_map.1 hu
            rfl
          · obtain ⟨⟨u, hcell⟩, hfr, hSZ⟩ := HR.out w3 hb3 hg3
            have HZ := Bx.mk hSZ
            clear hSZ hg3 hb3 hC hp1 hp2 HR HC HS HG hr2 htk
            go_wp2_with fail
            exact ⟨⟨v + 1, ins xs k v, by omega, by go_num, HZ.out⟩, by simp [intOf]; omega⟩
      · obtain rfl : v = 8 := by omega
        have HS := Bx.mk hS
        clear hB hS
        go_upto_region 15 with fail
        go_cut [10, 11] (fun xa xb w' => ∃ na nb : Nat, xa = .int .i64 (na : Int) ∧ xb = .int .i64 (nb : Int) ∧ SizeIs [f] xs na ∧ SizeIs [g] xs nb ∧ SZ w w' f g 8 u7 xs)
        case first =>
          refine region_any 9 (fun u => SZ w u f g 8 u7 xs) (by kernel_rfl) ?_
          have hS0 : SZ w wr.drew f g 8 u7 xs := HS.out.step ((Below.refl _ _).drew)
          generalize wr.drew = u0 at hS0 ⊢
          refine any_take (i := 0) (Tb.tv f) rfl rfl (by kernel_rfl) (by kernel_rfl) (by kernel_rfl) (by kernel_rfl) (fun _ _ d _ _ h => by cases d <;> exact h) (fun u hS => exec_load rfl rfl (hS.keep.at_ 0 _ _ rfl)) hS0 ?_
          simp only [Act.put, List.setIfInBounds_toArray]
          refine any_take (i := 2) u7 rfl rfl (by kernel_rfl) (by kernel_rfl) (by kernel_rfl) (by kernel_rfl) (fun _ _ d _ _ h => by cases d <;> exact h) (fun u hS => rfl) hS0 ?_
          simp only [Act.put]
          refine any_take (i := 4) (Tb.tv g) rfl rfl (by kernel_rfl) (by kernel_rfl) (by kernel_rfl) (by kernel_rfl) (fun _ _ d _ _ h => by cases d <;> exact h) (fun u hS => exec_load rfl rfl (hS.keep.at_ 1 _ _ rfl)) hS0 ?_
          simp only [Act.put]
          refine any_take (i := 6) u7 rfl rfl (by kernel_rfl) (by kernel_rfl) (by kernel_rfl) (by kernel_rfl) (fun _ _ d _ _ h => by cases d <;> exact h) (fun u hS => rfl) hS0 ?_
          simp only [Act.put]
          refine any_branch [1, 5] (by kernel_rfl) rfl fun ix hix => ?_
          simp only [List.mem_cons, List.not_mem_nil, or_false] at hix
          rcases hix with rfl | rfl
          · refine any_op rfl rfl fun K hK => ?_
            go_simp
            have tBf := tabs_blk (L := [f]) (Blk.new u0 24 (Tb.tcells f)) rfl
            have bBf := (Below.refl u0.heap.size u0).alloc (Nat.le_refl _) (.cells (Tb.tcells f) 24)
            have hS1 := hS0.step bBf
            refine hK _ _ (fun _ => hS1) ?_
            try simp only [Act.put, List.setIfInBounds_toArray, List.set_cons_zero, List.set_cons_succ]
            clear hK
            rw [show (#[.int .u64 (Tb.wd f 0), .int .u64 (Tb.wd f 1), .int .u64 (Tb.wd f 2), .int .u64 (Tb.wd f 3)] : Array Value) = Tb.tcells f from rfl]
            generalize hpf : u0.heap.size = pf at tBf ⊢
            generalize u0.alloc (.cells (Tb.tcells f) 24) = u1 at tBf bBf hS1 ⊢
            refine any_branch [3, 5] (by kernel_rfl) rfl fun ix hix => ?_
            simp only [List.mem_cons, List.not_mem_nil, or_false] at hix
            rcases hix with rfl | rfl
            · refine any_op rfl rfl fun K hK => ?_
              go_simp
              refine (size_any [f] _ 1 _ xs _ tBf (by simp) hS1.ints).mono ?_
              rintro e u2 ⟨nf, hnf, rfl, bCf⟩
              have hS2 := hS1.step bCf
              refine hK _ _ (fun _ => hS2) ?_
              try simp only [Act.put, List.setIfInBounds_toArray, List.set_cons_zero, List.set_cons_succ]
              clear hK
              clear tBf bCf
              refine any_branch [5] (by kernel_rfl) rfl fun ix hix => ?_
              simp only [List.mem_cons, List.not_mem_nil, or_false] at hix
              subst hix
              refine any_op rfl rfl fun K hK => ?_
              go_simp
              have tBg := tabs_blk (L := [g]) (Blk.new u2 24 (Tb.tcells g)) rfl
              have bBg := (Below.refl u2.heap.size u2).alloc (Nat.le_refl _) (.cells (Tb.tcells g) 24)
              have hS3 := hS2.step bBg
              refine hK _ _ (fun _ => hS3) ?_
              try simp only [Act.put, List.setIfInBounds_toArray, List.set_cons_zero, List.set_cons_succ]
              clear hK
              rw [show (#[.int .u64 (Tb.wd g 0), .int .u64 (Tb.wd g 1), .int .u64 (Tb.wd g 2), .int .u64 (Tb.wd g 3)] : Array Value) = Tb.tcells g from rfl]
              generalize hpg : u2.heap.size = pg at tBg ⊢
              generalize u2.alloc (.cells (Tb.tcells g) 24) = u3 at tBg bBg hS3 ⊢
              refine any_branch [7] (by kernel_rfl) rfl fun ix hix => ?_
              simp only [List.mem_cons, List.not_mem_nil, or_false] at hix
              subst hix
              refine any_op rfl rfl fun K hK => ?_
              go_simp
              refine (size_any [g] _ 1 _ xs _ tBg (by simp) hS3.ints).mono ?_
              rintro e u4 ⟨ng, hng, rfl, bCg⟩
              have hS4 := hS3.step bCg
              refine hK _ _ (fun _ => hS4) ?_
              try simp only [Act.put, List.setIfInBounds_toArray, List.set_cons_zero, List.set_cons_succ]
              clear hK
              clear tBg bCg
              refine any_take (i := 8) (.int .i64 (nf : Int)) rfl rfl (by kernel_rfl) (by kernel_rfl) (by kernel_rfl) (by kernel_rfl) (fun _ _ d _ _ h => by cases d <;> exact h) (fun u hS => rfl) hS4 ?_
              simp only [Act.put, List.getElem_toArray, List.getElem_cons_succ, List.getElem_cons_zero, List.setIfInBounds_toArray, List.set_cons_zero, List.set_cons_succ]
              refine any_take (i := 9) (.int .i64 (ng : Int)) rfl rfl (by kernel_rfl) (by kernel_rfl) (by kernel_rfl) (by kernel_rfl) (fun _ _ d _ _ h => by cases d <;> exact h) (fun u hS => rfl) hS4 ?_
              simp only [Act.put, List.getElem_toArray, List.getElem_cons_succ, List.getElem_cons_zero, List.setIfInBounds_toArray, List.set_cons_zero, List.set_cons_succ]
              refine any_end (by kernel_rfl) ?_
              go_wp2_with fail
              go_meet
              case rel => exact ⟨nf, ng, rfl, rfl, hnf, hng, hS4⟩
            · refine any_op rfl rfl fun K hK => ?_
              go_simp
              have tBg := tabs_blk (L := [g]) (Blk.new u1 24 (Tb.tcells g)) rfl
              have bBg := (Below.refl u1.heap.size u1).alloc (Nat.le_refl _) (.cells (Tb.tcells g) 24)
              have hS2 := hS1.step bBg
              refine hK _ _ (fun _ => hS2) ?_
              try simp only [Act.put, List.setIfInBounds_toArray, List.set_cons_zero, List.set_cons_succ]
              clear hK
              rw [show (#[.int .u64 (Tb.wd g 0), .int .u64 (Tb.wd g 1), .int .u64 (Tb.wd g 2), .int .u64 (Tb.wd g 3)] : Array Value) = Tb.tcells g from rfl]
              generalize hpg : u1.heap.size = pg at tBg ⊢
              generalize u1.alloc (.cells (Tb.tcells g) 24) = u2 at tBg bBg hS2 ⊢
              replace tBf := tBf.below bBg
              refine any_branch [3] (by kernel_rfl) rfl fun ix hix => ?_
              simp only [List.mem_cons, List.not_mem_nil, or_false] at hix
              subst hix
              refine any_op rfl rfl fun K hK => ?_
              go_simp
              refine (size_any [f] _ 1 _ xs _ tBf (by simp) hS2.ints).mono ?_
              rintro e u3 ⟨nf, hnf, rfl, bCf⟩
              have hS3 := hS2.step bCf
              refine hK _ _ (fun _ => hS3) ?_
              try simp only [Act.put, List.setIfInBounds_toArray, List.set_cons_zero, List.set_cons_succ]
              clear hK
              replace tBg := tBg.below bCf
              clear tBf bCf
              refine any_branch [7] (by kernel_rfl) rfl fun ix hix => ?_
              simp only [List.mem_cons, List.not_mem_nil, or_false] at hix
              subst hix
              refine any_op rfl rfl fun K hK => ?_
              go_simp
              refine (size_any [g] _ 1 _ xs _ tBg (by simp) hS3.ints).mono ?_
              rintro e u4 ⟨ng, hng, rfl, bCg⟩
              have hS4 := hS3.step bCg
              refine hK _ _ (fun _ => hS4) ?_
              try simp only [Act.put, List.setIfInBounds_toArray, List.set_cons_zero, List.set_cons_succ]
              clear hK
              clear tBg bCg
              refine any_take (i := 8) (.int .i64 (nf : Int)) rfl rfl (by kernel_rfl) (by kernel_rfl) (by kernel_rfl) (by kernel_rfl) (fun _ _ d _ _ h => by cases d <;> exact h) (fun u hS => rfl) hS4 ?_
              simp only [Act.put, List.getElem_toArray, List.getElem_cons_succ, List.getElem_cons_zero, List.setIfInBounds_toArray, List.set_cons_zero, List.set_cons_succ]
              refine any_take (i := 9) (.int .i64 (ng : Int)) rfl rfl (by kernel_rfl) (by kernel_rfl) (by kernel_rfl) (by kernel_rfl) (fun _ _ d _ _ h => by cases d <;> exact h) (fun u hS => rfl) hS4 ?_
              simp only [Act.put, List.getElem_toArray, List.getElem_cons_succ, List.getElem_cons_zero, List.setIfInBounds_toArray, List.set_cons_zero, List.set_cons_succ]
              refine any_end (by kernel_rfl) ?_
              go_wp2_with fail
              go_meet
              case rel => exact ⟨nf, ng, rfl, rfl, hnf, hng, hS4⟩
          · refine any_op rfl rfl fun K hK => ?_
            go_simp
            have tBg := tabs_blk (L := [g]) (Blk.new u0 24 (Tb.tcells g)) rfl
            have bBg := (Below.refl u0.heap.size u0).alloc (Nat.le_refl _) (.cells (Tb.tcells g) 24)
            have hS1 := hS0.step bBg
            refine hK _ _ (fun _ => hS1) ?_
            try simp only [Act.put, List.setIfInBounds_toArray, List.set_cons_zero, List.set_cons_succ]
            clear hK
            rw [show (#[.int .u64 (Tb.wd g 0), .int .u64 (Tb.wd g 1), .int .u64 (Tb.wd g 2), .int .u64 (Tb.wd g 3)] : Array Value) = Tb.tcells g from rfl]
            generalize hpg : u0.heap.size = pg at tBg ⊢
            generalize u0.alloc (.cells (Tb.tcells g) 24) = u1 at tBg bBg hS1 ⊢
            refine any_branch [1] (by kernel_rfl) rfl fun ix hix => ?_
            simp only [List.mem_cons, List.not_mem_nil, or_false] at hix
            subst hix
            refine any_op rfl rfl fun K hK => ?_
            go_simp
            have tBf := tabs_blk (L := [f]) (Blk.new u1 24 (Tb.tcells f)) rfl
            have bBf := (Below.refl u1.heap.size u1).alloc (Nat.le_refl _) (.cells (Tb.tcells f) 24)
            have hS2 := hS1.step bBf
            refine hK _ _ (fun _ => hS2) ?_
            try simp only [Act.put, List.setIfInBounds_toArray, List.set_cons_zero, List.set_cons_succ]
            clear hK
            rw [show (#[.int .u64 (Tb.wd f 0), .int .u64 (Tb.wd f 1), .int .u64 (Tb.wd f 2), .int .u64 (Tb.wd f 3)] : Array Value) = Tb.tcells f from rfl]
            generalize hpf : u1.heap.size = pf at tBf ⊢
            generalize u1.alloc (.cells (Tb.tcells f) 24) = u2 at tBf bBf hS2 ⊢
            replace tBg := tBg.below bBf
            refine any_branch [3] (by kernel_rfl) rfl fun ix hix => ?_
            simp only [List.mem_cons, List.not_mem_nil, or_false] at hix
            subst hix
            refine any_op rfl rfl fun K hK => ?_
            go_simp
            refine (size_any [f] _ 1 _ xs _ tBf (by simp) hS2.ints).mono ?_
            rintro e u3 ⟨nf, hnf, rfl, bCf⟩
            have hS3 := hS2.step bCf
            refine hK _ _ (fun _ => hS3) ?_
            try simp only [Act.put, List.setIfInBounds_toArray, List.set_cons_zero, List.set_cons_succ]
            clear hK
            replace tBg := tBg.below bCf
            clear tBf bCf
            refine any_branch [7] (by kernel_rfl) rfl fun ix hix => ?_
            simp only [List.mem_cons, List.not_mem_nil, or_false] at hix
            subst hix
            refine any_op rfl rfl fun K hK => ?_
            go_simp
            refine (size_any [g] _ 1 _ xs _ tBg (by simp) hS3.ints).mono ?_
            rintro e u4 ⟨ng, hng, rfl, bCg⟩
            have hS4 := hS3.step bCg
            refine hK _ _ (fun _ => hS4) ?_
            try simp only [Act.put, List.setIfInBounds_toArray, List.set_cons_zero, List.set_cons_succ]
            clear hK
            clear tBg bCg
            refine any_take (i := 8) (.int .i64 (nf : Int)) rfl rfl (by kernel_rfl) (by kernel_rfl) (by kernel_rfl) (by kernel_rfl) (fun _ _ d _ _ h => by cases d <;> exact h) (fun u hS => rfl) hS4 ?_
            simp only [Act.put, List.getElem_toArray, List.getElem_cons_succ, List.getElem_cons_zero, List.setIfInBounds_toArray, List.set_cons_zero, List.set_cons_succ]
            refine any_take (i := 9) (.int .i64 (ng : Int)) rfl rfl (by kernel_rfl) (by kernel_rfl) (by kernel_rfl) (by kernel_rfl) (fun _ _ d _ _ h => by cases d <;> exact h) (fun u hS => rfl) hS4 ?_
            simp only [Act.put, List.getElem_toArray, List.getElem_cons_succ, List.getElem_cons_zero, List.setIfInBounds_toArray, List.set_cons_zero, List.set_cons_succ]
            refine any_end (by kernel_rfl) ?_
            go_wp2_with fail
            go_meet
            case rel => exact ⟨nf, ng, rfl, rfl, hnf, hng, hS4⟩
        case rest =>
          obtain ⟨na, nb, rfl, rfl, hna, hnb, hS⟩ := hcut
          clear HS
          have hS1 : SZ w (wc.alloc (.cells #[.int .u64 (Tb.wd f 0), .int .u64 (Tb.wd f 1), .int .u64 (Tb.wd f 2), .int .u64 (Tb.wd f 3), .int .u64 (Tb.wd g 0), .int .u64 (Tb.wd g 1), .int .u64 (Tb.wd g 2), .int .u64 (Tb.wd g 3), .int .u64 (Tb.wd f 0), .int .u64 (Tb.wd f 1), .int .u64 (Tb.wd f 2), .int .u64 (Tb.wd f 3)] 24)) f g 8 u7 xs := hS.step ((Below.refl _ _).alloc (Nat.le_refl _) _)
          have tB : TabsAt (wc.alloc (.cells #[.int .u64 (Tb.wd f 0), .int .u64 (Tb.wd f 1), .int .u64 (Tb.wd f 2), .int .u64 (Tb.wd f 3), .int .u64 (Tb.wd g 0), .int .u64 (Tb.wd g 1), .int .u64 (Tb.wd g 2), .int .u64 (Tb.wd g 3), .int .u64 (Tb.wd f 0), .int .u64 (Tb.wd f 1), .int .u64 (Tb.wd f 2), .int .u64 (Tb.wd f 3)] 24)) (some ⟨wc.heap.size, 0, none⟩) [f, g, f] := tabs_blk (Blk.new wc 24 _) rfl
          have HC := size_any [f, g, f] (some ⟨wc.heap.size, 0, none⟩) 3 _ xs _ tB (by simp) hS1.ints
          obtain ⟨⟨f0, f1, f2, f3⟩, y0, y1, y2, y3⟩ := tfacts (hS.keep.at_ 0 _ _ rfl)
          obtain ⟨⟨g0, g1, g2, g3⟩, z0, z1, z2, z3⟩ := tfacts (hS.keep.at_ 1 _ _ rfl)
          clear hS tB
          go_wp2_with fail
          refine HC.mono ?_
          rintro e w6 ⟨nc, hnc, rfl, b6⟩
          have hS := hS1.step b6
          clear hS1 HC b6 f0 f1 f2 f3 y0 y1 y2 y3 g0 g1 g2 g3 z0 z1 z2 z3
          obtain ⟨⟨f0, f1, f2, f3⟩, y0, y1, y2, y3⟩ := tfacts (hS.keep.at_ 0 _ _ rfl)
          go_wp2_with fail
          refine (support_any f _).mono ?_
          rintro e w7 ⟨rfl, b7⟩
          have hS2 := hS.step b7
          clear hS b7 f0 f1 f2 f3 y0 y1 y2 y3
          have hsl := Bx.mk (Tb.support_lt f)
          have hni := Bx.mk hna
          have hnj := Bx.mk hnb
          have hnk := Bx.mk hnc
          clear hna hnb hnc
          generalize hsf : Tb.support f = sf at hsl
          go_wp2_with fail
          go_loopw [13, 15] (fun nn i wr => ∃ v : Nat, v ≤ 8 ∧ i = .int .i64 (v : Int) ∧ nn = .int .i64 (((List.range v).countP fun j => sf.testBit j : Nat) : Int) ∧ SZ w wr f g 8 u7 xs) (fun _ i _ => 8 - (intOf i).toNat)
          case atStart => exact ⟨0, by omega, rfl, rfl, hS2⟩
          case round =>
            clear hS2
            obtain ⟨v, hv8, rfl, rfl, hS⟩ := hrel
            by_cases hlt : v < 8
            · have hle := List.countP_le_length (p := fun j => sf.testBit j) (l := List.range v)
              have hsu : (List.range (v + 1)).countP (fun j => sf.testBit j) = (List.range v).countP (fun j => sf.testBit j) + (if sf.testBit v then 1 else 0) := by
                rw [List.range_succ, List.countP_append]; simp [List.countP_cons]
              rw [List.length_range] at hle
              generalize hcn : (List.range v).countP (fun j => sf.testBit j) = cn at hle hsu ⊢
              have HS := Bx.mk hS
              have HU := Bx.mk hsu
              clear hS hsu hcn
              go_wp2_with fail
              rw [u8_bitv sf hsl.out v hlt]
              refine ⟨⟨v + 1, by omega, by go_num, ?_, HS.out⟩, by simp [intOf]; omega⟩
              rw [HU.out]
              congr 1
              cases sf.testBit v <;> simp [wrap64] <;> omega
            · obtain rfl : v = 8 := by omega
              generalize hcn : (List.range 8).countP (fun j => sf.testBit j) = cn
              have hcl : cn ≤ 8 := by rw [← hcn]; exact Nat.le_trans List.countP_le_length (by simp)
              have hp8 := Bx.mk (perm8_of hS.perm)
              have hcf : Tb.hangs f = cn := by rw [← hcn, ← hsf]; rfl
              have a1 := hni.out.ge hp8.out
              have a2 := hni.out.le hp8.out
              have a3 := hnj.out.le hp8.out
              obtain ⟨a4, a5, a6⟩ := hni.out.both hnj.out hnk.out
              have a7 := Bx.mk (hni.out.zero hp8.out)
              rw [hcf] at a1 a7
              clear hcn hcf hsf
              obtain ⟨⟨f0, f1, f2, f3⟩, y0, y1, y2, y3⟩ := tfacts (hS.keep.at_ 0 _ _ rfl)
              go_wp2_with fail
              refine (not_any f _).mono ?_
              rintro e w8 ⟨rfl, b8⟩
              have hS3 := hS.step b8
              have hS4 : SZ w (w8.alloc (.cells #[.int .u64 (Tb.wd (~~~f) 0), .int .u64 (Tb.wd (~~~f) 1), .int .u64 (Tb.wd (~~~f) 2), .int .u64 (Tb.wd (~~~f) 3)] 24)) f g 8 u7 xs := hS3.step ((Below.refl _ _).alloc (Nat.le_refl _) _)
              have tB : TabsAt (w8.alloc (.cells #[.int .u64 (Tb.wd (~~~f) 0), .int .u64 (Tb.wd (~~~f) 1), .int .u64 (Tb.wd (~~~f) 2), .int .u64 (Tb.wd (~~~f) 3)] 24)) (some ⟨w8.heap.size, 0, none⟩) [~~~f] := tabs_blk (Blk.new w8 24 _) rfl
              have HC := size_same [~~~f] (some ⟨w8.heap.size, 0, none⟩) 1 _ xs _ na hni.out.not tB (by simp) hS4.ints
              clear hS hS3 tB b8 f0 f1 f2 f3 y0 y1 y2 y3 hni hnj hnk
              go_wp2_with fail
              refine HC.mono ?_
              rintro e w9 ⟨rfl, b9⟩
              have hB9 := (hS4.step b9).keep.below
              clear hS4 HC b9
              have z1 : (cn : Int) ≤ na := by omega
              have z2 : (na : Int) ≤ 77 := by omega
              have z3 : (nb : Int) ≤ 77 := by omega
              have z4 : (nc : Int) ≤ na + nb := by omega
              have z5 : (na : Int) ≤ nc := by omega
              have z6 : (nb : Int) ≤ nc := by omega
              by_cases hc0 : 0 < cn
              · have z7 : (0 : Int) < cn := by omega
                go_wp2_with fail
                all_goals (go_ret; exact ⟨rfl, hB9⟩)
              · obtain rfl : cn = 0 := by omega
                obtain rfl : na = 0 := by have := a7.out; omega
                go_wp2_with fail
                all_goals (go_ret; exact ⟨rfl, hB9⟩)
open Go.ChangeShapes Go.WideShapes Go.ChangeAt
section
variable {H : Type} {enc : TypeId × Value → H} {W : World} {sp : Nat → Bool} {held : Bool}
/-- a slice of bytes among the arguments of a law, opened -/
theorem open_uslice {r : Reach} {b0 : Nat} {v : Value} {d : DataW H} {ps : List MemPlace} (hval : Value.okWide Tryd.prog W r b0 39 v) (hd : DataW.Trod enc Tryd.prog W 0 sp held 39 v d ps) :
    ∃ bs : List Nat, BytesVal W v bs := by
  have hshape := sl_shape Tryd.underlying39 hval
  obtain ⟨fuel, hf⟩ := hd
  have hce : Tryd.prog.cellsOf 5 = 1 := by kernel_rfl
  rcases open_ints Tryd.underlying39 Tryd.underlying5 hce hf with ⟨hc, _⟩ | ⟨a, len, cap, zs, hc, _, hl, _, hz, _, hcell, hwf⟩
  · have hv : v = .slice none 0 0 := by
      rcases hshape with rfl | ⟨a', l', c', rfl, _⟩
      · rfl
      · simp [Value.cells] at hc
    exact ⟨[], none, 0, hv, fun j x hj => by simp at hj⟩
  · obtain ⟨hv, hspot⟩ : v = .slice (some a) len cap ∧ a.spot = none := by
      rcases hshape with rfl | ⟨a', l', c', rfl, hs⟩
      · simp [Value.cells] at hc
      · simp [Value.cells] at hc
        obtain ⟨rfl, rfl, rfl⟩ := hc
        exact ⟨rfl, hs⟩
    subst hv
    obtain ⟨b, off, s⟩ := a
    simp only at hspot
    subst hspot
    have hlen : ((zs.take len).map Int.toNat).length = len := by rw [List.length_map, List.length_take, hz]; split <;> omega
    refine ⟨(zs.take len).map Int.toNat, _, cap, by rw [hlen], fun j x hj => ?_⟩
    have hj1 : j < len := by have := (List.getElem?_eq_some_iff.1 hj).1; omega
    rw [List.getElem?_map, List.getElem?_take, if_pos hj1] at hj
    cases hz2 : zs[j]? with
    | none => rw [hz2] at hj; cases hj
    | some y =>
      rw [hz2] at hj
      obtain rfl := Option.some.inj hj
      have hy := wf_u8 (hwf y (List.mem_of_getElem? hz2))
      have hj3 : j < zs.length := (List.getElem?_eq_some_iff.1 hz2).1
      have hc1 := hcell j hj3
      rw [show zs.getD j 0 = y from by simp [List.getD, hz2]] at hc1
      refine ⟨by omega, b, off, rfl, ?_⟩
      rw [show ((y.toNat : Nat) : Int) = y from by omega, ← hc1]
      simp only [Addr.add]
      split
      · rename_i e; subst e; simp
      · rfl
end
end Go.Proofs.YtfkefgelceaimaaDoor
