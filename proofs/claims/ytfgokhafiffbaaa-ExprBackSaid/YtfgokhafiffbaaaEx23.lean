/-
  Formulas: digit; a variable's print.
-/
import Derived.Test.YtfgokhafiffbaaaEx22
import Derived.Lib.AppendStr
import Derived.Laws.IdiomStrings
namespace Go.Proofs.Ytfgokhafiffbaaa
set_option linter.unusedVariables false
open Go.RowKit Go.Lib

/-- a slice of bytes in a block of one's own, or none yet -/
def OwnB (w : World) (base : Nat) (v : Value) (l : List UInt8) : Prop := w.ownsRow base 5 1 v l.length (l.map fun b => .int .u8 (b.toNat : Int))
theorem OwnB.nil (w : World) (base : Nat) : OwnB w base (.slice none 0 0) [] := World.ownsRow_nil w base _ 1
theorem OwnB.kept {w w' : World} {base : Nat} {v : Value} {l : List UInt8} {row : Option Nat} (h : OwnB w base v l) (hg : w.grownBy w' row) (hne : v.ownBlock = none ∨ v.ownBlock ≠ row) : OwnB w' base v l := World.ownsRow.kept h hg hne
theorem OwnB.below {w w' : World} {base : Nat} {v : Value} {l : List UInt8} (h : OwnB w base v l) (hb : Below w.heap.size w w') : OwnB w' base v l :=
  h.kept (below_gr hb) (by cases e : v.ownBlock <;> simp)
theorem OwnB.lt {w : World} {base : Nat} {v : Value} {l : List UInt8} (h : OwnB w base v l) {k : Nat} (hk : v.ownBlock = some k) : base ≤ k ∧ k < w.heap.size := World.ownsRow.lt h k hk
theorem u8_info : ∃ i, Try.prog.info? 5 = some i ∧ i.zero = some (.int .u8 0) ∧ i.size = 1 ∧ i.bytes = 1 := by
  refine ⟨_, rfl, ?_⟩
  exact ⟨by kernel_rfl, by kernel_rfl, by kernel_rfl⟩
theorem strCells_of (s : ByteArray) : strCells s = s.data.toList.map fun b => (.int .u8 (b.toNat : Int) : Value) := by
  unfold strCells
  simp
/-- a string appended -/
theorem OwnB.app_str {w : World} {base : Nat} {v : Value} {l : List UInt8} (h : OwnB w base v l) (s : ByteArray) (hn : l.length + s.size ≤ 1000000) (hb : base ≤ w.heap.size) (ty : TypeId) :
    ∃ v' w', (Builtin.append_ #[22, 9] ty #[v, .string s]).run Try.prog w = .ok v' w' ∧ OwnB w' base v' (l ++ s.data.toList) ∧ w.grownBy w' v.ownBlock := by
  obtain ⟨i, hi, hz, hs, hby⟩ := u8_info
  obtain ⟨v', w', hr, ho, hg, _⟩ := run_append_own_string (P := Try.prog) w base 22 9 ty 5 i Try.underlying22 Try.underlying9 hi hz hs hby v l.length _ h s (by unfold maxLen; omega) (by omega) hb
  refine ⟨v', w', hr, ?_, hg⟩
  unfold OwnB
  rw [List.length_append, List.map_append, ← strCells_of, show s.data.toList.length = s.size from by simp]
  exact ho
/-- one byte appended, that lies in a block -/
theorem OwnB.app_one {w : World} {base : Nat} {v : Value} {l : List UInt8} (h : OwnB w base v l) (p c : Nat) (x : UInt8) (hx : w.cell? ⟨p, 0, none⟩ = some (.int .u8 (x.toNat : Int))) (hn : l.length + 1 ≤ 1000000) (hb : base ≤ w.heap.size) (ty : TypeId) :
    ∃ v' w', (Builtin.append_ #[22, 22] ty #[v, .slice (some ⟨p, 0, none⟩) 1 c]).run Try.prog w = .ok v' w' ∧ OwnB w' base v' (l ++ [x]) ∧ w.grownBy w' v.ownBlock := by
  obtain ⟨i, hi, hz, hs, hby⟩ := u8_info
  obtain ⟨v', w', hr, ho, hg, _⟩ := run_append_own (P := Try.prog) w base 22 ty 5 i _ 1 1 Try.underlying22 hi hz hs hby rfl (by omega) v l.length _ h ⟨p, 0, none⟩ 1 c [.int .u8 (x.toNat : Int)] rfl
    (fun j u hj => by
      match j, hj with
      | 0, hj => cases hj; exact hx
      | j + 1, hj => simp at hj) (by intro u hu; simp at hu; subst hu; rfl) (by unfold maxLen; omega) (by omega) hb
  refine ⟨v', w', hr, ?_, hg⟩
  unfold OwnB
  rw [List.length_append, List.map_append]
  exact ho
/-- the bytes as a string -/
theorem OwnB.str {w : World} {base : Nat} {v : Value} {l : List UInt8} (h : OwnB w base v l) (hl : l ≠ []) : (convert 22 9 v).run Try.prog w = .ok (.string ⟨l.toArray⟩) w := by
  have h0 := h
  rcases h0.2 with ⟨rfl, e⟩ | ⟨g, cap, cur, rfl, hbg, hg, hnc, hcm, hcs, htake⟩
  · exact absurd (List.eq_nil_of_length_eq_zero e) hl
  · refine run_convert_bytes_back (P := Try.prog) w 22 9 5 ⟨g, 0, none⟩ cap l Try.underlying22 Try.underlying5 Try.underlying9 fun j hj => ?_
    have := World.ownsRow.cells h (g := g) rfl j (.int .u8 (l[j].toNat : Int)) (by rw [List.getElem?_map, List.getElem?_eq_getElem hj]; rfl)
    exact this
theorem wp_app {P : Program} {w w' : World} {o : Oper} {a : Act} {K : Act → World → Prop} {Q : Exit → Act → World → Prop} {v y v' : Value} (s x : Operand) (t u : TypeId)
    (hr : (Builtin.append_ #[t, u] o.type #[v, y]).run P w = .ok v' w')
    (ho : o.op = .call { callee := .builtin .append, args := #[s, x], argTypes := #[t, u] }) (hs : a.eval s = v) (hx : a.eval x = y)
    (h : K (a.put o.dst v') w') : o.wp P a w K Q := by
  unfold Oper.wp execOp
  simp only [ho, resolve, invoke, builtin, Sem.run_bind, Sem.run_pure, Result.andThen_ok, List.map_toArray, List.map_cons, List.map_nil, hs, hx, hr]
  exact h

set_option maxHeartbeats 2000000 in
theorem digit_any (n : Nat) (hn : n < 10) (w : World) : Calls Try.prog 54 #[.int .i64 (n : Int)] w fun e w' => e = .returned (.string (strOf [48 + n])) ∧ Below w.heap.size w w' := by
  have hw1 : wrap64 (48 + (n : Int)) = 48 + (n : Int) := w64 _ (by omega)
  have hw2 : IntKind.i64.wrap (48 + (n : Int)) = 48 + (n : Int) := by rw [IntKind.wrap_i64]; omega
  have hw3 : IntKind.u8.wrap (48 + (n : Int)) = 48 + (n : Int) := by rw [IntKind.wrap_u8]; omega
  have hB := Blk.new w 5 #[.int .u8 (48 + (n : Int))]
  have hO : OwnB (w.alloc (.cells #[.int .u8 (48 + (n : Int))] 5)) w.heap.size (.slice (some ⟨w.heap.size, 0, none⟩) 1 1) [Nat.toUInt8 (48 + n)] := by
    refine ⟨rfl, .inr ⟨w.heap.size, 1, #[.int .u8 (48 + (n : Int))], rfl, Nat.le_refl _, hB.eq, Nat.le_refl _, by unfold maxLen; omega, rfl, ?_⟩⟩
    have e : ((Nat.toUInt8 (48 + n)).toNat : Int) = 48 + (n : Int) := by
      have : (Nat.toUInt8 (48 + n)).toNat = 48 + n := by simp [Nat.toUInt8, UInt8.toNat_ofNat', Nat.mod_eq_of_lt (show 48 + n < 256 by omega)]
      rw [this]; omega
    simp
    omega
  have hC := hO.str (by simp)
  have hE : strOf [48 + n] = ⟨#[48 + UInt8.ofNat n]⟩ := by unfold strOf; simp [Nat.toUInt8]
  have HE := Bx.mk hE
  clear hE hO hB
  go_enter Try.func54, Try.ntmps54
  go_wp2_with fail
  go_ret
  exact ⟨by rw [HE.out]; rfl, (Below.refl _ _).alloc (Nat.le_refl _) _⟩

/-- what is kept while a variable is printed -/
def VB (w u : World) : Prop := Below w.heap.size w u ∧ Blk u w.heap.size 36 #[.int .i64 1, .int .i64 0, .int .i64 3, .slice none 0 0]
theorem VB.step {w u u' : World} (h : VB w u) (hb : Below u.heap.size u u') : VB w u' := ⟨h.1.trans (hb.mono h.1.size), h.2.below hb h.2.lt⟩
theorem VB.grown {w u u' : World} (h : VB w u) {row : Option Nat} (hg : u.grownBy u' row) (hr : row = none) : VB w u' := by
  subst hr
  exact h.step ⟨hg.os, hg.tape, hg.output, hg.size, fun k hk => hg.block k hk (by simp)⟩
theorem VB.far {w u u' : World} (h : VB w u) {row : Option Nat} (hg : u.grownBy u' row) (hr : ∀ k, row = some k → w.heap.size + 1 ≤ k) : VB w u' :=
  ⟨h.1.grown hg h.1.size (fun k e => by have := hr k e; omega), ⟨(hg.block _ h.2.lt (fun e => by have := hr _ e.symm; omega)).trans h.2.eq⟩⟩
set_option maxHeartbeats 8000000 in
theorem put_v3 (w : World) : Calls Try.prog 35 #[.slice none 0 0, .agg #[.int .i64 1, .int .i64 0, .int .i64 3, .slice none 0 0]] w fun e w' => ∃ v, e = .returned v ∧ OwnB w' (w.heap.size + 1) v [118, 51] ∧ Below w.heap.size w w' := by
  have hb := boxE w 1 0 3 (.slice none 0 0)
  have hbe := (Below.refl w.heap.size w).alloc (Nat.le_refl _) (.cells #[.int .i64 1, .int .i64 0, .int .i64 3, .slice none 0 0] 36)
  obtain ⟨c0, c1, c2, c3, _, _, _, _⟩ := cells4 hb
  have HV : Bx (VB w (w.alloc (.cells #[.int .i64 1, .int .i64 0, .int .i64 3, .slice none 0 0] 36))) := ⟨⟨hbe, hb⟩⟩
  clear hb hbe
  go_enter Try.func35, Try.ntmps35
  go_wp2_with fail
  refine region_any 7 (VB w) (by kernel_rfl) ?_
  generalize hu : World.drew _ = u0
  have hS0 : VB w u0 := by rw [← hu]; exact HV.out.step ((Below.refl _ _).drew)
  clear hu c0 c1 c2 c3 HV
  refine any_take (i := 0) (.slice none 0 0) rfl rfl (by kernel_rfl) (by kernel_rfl) (by kernel_rfl) (by kernel_rfl) (fun _ _ d _ _ h => by cases d <;> exact h) (fun u hS => rfl) hS0 ?_
  (try simp only [Act.put]); (try simp only [List.getElem_toArray]); (try simp only [List.getElem_cons_succ]); (try simp only [List.getElem_cons_zero]); (try simp only [List.setIfInBounds_toArray]); (try simp only [List.set_cons_succ]); (try simp only [List.set_cons_zero])
  refine any_take (i := 3) (.pointer (some ⟨w.heap.size, 2, none⟩)) rfl rfl (by kernel_rfl) (by kernel_rfl) (by kernel_rfl) (by kernel_rfl) (fun _ _ d _ _ h => by cases d <;> exact h) (fun u hS => rfl) hS0 ?_
  (try simp only [Act.put]); (try simp only [List.getElem_toArray]); (try simp only [List.getElem_cons_succ]); (try simp only [List.getElem_cons_zero]); (try simp only [List.setIfInBounds_toArray]); (try simp only [List.set_cons_succ]); (try simp only [List.set_cons_zero])
  refine any_take (i := 4) (.int .i64 3) rfl rfl (by kernel_rfl) (by kernel_rfl) (by kernel_rfl) (by kernel_rfl) (fun _ _ d _ _ h => by cases d <;> exact h) (fun u hS => exec_loadI rfl rfl (hS.2.cell 2)) hS0 ?_
  (try simp only [Act.put]); (try simp only [List.getElem_toArray]); (try simp only [List.getElem_cons_succ]); (try simp only [List.getElem_cons_zero]); (try simp only [List.setIfInBounds_toArray]); (try simp only [List.set_cons_succ]); (try simp only [List.set_cons_zero])
  refine any_branch [1] (by kernel_rfl) rfl fun ix hix => ?_
  simp only [List.mem_cons, List.not_mem_nil, or_false] at hix
  subst hix
  refine any_op rfl rfl fun K hK => ?_
  go_simp
  have hp := Blk.new u0 5 #[.int .u8 118]
  have hbs := (Below.refl u0.heap.size u0).alloc (Nat.le_refl _) (.cells #[.int .u8 118] 5)
  have hSs := hS0.step hbs
  generalize hpn : u0.heap.size = pn at hp ⊢
  generalize u0.alloc (.cells #[.int .u8 118] 5) = us at hp hbs hSs ⊢
  refine hK _ _ (fun _ => hSs) ?_
  (try simp only [Act.put]); (try simp only [List.getElem_toArray]); (try simp only [List.getElem_cons_succ]); (try simp only [List.getElem_cons_zero]); (try simp only [List.setIfInBounds_toArray]); (try simp only [List.set_cons_succ]); (try simp only [List.set_cons_zero])
  clear hK
  clear hbs hpn
  replace hS0 := hSs
  clear hSs
  refine any_branch [2] (by kernel_rfl) rfl fun ix hix => ?_
  simp only [List.mem_cons, List.not_mem_nil, or_false] at hix
  subst hix
  refine any_op rfl rfl fun K hK => ?_
  obtain ⟨v1, ua, hr, ho, hg⟩ := (OwnB.nil us (w.heap.size + 1)).app_one pn 1 118 (hp.cell 0) (by simp) hS0.2.lt 22
  refine wp_app _ _ _ _ hr rfl rfl rfl ?_
  have hSs := hS0.grown hg rfl
  refine hK _ _ (fun _ => hSs) ?_
  (try simp only [Act.put]); (try simp only [List.getElem_toArray]); (try simp only [List.getElem_cons_succ]); (try simp only [List.getElem_cons_zero]); (try simp only [List.setIfInBounds_toArray]); (try simp only [List.set_cons_succ]); (try simp only [List.set_cons_zero])
  clear hK
  replace hS0 := hSs
  clear hSs hr hg hp
  refine any_branch [5] (by kernel_rfl) rfl fun ix hix => ?_
  simp only [List.mem_cons, List.not_mem_nil, or_false] at hix
  subst hix
  refine any_op rfl rfl fun K hK => ?_
  go_simp
  refine (digit_any 3 (by omega) _).mono ?_
  rintro e ud ⟨rfl, hbd⟩
  have hSs := hS0.step hbd
  have ho2 := ho.below hbd
  clear ho
  have ho := ho2
  clear ho2
  refine hK _ _ (fun _ => hSs) ?_
  (try simp only [Act.put]); (try simp only [List.getElem_toArray]); (try simp only [List.getElem_cons_succ]); (try simp only [List.getElem_cons_zero]); (try simp only [List.setIfInBounds_toArray]); (try simp only [List.set_cons_succ]); (try simp only [List.set_cons_zero])
  clear hK
  replace hS0 := hSs
  clear hSs hbd
  refine any_branch [6] (by kernel_rfl) rfl fun ix hix => ?_
  simp only [List.mem_cons, List.not_mem_nil, or_false] at hix
  subst hix
  refine any_op rfl rfl fun K hK => ?_
  obtain ⟨v6, u6, hr, ho6, hg6⟩ := ho.app_str (strOf [48 + 3]) (by unfold strOf; decide +kernel) (Nat.le_of_lt (Nat.lt_of_lt_of_le (Nat.lt_succ_self _) hS0.2.lt) |> fun _ => hS0.2.lt) 22
  refine wp_app _ _ _ _ hr rfl rfl rfl ?_
  have hS6 := hS0.far hg6 (fun k hk => (ho.lt hk).1)
  refine hK _ _ (fun _ => hS6) ?_
  (try simp only [Act.put]); (try simp only [List.getElem_toArray]); (try simp only [List.getElem_cons_succ]); (try simp only [List.getElem_cons_zero]); (try simp only [List.setIfInBounds_toArray]); (try simp only [List.set_cons_succ]); (try simp only [List.set_cons_zero])
  clear hK
  refine any_branch [7] (by kernel_rfl) rfl fun ix hix => ?_
  simp only [List.mem_cons, List.not_mem_nil, or_false] at hix
  subst hix
  refine any_op rfl rfl fun K hK => ?_
  go_simp
  refine hK _ _ (fun h => absurd rfl h) ?_
  (try simp only [Act.put]); (try simp only [List.getElem_toArray]); (try simp only [List.getElem_cons_succ]); (try simp only [List.getElem_cons_zero]); (try simp only [List.setIfInBounds_toArray]); (try simp only [List.set_cons_succ]); (try simp only [List.set_cons_zero])
  clear hK
  refine any_end (by kernel_rfl) ?_
  have HO := Bx.mk ho6
  have HS := Bx.mk hS6
  clear ho ho6 hg6 hr hS6 hS0
  go_wp2_with fail
  go_ret
  refine ⟨_, rfl, ?_, HS.out.1⟩
  have e : [118] ++ (strOf [48 + 3]).data.toList = [118, 51] := by unfold strOf; decide +kernel
  have h := HO.out
  simp only [List.nil_append] at h
  rw [e] at h
  exact h
set_option maxHeartbeats 4000000 in
theorem print_v3 (w : World) : Calls Try.prog 16 #[.agg #[.int .i64 1, .int .i64 0, .int .i64 3, .slice none 0 0]] w fun e w' => e = .returned (.string { data := #[118, 51] }) ∧ Below w.heap.size w w' := by
  have hb := boxE w 1 0 3 (.slice none 0 0)
  have hbe := (Below.refl w.heap.size w).alloc (Nat.le_refl _) (.cells #[.int .i64 1, .int .i64 0, .int .i64 3, .slice none 0 0] 36)
  have HB := Bx.mk hb
  have HBE := Bx.mk hbe
  have hI := fun u => is_any ⟨1, 0, 3, .nil⟩ (.slice none 0 0) (fun _ => True) u (SlF.nil _ _)
  have ht : Ex.is ⟨1, 0, 3, .nil⟩ = true := by decide +kernel
  rw [ht] at hI
  unfold Ev at hI
  have HI := Bx.mk hI
  clear hI hb hbe ht
  go_enter Try.func16, Try.ntmps16
  go_wp2_with fail
  refine (HI.out _).mono ?_
  rintro e w1 ⟨rfl, hb1⟩
  have hb2 := HB.out.below hb1 HB.out.lt
  have HBE1 := Bx.mk (HBE.out.trans (hb1.mono HBE.out.size))
  obtain ⟨c0, c1, c2, c3, _, _, _, _⟩ := cells4 hb2
  clear hb1 hb2
  go_wp2_with fail
  refine (put_v3 _).mono ?_
  rintro e w2 ⟨v, rfl, ho, hb3⟩
  have hC := ho.str (by simp)
  have HB3 := Bx.mk (HBE1.out.trans (hb3.mono HBE1.out.size))
  clear ho hb3 c0 c1 c2 c3
  go_wp2_with fail
  go_ret
  exact ⟨rfl, HB3.out⟩
end Go.Proofs.Ytfgokhafiffbaaa
