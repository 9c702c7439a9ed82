/-
  The walks of package truth, seventh part: the steps of a relation.
-/
import Derived.Test.YtfkefgelceaimaaDoorTruthF
namespace Go.Proofs.YtfkefgelceaimaaDoor
set_option linter.unusedVariables false
open Go.RowKit

set_option maxRecDepth 100000 in
set_option maxHeartbeats 2000000 in
theorem next1_any (x : Nat) (f : Tb.T) (gf : Nat) (w : World) (hx : x < 256)
    (h0 : w.cell? ⟨gf, 0, none⟩ = some (.int .u64 (Tb.wd f 0))) (h1 : w.cell? ⟨gf, 1, none⟩ = some (.int .u64 (Tb.wd f 1))) (h2 : w.cell? ⟨gf, 2, none⟩ = some (.int .u64 (Tb.wd f 2))) (h3 : w.cell? ⟨gf, 3, none⟩ = some (.int .u64 (Tb.wd f 3))) :
    Calls Tryd.prog 67 #[.int .u8 (x : Int), .pointer (some ⟨gf, 0, none⟩)] w fun e w' => e = .returned (.bool (Tb.anyTo (fun y => Tb.nx x y && f.getLsbD y) 256)) ∧ Below w.heap.size w w' := by
  have lf := World.block_lt_of_cell? w _ h0
  simp only [] at lf
  go_enter Tryd.func67, Tryd.ntmps67
  go_wp2_with fail
  go_loopw [3, 4, 5] (fun r _ i wr => ∃ k : Nat, k ≤ 256 ∧ i = .int .i64 k ∧ r = .bool false ∧ Below w.heap.size w wr ∧ Tb.anyTo (fun y => Tb.nx x y && f.getLsbD y) k = false) (fun _ _ i _ => 256 - (intOf i).toNat)
  case atStart => exact ⟨0, by omega, rfl, rfl, Below.refl _ _, by unfold Tb.anyTo; rfl⟩
  case round =>
    rename_i wr
    obtain ⟨k, hk, rfl, rfl, hb, hno⟩ := hrel
    have HN := Bx.mk hno
    clear hno
    have e0 : wr.cell? ⟨gf, 0, none⟩ = some (.int .u64 (Tb.wd f 0)) := (hb.cell (p := ⟨gf, 0, none⟩) lf).trans h0
    have e1 : wr.cell? ⟨gf, 1, none⟩ = some (.int .u64 (Tb.wd f 1)) := (hb.cell (p := ⟨gf, 1, none⟩) lf).trans h1
    have e2 : wr.cell? ⟨gf, 2, none⟩ = some (.int .u64 (Tb.wd f 2)) := (hb.cell (p := ⟨gf, 2, none⟩) lf).trans h2
    have e3 : wr.cell? ⟨gf, 3, none⟩ = some (.int .u64 (Tb.wd f 3)) := (hb.cell (p := ⟨gf, 3, none⟩) lf).trans h3
    by_cases hlt : k < 256
    · have hn := Tb.nx_walk x k hx hlt
      cases hq : Tb.nx x k with
      | false =>
        rw [hq] at hn
        have hno2 := Tb.anyTo_no HN.out (show (Tb.nx x k && f.getLsbD k) = false from by rw [hq]; rfl)
        have HN2 := Bx.mk hno2
        clear hno2 hq hx
        go_wp2_with fail
        exact ⟨⟨k + 1, by omega, by go_num, rfl, hb, HN2.out⟩, by simp [intOf]; omega⟩
      | true =>
        rw [hq] at hn
        have hE := eval_any f k wr hlt
        cases hg : f.getLsbD k with
        | false =>
          rw [hg] at hE
          have hno2 := Tb.anyTo_no HN.out (show (Tb.nx x k && f.getLsbD k) = false from by rw [hq, hg]; rfl)
          have HN2 := Bx.mk hno2
          have HE := Bx.mk hE
          clear hno2 hq hx hE hg
          go_wp2_with fail
          refine HE.out.mono ?_
          rintro e w1 ⟨rfl, hb1⟩
          have hb2 := hb.trans (hb1.mono hb.size)
          clear hb1
          go_wp2_with fail
          exact ⟨⟨k + 1, by omega, by go_num, rfl, hb2, HN2.out⟩, by simp [intOf]; omega⟩
        | true =>
          rw [hg] at hE
          have hyes := Tb.anyTo_hit (q := fun y => Tb.nx x y && f.getLsbD y) (show (Tb.nx x k && f.getLsbD k) = true from by rw [hq, hg]; rfl) hlt
          have HY := Bx.mk hyes
          have HE := Bx.mk hE
          clear hyes hq hx hE hg
          go_wp2_with fail
          refine HE.out.mono ?_
          rintro e w1 ⟨rfl, hb1⟩
          have hb2 := hb.trans (hb1.mono hb.size)
          clear hb1
          go_wp2_with fail
          go_ret
          exact ⟨by rw [HY.out]; rfl, hb2⟩
    · obtain rfl : k = 256 := by omega
      go_wp2_with fail
      go_ret
      exact ⟨by rw [HN.out]; rfl, hb⟩

set_option maxRecDepth 100000 in
set_option maxHeartbeats 2000000 in
theorem next_any (s r : Tb.T) (w : World) :
    Calls Tryd.prog 33 #[Tb.tv s, Tb.tv r] w fun e w' => e = .returned (Tb.tv (Tb.next s r)) ∧ Below w.heap.size w w' := by
  go_enter Tryd.func33, Tryd.ntmps33
  go_wp2_with fail
  refine (and_any s r _).mono ?_
  rintro e w1 ⟨rfl, hb⟩
  obtain ⟨hcell, hfr⟩ := bcell hb
  have hz := hb.size
  (try simp only [alloc_size] at hz)
  have hbw : Below w.heap.size w w1 := by (repeat (first | (with_reducible exact Below.refl _ _) | (with_reducible assumption) | (with_reducible refine Below.drew ?_) | (with_reducible refine Below.setCell ?_ ?_ _; rotate_left; (first | omega | (simp <;> omega))) | (with_reducible refine Below.alloc ?_ ?_ _; rotate_left; (first | omega | (simp <;> omega))) | (with_reducible refine Below.trans ?_ (hb.mono ?_); rotate_left; (first | omega | (simp <;> omega)))))
  have hr0 : w1.cell? ⟨w.heap.size + 1 + 1, 0, none⟩ = some (.int .u64 0) := by rw [hcell _ _ (by first | omega | (simp <;> omega))]; go_simp
  have hr1 : w1.cell? ⟨w.heap.size + 1 + 1, 1, none⟩ = some (.int .u64 0) := by rw [hcell _ _ (by first | omega | (simp <;> omega))]; go_simp
  have hr2 : w1.cell? ⟨w.heap.size + 1 + 1, 2, none⟩ = some (.int .u64 0) := by rw [hcell _ _ (by first | omega | (simp <;> omega))]; go_simp
  have hr3 : w1.cell? ⟨w.heap.size + 1 + 1, 3, none⟩ = some (.int .u64 0) := by rw [hcell _ _ (by first | omega | (simp <;> omega))]; go_simp
  have hf0 : w1.frozen? ⟨w.heap.size + 1 + 1, 0, none⟩ = false := by rw [hfr _ _ (by first | omega | (simp <;> omega))]; go_simp
  have hf1 : w1.frozen? ⟨w.heap.size + 1 + 1, 1, none⟩ = false := by rw [hfr _ _ (by first | omega | (simp <;> omega))]; go_simp
  have hf2 : w1.frozen? ⟨w.heap.size + 1 + 1, 2, none⟩ = false := by rw [hfr _ _ (by first | omega | (simp <;> omega))]; go_simp
  have hf3 : w1.frozen? ⟨w.heap.size + 1 + 1, 3, none⟩ = false := by rw [hfr _ _ (by first | omega | (simp <;> omega))]; go_simp
  clear hb hcell hfr
  go_wp2_with fail
  have hE := of_any (fun x => Tb.anyTo (fun y => Tb.nx x y && (s &&& r).getLsbD y) 256) 67 #[.pointer (some ⟨w1.heap.size, 0, none⟩)] (fun _ _ => rfl) (w1.alloc (.cells (Tb.tcells (s &&& r)) 24))
    ⟨fun x w2 hx hb => next1_any x (s &&& r) w1.heap.size w2 hx (by rw [(bcell hb).1 _ _ (by first | omega | (simp <;> omega))]; go_simp) (by rw [(bcell hb).1 _ _ (by first | omega | (simp <;> omega))]; go_simp) (by rw [(bcell hb).1 _ _ (by first | omega | (simp <;> omega))]; go_simp) (by rw [(bcell hb).1 _ _ (by first | omega | (simp <;> omega))]; go_simp)⟩
  rw [← Tb.next_def] at hE
  refine hE.mono ?_
  clear hE
  rintro e w2 ⟨rfl, hb⟩
  (obtain ⟨hcl, hfz⟩ := bcell hb; have hz := hb.size; (try simp only [drew_size] at hz); (try simp only [alloc_size] at hz); (try simp only [drew_size] at hz); (try simp only [alloc_size] at hz))
  have hN : w2.cell? ⟨w.heap.size + 1 + 1, 0, none⟩ = some (.int .u64 0) ∧ w2.cell? ⟨w.heap.size + 1 + 1, 1, none⟩ = some (.int .u64 0) ∧ w2.cell? ⟨w.heap.size + 1 + 1, 2, none⟩ = some (.int .u64 0) ∧ w2.cell? ⟨w.heap.size + 1 + 1, 3, none⟩ = some (.int .u64 0) ∧
      w2.frozen? ⟨w.heap.size + 1 + 1, 0, none⟩ = false ∧ w2.frozen? ⟨w.heap.size + 1 + 1, 1, none⟩ = false ∧ w2.frozen? ⟨w.heap.size + 1 + 1, 2, none⟩ = false ∧ w2.frozen? ⟨w.heap.size + 1 + 1, 3, none⟩ = false := by
    refine ⟨?_, ?_, ?_, ?_, ?_, ?_, ?_, ?_⟩
    · rw [hcl _ _ (by first | omega | (simp <;> omega)), World.cell?_alloc_lt _ _ _ (by first | omega | (simp <;> omega))]; exact hr0
    · rw [hcl _ _ (by first | omega | (simp <;> omega)), World.cell?_alloc_lt _ _ _ (by first | omega | (simp <;> omega))]; exact hr1
    · rw [hcl _ _ (by first | omega | (simp <;> omega)), World.cell?_alloc_lt _ _ _ (by first | omega | (simp <;> omega))]; exact hr2
    · rw [hcl _ _ (by first | omega | (simp <;> omega)), World.cell?_alloc_lt _ _ _ (by first | omega | (simp <;> omega))]; exact hr3
    · rw [hfz _ _ (by first | omega | (simp <;> omega)), frozen?_alloc_cells]; exact hf0
    · rw [hfz _ _ (by first | omega | (simp <;> omega)), frozen?_alloc_cells]; exact hf1
    · rw [hfz _ _ (by first | omega | (simp <;> omega)), frozen?_alloc_cells]; exact hf2
    · rw [hfz _ _ (by first | omega | (simp <;> omega)), frozen?_alloc_cells]; exact hf3
  have hb2 : Below w.heap.size w w2 := by (repeat (first | (with_reducible exact Below.refl _ _) | (with_reducible assumption) | (with_reducible refine Below.drew ?_) | (with_reducible refine Below.setCell ?_ ?_ _; rotate_left; (first | omega | (simp <;> omega))) | (with_reducible refine Below.alloc ?_ ?_ _; rotate_left; (first | omega | (simp <;> omega))) | (with_reducible refine Below.trans ?_ (hb.mono ?_); rotate_left; (first | omega | (simp <;> omega)))))
  obtain ⟨n0, n1, n2, n3, m0, m1, m2, m3⟩ := hN
  clear hcl hfz hz hb hr0 hr1 hr2 hr3 hf0 hf1 hf2 hf3
  go_wp2_with fail
  refine bodyPost_ret (v := Tb.tv (Tb.next s r)) (by simp [results, Tryd.results33, go_sem, n0, n1, n2, n3]) rfl ⟨rfl, ?_⟩
  repeat (first | exact hb2 | refine Below.setCell ?_ (by first | omega | (simp <;> omega)) _)

set_option maxRecDepth 100000 in
set_option maxHeartbeats 2000000 in
theorem prev1_any (x : Nat) (f s : Tb.T) (gf gs : Nat) (w : World) (hx : x < 256)
    (h0 : w.cell? ⟨gf, 0, none⟩ = some (.int .u64 (Tb.wd f 0))) (h1 : w.cell? ⟨gf, 1, none⟩ = some (.int .u64 (Tb.wd f 1))) (h2 : w.cell? ⟨gf, 2, none⟩ = some (.int .u64 (Tb.wd f 2))) (h3 : w.cell? ⟨gf, 3, none⟩ = some (.int .u64 (Tb.wd f 3)))
    (g0 : w.cell? ⟨gs, 0, none⟩ = some (.int .u64 (Tb.wd s 0))) (g1 : w.cell? ⟨gs, 1, none⟩ = some (.int .u64 (Tb.wd s 1))) (g2 : w.cell? ⟨gs, 2, none⟩ = some (.int .u64 (Tb.wd s 2))) (g3 : w.cell? ⟨gs, 3, none⟩ = some (.int .u64 (Tb.wd s 3))) :
    Calls Tryd.prog 68 #[.int .u8 (x : Int), .pointer (some ⟨gf, 0, none⟩), .pointer (some ⟨gs, 0, none⟩)] w fun e w' => e = .returned (.bool (Tb.anyTo (fun y => Tb.pv x y && f.getLsbD y && s.getLsbD (Tb.half y)) 256)) ∧ Below w.heap.size w w' := by
  have lf := World.block_lt_of_cell? w _ h0
  have ls := World.block_lt_of_cell? w _ g0
  simp only [] at lf ls
  go_enter Tryd.func68, Tryd.ntmps68
  go_wp2_with fail
  go_loopw [4, 5, 6] (fun r _ i wr => ∃ k : Nat, k ≤ 256 ∧ i = .int .i64 k ∧ r = .bool false ∧ Below w.heap.size w wr ∧ Tb.anyTo (fun y => Tb.pv x y && f.getLsbD y && s.getLsbD (Tb.half y)) k = false) (fun _ _ i _ => 256 - (intOf i).toNat)
  case atStart => exact ⟨0, by omega, rfl, rfl, Below.refl _ _, by unfold Tb.anyTo; rfl⟩
  case round =>
    rename_i wr
    obtain ⟨k, hk, rfl, rfl, hb, hno⟩ := hrel
    have HN := Bx.mk hno
    clear hno
    have e0 : wr.cell? ⟨gf, 0, none⟩ = some (.int .u64 (Tb.wd f 0)) := (hb.cell (p := ⟨gf, 0, none⟩) lf).trans h0
    have e1 : wr.cell? ⟨gf, 1, none⟩ = some (.int .u64 (Tb.wd f 1)) := (hb.cell (p := ⟨gf, 1, none⟩) lf).trans h1
    have e2 : wr.cell? ⟨gf, 2, none⟩ = some (.int .u64 (Tb.wd f 2)) := (hb.cell (p := ⟨gf, 2, none⟩) lf).trans h2
    have e3 : wr.cell? ⟨gf, 3, none⟩ = some (.int .u64 (Tb.wd f 3)) := (hb.cell (p := ⟨gf, 3, none⟩) lf).trans h3
    by_cases hlt : k < 256
    · have hn := Tb.pv_walk x k hx hlt
      cases hq : Tb.pv x k with
      | false =>
        rw [hq] at hn
        have hno2 := Tb.anyTo_no HN.out (show (Tb.pv x k && f.getLsbD k && s.getLsbD (Tb.half k)) = false from by rw [hq]; rfl)
        have HN2 := Bx.mk hno2
        clear hno2 hq hx
        go_wp2_with fail
        exact ⟨⟨k + 1, by omega, by go_num, rfl, hb, HN2.out⟩, by simp [intOf]; omega⟩
      | true =>
        rw [hq] at hn
        have hE := eval_any f k wr hlt
        cases hg : f.getLsbD k with
        | false =>
          rw [hg] at hE
          have hno2 := Tb.anyTo_no HN.out (show (Tb.pv x k && f.getLsbD k && s.getLsbD (Tb.half k)) = false from by rw [hq, hg]; rfl)
          have HN2 := Bx.mk hno2
          have HE := Bx.mk hE
          clear hno2 hq hx hE hg
          go_wp2_with fail
          refine HE.out.mono ?_
          rintro e w1 ⟨rfl, hb1⟩
          have hb2 := hb.trans (hb1.mono hb.size)
          clear hb1
          go_wp2_with fail
          exact ⟨⟨k + 1, by omega, by go_num, rfl, hb2, HN2.out⟩, by simp [intOf]; omega⟩
        | true =>
          rw [hg] at hE
          have hE2 := fun w => eval_any s (Tb.half k) w (Tb.half_lt k)
          rw [← Tb.half_walk k hlt] at hE2
          cases hh : s.getLsbD (Tb.half k) with
          | false =>
            rw [hh] at hE2
            have hno2 := Tb.anyTo_no HN.out (show (Tb.pv x k && f.getLsbD k && s.getLsbD (Tb.half k)) = false from by rw [hq, hg, hh]; rfl)
            have HN2 := Bx.mk hno2
            have HE := Bx.mk hE
            have HE2 := Bx.mk hE2
            clear hno2 hq hx hE hg hE2 hh
            go_wp2_with fail
            refine HE.out.mono ?_
            rintro e w1 ⟨rfl, hb1⟩
            have hb2 := hb.trans (hb1.mono hb.size)
            have k0 : w1.cell? ⟨gs, 0, none⟩ = some (.int .u64 (Tb.wd s 0)) := (hb2.cell (p := ⟨gs, 0, none⟩) ls).trans g0
            have k1 : w1.cell? ⟨gs, 1, none⟩ = some (.int .u64 (Tb.wd s 1)) := (hb2.cell (p := ⟨gs, 1, none⟩) ls).trans g1
            have k2 : w1.cell? ⟨gs, 2, none⟩ = some (.int .u64 (Tb.wd s 2)) := (hb2.cell (p := ⟨gs, 2, none⟩) ls).trans g2
            have k3 : w1.cell? ⟨gs, 3, none⟩ = some (.int .u64 (Tb.wd s 3)) := (hb2.cell (p := ⟨gs, 3, none⟩) ls).trans g3
            clear hb1 hb
            go_wp2_with fail
            refine (HE2.out _).mono ?_
            rintro e w2 ⟨rfl, hb1⟩
            have hb3 := hb2.trans (hb1.mono hb2.size)
            clear hb1
            go_wp2_with fail
            exact ⟨⟨k + 1, by omega, by go_num, rfl, hb3, HN2.out⟩, by simp [intOf]; omega⟩
          | true =>
            rw [hh] at hE2
            have hyes := Tb.anyTo_hit (q := fun y => Tb.pv x y && f.getLsbD y && s.getLsbD (Tb.half y)) (show (Tb.pv x k && f.getLsbD k && s.getLsbD (Tb.half k)) = true from by rw [hq, hg, hh]; rfl) hlt
            have HY := Bx.mk hyes
            have HE := Bx.mk hE
            have HE2 := Bx.mk hE2
            clear hyes hq hx hE hg hE2 hh
            go_wp2_with fail
            refine HE.out.mono ?_
            rintro e w1 ⟨rfl, hb1⟩
            have hb2 := hb.trans (hb1.mono hb.size)
            have k0 : w1.cell? ⟨gs, 0, none⟩ = some (.int .u64 (Tb.wd s 0)) := (hb2.cell (p := ⟨gs, 0, none⟩) ls).trans g0
            have k1 : w1.cell? ⟨gs, 1, none⟩ = some (.int .u64 (Tb.wd s 1)) := (hb2.cell (p := ⟨gs, 1, none⟩) ls).trans g1
            have k2 : w1.cell? ⟨gs, 2, none⟩ = some (.int .u64 (Tb.wd s 2)) := (hb2.cell (p := ⟨gs, 2, none⟩) ls).trans g2
            have k3 : w1.cell? ⟨gs, 3, none⟩ = some (.int .u64 (Tb.wd s 3)) := (hb2.cell (p := ⟨gs, 3, none⟩) ls).trans g3
            clear hb1 hb
            go_wp2_with fail
            refine (HE2.out _).mono ?_
            rintro e w2 ⟨rfl, hb1⟩
            have hb3 := hb2.trans (hb1.mono hb2.size)
            clear hb1
            go_wp2_with fail
            go_ret
            exact ⟨by rw [HY.out]; rfl, hb3⟩
    · obtain rfl : k = 256 := by omega
      go_wp2_with fail
      go_ret
      exact ⟨by rw [HN.out]; rfl, hb⟩

set_option maxRecDepth 100000 in
set_option maxHeartbeats 2000000 in
theorem prev_any (s r : Tb.T) (w : World) :
    Calls Tryd.prog 34 #[Tb.tv s, Tb.tv r] w fun e w' => e = .returned (Tb.tv (Tb.prev s r)) ∧ Below w.heap.size w w' := by
  have hE := of_any (fun x => Tb.anyTo (fun y => Tb.pv x y && r.getLsbD y && s.getLsbD (Tb.half y)) 256) 68 #[.pointer (some ⟨w.heap.size + 1, 0, none⟩), .pointer (some ⟨w.heap.size, 0, none⟩)] (fun _ _ => rfl)
    (((w.alloc (.cells (Tb.tcells s) 24)).alloc (.cells (Tb.tcells r) 24)).alloc (.cells #[.int .u64 0, .int .u64 0, .int .u64 0, .int .u64 0] 24))
    ⟨fun x w2 hx hb => prev1_any x r s (w.heap.size + 1) w.heap.size w2 hx (by rw [(bcell hb).1 _ _ (by first | omega | (simp <;> omega))]; go_simp) (by rw [(bcell hb).1 _ _ (by first | omega | (simp <;> omega))]; go_simp) (by rw [(bcell hb).1 _ _ (by first | omega | (simp <;> omega))]; go_simp) (by rw [(bcell hb).1 _ _ (by first | omega | (simp <;> omega))]; go_simp) (by rw [(bcell hb).1 _ _ (by first | omega | (simp <;> omega))]; go_simp) (by rw [(bcell hb).1 _ _ (by first | omega | (simp <;> omega))]; go_simp) (by rw [(bcell hb).1 _ _ (by first | omega | (simp <;> omega))]; go_simp) (by rw [(bcell hb).1 _ _ (by first | omega | (simp <;> omega))]; go_simp)⟩
  rw [← Tb.prev_def] at hE
  have HE := Bx.mk hE
  clear hE
  go_enter Tryd.func34, Tryd.ntmps34
  go_wp2_with fail
  refine HE.out.mono ?_
  rintro e w1 ⟨rfl, hb⟩
  obtain ⟨hcell, hfr⟩ := bcell hb
  have hz := hb.size
  go_wp2_with fail
  refine bodyPost_ret (v := Tb.tv (Tb.prev s r)) (by simp [results, Tryd.results34, go_sem, hcell]) rfl ⟨rfl, ?_⟩
  (repeat (first | (with_reducible exact Below.refl _ _) | (with_reducible assumption) | (with_reducible refine Below.drew ?_) | (with_reducible refine Below.setCell ?_ ?_ _; rotate_left; (first | omega | (simp <;> omega))) | (with_reducible refine Below.alloc ?_ ?_ _; rotate_left; (first | omega | (simp <;> omega))) | (with_reducible refine Below.trans ?_ (hb.mono ?_); rotate_left; (first | omega | (simp <;> omega)))))

end Go.Proofs.YtfkefgelceaimaaDoor
