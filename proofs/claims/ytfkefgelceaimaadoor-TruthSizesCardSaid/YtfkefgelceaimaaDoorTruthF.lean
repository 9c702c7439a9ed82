/-
  The walks of package truth, sixth part: restricting, composing, the steps of a relation, what a table hangs on.
-/
import Derived.Test.YtfkefgelceaimaaDoorTruthE
namespace Go.Proofs.YtfkefgelceaimaaDoor
set_option linter.unusedVariables false
open Go.RowKit

set_option maxRecDepth 100000 in
set_option maxHeartbeats 1000000 in
theorem restrict1_any (x m v : Nat) (f : Tb.T) (gf gm gv : Nat) (w : World) (hx : x < 256) (hm : m < 256) (hv : v < 256)
    (h0 : w.cell? ⟨gf, 0, none⟩ = some (.int .u64 (Tb.wd f 0))) (h1 : w.cell? ⟨gf, 1, none⟩ = some (.int .u64 (Tb.wd f 1))) (h2 : w.cell? ⟨gf, 2, none⟩ = some (.int .u64 (Tb.wd f 2))) (h3 : w.cell? ⟨gf, 3, none⟩ = some (.int .u64 (Tb.wd f 3)))
    (hcm : w.cell? ⟨gm, 0, none⟩ = some (.int .u8 (m : Int))) (hcv : w.cell? ⟨gv, 0, none⟩ = some (.int .u8 (v : Int))) :
    Calls Tryd.prog 66 #[.int .u8 (x : Int), .pointer (some ⟨gf, 0, none⟩), .pointer (some ⟨gm, 0, none⟩), .pointer (some ⟨gv, 0, none⟩)] w fun e w' => e = .returned (.bool (f.getLsbD (Tb.rstx x m v))) ∧ Below w.heap.size w w' := by
  have hE := eval_any f (Tb.rstx x m v) w (Tb.rstx_lt x m v hx hv)
  rw [← Tb.rstx_walk x m v hx hm hv] at hE
  have HE := Bx.mk hE
  clear hE hx hm hv
  go_enter Tryd.func66, Tryd.ntmps66
  go_wp2_with fail
  refine HE.out.mono ?_
  rintro e w1 ⟨rfl, hb⟩
  go_wp2_with fail
  go_ret
  exact ⟨rfl, hb⟩

set_option maxHeartbeats 1000000 in
theorem restrict_any (f : Tb.T) (m v : Nat) (w : World) (hm : m < 256) (hv : v < 256) :
    Calls Tryd.prog 29 #[Tb.tv f, .int .u8 (m : Int), .int .u8 (v : Int)] w fun e w' => e = .returned (Tb.tv (Tb.restrict f m v)) ∧ Below w.heap.size w w' := by
  have hE := of_any (fun x => f.getLsbD (Tb.rstx x m v)) 66 #[.pointer (some ⟨w.heap.size, 0, none⟩), .pointer (some ⟨w.heap.size + 1, 0, none⟩), .pointer (some ⟨w.heap.size + 1 + 1, 0, none⟩)] (fun _ _ => rfl)
    ((((w.alloc (.cells (Tb.tcells f) 24)).alloc (.cells #[.int .u8 m] 5)).alloc (.cells #[.int .u8 v] 5)).alloc (.cells #[.int .u64 0, .int .u64 0, .int .u64 0, .int .u64 0] 24))
    ⟨fun x w1 hx hb => restrict1_any x m v f w.heap.size (w.heap.size + 1) (w.heap.size + 1 + 1) w1 hx hm hv
      (by rw [(bcell hb).1 _ _ (by first | omega | (simp <;> omega))]; go_simp) (by rw [(bcell hb).1 _ _ (by first | omega | (simp <;> omega))]; go_simp) (by rw [(bcell hb).1 _ _ (by first | omega | (simp <;> omega))]; go_simp) (by rw [(bcell hb).1 _ _ (by first | omega | (simp <;> omega))]; go_simp)
      (by rw [(bcell hb).1 _ _ (by first | omega | (simp <;> omega))]; go_simp) (by rw [(bcell hb).1 _ _ (by first | omega | (simp <;> omega))]; go_simp)⟩
  rw [← Tb.restrict_def] at hE
  have HE := Bx.mk hE
  clear hE hm hv
  go_enter Tryd.func29, Tryd.ntmps29
  go_wp2_with fail
  refine HE.out.mono ?_
  rintro e w1 ⟨rfl, hb⟩
  obtain ⟨hcell, hfr⟩ := bcell hb
  have hz := hb.size
  go_wp2_with fail
  refine bodyPost_ret (v := Tb.tv (Tb.restrict f m v)) (by simp [results, Tryd.results29, go_sem, hcell]) rfl ⟨rfl, ?_⟩
  (repeat (first | (with_reducible exact Below.refl _ _) | (with_reducible assumption) | (with_reducible refine Below.drew ?_) | (with_reducible refine Below.setCell ?_ ?_ _; rotate_left; (first | omega | (simp <;> omega))) | (with_reducible refine Below.alloc ?_ ?_ _; rotate_left; (first | omega | (simp <;> omega))) | (with_reducible refine Below.trans ?_ (hb.mono ?_); rotate_left; (first | omega | (simp <;> omega)))))

set_option maxRecDepth 100000 in
set_option maxHeartbeats 4000000 in
theorem compose_any (f : Tb.T) (v : Int) (g : Tb.T) (w : World) :
    Calls Tryd.prog 32 #[Tb.tv f, .int .i64 v, Tb.tv g] w fun e w' => e = .returned (Tb.tv ((g &&& Tb.fix f v true) ||| (~~~g &&& Tb.fix f v false))) ∧ Below w.heap.size w w' := by
  go_enter Tryd.func32, Tryd.ntmps32
  go_wp2_with fail
  refine region_order [(0, true), (1, true), (2, true), (4, true), (5, true), (3, false), (6, false), (7, false), (8, false)] 8 (fun w' => Below w.heap.size w w' ∧ w.heap.size + 1 + 1 < w'.heap.size ∧
      (w'.cell? ⟨w.heap.size, 0, none⟩ = some (.int .u64 (Tb.wd f 0)) ∧ w'.cell? ⟨w.heap.size, 1, none⟩ = some (.int .u64 (Tb.wd f 1)) ∧ w'.cell? ⟨w.heap.size, 2, none⟩ = some (.int .u64 (Tb.wd f 2)) ∧ w'.cell? ⟨w.heap.size, 3, none⟩ = some (.int .u64 (Tb.wd f 3))) ∧ (w'.cell? ⟨w.heap.size + 1, 0, none⟩ = some (.int .u64 (Tb.wd g 0)) ∧ w'.cell? ⟨w.heap.size + 1, 1, none⟩ = some (.int .u64 (Tb.wd g 1)) ∧ w'.cell? ⟨w.heap.size + 1, 2, none⟩ = some (.int .u64 (Tb.wd g 2)) ∧ w'.cell? ⟨w.heap.size + 1, 3, none⟩ = some (.int .u64 (Tb.wd g 3))) ∧ (w'.cell? ⟨w.heap.size + 1 + 1, 0, none⟩ = some (cval w' ⟨w.heap.size + 1 + 1, 0, none⟩) ∧ w'.cell? ⟨w.heap.size + 1 + 1, 1, none⟩ = some (cval w' ⟨w.heap.size + 1 + 1, 1, none⟩) ∧ w'.cell? ⟨w.heap.size + 1 + 1, 2, none⟩ = some (cval w' ⟨w.heap.size + 1 + 1, 2, none⟩) ∧ w'.cell? ⟨w.heap.size + 1 + 1, 3, none⟩ = some (cval w' ⟨w.heap.size + 1 + 1, 3, none⟩) ∧ w'.frozen? ⟨w.heap.size + 1 + 1, 0, none⟩ = false ∧ w'.frozen? ⟨w.heap.size + 1 + 1, 1, none⟩ = false ∧ w'.frozen? ⟨w.heap.size + 1 + 1, 2, none⟩ = false ∧ w'.frozen? ⟨w.heap.size + 1 + 1, 3, none⟩ = false)) (by kernel_rfl) (by kernel_rfl) (fun _ _ d _ _ h => by cases d <;> exact h) ?_ ?_
  · (((try go_split_ands); (repeat' apply And.intro) <;> first | (with_reducible assumption) | omega | (with_reducible refine (hcl _ _ ?_).trans ?_; (first | omega | (simp <;> omega)); (first | (with_reducible assumption) | (go_simp; done))) | (with_reducible refine (hfz _ _ ?_).trans ?_; (first | omega | (simp <;> omega)); (first | (with_reducible assumption) | (go_simp; done))) | (with_reducible refine cval_ok ?_; (first | (with_reducible refine (congrArg Option.isSome (hcl _ _ ?_)).trans ?_; (first | omega | (simp <;> omega)); (go_simp; done)) | (go_simp; done))) | ((repeat (first | (with_reducible exact Below.refl _ _) | (with_reducible assumption) | (with_reducible refine Below.drew ?_) | (with_reducible refine Below.setCell ?_ ?_ _; rotate_left; (first | omega | (simp <;> omega))) | (with_reducible refine Below.alloc ?_ ?_ _; rotate_left; (first | omega | (simp <;> omega))) | (with_reducible refine Below.trans ?_ (hb.mono ?_); rotate_left; (first | omega | (simp <;> omega))))); done) | ((repeat (first | (with_reducible exact Below.refl _ _) | (with_reducible assumption) | (with_reducible refine Below.drew ?_) | (with_reducible refine Below.setCell ?_ ?_ _; rotate_left; (first | omega | (simp <;> omega))) | (with_reducible refine Below.alloc ?_ ?_ _; rotate_left; (first | omega | (simp <;> omega))))); done) | (simp <;> omega) | (go_simp; done) | (go_simp <;> omega)))
  · repeat (refine wpG_take (v := ?_) rfl rfl ?_ ?_; rotate_left; (focus (intro w hS; (try dsimp only at hS); go_split_ands; go_simp; try (with_reducible rfl))); (try simp only [Act.put]); (try simp only [List.setIfInBounds_toArray]); (try simp only [List.set_cons_succ]); (try simp only [List.set_cons_zero]))
    (refine wpG_op rfl rfl ?_; intro K hK; go_simp)
    refine (fix_any f v true _).mono ?_
    rintro e w1 ⟨rfl, hb⟩
    (obtain ⟨hcl, hfz⟩ := bcell hb; have hz := hb.size; (try simp only [drew_size] at hz); (try simp only [alloc_size] at hz); (try simp only [drew_size] at hz); (try simp only [alloc_size] at hz))
    go_simp
    (refine hK _ _ ?_ (fun hSn => ?_); (focus (((try go_split_ands); (repeat' apply And.intro) <;> first | (with_reducible assumption) | omega | (with_reducible refine (hcl _ _ ?_).trans ?_; (first | omega | (simp <;> omega)); (first | (with_reducible assumption) | (go_simp; done))) | (with_reducible refine (hfz _ _ ?_).trans ?_; (first | omega | (simp <;> omega)); (first | (with_reducible assumption) | (go_simp; done))) | (with_reducible refine cval_ok ?_; (first | (with_reducible refine (congrArg Option.isSome (hcl _ _ ?_)).trans ?_; (first | omega | (simp <;> omega)); (go_simp; done)) | (go_simp; done))) | ((repeat (first | (with_reducible exact Below.refl _ _) | (with_reducible assumption) | (with_reducible refine Below.drew ?_) | (with_reducible refine Below.setCell ?_ ?_ _; rotate_left; (first | omega | (simp <;> omega))) | (with_reducible refine Below.alloc ?_ ?_ _; rotate_left; (first | omega | (simp <;> omega))) | (with_reducible refine Below.trans ?_ (hb.mono ?_); rotate_left; (first | omega | (simp <;> omega))))); done) | ((repeat (first | (with_reducible exact Below.refl _ _) | (with_reducible assumption) | (with_reducible refine Below.drew ?_) | (with_reducible refine Below.setCell ?_ ?_ _; rotate_left; (first | omega | (simp <;> omega))) | (with_reducible refine Below.alloc ?_ ?_ _; rotate_left; (first | omega | (simp <;> omega))))); done) | (simp <;> omega) | (go_simp; done) | (go_simp <;> omega)))); clear hK K; (try dsimp only at hSn); go_split_ands; (try simp only [Act.put]); (try simp only [List.setIfInBounds_toArray]); (try simp only [List.set_cons_succ]); (try simp only [List.set_cons_zero]))
    clear hcl hfz hz hb
    (refine wpG_op rfl rfl ?_; intro K hK; go_simp)
    refine (fix_any f v false _).mono ?_
    rintro e w2 ⟨rfl, hb⟩
    (obtain ⟨hcl, hfz⟩ := bcell hb; have hz := hb.size; (try simp only [drew_size] at hz); (try simp only [alloc_size] at hz); (try simp only [drew_size] at hz); (try simp only [alloc_size] at hz))
    go_simp
    (refine hK _ _ ?_ (fun hSn => ?_); (focus (((try go_split_ands); (repeat' apply And.intro) <;> first | (with_reducible assumption) | omega | (with_reducible refine (hcl _ _ ?_).trans ?_; (first | omega | (simp <;> omega)); (first | (with_reducible assumption) | (go_simp; done))) | (with_reducible refine (hfz _ _ ?_).trans ?_; (first | omega | (simp <;> omega)); (first | (with_reducible assumption) | (go_simp; done))) | (with_reducible refine cval_ok ?_; (first | (with_reducible refine (congrArg Option.isSome (hcl _ _ ?_)).trans ?_; (first | omega | (simp <;> omega)); (go_simp; done)) | (go_simp; done))) | ((repeat (first | (with_reducible exact Below.refl _ _) | (with_reducible assumption) | (with_reducible refine Below.drew ?_) | (with_reducible refine Below.setCell ?_ ?_ _; rotate_left; (first | omega | (simp <;> omega))) | (with_reducible refine Below.alloc ?_ ?_ _; rotate_left; (first | omega | (simp <;> omega))) | (with_reducible refine Below.trans ?_ (hb.mono ?_); rotate_left; (first | omega | (simp <;> omega))))); done) | ((repeat (first | (with_reducible exact Below.refl _ _) | (with_reducible assumption) | (with_reducible refine Below.drew ?_) | (with_reducible refine Below.setCell ?_ ?_ _; rotate_left; (first | omega | (simp <;> omega))) | (with_reducible refine Below.alloc ?_ ?_ _; rotate_left; (first | omega | (simp <;> omega))))); done) | (simp <;> omega) | (go_simp; done) | (go_simp <;> omega)))); clear hK K; (try dsimp only at hSn); go_split_ands; (try simp only [Act.put]); (try simp only [List.setIfInBounds_toArray]); (try simp only [List.set_cons_succ]); (try simp only [List.set_cons_zero]))
    clear hcl hfz hz hb
    (refine wpG_op rfl rfl ?_; intro K hK; go_simp)
    refine (ite_any g _ _ _).mono ?_
    rintro e w3 ⟨rfl, hb⟩
    (obtain ⟨hcl, hfz⟩ := bcell hb; have hz := hb.size; (try simp only [drew_size] at hz); (try simp only [alloc_size] at hz); (try simp only [drew_size] at hz); (try simp only [alloc_size] at hz))
    go_simp
    (refine hK _ _ ?_ (fun hSn => ?_); (focus (((try go_split_ands); (repeat' apply And.intro) <;> first | (with_reducible assumption) | omega | (with_reducible refine (hcl _ _ ?_).trans ?_; (first | omega | (simp <;> omega)); (first | (with_reducible assumption) | (go_simp; done))) | (with_reducible refine (hfz _ _ ?_).trans ?_; (first | omega | (simp <;> omega)); (first | (with_reducible assumption) | (go_simp; done))) | (with_reducible refine cval_ok ?_; (first | (with_reducible refine (congrArg Option.isSome (hcl _ _ ?_)).trans ?_; (first | omega | (simp <;> omega)); (go_simp; done)) | (go_simp; done))) | ((repeat (first | (with_reducible exact Below.refl _ _) | (with_reducible assumption) | (with_reducible refine Below.drew ?_) | (with_reducible refine Below.setCell ?_ ?_ _; rotate_left; (first | omega | (simp <;> omega))) | (with_reducible refine Below.alloc ?_ ?_ _; rotate_left; (first | omega | (simp <;> omega))) | (with_reducible refine Below.trans ?_ (hb.mono ?_); rotate_left; (first | omega | (simp <;> omega))))); done) | ((repeat (first | (with_reducible exact Below.refl _ _) | (with_reducible assumption) | (with_reducible refine Below.drew ?_) | (with_reducible refine Below.setCell ?_ ?_ _; rotate_left; (first | omega | (simp <;> omega))) | (with_reducible refine Below.alloc ?_ ?_ _; rotate_left; (first | omega | (simp <;> omega))))); done) | (simp <;> omega) | (go_simp; done) | (go_simp <;> omega)))); clear hK K; (try dsimp only at hSn); go_split_ands; (try simp only [Act.put]); (try simp only [List.setIfInBounds_toArray]); (try simp only [List.set_cons_succ]); (try simp only [List.set_cons_zero]))
    clear hcl hfz hz hb
    (refine wpG_last rfl rfl ?_; intro K hK; go_simp; refine hK _ _ ?_; clear hK K; (try simp only [Act.put]); (try simp only [List.setIfInBounds_toArray]); (try simp only [List.set_cons_succ]); (try simp only [List.set_cons_zero]))
    go_wp2_with fail
    refine bodyPost_ret (v := Tb.tv ((g &&& Tb.fix f v true) ||| (~~~g &&& Tb.fix f v false))) (by simp [results, Tryd.results32, go_sem, *]) rfl ⟨rfl, ?_⟩
    (repeat (first | (with_reducible exact Below.refl _ _) | (with_reducible assumption) | (with_reducible refine Below.drew ?_) | (with_reducible refine Below.setCell ?_ ?_ _; rotate_left; (first | omega | (simp <;> omega))) | (with_reducible refine Below.alloc ?_ ?_ _; rotate_left; (first | omega | (simp <;> omega)))))

end Go.Proofs.YtfkefgelceaimaaDoor
