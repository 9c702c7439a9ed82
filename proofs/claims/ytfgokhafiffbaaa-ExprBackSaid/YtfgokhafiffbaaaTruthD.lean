/-
  The walks of package truth, fourth part: a variable set for good, and what is made of it.
-/
import Derived.Test.YtfgokhafiffbaaaTruthC
namespace Go.Proofs.Ytfgokhafiffbaaa
set_option linter.unusedVariables false
open Go.RowKit

set_option maxRecDepth 100000 in
set_option maxHeartbeats 400000 in
theorem with_any (x v : Nat) (b : Bool) (w : World) (hx : x < 256) (hv : v < 8) :
    Calls Try.prog 86 #[.int .u8 (x : Int), .int .i64 (v : Int), .bool b] w fun e w' => e = .returned (.int .u8 (Tb.wth x v b : Int)) ∧ w = w' := by
  have h1 := Tb.wth_or x hx v hv
  have h2 := Tb.wth_andNot x hx v hv
  have H1 := Bx.mk h1
  have H2 := Bx.mk h2
  clear h1 h2
  cases b with
  | true =>
    go_enter Try.func86, Try.ntmps86
    go_wp2_with fail
    go_ret
    exact ⟨by rw [← H1.out]; rfl, rfl⟩
  | false =>
    go_enter Try.func86, Try.ntmps86
    go_wp2_with fail
    go_ret
    exact ⟨by rw [← H2.out]; rfl, rfl⟩

set_option maxRecDepth 100000 in
set_option maxHeartbeats 2000000 in
theorem fix1_any (x v : Nat) (b : Bool) (f : Tb.T) (gf gv gb : Nat) (w : World) (hx : x < 256) (hv : v < 8)
    (h0 : w.cell? ⟨gf, 0, none⟩ = some (.int .u64 (Tb.wd f 0))) (h1 : w.cell? ⟨gf, 1, none⟩ = some (.int .u64 (Tb.wd f 1))) (h2 : w.cell? ⟨gf, 2, none⟩ = some (.int .u64 (Tb.wd f 2))) (h3 : w.cell? ⟨gf, 3, none⟩ = some (.int .u64 (Tb.wd f 3)))
    (hcv : w.cell? ⟨gv, 0, none⟩ = some (.int .i64 (v : Int))) (hcb : w.cell? ⟨gb, 0, none⟩ = some (.bool b)) :
    Calls Try.prog 84 #[.int .u8 (x : Int), .pointer (some ⟨gf, 0, none⟩), .pointer (some ⟨gv, 0, none⟩), .pointer (some ⟨gb, 0, none⟩)] w fun e w' => e = .returned (.bool (f.getLsbD (Tb.wth x v b))) ∧ Below w.heap.size w w' := by
  have hl := Tb.wth_lt x hx v hv b
  have lf := World.block_lt_of_cell? w _ h0
  have lv := World.block_lt_of_cell? w _ hcv
  have lb := World.block_lt_of_cell? w _ hcb
  simp only [] at lf lv lb
  go_enter Try.func84, Try.ntmps84
  go_wp2_with fail
  go_region_held3 (fun w' => Below w.heap.size w w' ∧ w.heap.size ≤ w'.heap.size ∧ (w'.cell? ⟨gf, 0, none⟩ = some (.int .u64 (Tb.wd f 0)) ∧ w'.cell? ⟨gf, 1, none⟩ = some (.int .u64 (Tb.wd f 1)) ∧ w'.cell? ⟨gf, 2, none⟩ = some (.int .u64 (Tb.wd f 2)) ∧ w'.cell? ⟨gf, 3, none⟩ = some (.int .u64 (Tb.wd f 3))) ∧
      w'.cell? ⟨gv, 0, none⟩ = some (.int .i64 (v : Int)) ∧ w'.cell? ⟨gb, 0, none⟩ = some (.bool b))
    (((try go_split_ands); (repeat' apply And.intro) <;> first | (with_reducible assumption) | omega | (with_reducible refine (hcl _ _ ?_).trans ?_; (first | omega | (simp <;> omega)); (first | (with_reducible assumption) | (go_simp; done))) | (with_reducible refine (hfz _ _ ?_).trans ?_; (first | omega | (simp <;> omega)); (first | (with_reducible assumption) | (go_simp; done))) | (with_reducible refine cval_ok ?_; (first | (with_reducible refine (congrArg Option.isSome (hcl _ _ ?_)).trans ?_; (first | omega | (simp <;> omega)); (go_simp; done)) | (go_simp; done))) | ((repeat (first | (with_reducible exact Below.refl _ _) | (with_reducible assumption) | (with_reducible refine Below.drew ?_) | (with_reducible refine Below.setCell ?_ ?_ _; rotate_left; (first | omega | (simp <;> omega))) | (with_reducible refine Below.alloc ?_ ?_ _; rotate_left; (first | omega | (simp <;> omega))) | (with_reducible refine Below.trans ?_ (hb.mono ?_); rotate_left; (first | omega | (simp <;> omega))))); done) | ((repeat (first | (with_reducible exact Below.refl _ _) | (with_reducible assumption) | (with_reducible refine Below.drew ?_) | (with_reducible refine Below.setCell ?_ ?_ _; rotate_left; (first | omega | (simp <;> omega))) | (with_reducible refine Below.alloc ?_ ?_ _; rotate_left; (first | omega | (simp <;> omega))))); done) | (simp <;> omega) | (go_simp; done) | (go_simp <;> omega)))
    (first | (go_at_call 86; refine (with_any x v b _ hx hv).mono ?_; rintro e w' ⟨rfl, rfl⟩) | (go_at_call 85; refine (eval_any f (Tb.wth x v b) _ hl).mono ?_; rintro e w' ⟨rfl, hb⟩; obtain ⟨hcl, hfz⟩ := bcell hb; have hz := hb.size))
  go_split_ands
  go_wp2_with fail
  go_ret
  refine ⟨rfl, ?_⟩
  assumption

set_option maxHeartbeats 2000000 in
theorem fix_any (f : Tb.T) (v : Int) (b : Bool) (w : World) :
    Calls Try.prog 81 #[Tb.tv f, .int .i64 v, .bool b] w fun e w' => e = .returned (Tb.tv (Tb.fix f v b)) ∧ Below w.heap.size w w' := by
  cases hk : Tb.kn v with
  | false =>
    rw [Tb.fix_no hk]
    have hkn := fun w => tknown_any v w
    rw [hk] at hkn
    have HK := Bx.mk hkn
    clear hkn
    go_enter Try.func81, Try.ntmps81
    go_wp2_with fail
    refine (HK.out _).mono ?_
    rintro e w1 ⟨rfl, rfl⟩
    go_wp2_with fail
    refine bodyPost_ret (v := Tb.tv f) (by simp [results, Try.results81, go_sem]) rfl ⟨rfl, ?_⟩
    (repeat (first | (with_reducible exact Below.refl _ _) | (with_reducible assumption) | (with_reducible refine Below.drew ?_) | (with_reducible refine Below.setCell ?_ ?_ _; rotate_left; (first | omega | (simp <;> omega))) | (with_reducible refine Below.alloc ?_ ?_ _; rotate_left; (first | omega | (simp <;> omega)))))
  | true =>
    have hkn := fun w => tknown_any v w
    rw [hk] at hkn
    have HK := Bx.mk hkn
    clear hkn
    obtain ⟨h0, h1⟩ := kn_yes hk
    obtain ⟨v, rfl⟩ := Int.eq_ofNat_of_zero_le h0
    have hv : v < 8 := by omega
    rw [Tb.fix_yes hk, Int.toNat_natCast]
    clear hk
    generalize hR : Tb.tab (fun x => f.getLsbD (Tb.wth x v b)) = R
    have HR := Bx.mk hR
    clear hR
    go_enter Try.func81, Try.ntmps81
    go_wp2_with fail
    refine (HK.out _).mono ?_
    rintro e w1 ⟨rfl, rfl⟩
    go_wp2_with fail
    have hE := of_any (fun x => f.getLsbD (Tb.wth x v b)) 84 #[.pointer (some ⟨w.heap.size, 0, none⟩), .pointer (some ⟨w.heap.size + 1, 0, none⟩), .pointer (some ⟨w.heap.size + 1 + 1, 0, none⟩)] (fun _ _ => rfl)
      ((((w.alloc (.cells (Tb.tcells f) 29)).alloc (.cells #[.int .i64 v] 3)).alloc (.cells #[.bool b] 4)).alloc (.cells #[.int .u64 0, .int .u64 0, .int .u64 0, .int .u64 0] 29))
      ⟨fun x w1 hx hb => fix1_any x v b f w.heap.size (w.heap.size + 1) (w.heap.size + 1 + 1) w1 hx hv
        (by rw [(bcell hb).1 _ _ (by first | omega | (simp <;> omega))]; go_simp) (by rw [(bcell hb).1 _ _ (by first | omega | (simp <;> omega))]; go_simp) (by rw [(bcell hb).1 _ _ (by first | omega | (simp <;> omega))]; go_simp) (by rw [(bcell hb).1 _ _ (by first | omega | (simp <;> omega))]; go_simp)
        (by rw [(bcell hb).1 _ _ (by first | omega | (simp <;> omega))]; go_simp) (by rw [(bcell hb).1 _ _ (by first | omega | (simp <;> omega))]; go_simp)⟩
    rw [HR.out] at hE
    refine hE.mono ?_
    clear hE
    rintro e w1 ⟨rfl, hb⟩
    obtain ⟨hcell, hfr⟩ := bcell hb
    have hz := hb.size
    go_wp2_with fail
    refine bodyPost_ret (v := Tb.tv R) (by simp [results, Try.results81, go_sem, hcell]) rfl ⟨rfl, ?_⟩
    (repeat (first | (with_reducible exact Below.refl _ _) | (with_reducible assumption) | (with_reducible refine Below.drew ?_) | (with_reducible refine Below.setCell ?_ ?_ _; rotate_left; (first | omega | (simp <;> omega))) | (with_reducible refine Below.alloc ?_ ?_ _; rotate_left; (first | omega | (simp <;> omega))) | (with_reducible refine Below.trans ?_ (hb.mono ?_); rotate_left; (first | omega | (simp <;> omega)))))

end Go.Proofs.Ytfgokhafiffbaaa
