/-
  Formulas: Is.
-/
import Derived.Test.YtfgokhafiffbaaaEx18
import Derived.Test.YtfgokhafiffbaaaEx13
namespace Go.Proofs.Ytfgokhafiffbaaa
set_option linter.unusedVariables false
open Go.RowKit

def Fo.nodes : Fo → Nat
  | .nil => 0
  | .cons _ _ _ kids rest => 1 + kids.nodes + rest.nodes
def Fo.allPlain : Fo → Bool
  | .nil => true
  | .cons k a v kids rest => Ex.plain ⟨k, a, v, kids⟩ && kids.allPlain && rest.allPlain
/-- is it a formula? -/
def Ex.is (t : Tr) : Bool := decide ((t.on .nil).nodes ≤ 4000) && (t.on .nil).allPlain
theorem Fo.nodes_app : ∀ (F G : Fo), (F.app G).nodes = F.nodes + G.nodes
  | .nil, G => by simp [Fo.app, Fo.nodes]
  | .cons k a v kids rest, G => by simp [Fo.app, Fo.nodes, Fo.nodes_app rest G]; omega
theorem Fo.allPlain_app : ∀ (F G : Fo), (F.app G).allPlain = (F.allPlain && G.allPlain)
  | .nil, G => by simp [Fo.app, Fo.allPlain]
  | .cons k a v kids rest, G => by simp [Fo.app, Fo.allPlain, Fo.allPlain_app rest G, Bool.and_assoc]
theorem Fo.snoc : ∀ (F : Fo), F.len ≠ 0 → ∃ (G : Fo) (x : Tr), F = G.app (x.on .nil)
  | .nil, h => absurd rfl h
  | .cons k a v kids .nil, _ => ⟨.nil, ⟨k, a, v, kids⟩, rfl⟩
  | .cons k a v kids (.cons k' a' v' kids' rest), _ => by
    obtain ⟨G, x, e⟩ := Fo.snoc (.cons k' a' v' kids' rest) (by simp [Fo.len])
    exact ⟨.cons k a v kids G, x, by rw [e]; rfl⟩
theorem RowF.split {w : World} {B : Nat → Prop} {G : Fo} : ∀ {F : Fo} {L : List Value}, RowF w B (F.app G) L → ∃ L1 L2, L = L1 ++ L2 ∧ RowF w B F L1 ∧ RowF w B G L2
  | .nil, L, h => ⟨[], L, rfl, rfl, h⟩
  | .cons k a v kids rest, L, h => by
    obtain ⟨sl, L', rfl, hs, hr⟩ := h
    obtain ⟨L1, L2, rfl, h1, h2⟩ := RowF.split hr
    exact ⟨_, L2, rfl, ⟨sl, L1, rfl, hs, h1⟩, h2⟩
theorem Ex.kids_le (k : Int) : Ex.kids k ≤ 3 := by
  unfold Ex.kids
  split
  · omega
  · split
    · omega
    · split <;> omega
/-- where the loop of Is stands: what is left, behind n of them -/
structure IsL (w wr : World) (v : Value) (n : Nat) (F : Fo) (b : Bool) : Prop where
  be : Below w.heap.size w wr
  own : ∃ L, wr.ownsRow w.heap.size 36 4 v F.len L ∧ RowF wr (fun g => g < w.heap.size) F L
  few : n ≤ 4000
  len : F.len ≤ 3 * n + 1
  val : b = (decide (n + F.nodes ≤ 4000) && F.allPlain)
/-- what is popped -/
theorem IsL.pop {w wr : World} {v : Value} {n : Nat} {F G : Fo} {x : Tr} {b : Bool} (h : IsL w wr v n F b) (hF : F = G.app (x.on .nil)) :
    ∃ g cap sl, v = .slice (some ⟨g, 0, none⟩) (G.len + 1) cap ∧ w.heap.size ≤ g ∧ g < wr.heap.size ∧ G.len + 1 ≤ cap ∧ SlF wr (fun g => g < w.heap.size) sl x.kids ∧
      wr.cell? ⟨g, G.len * 4, none⟩ = some (.int .i64 x.k) ∧ wr.cell? ⟨g, G.len * 4 + 1, none⟩ = some (.int .i64 x.a) ∧ wr.cell? ⟨g, G.len * 4 + 2, none⟩ = some (.int .i64 x.v) ∧ wr.cell? ⟨g, G.len * 4 + 3, none⟩ = some sl ∧
      ∃ L, wr.ownsRow w.heap.size 36 4 (.slice (some ⟨g, 0, none⟩) G.len cap) G.len L ∧ RowF wr (fun g => g < w.heap.size) G L := by
  obtain ⟨L, h1, h2⟩ := h.own
  subst hF
  have hlen : (G.app (x.on .nil)).len = G.len + 1 := by rw [Fo.len_app]; rfl
  rw [hlen] at h1
  obtain ⟨L1, L2, rfl, hL1, hL2⟩ := RowF.split h2
  obtain ⟨sl, L', rfl, hs, hn⟩ := hL2
  rw [show L' = [] from hn] at h1
  have hl1 := hL1.length
  rcases h1.2 with ⟨rfl, h0⟩ | ⟨g, cap, cur, rfl, hbg, hg, hnc, hcm, hcs, htake⟩
  · omega
  · have hc : ∀ j u, (L1 ++ [.int .i64 x.k, .int .i64 x.a, .int .i64 x.v, sl])[j]? = some u → wr.cell? ⟨g, j, none⟩ = some u := fun j u hj => by
      have := h1.cells (g := g) rfl j u hj
      simp only [Addr.add] at this
      split at this
      · rename_i e0; subst e0; exact this
      · simpa using this
    refine ⟨g, cap, sl, rfl, hbg, (h1.lt g rfl).2, hnc, hs, hc _ _ (by rw [← hl1]; simp), hc _ _ (by rw [← hl1]; simp), hc _ _ (by rw [← hl1]; simp), hc _ _ (by rw [← hl1]; simp), L1, ⟨hl1, .inr ⟨g, cap, cur, rfl, hbg, hg, by omega, hcm, hcs, ?_⟩⟩, hL1⟩
    have := congrArg (List.take (G.len * 4)) htake
    rw [List.take_take, Nat.min_eq_left (by omega), ← hl1, List.take_left] at this
    rw [← hl1]; exact this

theorem below_gr {w w' : World} (h : Below w.heap.size w w') : w.grownBy w' none := ⟨h.os, h.tape, h.output, h.size, fun k hk _ => h.block k hk⟩
/-- what is pushed -/
theorem IsL.push {w u : World} {G : Fo} {x : Tr} {sx : Value} {g m cap : Nat} (hbe : Below w.heap.size w u) (hown : ∃ L, u.ownsRow w.heap.size 36 4 (.slice (some ⟨g, 0, none⟩) m cap) G.len L ∧ RowF u (fun g => g < w.heap.size) G L)
    (hs : SlF u (fun g => g < w.heap.size) sx x.kids) (hlen : G.len + x.kids.len < 100000) (ty : TypeId) :
    ∃ v' w', (Builtin.append_ #[34, 34] ty #[.slice (some ⟨g, 0, none⟩) m cap, sx]).run Try.prog u = .ok v' w' ∧ Below w.heap.size w w' ∧
      ∃ L, w'.ownsRow w.heap.size 36 4 v' (G.app x.kids).len L ∧ RowF w' (fun g => g < w.heap.size) (G.app x.kids) L := by
  obtain ⟨L, h1, h2⟩ := hown
  have hg := h1.lt g rfl
  have hsz := hbe.size
  obtain ⟨i0, hi⟩ : ∃ i, Try.prog.info? 36 = some i := ⟨_, rfl⟩
  obtain ⟨p, cx, b, o, rfl, hp, hc, hr⟩ := hs
  rw [Fo.len_app]
  rcases hp with ⟨hk, rfl, rfl⟩ | rfl
  · rw [hk]
    refine ⟨_, u, run_append_owned_none (P := Try.prog) u w.heap.size 34 ty 36 i0 4 Try.underlying34 hi _ _ _ h1, hbe, L, h1, ?_⟩
    have := RowF.app (G := .nil) (M := []) (w := u) (B := fun g => g < w.heap.size) rfl h2
    rwa [List.append_nil] at this
  · obtain ⟨M, hM, hcell⟩ := hr.row
    obtain ⟨v', w', hrun, ho, hgr, hbk⟩ := own_app h1 b o x.kids.len cx M hM.length (fun e => by simp at e) hcell hM.one (by omega) hsz ty
    refine ⟨v', w', hrun, hbe.grown hgr hsz (fun k hk => by simp [Value.ownBlock] at hk; omega), L ++ M, ho, ?_⟩
    refine (RowF.app hM h2).kept fun j hj hl => hgr.block j hl (fun e => ?_)
    simp [Value.ownBlock] at e
    omega
set_option maxHeartbeats 8000000 in
theorem is_any (t : Tr) (sl : Value) (B : Nat → Prop) (w : World) (h : SlF w B sl t.kids) : Calls Try.prog 15 #[Ev t sl] w fun e w' => e = .returned (.bool (Ex.is t)) ∧ Below w.heap.size w w' := by
  obtain ⟨pp, cap, rfl⟩ := h.is
  have hT := h.mono' (B' := fun g => g < w.heap.size) fun g hg _ => hg
  have hb0 := boxE w t.k t.a t.v (.slice pp t.kids.len cap)
  have H0 : Bx (IsL w ((w.alloc (.cells #[.int .i64 t.k, .int .i64 t.a, .int .i64 t.v, .slice pp t.kids.len cap] 36)).alloc (.cells #[.int .i64 t.k, .int .i64 t.a, .int .i64 t.v, .slice pp t.kids.len cap] 36)) (.slice (some ⟨w.heap.size + 1, 0, none⟩) 1 1) 0 (t.on .nil) (Ex.is t)) := by
    refine ⟨⟨((Below.refl _ _).alloc (Nat.le_refl _) _).alloc (by rw [alloc_size]; omega) _, ⟨[.int .i64 t.k, .int .i64 t.a, .int .i64 t.v, .slice pp t.kids.len cap], ?_, ?_⟩, by omega, by simp [Fo.len_on, Fo.len], by unfold Ex.is; rw [Nat.zero_add]⟩⟩
    · have := World.ownsRow_lit (e := 36) (size := 4) (base := w.heap.size) (w.alloc (.cells #[.int .i64 t.k, .int .i64 t.a, .int .i64 t.v, .slice pp t.kids.len cap] 36)) #[.int .i64 t.k, .int .i64 t.a, .int .i64 t.v, .slice pp t.kids.len cap] 1 (by rw [alloc_size]; omega) (by unfold maxLen; omega) rfl
      rw [alloc_size] at this
      exact this
    · exact ⟨_, [], rfl, (hT.alloc _).alloc _, rfl⟩
  clear h hT
  unfold Ev
  go_enter Try.func15, Try.ntmps15
  go_wp2_with fail
  go_loopw [3, 4] (fun v n wr => ∃ (k : Nat) (F : Fo), n = .int .i64 (k : Int) ∧ IsL w wr v k F (Ex.is t)) (fun _ n _ => 4001 - (intOf n).toNat)
  case atStart => exact ⟨0, t.on .nil, rfl, H0.out⟩
  case round =>
    obtain ⟨k, F, rfl, HL⟩ := hrel
    have HL := Bx.mk HL
    by_cases hF : F.len = 0
    · have hn : F = .nil := by cases F with | nil => rfl | cons => simp [Fo.len] at hF
      subst hn
      have hv : Bx (Ex.is t = true) := ⟨by rw [HL.out.val]; have := HL.out.few; simp [Fo.nodes, Fo.allPlain]; exact decide_eq_true this⟩
      obtain ⟨L, h1, h2⟩ := HL.out.own
      have hlen : ∃ p cp, u3 = .slice p 0 cp := by
        rcases h1.2 with ⟨e, _⟩ | ⟨g, cp, cur, e, _⟩
        · exact ⟨_, _, e⟩
        · exact ⟨_, _, e⟩
      obtain ⟨p, cp, rfl⟩ := hlen
      clear h1 h2 hF
      go_wp2_with fail
      go_ret
      exact ⟨by rw [hv.out]; rfl, HL.out.be⟩
    · obtain ⟨G, x, hG⟩ := F.snoc hF
      obtain ⟨g, cp, sx, rfl, hg1, hg2, hcp, hsx, x0, x1, x2, x3, L, hL1, hL2⟩ := HL.out.pop hG
      obtain ⟨px, cx, rfl⟩ := hsx.is
      have hlb := HL.out.len
      have hfew := HL.out.few
      have hln : F.len = G.len + 1 := by rw [hG, Fo.len_app]; rfl
      rw [hln] at hlb
      have HX := Bx.mk hsx
      have HO := Bx.mk (show ∃ L, wr.ownsRow w.heap.size 36 4 (.slice (some ⟨g, 0, none⟩) G.len cp) G.len L ∧ RowF wr (fun g => g < w.heap.size) G L from ⟨L, hL1, hL2⟩)
      have HG := Bx.mk hG
      have HB := Bx.mk (show G.len ≤ 3 * k ∧ k ≤ 4000 from ⟨by omega, hfew⟩)
      have HC := Bx.mk hcp
      have HGl := Bx.mk (show g < wr.heap.size ∧ w.heap.size ≤ g from ⟨hg2, hg1⟩)
      generalize hm : G.len = m at HB HC HO x0 x1 x2 x3
      have HM := Bx.mk hm
      clear hsx hL1 hL2 hG hln hF hlb hfew hcp hg1 hg2
      try rw [hm]
      clear hm
      have HW := Bx.mk (show wrap64 (m : Int) = (m : Int) from w64 _ (by have := HB.out; omega))
      have hwn : (wrap64 (m : Int)).toNat = m := by rw [HW.out, Int.toNat_natCast]
      have b1 : 0 ≤ wrap64 (m : Int) := by rw [HW.out]; omega
      have b2 : wrap64 (m : Int) < (m : Int) + 1 := by rw [HW.out]; omega
      have b3 : wrap64 (m : Int) ≤ (cp : Int) := by rw [HW.out]; have := HC.out; omega
      rw [← hwn] at x0 x1 x2 x3
      clear hwn
      by_cases hk : (k : Int) ≥ 4000
      · go_wp2_with fail
        go_ret
        refine ⟨?_, HL.out.be.alloc HL.out.be.size _⟩
        have hv : Ex.is t = false := by
          rw [HL.out.val, HG.out, Fo.nodes_app]
          have h1 : (x.on .nil).nodes = 1 + x.kids.nodes + 0 := rfl
          rw [h1, decide_eq_false (by omega)]
          rfl
        rw [hv]
        rfl
      · have hbx := boxE wr x.k x.a x.v (.slice px x.kids.len cx)
        have hbe := HL.out.be.alloc HL.out.be.size (.cells #[.int .i64 x.k, .int .i64 x.a, .int .i64 x.v, .slice px x.kids.len cx] 36)
        obtain ⟨y0, y1, y2, y3, _, _, _, _⟩ := cells4 hbx
        have HBX := Bx.mk hbx
        have HBE := Bx.mk hbe
        have hzz := alloc_size wr (.cells #[.int .i64 x.k, .int .i64 x.a, .int .i64 x.v, .slice px x.kids.len cx] 36)
        have HZ := Bx.mk hzz
        clear hbx hbe hzz
        have HP := Bx.mk (plain_any x px cx)
        unfold Ev at HP
        go_wp2_with fail
        refine (HP.out _).mono ?_
        rintro e w2 ⟨rfl, hb2⟩
        have hbx2 := HBX.out.below hb2 (by rw [HZ.out]; omega)
        obtain ⟨z0, z1, z2, z3, _, _, _, _⟩ := cells4 hbx2
        have HB2 := Bx.mk hb2
        clear hb2 hbx2 y0 y1 y2 y3
        cases hpl : Ex.plain x with
        | false =>
          have hv : Bx (Ex.is t = false) := ⟨by rw [HL.out.val, HG.out, Fo.allPlain_app]; simp [Tr.on, Fo.allPlain, hpl]⟩
          clear hpl
          go_wp2_with fail
          go_ret
          exact ⟨by rw [hv.out]; rfl, HBE.out.trans (HB2.out.mono (by have := HBE.out.size; omega))⟩
        | true =>
          have HPL := Bx.mk hpl
          clear hpl
          simp only [HW.out, Int.toNat_natCast]
          obtain ⟨v', w', hr, hbe', hown'⟩ := IsL.push (G := G) (x := x) (HBE.out.trans (HB2.out.mono (by have := HBE.out.size; omega))) (by
              obtain ⟨L, h1, h2⟩ := HO.out
              rw [HM.out]
              have hgl := HGl.out
              refine ⟨L, (h1.kept (World.grownBy_alloc wr (.cells #[.int .i64 x.k, .int .i64 x.a, .int .i64 x.v, .slice px x.kids.len cx] 36) none) (by simp [Value.ownBlock])).kept (below_gr HB2.out) (by simp [Value.ownBlock]), (h2.kept fun g _ hl => Below.heap_alloc _ _ _ hl).kept fun g _ hl => HB2.out.block g hl⟩)
            ((HX.out.alloc _).below HB2.out) (by
              have h3 : x.kids.len = Ex.kids x.k := by have := HPL.out; unfold Ex.plain at this; simp at this; exact this.1.2
              have h4 := Ex.kids_le x.k
              have := HB.out; rw [HM.out]; omega) 34
          have HBE' := Bx.mk hbe'
          have HOW' := Bx.mk hown'
          clear hbe' hown'
          go_wp2_with (refine wpList_app _ _ _ _ hr rfl rfl rfl rfl ?_)
          have h3 : x.kids.len = Ex.kids x.k := by have := HPL.out; unfold Ex.plain at this; simp at this; exact this.1.2
          have h4 := Ex.kids_le x.k
          have h5 := HB.out
          refine ⟨⟨k + 1, G.app x.kids, by go_num, HBE'.out, HOW'.out, by omega, by rw [Fo.len_app, HM.out]; omega, ?_⟩, by simp [intOf]; omega⟩
          rw [HL.out.val, HG.out, Fo.nodes_app, Fo.allPlain_app, Fo.nodes_app, Fo.allPlain_app]
          have e1 : (x.on .nil).nodes = 1 + x.kids.nodes + 0 := rfl
          have e2 : (x.on .nil).allPlain = (Ex.plain x && x.kids.allPlain && true) := rfl
          rw [e1, e2, HPL.out]
          have e3 : k + (G.nodes + (1 + x.kids.nodes + 0)) = k + 1 + (G.nodes + x.kids.nodes) := by omega
          rw [e3]
          simp
end Go.Proofs.Ytfgokhafiffbaaa
