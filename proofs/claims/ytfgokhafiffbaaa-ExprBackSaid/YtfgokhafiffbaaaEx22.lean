/-
  Formulas: table whole, Func.
-/
import Derived.Test.YtfgokhafiffbaaaEx21
namespace Go.Proofs.Ytfgokhafiffbaaa
set_option linter.unusedVariables false
open Go.RowKit

theorem kid_of {w : World} {B : Nat → Prop} {k a v : Int} {kk rest : Fo} {b o : Nat} (h : RdF w B (.cons k a v kk rest) b o) : ∃ sx, Kid w b o ⟨k, a, v, kk⟩ sx ∧ RdF w B rest b (o + 4) := by
  obtain ⟨hb, h0, h1, h2, ⟨p, cap, b', o', h3, hp, hc, hk⟩, hr⟩ := h
  refine ⟨_, ⟨World.block_lt_of_cell? w _ h0, h0, h1, h2, h3, ?_⟩, hr⟩
  exact SlF.mono' (B := B) ⟨p, cap, b', o', rfl, hp, hc, hk⟩ fun g hg _ => hg
theorem Fo.nodes_on (t : Tr) (r : Fo) : (t.on r).nodes = 1 + t.kids.nodes + r.nodes := rfl
theorem Fo.allPlain_on (t : Tr) (r : Fo) : (t.on r).allPlain = (Ex.plain t && t.kids.allPlain && r.allPlain) := rfl
/-- the kinds of a right node, and its kids -/
theorem plain_shape {t : Tr} (h : Ex.plain t = true) : 1 ≤ t.k ∧ t.k ≤ 11 ∧ t.kids.len = Ex.kids t.k ∧ 0 ≤ t.v ∧ t.v ≤ Ex.top t.k := by
  unfold Ex.plain at h
  simp at h
  exact ⟨h.1.1.1, h.1.1.2, h.1.2, h.2.1, h.2.2⟩
theorem Fo.len0 {F : Fo} (h : F.len = 0) : F = .nil := by cases F with | nil => rfl | cons => simp [Fo.len] at h
theorem Fo.len1 {F : Fo} (h : F.len = 1) : ∃ x : Tr, F = x.on .nil := by
  cases F with
  | nil => simp [Fo.len] at h
  | cons k a v kids rest => exact ⟨⟨k, a, v, kids⟩, by rw [Fo.len0 (F := rest) (by simpa [Fo.len] using h)]; rfl⟩
theorem Fo.len2 {F : Fo} (h : F.len = 2) : ∃ x y : Tr, F = x.on (y.on .nil) := by
  cases F with
  | nil => simp [Fo.len] at h
  | cons k a v kids rest =>
    obtain ⟨y, rfl⟩ := Fo.len1 (F := rest) (by simpa [Fo.len] using h)
    exact ⟨⟨k, a, v, kids⟩, y, rfl⟩
theorem Fo.len3 {F : Fo} (h : F.len = 3) : ∃ x y z : Tr, F = x.on (y.on (z.on .nil)) := by
  cases F with
  | nil => simp [Fo.len] at h
  | cons k a v kids rest =>
    obtain ⟨y, z, rfl⟩ := Fo.len2 (F := rest) (by simpa [Fo.len] using h)
    exact ⟨⟨k, a, v, kids⟩, y, z, rfl⟩
theorem Tz.succ (n : Nat) (ih : Tz n) : Tz (n + 1) := by
  intro t sl B u hn hp hs
  rw [Fo.nodes_on] at hn
  rw [Fo.allPlain_on, Bool.and_eq_true, Bool.and_eq_true] at hp
  obtain ⟨⟨hpl, hka⟩, _⟩ := hp
  obtain ⟨h1, h2, h3, h4, h5⟩ := plain_shape hpl
  obtain ⟨k, a, v, kids⟩ := t
  simp only [] at h1 h2 h3 h4 h5 hn hka hs
  have hnil : (Fo.nil).nodes = 0 := rfl
  rw [hnil] at hn
  obtain ⟨p, cap, b, o, rfl, hpn, hcap, hr⟩ := hs
  unfold Ev Ex.table
  simp only []
  have hc : k = 1 ∨ k = 2 ∨ k = 3 ∨ k = 4 ∨ k = 5 ∨ k = 6 ∨ k = 7 ∨ k = 8 ∨ k = 9 ∨ k = 10 ∨ k = 11 := by omega
  have a0 : (k = 1 ∨ k = 2) → kids = .nil := fun h => Fo.len0 (by rw [h3, Ex.kids0 (by omega)])
  have hone : ∀ (x : Tr), kids = x.on .nil → ∃ sx, p = some ⟨b, o, none⟩ ∧ Kid u b o x sx ∧ (x.on .nil).nodes ≤ n ∧ (x.on .nil).allPlain = true := fun x e => by
    subst e
    obtain ⟨sx, K, _⟩ := kid_of hr
    rw [Fo.nodes_on] at hn
    refine ⟨sx, ?_, K, by rw [Fo.nodes_on]; omega, hka⟩
    rcases hpn with ⟨e, _⟩ | e
    · cases e
    · exact e
  have htwo : ∀ (x y : Tr), kids = x.on (y.on .nil) → ∃ sx sy, p = some ⟨b, o, none⟩ ∧ (Kid u b o x sx ∧ (x.on .nil).nodes ≤ n ∧ (x.on .nil).allPlain = true) ∧ (Kid u b (o + 4) y sy ∧ (y.on .nil).nodes ≤ n ∧ (y.on .nil).allPlain = true) := fun x y e => by
    subst e
    obtain ⟨sx, K, hr2⟩ := kid_of hr
    obtain ⟨sy, K2, _⟩ := kid_of hr2
    rw [Fo.nodes_on, Fo.nodes_on] at hn
    rw [Fo.allPlain_on, Bool.and_eq_true] at hka
    refine ⟨sx, sy, ?_, ⟨K, by rw [Fo.nodes_on]; omega, by rw [Fo.allPlain_on, hka.1]; rfl⟩, ⟨K2, by rw [Fo.nodes_on]; omega, hka.2⟩⟩
    rcases hpn with ⟨e, _⟩ | e
    · cases e
    · exact e
  have hthree : ∀ (x y z : Tr), kids = x.on (y.on (z.on .nil)) → ∃ sx sy sz, p = some ⟨b, o, none⟩ ∧ (Kid u b o x sx ∧ (x.on .nil).nodes ≤ n ∧ (x.on .nil).allPlain = true) ∧ (Kid u b (o + 4) y sy ∧ (y.on .nil).nodes ≤ n ∧ (y.on .nil).allPlain = true) ∧ (Kid u b (o + 4 + 4) z sz ∧ (z.on .nil).nodes ≤ n ∧ (z.on .nil).allPlain = true) := fun x y z e => by
    subst e
    obtain ⟨sx, K, hr2⟩ := kid_of hr
    obtain ⟨sy, K2, hr3⟩ := kid_of hr2
    obtain ⟨sz, K3, _⟩ := kid_of hr3
    rw [Fo.nodes_on, Fo.nodes_on, Fo.nodes_on] at hn
    rw [Fo.allPlain_on, Bool.and_eq_true, Fo.allPlain_on y, Bool.and_eq_true (Ex.plain y && y.kids.allPlain)] at hka
    refine ⟨sx, sy, sz, ?_, ⟨K, by rw [Fo.nodes_on]; omega, by rw [Fo.allPlain_on, hka.1]; rfl⟩, ⟨K2, by rw [Fo.nodes_on]; omega, by rw [Fo.allPlain_on, hka.2.1]; rfl⟩, ⟨K3, by rw [Fo.nodes_on]; omega, hka.2.2⟩⟩
    rcases hpn with ⟨e, _⟩ | e
    · cases e
    · exact e
  have k1 : (k = 3 ∨ k = 10 ∨ k = 11) → kids.len = 1 := fun h => by rw [h3, Ex.kids1 h]
  have k2 : (4 ≤ k ∧ k ≤ 8) → kids.len = 2 := fun h => by rw [h3, Ex.kids2 h]
  have k3 : k = 9 → kids.len = 3 := fun h => by rw [h3, Ex.kids3 h]
  have hv8 : (k = 10 ∨ k = 11) → ∃ m : Nat, v = (m : Int) ∧ m < 8 := fun h => by
    have ht : Ex.top k = 7 := by unfold Ex.top; rw [if_pos (by omega)]
    rw [ht] at h5
    exact ⟨v.toNat, by omega, by omega⟩
  rcases hc with rfl | rfl | rfl | rfl | rfl | rfl | rfl | rfl | rfl | rfl | rfl
  · have e := a0 (.inl rfl); subst e
    exact table_1 n ih a v p cap u
  · have e := a0 (.inr rfl); subst e
    exact table_2 n ih a v p cap u
  · obtain ⟨x, e⟩ := Fo.len1 (k1 (by omega))
    obtain ⟨sx, rfl, K, hx, px⟩ := hone x e
    subst e
    exact table_3 n ih a v b o cap u x sx K hx px
  · obtain ⟨x, y, e⟩ := Fo.len2 (k2 (by omega))
    obtain ⟨sx, sy, rfl, ⟨K, hx, px⟩, K2, hy, py⟩ := htwo x y e
    subst e
    exact table_4 n ih a v b o cap u x sx K hx px y sy K2 hy py
  · obtain ⟨x, y, e⟩ := Fo.len2 (k2 (by omega))
    obtain ⟨sx, sy, rfl, ⟨K, hx, px⟩, K2, hy, py⟩ := htwo x y e
    subst e
    exact table_5 n ih a v b o cap u x sx K hx px y sy K2 hy py
  · obtain ⟨x, y, e⟩ := Fo.len2 (k2 (by omega))
    obtain ⟨sx, sy, rfl, ⟨K, hx, px⟩, K2, hy, py⟩ := htwo x y e
    subst e
    exact table_6 n ih a v b o cap u x sx K hx px y sy K2 hy py
  · obtain ⟨x, y, e⟩ := Fo.len2 (k2 (by omega))
    obtain ⟨sx, sy, rfl, ⟨K, hx, px⟩, K2, hy, py⟩ := htwo x y e
    subst e
    exact table_7 n ih a v b o cap u x sx K hx px y sy K2 hy py
  · obtain ⟨x, y, e⟩ := Fo.len2 (k2 (by omega))
    obtain ⟨sx, sy, rfl, ⟨K, hx, px⟩, K2, hy, py⟩ := htwo x y e
    subst e
    exact table_8 n ih a v b o cap u x sx K hx px y sy K2 hy py
  · obtain ⟨x, y, z, e⟩ := Fo.len3 (k3 rfl)
    obtain ⟨sx, sy, sz, rfl, ⟨K, hx, px⟩, ⟨K2, hy, py⟩, K3, hz, pz⟩ := hthree x y z e
    subst e
    exact table_9 n ih a v b o cap u x sx K hx px y sy K2 hy py z sz K3 hz pz
  · obtain ⟨x, e⟩ := Fo.len1 (k1 (by omega))
    obtain ⟨sx, rfl, K, hx, px⟩ := hone x e
    obtain ⟨m, rfl, hm⟩ := hv8 (.inl rfl)
    subst e
    exact table_10 n ih a m hm b o cap u x sx K hx px
  · obtain ⟨x, e⟩ := Fo.len1 (k1 (by omega))
    obtain ⟨sx, rfl, K, hx, px⟩ := hone x e
    obtain ⟨m, rfl, hm⟩ := hv8 (.inr rfl)
    subst e
    exact table_11 n ih a m hm b o cap u x sx K hx px
theorem Tz.all : ∀ n, Tz n
  | 0 => fun t sl B u h => by rw [Fo.nodes_on] at h; omega
  | n + 1 => Tz.succ n (Tz.all n)
theorem table_any (t : Tr) (sl : Value) (B : Nat → Prop) (u : World) (hp : (t.on .nil).allPlain = true) (hs : SlF u B sl t.kids) :
    Calls Try.prog 33 #[Ev t sl] u fun e w' => e = .returned (Tb.tv (Ex.table t)) ∧ Below u.heap.size u w' := Tz.all _ t sl B u (Nat.le_refl _) hp hs
/-- a formula's function; nought where it is none -/
def Ex.func (t : Tr) : Tb.T := if Ex.is t then Ex.table t else 0#256
set_option maxHeartbeats 4000000 in
theorem func_any (t : Tr) (sl : Value) (B : Nat → Prop) (w : World) (hs : SlF w B sl t.kids) :
    Calls Try.prog 14 #[Ev t sl] w fun e w' => e = .returned (Tb.tv (Ex.func t)) ∧ Below w.heap.size w w' := by
  obtain ⟨pp, cap, rfl⟩ := hs.is
  have hb1 := boxE w t.k t.a t.v (.slice pp t.kids.len cap)
  have hb2 := Blk.new (w.alloc (.cells #[.int .i64 t.k, .int .i64 t.a, .int .i64 t.v, .slice pp t.kids.len cap] 36)) 29 (Tb.tcells 0#256)
  have hs2 := (hs.alloc (.cells #[.int .i64 t.k, .int .i64 t.a, .int .i64 t.v, .slice pp t.kids.len cap] 36)).alloc (.cells (Tb.tcells 0#256) 29)
  have hbe := ((Below.refl w.heap.size w).alloc (Nat.le_refl _) (.cells #[.int .i64 t.k, .int .i64 t.a, .int .i64 t.v, .slice pp t.kids.len cap] 36)).alloc (by rw [alloc_size]; omega) (.cells (Tb.tcells 0#256) 29)
  have hb1' := hb1.alloc (.cells (Tb.tcells 0#256) 29)
  rw [alloc_size] at hb2
  have hI := Bx.mk (is_any t _ B _ hs2)
  have HB1 := Bx.mk hb1'
  have HB2 := Bx.mk hb2
  have HS := Bx.mk hs2
  have HBE := Bx.mk hbe
  clear hb1 hb1' hb2 hs2 hbe hs
  unfold Ev at hI ⊢
  go_enter Try.func14, Try.ntmps14
  go_wp2_with fail
  rw [zeros_tab]
  refine hI.out.mono ?_
  rintro e w1 ⟨rfl, hb⟩
  have h1 := HB1.out.below hb (by rw [alloc_size, alloc_size]; omega)
  have h2 := HB2.out.below hb (by rw [alloc_size, alloc_size]; omega)
  have h3 := HS.out.below hb
  have h4 := HBE.out.trans (hb.mono (by rw [alloc_size, alloc_size]; omega))
  obtain ⟨c0, c1, c2, c3, _, _, _, _⟩ := cells4 h1
  obtain ⟨⟨r0, r1, r2, r3⟩, g0, g1, g2, g3⟩ := tfacts h2
  have H2 := Bx.mk h2
  have H4 := Bx.mk h4
  have z0 := Tb.wd_zero 0
  have z1 := Tb.wd_zero 1
  have z2 := Tb.wd_zero 2
  have z3 := Tb.wd_zero 3
  cases hi : Ex.is t with
  | false =>
    have hF : Ex.func t = 0#256 := by unfold Ex.func; rw [hi]; rfl
    have HF := Bx.mk hF
    have HSf := Bx.mk (store4 (F := 0#256) h2)
    have HBf := Bx.mk (below4 (F := 0#256) (p := w.heap.size + 1) h4 (by omega))
    rw [z0, z1, z2, z3] at HSf HBf
    clear hF h1 h2 h3 h4 hb hi z0 z1 z2 z3
    go_wp2_with fail
    clear r0 r1 r2 r3 g0 g1 g2 g3
    obtain ⟨⟨r0, r1, r2, r3⟩, _, _, _, _⟩ := tfacts HSf.out
    refine bodyPost_ret (v := Tb.tv 0#256) (by simp [results, Try.results14, go_sem, r0, r1, r2, r3] <;> rfl) rfl ⟨by rw [HF.out], HBf.out⟩
  | true =>
    have hF : Ex.func t = Ex.table t := by unfold Ex.func; rw [hi]; rfl
    have HF := Bx.mk hF
    have hp : (t.on .nil).allPlain = true := by unfold Ex.is at hi; rw [Bool.and_eq_true] at hi; exact hi.2
    have HT := Bx.mk (table_any t _ B w1 hp h3)
    unfold Ev at HT
    clear hF h1 h2 h3 h4 hb hi hp z0 z1 z2 z3
    go_wp2_with fail
    refine HT.out.mono ?_
    rintro e w2 ⟨rfl, hb2⟩
    have h5 := H2.out.below hb2 H2.out.lt
    have h6 := H4.out.trans (hb2.mono H4.out.size)
    clear r0 r1 r2 r3 g0 g1 g2 g3
    obtain ⟨⟨r0, r1, r2, r3⟩, g0, g1, g2, g3⟩ := tfacts h5
    generalize Ex.table t = R at HF ⊢
    have HSf := Bx.mk (store4 (F := R) h5)
    have HBf := Bx.mk (below4 (F := R) (p := w.heap.size + 1) h6 (by omega))
    clear h5 h6 hb2
    unfold Tb.tv
    go_wp2_with fail
    clear r0 r1 r2 r3 g0 g1 g2 g3
    obtain ⟨⟨r0, r1, r2, r3⟩, _, _, _, _⟩ := tfacts HSf.out
    refine bodyPost_ret (v := Tb.tv R) (by simp [results, Try.results14, go_sem, r0, r1, r2, r3] <;> rfl) rfl ⟨by rw [HF.out], HBf.out⟩
end Go.Proofs.Ytfgokhafiffbaaa
