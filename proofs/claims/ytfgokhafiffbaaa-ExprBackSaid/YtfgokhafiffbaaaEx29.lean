/-
  Formulas: put whole, Print.
-/
import Derived.Test.YtfgokhafiffbaaaEx27
namespace Go.Proofs.Ytfgokhafiffbaaa
set_option linter.unusedVariables false
open Go.RowKit Go.Lib

theorem kidB_of {w : World} {base : Nat} {k a v : Int} {kk rest : Fo} {b o : Nat} (h : RdF w (fun g => g < base) (.cons k a v kk rest) b o) : ∃ sx, KidB w base b o ⟨k, a, v, kk⟩ sx ∧ RdF w (fun g => g < base) rest b (o + 4) := by
  obtain ⟨hb, h0, h1, h2, ⟨p, cap, b', o', h3, hp, hc, hk⟩, hr⟩ := h
  exact ⟨_, ⟨hb, h0, h1, h2, h3, ⟨p, cap, b', o', rfl, hp, hc, hk⟩⟩, hr⟩
theorem Fo.prs_on (t : Tr) (r : Fo) : (t.on r).prs = Ex.pr t :: r.prs := rfl
set_option maxHeartbeats 1000000 in
theorem Pw.succ (n : Nat) (ih : Pw n) : Pw (n + 1) := by
  intro t sl base v l u hn hp hs ho hb hl
  rw [Fo.nodes_on] at hn hl
  rw [Fo.allPlain_on, Bool.and_eq_true, Bool.and_eq_true] at hp
  obtain ⟨⟨hpl, hka⟩, _⟩ := hp
  obtain ⟨h1, h2, h3, h4, h5⟩ := plain_shape hpl
  obtain ⟨k, a, vv, kids⟩ := t
  simp only [] at h1 h2 h3 h4 h5 hn hka hs hl
  have hnil : (Fo.nil).nodes = 0 := rfl
  rw [hnil] at hn hl
  obtain ⟨p, cap, b, o, rfl, hpn, hcap, hr⟩ := hs
  unfold Ev Ex.pr
  simp only []
  have hc : k = 1 ∨ k = 2 ∨ k = 3 ∨ (4 ≤ k ∧ k ≤ 8) ∨ k = 9 ∨ k = 10 ∨ k = 11 := by omega
  have a0 : (k = 1 ∨ k = 2) → kids = .nil := fun h => Fo.len0 (by rw [h3, Ex.kids0 (by omega)])
  have hone : ∀ (x : Tr), kids = x.on .nil → ∃ sx, p = some ⟨b, o, none⟩ ∧ KidB u base b o x sx ∧ (x.on .nil).nodes ≤ n ∧ (x.on .nil).allPlain = true := fun x e => by
    subst e
    obtain ⟨sx, K, _⟩ := kidB_of hr
    rw [Fo.nodes_on] at hn
    refine ⟨sx, ?_, K, by rw [Fo.nodes_on]; omega, hka⟩
    rcases hpn with ⟨e, _⟩ | e
    · cases e
    · exact e
  have htwo : ∀ (x y : Tr), kids = x.on (y.on .nil) → ∃ sx sy, p = some ⟨b, o, none⟩ ∧ (KidB u base b o x sx ∧ (x.on .nil).nodes ≤ n ∧ (x.on .nil).allPlain = true) ∧ (KidB u base b (o + 4) y sy ∧ (y.on .nil).nodes ≤ n ∧ (y.on .nil).allPlain = true) := fun x y e => by
    subst e
    obtain ⟨sx, K, hr2⟩ := kidB_of hr
    obtain ⟨sy, K2, _⟩ := kidB_of hr2
    rw [Fo.nodes_on, Fo.nodes_on] at hn
    rw [Fo.allPlain_on, Bool.and_eq_true] at hka
    refine ⟨sx, sy, ?_, ⟨K, by rw [Fo.nodes_on]; omega, by rw [Fo.allPlain_on, hka.1]; rfl⟩, ⟨K2, by rw [Fo.nodes_on]; omega, hka.2⟩⟩
    rcases hpn with ⟨e, _⟩ | e
    · cases e
    · exact e
  have hthree : ∀ (x y z : Tr), kids = x.on (y.on (z.on .nil)) → ∃ sx sy sz, p = some ⟨b, o, none⟩ ∧ (KidB u base b o x sx ∧ (x.on .nil).nodes ≤ n ∧ (x.on .nil).allPlain = true) ∧ (KidB u base b (o + 4) y sy ∧ (y.on .nil).nodes ≤ n ∧ (y.on .nil).allPlain = true) ∧ (KidB u base b (o + 8) z sz ∧ (z.on .nil).nodes ≤ n ∧ (z.on .nil).allPlain = true) := fun x y z e => by
    subst e
    obtain ⟨sx, K, hr2⟩ := kidB_of hr
    obtain ⟨sy, K2, hr3⟩ := kidB_of hr2
    obtain ⟨sz, K3, _⟩ := kidB_of hr3
    rw [Fo.nodes_on, Fo.nodes_on, Fo.nodes_on] at hn
    rw [Fo.allPlain_on, Bool.and_eq_true, Fo.allPlain_on y, Bool.and_eq_true (Ex.plain y && y.kids.allPlain)] at hka
    refine ⟨sx, sy, sz, ?_, ⟨K, by rw [Fo.nodes_on]; omega, by rw [Fo.allPlain_on, hka.1]; rfl⟩, ⟨K2, by rw [Fo.nodes_on]; omega, by rw [Fo.allPlain_on, hka.2.1]; rfl⟩, ⟨K3, by rw [Fo.nodes_on]; omega, hka.2.2⟩⟩
    rcases hpn with ⟨e, _⟩ | e
    · cases e
    · exact e
  have k1 : (k = 3 ∨ k = 10 ∨ k = 11) → kids.len = 1 := fun h => by rw [h3, Ex.kids1 h]
  have k2 : (4 ≤ k ∧ k ≤ 8) → kids.len = 2 := fun h => by rw [h3, Ex.kids2 h]
  have k3 : k = 9 → kids.len = 3 := fun h => by rw [h3, Ex.kids3 h]
  have hv8 : (k = 1 ∨ k = 2 ∨ k = 10 ∨ k = 11) → ∃ m : Nat, vv = (m : Int) ∧ m < 8 := fun h => by
    have ht : Ex.top k ≤ 7 := by unfold Ex.top; repeat' split
                                 all_goals omega
    exact ⟨vv.toNat, by omega, by omega⟩
  rcases hc with rfl | rfl | rfl | hk | rfl | rfl | rfl
  · have e := a0 (.inl rfl); subst e
    obtain ⟨m, rfl, hm⟩ := hv8 (.inl rfl)
    exact put_1 n ih a m hm p cap base v l u ho hb (by rw [hnil] at hl; omega)
  · have e := a0 (.inr rfl); subst e
    obtain ⟨m, rfl, hm⟩ := hv8 (.inr (.inl rfl))
    exact put_2 n ih a m hm p cap base v l u ho hb (by rw [hnil] at hl; omega)
  · obtain ⟨x, e⟩ := Fo.len1 (k1 (by omega))
    obtain ⟨sx, rfl, K, hx, px⟩ := hone x e
    subst e
    rw [Fo.nodes_on, hnil] at hl
    exact put_3 n ih a vv b o cap base v l u x sx K hx px ho hb (by rw [Fo.nodes_on, hnil]; omega)
  · obtain ⟨x, y, e⟩ := Fo.len2 (k2 hk)
    obtain ⟨sx, sy, rfl, ⟨K, hx, px⟩, K2, hy, py⟩ := htwo x y e
    subst e
    rw [Fo.nodes_on, Fo.nodes_on, hnil] at hl
    exact put_4 n ih k hk a vv b o cap base v l u x sx K hx px y sy K2 hy py ho hb (by rw [Fo.nodes_on, Fo.nodes_on, hnil]; omega)
  · obtain ⟨x, y, z, e⟩ := Fo.len3 (k3 rfl)
    obtain ⟨sx, sy, sz, rfl, ⟨K, hx, px⟩, ⟨K2, hy, py⟩, K3, hz, pz⟩ := hthree x y z e
    subst e
    rw [Fo.nodes_on, Fo.nodes_on, Fo.nodes_on, hnil] at hl
    exact put_9 n ih a vv b o cap base v l u x sx K hx px y sy K2 hy py z sz K3 hz pz ho hb (by rw [Fo.nodes_on, Fo.nodes_on, Fo.nodes_on, hnil]; omega)
  · obtain ⟨x, e⟩ := Fo.len1 (k1 (by omega))
    obtain ⟨sx, rfl, K, hx, px⟩ := hone x e
    obtain ⟨m, rfl, hm⟩ := hv8 (.inr (.inr (.inl rfl)))
    subst e
    rw [Fo.nodes_on, hnil] at hl
    exact put_10 n ih a m hm b o cap base v l u x sx K hx px ho hb (by rw [Fo.nodes_on, hnil]; omega)
  · obtain ⟨x, e⟩ := Fo.len1 (k1 (by omega))
    obtain ⟨sx, rfl, K, hx, px⟩ := hone x e
    obtain ⟨m, rfl, hm⟩ := hv8 (.inr (.inr (.inr rfl)))
    subst e
    rw [Fo.nodes_on, hnil] at hl
    exact put_11 n ih a m hm b o cap base v l u x sx K hx px ho hb (by rw [Fo.nodes_on, hnil]; omega)
theorem Pw.all : ∀ n, Pw n
  | 0 => fun t sl base v l u h => by rw [Fo.nodes_on] at h; omega
  | n + 1 => Pw.succ n (Pw.all n)
/-- what a formula is printed as; nothing where it is none -/
def Ex.print (t : Tr) : List UInt8 := if Ex.is t then Ex.pr t else []
theorem Ex.pr_ne (t : Tr) : Ex.pr t ≠ [] := by
  unfold Ex.pr Ex.prk
  repeat' split
  all_goals simp
theorem Ex.is_nodes {t : Tr} (h : Ex.is t = true) : (t.on .nil).nodes ≤ 4000 ∧ (t.on .nil).allPlain = true := by
  unfold Ex.is at h
  rw [Bool.and_eq_true] at h
  exact ⟨of_decide_eq_true h.1, h.2⟩
set_option maxHeartbeats 4000000 in
theorem print_any (t : Tr) (sl : Value) (B : Nat → Prop) (w : World) (hs : SlF w B sl t.kids) :
    Calls Try.prog 16 #[Ev t sl] w fun e w' => e = .returned (.string ⟨(Ex.print t).toArray⟩) ∧ Below w.heap.size w w' := by
  obtain ⟨pp, cap, rfl⟩ := hs.is
  have hb := boxE w t.k t.a t.v (.slice pp t.kids.len cap)
  have hbe := (Below.refl w.heap.size w).alloc (Nat.le_refl _) (.cells #[.int .i64 t.k, .int .i64 t.a, .int .i64 t.v, .slice pp t.kids.len cap] 36)
  have hsA := (hs.mono' (B' := fun g => g < w.heap.size) fun g hg _ => hg).alloc (.cells #[.int .i64 t.k, .int .i64 t.a, .int .i64 t.v, .slice pp t.kids.len cap] 36)
  have HB := Bx.mk hb
  have HBE := Bx.mk hbe
  have HSA := Bx.mk hsA
  have hI := is_any t _ _ _ hsA
  unfold Ev at hI ⊢
  have HI := Bx.mk hI
  obtain ⟨c0, c1, c2, c3, _, _, _, _⟩ := cells4 hb
  clear hI hb hbe hsA hs
  unfold Ex.print
  cases hi : Ex.is t with
  | false =>
    rw [hi] at HI
    have HI := Bx.mk HI.out
    clear hi
    go_enter Try.func16, Try.ntmps16
    go_wp2_with fail
    refine HI.out.mono ?_
    rintro e w1 ⟨rfl, hb1⟩
    have HBE1 := Bx.mk (HBE.out.trans (hb1.mono HBE.out.size))
    clear hb1 c0 c1 c2 c3
    go_wp2_with fail
    go_ret
    exact ⟨rfl, HBE1.out⟩
  | true =>
    rw [hi] at HI
    have HX := Bx.mk (Ex.is_nodes hi)
    clear hi
    go_enter Try.func16, Try.ntmps16
    go_wp2_with fail
    refine HI.out.mono ?_
    rintro e w1 ⟨rfl, hb1⟩
    have hb2 := HB.out.below hb1 HB.out.lt
    have HBE1 := Bx.mk (HBE.out.trans (hb1.mono HBE.out.size))
    have hs1 := HSA.out.below hb1
    have HP := Bx.mk (Pw.all _ t _ w1.heap.size (.slice none 0 0) [] w1 (Nat.le_refl _) HX.out.2 (hs1.mono' (B' := fun g => g < w1.heap.size) fun g hg _ => hg) (OwnB.nil w1 _) (Nat.le_refl _) (by have := HX.out.1; simp only [List.length_nil]; omega))
    unfold Ev at HP
    obtain ⟨c0, c1, c2, c3, _, _, _, _⟩ := cells4 hb2
    clear hb1 hb2 hs1
    go_wp2_with fail
    refine HP.out.mono ?_
    rintro e w2 ⟨v, rfl, ho, hf⟩
    have hC := ho.str (by simpa using Ex.pr_ne t)
    have HB3 := Bx.mk (Fr.to_below HBE1.out hf (fun k hk => by cases hk) HBE1.out.size)
    rw [List.nil_append] at hC
    clear ho hf c0 c1 c2 c3
    go_wp2_with fail
    go_ret
    exact ⟨rfl, HB3.out⟩
end Go.Proofs.Ytfgokhafiffbaaa
