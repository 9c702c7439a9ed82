/-
  Texts on which the laws of this seat rest, part 10 of 11.
-/
import Derived.Test.YthbifeoohphnpaaBa9
import Derived.Deep.CutBlock
/-
  Package logic: what an operation is; a child; results told and kept.
-/
namespace Go.Proofs.Ythbifeoohphnpaa
set_option linter.unusedVariables false
open Go.RowKit
/-- three handles -/
abbrev argV (a b c : Nat) : Value := .agg #[.int .u32 (a : Int), .int .u32 (b : Int), .int .u32 (c : Int)]
/-- an operation over a store -/
abbrev walkV (s op K : Nat) : Value := .agg #[.pointer (some ⟨s, 0, none⟩), .int .u8 (op : Int), .func (.func K) #[] #[]]
/-- what a function of ends tells -/
def EndsIs (K : Nat) (ends : Nat → Nat → Nat → Option Nat) : Prop := ∀ (a b c : Nat) (w : World), a < 65536 → b < 65536 → c < 65536 →
  Calls Try.prog K #[argV a b c] w fun e w' => (∃ x : Nat, e = .returned (.tuple #[.int .u32 (x : Int), .bool (ends a b c).isSome]) ∧ ∀ r, ends a b c = some r → x = r) ∧ Fr [] w w'
/-- an operation: its number, its function of ends -/
structure LOp (op K : Nat) (ends : Nat → Nat → Nat → Option Nat) : Prop where
  lt : op < 256
  pw : Tb.Pw (Tb.op op 0)
  ok : ∀ (S : Sto) (a b c r : Nat), S.Wf → S.is a = true → S.is b = true → S.is c = true → ends a b c = some r → S.is r = true ∧ S.tab r = Tb.op op 0 (S.tab a) (S.tab b) (S.tab c)
  no : ∀ a b c, a < 2 → b < 2 → c < 2 → ends a b c ≠ none
  walk : EndsIs K ends
  call : ∀ args w, (callFunc K args).run Try.prog w = .ok (.enter K args) w
theorem OpRes.after {base : Nat} {B : Bk} {w w1 w' : World} {S : Sto} {T : Tb.T} {c : Nat} {e : Ending} (hf : Fr [] w w1) (h : OpRes base B w1 S T c e w') : OpRes base B w S T c e w' := by
  obtain ⟨S', B', h1, h2, h3⟩ := h
  exact ⟨S', B', h1, Stp.after hf h2, h3⟩
theorem OpRes.same {base : Nat} {B : Bk} {w w' : World} {S : Sto} {T : Tb.T} {c r : Nat} {e : Ending} (G : StG w' base B S) (hs : Stp B w B w') (he : e = retHE r 0) (hi : S.is r = true) (ht : S.tab r = T) : OpRes base B w S T c e w' :=
  ⟨S, B, G, hs, Sto.Ext.refl _, Sto.New.refl _ _, by omega, .inl ⟨r, he, hi, ht⟩⟩
theorem OpRes.mono {base : Nat} {B : Bk} {w w' : World} {S : Sto} {T : Tb.T} {c c' : Nat} {e : Ending} (h : OpRes base B w S T c e w') (hc : c ≤ c') : OpRes base B w S T c' e w' := by
  obtain ⟨S', B', h1, h2, h3, h3n, h4, h5⟩ := h
  exact ⟨S', B', h1, h2, h3, h3n, by omega, h5⟩
/-- either way: a handle and a number -/
theorem OpRes.shape {base : Nat} {B : Bk} {w w' : World} {S : Sto} {T : Tb.T} {c : Nat} {e : Ending} (h : OpRes base B w S T c e w') :
    ∃ S' B', StG w' base B' S' ∧ Stp B w B' w' ∧ S.Ext S' ∧ S.New S' T ∧ S'.hi ≤ S.hi + c ∧ ∃ (p : Bool) (r : Nat), e = (if p then .returned (.tuple #[.int .u32 (r : Int), .int .i64 0]) else .returned (.tuple #[.int .u32 0, .int .i64 60])) ∧ if p then S'.is r = true ∧ S'.tab r = T else S'.room ≤ S'.len := by
  obtain ⟨S', B', h1, h2, h3, h3n, h4, h5⟩ := h
  refine ⟨S', B', h1, h2, h3, h3n, h4, ?_⟩
  rcases h5 with ⟨r, he, h6⟩ | ⟨he, h6⟩
  · exact ⟨true, r, by rw [he]; rfl, h6⟩
  · exact ⟨false, 0, by rw [he]; rfl, h6⟩
theorem Stp.fr0 {B : Bk} {w w' : World} (hf : Fr [] w w') : Stp B w B w' := ⟨hf.mono (by simp), fun b h => .inl h, rfl⟩
theorem Sto.Ext.sub {S S' : Sto} (E : S.Ext S') {l : Nat} {b : Bool} {h : Nat} (hi : S.is h = true) : S'.sub l b h = S.sub l b h := by
  unfold Sto.sub
  rw [E.lev hi]
  cases hg : S.get h with
  | none =>
    have h2 := S.is_none hi hg
    have hg' : S'.get h = none := Sto.get_small (by omega)
    unfold Sto.high Sto.low
    rw [hg, hg']
  | some nd =>
    have hg' := E.get h nd hg
    unfold Sto.high Sto.low
    rw [hg, hg']
/-! what reads a good store -/
section
variable {base : Nat} {B : Bk} {S : Sto} {w : World} {h : Nat}
theorem glevel_any (G : StG w base B S) (hi : S.is h = true) : Calls Try.prog 21 #[.pointer (some ⟨B.s, 0, none⟩), .int .u32 (h : Int)] w fun e w' => e = .returned (.int .i64 (S.lev h)) ∧ w' = w := by
  obtain ⟨L, h1⟩ := G.at_
  exact level_any base B S L w h1 h (by have := G.small hi; omega)
theorem gis_any (G : StG w base B S) (hh : h < 4294967296) : Calls Try.prog 32 #[.pointer (some ⟨B.s, 0, none⟩), .int .u32 (h : Int)] w fun e w' => e = .returned (.bool (S.is h)) ∧ w' = w := by
  obtain ⟨L, h1⟩ := G.at_
  exact is_any base B S L w h1 h hh
theorem glow_any (G : StG w base B S) (hi : S.is h = true) : Calls Try.prog 30 #[.pointer (some ⟨B.s, 0, none⟩), .int .u32 (h : Int)] w fun e w' => e = .returned (.int .u32 (S.low h : Int)) ∧ w' = w := by
  obtain ⟨L, h1⟩ := G.at_
  exact low_any base B S L w h1 h (by have := G.small hi; omega)
theorem ghigh_any (G : StG w base B S) (hi : S.is h = true) : Calls Try.prog 52 #[.pointer (some ⟨B.s, 0, none⟩), .int .u32 (h : Int)] w fun e w' => e = .returned (.int .u32 (S.high h : Int)) ∧ w' = w := by
  obtain ⟨L, h1⟩ := G.at_
  exact high_any base B S L w h1 h (by have := G.small hi; omega)
theorem gvars_any (G : StG w base B S) : Calls Try.prog 46 #[.pointer (some ⟨B.s, 0, none⟩)] w fun e w' => e = .returned (.int .i64 (S.n : Int)) ∧ w' = w := by
  obtain ⟨L, h1⟩ := G.at_
  exact vars_any base B S L w h1
end
set_option maxRecDepth 100000 in
/-- a child, or the node itself -/
theorem child_lo (base : Nat) (B : Bk) (S : Sto) (h l : Nat) (w : World) (G : StG w base B S) (hi : S.is h = true) :
    Calls Try.prog 124 #[.pointer (some ⟨B.s, 0, none⟩), .func (.func 30) #[] #[], .int .u32 (h : Int), .int .i64 (l : Int)] w fun e w' => e = .returned (.int .u32 (S.sub l false h : Int)) ∧ w' = w := by
  have HL := Bx.mk (glevel_any G hi)
  have HC := Bx.mk (glow_any G hi)
  have HE : Bx (S.sub l false h = if S.lev h = (l : Int) then S.low h else h) := ⟨by unfold Sto.sub; simp⟩
  clear G hi
  generalize S.sub l false h = r at *
  generalize S.lev h = v at *
  by_cases hv : v = (l : Int)
  · have hr : r = S.low h := by rw [HE.out, if_pos hv]
    rw [← hr] at HC
    subst hv
    clear hr HE
    go_enter Try.func124, Try.ntmps124
    go_wp2_with fail
    refine HL.out.mono ?_
    rintro e w1 ⟨rfl, rfl⟩
    go_wp2_with fail
    refine HC.out.mono ?_
    rintro e w1 ⟨rfl, rfl⟩
    go_wp2_with fail
    go_ret
    exact ⟨rfl, rfl⟩
  · have hr : r = h := by rw [HE.out, if_neg hv]
    subst hr
    have k0 : (v == (l : Int)) = false := by rw [beq_eq_false_iff_ne]; exact hv
    have k1 : (v != (l : Int)) = true := by rw [bne_iff_ne]; exact hv
    clear HE hv
    go_enter Try.func124, Try.ntmps124
    go_wp2_with fail
    refine HL.out.mono ?_
    rintro e w1 ⟨rfl, rfl⟩
    go_wp2_with fail
    go_ret
    exact ⟨rfl, rfl⟩
set_option maxRecDepth 100000 in
theorem child_hi (base : Nat) (B : Bk) (S : Sto) (h l : Nat) (w : World) (G : StG w base B S) (hi : S.is h = true) :
    Calls Try.prog 124 #[.pointer (some ⟨B.s, 0, none⟩), .func (.func 52) #[] #[], .int .u32 (h : Int), .int .i64 (l : Int)] w fun e w' => e = .returned (.int .u32 (S.sub l true h : Int)) ∧ w' = w := by
  have HL := Bx.mk (glevel_any G hi)
  have HC := Bx.mk (ghigh_any G hi)
  have HE : Bx (S.sub l true h = if S.lev h = (l : Int) then S.high h else h) := ⟨by unfold Sto.sub; simp⟩
  clear G hi
  generalize S.sub l true h = r at *
  generalize S.lev h = v at *
  by_cases hv : v = (l : Int)
  · have hr : r = S.high h := by rw [HE.out, if_pos hv]
    rw [← hr] at HC
    subst hv
    clear hr HE
    go_enter Try.func124, Try.ntmps124
    go_wp2_with fail
    refine HL.out.mono ?_
    rintro e w1 ⟨rfl, rfl⟩
    go_wp2_with fail
    refine HC.out.mono ?_
    rintro e w1 ⟨rfl, rfl⟩
    go_wp2_with fail
    go_ret
    exact ⟨rfl, rfl⟩
  · have hr : r = h := by rw [HE.out, if_neg hv]
    subst hr
    have k0 : (v == (l : Int)) = false := by rw [beq_eq_false_iff_ne]; exact hv
    have k1 : (v != (l : Int)) = true := by rw [bne_iff_ne]; exact hv
    clear HE hv
    go_enter Try.func124, Try.ntmps124
    go_wp2_with fail
    refine HL.out.mono ?_
    rintro e w1 ⟨rfl, rfl⟩
    go_wp2_with fail
    go_ret
    exact ⟨rfl, rfl⟩
/-! results told and kept, under all that -/
theorem nd9_f {s o t m c sl ca cm cc : Nat} (h : [s, o, t, m, c, sl, ca, cm, cc].Nodup) : ∀ b, b ∈ [s, o, t, m, c, sl, ca] → b ∉ [cm, cc] := by
  intro b hb hm
  simp only [List.nodup_cons, List.mem_cons, List.not_mem_nil, or_false, not_or] at h hb hm
  rcases hb with rfl | rfl | rfl | rfl | rfl | rfl | rfl <;> rcases hm with rfl | rfl <;> simp at h
theorem nd9_g {s o t m c sl ca cm cc : Nat} : ∀ b, b ∈ [cm, cc] → b ∈ [s, o, t, m, c, sl, ca, cm, cc] := by
  intro b hb
  simp only [List.mem_cons, List.not_mem_nil, or_false] at hb ⊢
  rcases hb with rfl | rfl <;> simp
theorem StAt.put_cac {w w' : World} {base : Nat} {B : Bk} {S : Sto} {L : List Nat} {ys : List Nat} (h : StAt w base B S L) (hc : CacAt w' B.ca B.cm B.cc ys) (hf : Fr [B.cm, B.cc] w w') : StAt w' base { B with ys := ys } S L ∧ Stp B w { B with ys := ys } w' := by
  obtain ⟨n1, n2, n3⟩ := nodup9 h.nd
  have m7 := nd9_f n1
  have mv : ∀ b, b ∈ [B.cm, B.cc] → b ∈ [B.s, B.o, B.t, B.m, B.c, B.sl, B.ca, B.cm, B.cc] := nd9_g
  exact ⟨⟨h.hd.fr hf (m7 _ (by simp)), h.ord.fr hf (m7 _ (by simp)), h.tab.fr hf (m7 _ (by simp)) (m7 _ (by simp)) (m7 _ (by simp)) (m7 _ (by simp)), hc,
    ownsRow_fr h.nod hf (fun b hb hm => (n2 b hb).1 (mv b hm)), ownsRow_fr h.fre hf (fun b hb hm => n3 b hb (mv b hm)), h.nd, h.lo, h.vl, h.sz⟩,
    ⟨hf.mono (fun b hb _ => own_nv.2 (.inl (mv b hb))), fun b hb => .inl hb, rfl⟩⟩
/-- a result told: what is kept is so -/
theorem grecall_any (base : Nat) (B : Bk) (S : Sto) (op mask a b c : Nat) (w : World) (G : StG w base B S) (h0 : op < 256) (h1 : mask < 256) (h2 : a < 65536) (h3 : b < 65536) (h4 : c < 65536) :
    Calls Try.prog 114 #[.pointer (some ⟨B.s, 0, none⟩), .int .u8 (op : Int), .int .u8 (mask : Int), .int .u32 (a : Int), .int .u32 (b : Int), .int .u32 (c : Int)] w fun e w' =>
      ∃ o : Option Nat, RecallIs o e ∧ (∀ r, o = some r → S.is r = true ∧ S.tab r = Tb.op op mask (S.tab a) (S.tab b) (S.tab c)) ∧ StG w' base B S ∧ Stp B w B w' := by
  obtain ⟨L, hst, hperm⟩ := G.st.ex
  cases ho : S.off with
  | true =>
    have hd := hst.hd
    rw [ho] at hd
    refine (recall_off B.s S.room B.o B.t B.sl B.ca op mask a b c B.nv B.fv w hd).mono ?_
    rintro e w' ⟨he, rfl⟩
    exact ⟨none, he, (fun r h => by cases h), G, Stp.refl _ _⟩
  | false =>
    have hd := hst.hd
    rw [ho] at hd
    obtain ⟨n1, n2, n3⟩ := nodup9 hst.nd
    have m7 := nd9_f n1 B.s (by simp)
    refine (recall_any B.s S.room B.o B.t B.sl B.ca B.cm B.cc op mask a b c B.nv B.fv B.ys w hd hst.cac (fun e => m7 (by simp [e])) h0 h1 h2 h3 h4).mono ?_
    rintro e w' ⟨he, hc, hf⟩
    have hp := StAt.put_cac hst hc (hf.mono (by simp))
    refine ⟨_, he, fun r hr => ?_, ⟨⟨⟨L, hp.1, hperm⟩, G.st.sl⟩, G.wf, G.od, G.ca, Nat.le_trans G.hb hf.size⟩, hp.2⟩
    obtain ⟨_, _, _, i4, i5⟩ := G.ca op mask a b c r h0 h1 h2 h3 h4 hr
    exact ⟨i4, i5⟩
/-- a result kept -/
theorem gnote_any (base : Nat) (B : Bk) (S : Sto) (op mask a b c r : Nat) (w : World) (G : StG w base B S) (h0 : op < 256) (h1 : mask < 256) (ia : S.is a = true) (ib : S.is b = true) (ic : S.is c = true) (ir : S.is r = true) (ht : S.tab r = Tb.op op mask (S.tab a) (S.tab b) (S.tab c)) :
    Calls Try.prog 116 #[.pointer (some ⟨B.s, 0, none⟩), .int .u8 (op : Int), .int .u8 (mask : Int), .int .u32 (a : Int), .int .u32 (b : Int), .int .u32 (c : Int), .int .u32 (r : Int)] w fun e w' =>
      e = .returned (.tuple #[]) ∧ ∃ B', StG w' base B' S ∧ Stp B w B' w' := by
  obtain ⟨L, hst, hperm⟩ := G.st.ex
  have ha := G.small ia
  have hb := G.small ib
  have hc := G.small ic
  have hr := G.small ir
  cases ho : S.off with
  | true =>
    have hd := hst.hd
    rw [ho] at hd
    refine (note_off B.s S.room B.o B.t B.sl B.ca op mask a b c r B.nv B.fv w hd).mono ?_
    rintro e w' ⟨he, rfl⟩
    exact ⟨he, B, G, Stp.refl _ _⟩
  | false =>
    have hd := hst.hd
    rw [ho] at hd
    obtain ⟨n1, n2, n3⟩ := nodup9 hst.nd
    have m7 := nd9_f n1 B.s (by simp)
    refine (note_any B.s S.room B.o B.t B.sl B.ca B.cm B.cc op mask a b c r B.nv B.fv B.ys w hd hst.cac ⟨fun e => m7 (by simp [e]), fun e => m7 (by simp [e])⟩ h0 h1 (by omega) (by omega) (by omega) (by omega)).mono ?_
    rintro e w' ⟨he, hc2, hf⟩
    have hp := StAt.put_cac hst hc2 hf
    exact ⟨he, _, ⟨⟨⟨L, hp.1, hperm⟩, G.st.sl⟩, G.wf, G.od, G.ca.put hst.cac.ok h0 h1 (by omega) (by omega) (by omega) ia ib ic ir ht, Nat.le_trans G.hb hf.size⟩, hp.2⟩
end Go.Proofs.Ythbifeoohphnpaa

/-
  Package logic: one side of an operation's arguments; the operation.
-/
namespace Go.Proofs.Ythbifeoohphnpaa
set_option linter.unusedVariables false
open Go.RowKit
/-- three cells of handles -/
abbrev argC (a b c : Nat) : Array Value := #[.int .u32 (a : Int), .int .u32 (b : Int), .int .u32 (c : Int)]
abbrev walkC (s op K : Nat) : Array Value := #[.pointer (some ⟨s, 0, none⟩), .int .u8 (op : Int), .func (.func K) #[] #[]]
theorem three {w : World} {b t : Nat} {x y z : Value} (h : Blk w b t #[x, y, z]) : (w.cell? ⟨b, 0, none⟩ = some x ∧ w.cell? ⟨b, 1, none⟩ = some y ∧ w.cell? ⟨b, 2, none⟩ = some z) ∧ w.frozen? ⟨b, 0, none⟩ = false ∧ w.frozen? ⟨b, 1, none⟩ = false ∧ w.frozen? ⟨b, 2, none⟩ = false :=
  ⟨⟨h.cell 0, h.cell 1, h.cell 2⟩, h.frozen 0, h.frozen 1, h.frozen 2⟩
/-- the contract of a side -/
def SideIs (base : Nat) (B : Bk) (S : Sto) (K2 : Nat) (q : Bool) : Prop := ∀ (h l : Nat) (w : World), StG w base B S → S.is h = true →
  Calls Try.prog 124 #[.pointer (some ⟨B.s, 0, none⟩), .func (.func K2) #[] #[], .int .u32 (h : Int), .int .i64 (l : Int)] w fun e w' => e = .returned (.int .u32 (S.sub l q h : Int)) ∧ w' = w
set_option maxRecDepth 100000 in
set_option maxHeartbeats 1000000 in
theorem half_any (base : Nat) (B : Bk) (S : Sto) (op K K2 a b c l : Nat) (q : Bool) (T : Tb.T) (cost : Nat) (w : World) (G : StG w base B S) (ia : S.is a = true) (ib : S.is b = true) (ic : S.is c = true) (hside : SideIs base B S K2 q)
    (hd : ∀ u : World, StG u base B S → Fr [] w u → Calls Try.prog 108 #[walkV B.s op K, argV (S.sub l q a) (S.sub l q b) (S.sub l q c)] u (OpRes base B u S T cost)) :
    Calls Try.prog 115 #[walkV B.s op K, argV a b c, .int .i64 (l : Int), .func (.func K2) #[] #[]] w (OpRes base B w S T cost) := by
  have HG := Bx.mk G
  unfold SideIs at hside
  have HS := Bx.mk hside
  have HD := Bx.mk hd
  have HI := Bx.mk (And.intro ia (And.intro ib ic))
  have hX0 : Blk (w.alloc (.cells (walkC B.s op K) 175)) w.heap.size 175 (walkC B.s op K) := Blk.new w _ _
  have hF0 : Fr [] w (w.alloc (.cells (walkC B.s op K) 175)) := (Fr.refl _ _).alloc _
  clear G hside hd ia ib ic
  go_enter Try.func115, Try.ntmps115
  go_wp2_with fail
  have hX1 : Blk ((w.alloc (.cells (walkC B.s op K) 175)).alloc (.cells (argC a b c) 163)) (w.heap.size + 1) 163 (argC a b c) := by
    have := Blk.new (w.alloc (.cells (walkC B.s op K) 175)) 163 (argC a b c)
    rw [alloc_size] at this
    exact this
  replace hX0 := hX0.alloc (.cells (argC a b c) 163)
  replace hF0 := hF0.alloc (.cells (argC a b c) 163)
  generalize (w.alloc (.cells (walkC B.s op K) 175)).alloc (.cells (argC a b c) 163) = w0 at *
  have hi0 : ∀ u, (Instr.index 163 (.agg #[.int .u32 (a : Int), .int .u32 (b : Int), .int .u32 (c : Int)]) (.int .i64 0)).run Try.prog u = .ok (.int .u32 (a : Int)) u := fun u => by kernel_rfl
  have hi1 : ∀ u, (Instr.index 163 (.agg #[.int .u32 (a : Int), .int .u32 (b : Int), .int .u32 (c : Int)]) (.int .i64 1)).run Try.prog u = .ok (.int .u32 (b : Int)) u := fun u => by kernel_rfl
  have hi2 : ∀ u, (Instr.index 163 (.agg #[.int .u32 (a : Int), .int .u32 (b : Int), .int .u32 (c : Int)]) (.int .i64 2)).run Try.prog u = .ok (.int .u32 (c : Int)) u := fun u => by kernel_rfl
  have hG0 := HG.out.fr0 hF0
  obtain ⟨⟨g0, g1, g2⟩, gz⟩ := three hX0
  obtain ⟨⟨c0, c1, c2⟩, z0, z1, z2⟩ := three hX1
  have HX0 := Bx.mk hX0
  have HX1 := Bx.mk hX1
  have HF0 := Bx.mk hF0
  have HG0 := Bx.mk hG0
  have qn : w.heap.size ≠ w.heap.size + 1 := by omega
  clear hX0 hX1 hF0 hG0 gz
  refine wp_loop_rounds 4 ?_
  rw [rounds_succ]
  have HC := Bx.mk (HS.out a l w0 HG0.out HI.out.1)
  go_wp2_with fail
  refine HC.out.mono ?_
  rintro e x0 ⟨rfl, rfl⟩
  go_wp2_with fail
  have hX1 := HX1.out.set_ 0 (.int .u32 (S.sub l q a : Int))
  have hf : Fr [w.heap.size + 1] x0 (x0.setCell ⟨w.heap.size + 1, 0, none⟩ (.int .u32 (S.sub l q a : Int))) := (Fr.refl [w.heap.size + 1] x0).setCell (p := ⟨w.heap.size + 1, 0, none⟩) (fun _ => by simp) _
  have hX0 := HX0.out.fr hf (by simp)
  have hF1 := HF0.out.trans hf (fun b hb hl => by simp at hb; omega)
  have hG1 := HG.out.fr0 hF1
  generalize x0.setCell ⟨w.heap.size + 1, 0, none⟩ (.int .u32 (S.sub l q a : Int)) = y0 at *
  clear g0 g1 g2 c0 c1 c2 z0 z1 z2 hf HC
  obtain ⟨⟨g0, g1, g2⟩, gz⟩ := three hX0
  obtain ⟨⟨c0, c1, c2⟩, z0, z1, z2⟩ := three hX1
  have KX0 := Bx.mk hX0
  have KY0 := Bx.mk hX1
  have KF0 := Bx.mk hF1
  have KG0 := Bx.mk hG1
  clear HX0 HX1 HF0 HG0 hX0 hX1 hF1 hG1 gz
  rw [rounds_succ]
  have HC := Bx.mk (HS.out b l y0 KG0.out HI.out.2.1)
  go_wp2_with fail
  refine HC.out.mono ?_
  rintro e x1 ⟨rfl, rfl⟩
  go_wp2_with fail
  have hX1 := KY0.out.set_ 1 (.int .u32 (S.sub l q b : Int))
  have hf : Fr [w.heap.size + 1] x1 (x1.setCell ⟨w.heap.size + 1, 1, none⟩ (.int .u32 (S.sub l q b : Int))) := (Fr.refl [w.heap.size + 1] x1).setCell (p := ⟨w.heap.size + 1, 1, none⟩) (fun _ => by simp) _
  have hX0 := KX0.out.fr hf (by simp)
  have hF1 := KF0.out.trans hf (fun b hb hl => by simp at hb; omega)
  have hG1 := HG.out.fr0 hF1
  generalize x1.setCell ⟨w.heap.size + 1, 1, none⟩ (.int .u32 (S.sub l q b : Int)) = y1 at *
  clear g0 g1 g2 c0 c1 c2 z0 z1 z2 hf HC
  obtain ⟨⟨g0, g1, g2⟩, gz⟩ := three hX0
  obtain ⟨⟨c0, c1, c2⟩, z0, z1, z2⟩ := three hX1
  have KX1 := Bx.mk hX0
  have KY1 := Bx.mk hX1
  have KF1 := Bx.mk hF1
  have KG1 := Bx.mk hG1
  clear KX0 KY0 KF0 KG0 hX0 hX1 hF1 hG1 gz
  rw [rounds_succ]
  have HC := Bx.mk (HS.out c l y1 KG1.out HI.out.2.2)
  go_wp2_with fail
  refine HC.out.mono ?_
  rintro e x2 ⟨rfl, rfl⟩
  go_wp2_with fail
  have hX1 := KY1.out.set_ 2 (.int .u32 (S.sub l q c : Int))
  have hf : Fr [w.heap.size + 1] x2 (x2.setCell ⟨w.heap.size + 1, 2, none⟩ (.int .u32 (S.sub l q c : Int))) := (Fr.refl [w.heap.size + 1] x2).setCell (p := ⟨w.heap.size + 1, 2, none⟩) (fun _ => by simp) _
  have hX0 := KX1.out.fr hf (by simp)
  have hF1 := KF1.out.trans hf (fun b hb hl => by simp at hb; omega)
  have hG1 := HG.out.fr0 hF1
  generalize x2.setCell ⟨w.heap.size + 1, 2, none⟩ (.int .u32 (S.sub l q c : Int)) = y2 at *
  clear g0 g1 g2 c0 c1 c2 z0 z1 z2 hf HC
  obtain ⟨⟨g0, g1, g2⟩, gz⟩ := three hX0
  obtain ⟨⟨c0, c1, c2⟩, z0, z1, z2⟩ := three hX1
  have KX2 := Bx.mk hX0
  have KY2 := Bx.mk hX1
  have KF2 := Bx.mk hF1
  have KG2 := Bx.mk hG1
  clear KX1 KY1 KF1 KG1 hX0 hX1 hF1 hG1 gz
  rw [rounds_succ]
  have HDD := Bx.mk (HD.out y2 KG2.out KF2.out)
  go_wp2_with fail
  refine HDD.out.mono ?_
  rintro e w9 hres
  replace hres := hres.after KF2.out
  obtain ⟨p, r, he⟩ : ∃ (p : Int) (r : Int), e = .returned (.tuple #[.int .u32 r, .int .i64 p]) := by
    obtain ⟨_, _, _, _, _, _, _, h5⟩ := id hres
    rcases h5 with ⟨r, he, _⟩ | ⟨he, _⟩
    · exact ⟨_, _, he⟩
    · exact ⟨_, _, he⟩
  subst he
  have HR := Bx.mk hres
  clear hres
  go_wp2_with fail
  go_ret2
  exact HR.out
end Go.Proofs.Ythbifeoohphnpaa

/-
  Package logic: the operation, by its arguments' levels.
-/
namespace Go.Proofs.Ythbifeoohphnpaa
set_option linter.unusedVariables false
open Go.RowKit
theorem side_lo (base : Nat) (B : Bk) (S : Sto) : SideIs base B S 30 false := fun h l w G hi => child_lo base B S h l w G hi
theorem side_hi (base : Nat) (B : Bk) (S : Sto) : SideIs base B S 52 true := fun h l w G hi => child_hi base B S h l w G hi
/-- the operation's contract from a level on -/
def DoesIs (op K l : Nat) : Prop := ∀ (base : Nat) (B : Bk) (S : Sto) (a b c : Nat) (w : World), StG w base B S → S.is a = true → S.is b = true → S.is c = true → (l : Int) ≤ S.lev a → (l : Int) ≤ S.lev b → (l : Int) ≤ S.lev c →
  Calls Try.prog 108 #[walkV B.s op K, argV a b c] w fun e w' => OpRes base B w S (Tb.op op 0 (S.tab a) (S.tab b) (S.tab c)) (Sto.cost S.n l) e w'
theorem Sto.lev_nat {S : Sto} (W : S.Wf) {h : Nat} (hi : S.is h = true) : ∃ l : Nat, S.lev h = (l : Int) ∧ l ≤ S.n := by
  obtain ⟨h1, h2, _⟩ := Sto.lev_le W hi
  exact ⟨(S.lev h).toNat, by omega, by omega⟩
/-- the least of three levels -/
theorem min3 {a b c n : Nat} (ha : a ≤ n) (hb : b ≤ n) (hc : c ≤ n) : ∃ m : Nat, m = min (min (min n a) b) c ∧ m ≤ a ∧ m ≤ b ∧ m ≤ c ∧ (m = a ∨ m = b ∨ m = c) := ⟨_, rfl, by omega, by omega, by omega, by omega⟩
theorem Sto.lev_top {S : Sto} (W : S.Wf) {h : Nat} (hi : S.is h = true) (hl : S.lev h = (S.n : Int)) : h < 2 := by
  cases hg : S.get h with
  | none => have := S.is_none hi hg; omega
  | some nd => have := (W.kid h nd hg).1; rw [Sto.lev_nd hg] at hl; omega
/-- a half of an operation's table -/
theorem LOp.half {op K : Nat} {ends : Nat → Nat → Nat → Option Nat} (O : LOp op K ends) {S : Sto} (W : S.Wf) (Od : S.Ord) {a b c m : Nat} (ia : S.is a = true) (ib : S.is b = true) (ic : S.is c = true) (la : (m : Int) ≤ S.lev a) (lb : (m : Int) ≤ S.lev b) (lc : (m : Int) ≤ S.lev c) (hm : m < S.n) :
    (∀ q, Tb.op op 0 (S.tab (S.sub m q a)) (S.tab (S.sub m q b)) (S.tab (S.sub m q c)) = Tb.fix (Tb.op op 0 (S.tab a) (S.tab b) (S.tab c)) ((S.vars.getD m 0 : Nat) : Int) q) ∧ ∀ i, i < m → Tb.Free (Tb.op op 0 (S.tab a) (S.tab b) (S.tab c)) (S.vars.getD i 0) := by
  have h8 := W.n8
  have hv := (Od.lt m hm).1
  refine ⟨fun q => ?_, fun i hi => ?_⟩
  · rw [W.tab_sub Od ia la hm, W.tab_sub Od ib lb hm, W.tab_sub Od ic lc hm, O.pw.mux (by omega)]
    have fr : ∀ q h, S.is h = true → (m : Int) ≤ S.lev h → Tb.Free (S.tab (S.sub m q h)) (S.vars.getD m 0) := fun q h hi hl => by
      obtain ⟨h1, h2, _⟩ := W.sub_ok Od hi hl hm q
      exact W.free' Od h1 h2 hm
    rw [Tb.fix_mux (by omega) (O.pw.free (by omega) (fr _ _ ia la) (fr _ _ ib lb) (fr _ _ ic lc)) (O.pw.free (by omega) (fr _ _ ia la) (fr _ _ ib lb) (fr _ _ ic lc))]
    cases q <;> simp
  · have hvi := (Od.lt i (by omega)).1
    exact O.pw.free (by omega) (W.free' Od ia (by omega) (by omega)) (W.free' Od ib (by omega) (by omega)) (W.free' Od ic (by omega) (by omega))
set_option maxRecDepth 100000 in
set_option maxHeartbeats 4000000 in
theorem does_step (op K : Nat) (ends : Nat → Nat → Nat → Option Nat) (O : LOp op K ends) (l : Nat) (ih : ∀ l', l < l' → DoesIs op K l') : DoesIs op K l := by
  intro base B S a b c w G ia ib ic la lb lc
  have HG := Bx.mk G
  have HI := Bx.mk (And.intro ia (And.intro ib ic))
  have HL := Bx.mk (And.intro la (And.intro lb lc))
  have HO := Bx.mk O
  have HIH := Bx.mk ih
  have sa := G.small ia
  have sb := G.small ib
  have sc := G.small ic
  have HS3 := Bx.mk (And.intro sa (And.intro sb sc))
  have HE := Bx.mk (O.walk a b c)
  have hcf := O.call
  have hX0 : Blk ((w.alloc (.cells (walkC B.s op K) 175)).alloc (.cells (argC a b c) 163)) w.heap.size 175 (walkC B.s op K) := (Blk.new w _ _).alloc _
  have hX1 : Blk ((w.alloc (.cells (walkC B.s op K) 175)).alloc (.cells (argC a b c) 163)) (w.heap.size + 1) 163 (argC a b c) := by
    have := Blk.new (w.alloc (.cells (walkC B.s op K) 175)) 163 (argC a b c)
    rw [alloc_size] at this
    exact this
  have hF0 : Fr [] w ((w.alloc (.cells (walkC B.s op K) 175)).alloc (.cells (argC a b c) 163)) := ((Fr.refl _ _).alloc _).alloc _
  clear G ia ib ic la lb lc O ih sa sb sc
  go_enter Try.func108, Try.ntmps108
  go_wp2_with fail
  generalize (w.alloc (.cells (walkC B.s op K) 175)).alloc (.cells (argC a b c) 163) = w0 at *
  refine (HE.out w0 (by have := HS3.out; omega) (by have := HS3.out; omega) (by have := HS3.out; omega)).mono ?_
  rintro e w1 ⟨⟨x, rfl, hx⟩, hf1⟩
  have hF1 := hF0.trans hf1 (by simp)
  have hL0 := (Loc.new (B := B) HG.out (Nat.le_refl _) hX0).fr0 hf1
  have hL1 := (Loc.new (B := B) HG.out (by omega) hX1).fr0 hf1
  have hG1 := HG.out.fr0 hF1
  clear hX0 hX1 hF0 hf1 HE
  have HL0 := Bx.mk hL0
  have HL1 := Bx.mk hL1
  have HG1 := Bx.mk hG1
  have HF1 := Bx.mk hF1
  have HX := Bx.mk hx
  obtain ⟨⟨g0, g1, g2⟩, gz⟩ := three hL0.blk
  obtain ⟨⟨c0, c1, c2⟩, z0, z1, z2⟩ := three hL1.blk
  clear hL0 hL1 hG1 hF1 hx gz hcf
  cases hends : ends a b c with
  | some r =>
    have hxr : x = r := HX.out r hends
    subst hxr
    have HR := Bx.mk (HO.out.ok S a b c x HG.out.wf HI.out.1 HI.out.2.1 HI.out.2.2 hends)
    clear hends
    go_wp2_with fail
    go_ret2
    exact OpRes.same HG1.out (Stp.fr0 HF1.out) rfl HR.out.1 HR.out.2
  | none =>
    have HEN := Bx.mk hends
    have HRC := Bx.mk (grecall_any base B S op 0 a b c w1 HG1.out HO.out.lt (by omega) (by have := HS3.out; omega) (by have := HS3.out; omega) (by have := HS3.out; omega))
    clear hends
    go_wp2_with fail
    refine HRC.out.mono ?_
    rintro e w2 ⟨o, he, ho, hG2, hst2⟩
    unfold RecallIs at he
    subst he
    have HST2 := Bx.mk (Stp.after HF1.out hst2)
    have hL0 := HL0.out.step hst2
    have hL1 := HL1.out.step hst2
    have HG2 := Bx.mk hG2
    have HOO := Bx.mk ho
    clear g0 g1 g2 c0 c1 c2 z0 z1 z2 hG2 hst2 ho HRC HL0 HL1
    obtain ⟨⟨g0, g1, g2⟩, gz⟩ := three hL0.blk
    obtain ⟨⟨c0, c1, c2⟩, z0, z1, z2⟩ := three hL1.blk
    have HL0 := Bx.mk hL0
    have HL1 := Bx.mk hL1
    clear hL0 hL1 gz z0 z1 z2
    cases o with
    | some r =>
      have HR := Bx.mk (HOO.out r rfl)
      go_wp2_with fail
      go_ret2
      exact OpRes.same HG2.out HST2.out rfl HR.out.1 HR.out.2
    | none =>
      have HV := Bx.mk (gvars_any HG2.out)
      go_wp2_with fail
      refine HV.out.mono ?_
      rintro e wv ⟨rfl, rfl⟩
      obtain ⟨ka, hka, na⟩ := Sto.lev_nat HG.out.wf HI.out.1
      obtain ⟨kb, hkb, nb⟩ := Sto.lev_nat HG.out.wf HI.out.2.1
      obtain ⟨kc, hkc, nc⟩ := Sto.lev_nat HG.out.wf HI.out.2.2
      have HA := Bx.mk (glevel_any HG2.out HI.out.1)
      have HB := Bx.mk (glevel_any HG2.out HI.out.2.1)
      have HC := Bx.mk (glevel_any HG2.out HI.out.2.2)
      rw [hka] at HA
      rw [hkb] at HB
      rw [hkc] at HC
      have hi0 : ∀ u, (Instr.index 163 (.agg #[.int .u32 (a : Int), .int .u32 (b : Int), .int .u32 (c : Int)]) (.int .i64 0)).run Try.prog u = .ok (.int .u32 (a : Int)) u := fun u => by kernel_rfl
      have hi1 : ∀ u, (Instr.index 163 (.agg #[.int .u32 (a : Int), .int .u32 (b : Int), .int .u32 (c : Int)]) (.int .i64 1)).run Try.prog u = .ok (.int .u32 (b : Int)) u := fun u => by kernel_rfl
      have hi2 : ∀ u, (Instr.index 163 (.agg #[.int .u32 (a : Int), .int .u32 (b : Int), .int .u32 (c : Int)]) (.int .i64 2)).run Try.prog u = .ok (.int .u32 (c : Int)) u := fun u => by kernel_rfl
      have HK := Bx.mk (And.intro (And.intro hka (And.intro hkb hkc)) (And.intro na (And.intro nb nc)))
      clear hka hkb hkc na nb nc HV HOO
      obtain ⟨n, hn⟩ : ∃ n, n = S.n := ⟨_, rfl⟩
      rw [← hn] at HK ⊢
      have HN := Bx.mk hn
      clear hn
      go_upto_block 0 with fail
      go_cut [10] (fun s10 wx => ∃ m : Nat, s10 = .int .i64 (m : Int) ∧ wx = wv ∧ m = min (min (min n ka) kb) kc)
      case first =>
        go_wp2_with fail
        refine wp_loop_rounds 4 ?_
        rw [rounds_succ]
        go_wp2_with fail
        refine HA.out.mono ?_
        rintro e wv ⟨rfl, rfl⟩
        go_wp2_with fail
        all_goals
          rw [rounds_succ]
          go_wp2_with fail
          refine HB.out.mono ?_
          rintro e wv ⟨rfl, rfl⟩
          go_wp2_with fail
          all_goals
            rw [rounds_succ]
            go_wp2_with fail
            refine HC.out.mono ?_
            rintro e wv ⟨rfl, rfl⟩
            go_wp2_with fail
            all_goals
              rw [rounds_succ]
              go_wp2_with fail
              go_meet
              case rel => exact ⟨_, rfl, rfl, by omega⟩
      case rest =>
        obtain ⟨m, rfl, rfl, hm⟩ := hcut
        have hmn : m < n := by
          rcases Nat.lt_or_ge m n with h | h
          · exact h
          · exfalso
            obtain ⟨⟨h1, h2, h3⟩, h4, h5, h6⟩ := HK.out
            have e1 := Sto.lev_top HG.out.wf HI.out.1 (by rw [h1, ← HN.out]; omega)
            have e2 := Sto.lev_top HG.out.wf HI.out.2.1 (by rw [h2, ← HN.out]; omega)
            have e3 := Sto.lev_top HG.out.wf HI.out.2.2 (by rw [h3, ← HN.out]; omega)
            exact HO.out.no a b c e1 e2 e3 HEN.out
        have HM : Bx ((m : Int) ≤ S.lev a ∧ (m : Int) ≤ S.lev b ∧ (m : Int) ≤ S.lev c ∧ l ≤ m ∧ m < S.n) := ⟨by
          obtain ⟨⟨h1, h2, h3⟩, h4, h5, h6⟩ := HK.out
          have := HL.out
          rw [h1, h2, h3] at this ⊢
          rw [← HN.out]
          omega⟩
        obtain ⟨hhalf, hfree⟩ := HO.out.half HG.out.wf HG.out.od HI.out.1 HI.out.2.1 HI.out.2.2 HM.out.1 HM.out.2.1 HM.out.2.2.1 HM.out.2.2.2.2
        have HHALF := Bx.mk hhalf
        have HFREE := Bx.mk hfree
        have HH1 := Bx.mk (half_any base B S op K 30 a b c m false (Tb.op op 0 (S.tab (S.sub m false a)) (S.tab (S.sub m false b)) (S.tab (S.sub m false c))) (Sto.cost S.n (m + 1)) wc HG2.out HI.out.1 HI.out.2.1 HI.out.2.2 (side_lo base B S) (fun u Gu _ => by
          obtain ⟨a1, a2, _⟩ := HG.out.wf.sub_ok HG.out.od HI.out.1 HM.out.1 HM.out.2.2.2.2 false
          obtain ⟨b1, b2, _⟩ := HG.out.wf.sub_ok HG.out.od HI.out.2.1 HM.out.2.1 HM.out.2.2.2.2 false
          obtain ⟨c1, c2, _⟩ := HG.out.wf.sub_ok HG.out.od HI.out.2.2 HM.out.2.2.1 HM.out.2.2.2.2 false
          exact HIH.out (m + 1) (by have := HM.out.2.2.2.1; omega) base B S _ _ _ u Gu a1 b1 c1 (by omega) (by omega) (by omega)))
        rw [hhalf false] at HH1
        clear hhalf hfree HA HB HC hm hi0 hi1 hi2 HK
        generalize hT : Tb.op op 0 (S.tab a) (S.tab b) (S.tab c) = T at *
        have HT := Bx.mk hT
        clear hT
        go_wp2_with fail
        refine HH1.out.mono ?_
        rintro e w3 hres
        obtain ⟨S1, B1, G1, st1, E1, nw1, hi1, p1, r1, rfl, hr1⟩ := hres.shape
        have HR1 := Bx.mk hr1
        have HP1 : Bx (StG w3 base B1 S1 ∧ Stp B w B1 w3 ∧ S.Ext S1 ∧ S.New S1 T ∧ S1.hi ≤ S.hi + Sto.cost S.n (m + 1) ∧ B1.s = B.s) := ⟨G1, HST2.out.trans st1, E1, nw1.up HG.out.od G1.wf E1 HM.out.2.2.2.2 HFREE.out, hi1, st1.s⟩
        have hL0 := HL0.out.step st1
        have hL1 := HL1.out.step st1
        clear g0 g1 g2 c0 c1 c2 hr1 hres G1 st1 E1 nw1 hi1 HH1 HL0 HL1
        obtain ⟨⟨g0, g1, g2⟩, gz⟩ := three hL0.blk
        obtain ⟨⟨c0, c1, c2⟩, z0, z1, z2⟩ := three hL1.blk
        have HL0 := Bx.mk hL0
        have HL1 := Bx.mk hL1
        clear hL0 hL1 gz z0 z1 z2
        cases p1 with
        | false =>
          simp only [Bool.false_eq_true, if_false]
          go_wp2_with fail
          go_ret2
          show OpRes _ _ _ _ _ _ _ _
          rw [HT.out]
          exact ⟨S1, B1, HP1.out.1, HP1.out.2.1, HP1.out.2.2.1, HP1.out.2.2.2.1, Nat.le_trans HP1.out.2.2.2.2.1 (by have := Sto.cost_mono (n := S.n) (show l ≤ m + 1 by have := HM.out.2.2.2.1; omega); omega), .inr ⟨rfl, by simpa using HR1.out⟩⟩
        | true =>
          simp only [if_true]
          have hr1 := HR1.out
          simp only [if_true] at hr1
          have HR1' := Bx.mk hr1
          have E1 := HP1.out.2.2.1
          have G1 := HP1.out.1
          have HM1 : Bx ((m : Int) ≤ S1.lev a ∧ (m : Int) ≤ S1.lev b ∧ (m : Int) ≤ S1.lev c ∧ m < S1.n ∧ S1.is a = true ∧ S1.is b = true ∧ S1.is c = true) := ⟨by
            rw [E1.lev HI.out.1, E1.lev HI.out.2.1, E1.lev HI.out.2.2, E1.n]
            exact ⟨HM.out.1, HM.out.2.1, HM.out.2.2.1, HM.out.2.2.2.2, E1.is HI.out.1, E1.is HI.out.2.1, E1.is HI.out.2.2⟩⟩
          have hh2 := half_any base B1 S1 op K 52 a b c m true (Tb.op op 0 (S1.tab (S1.sub m true a)) (S1.tab (S1.sub m true b)) (S1.tab (S1.sub m true c))) (Sto.cost S1.n (m + 1)) w3 G1 HM1.out.2.2.2.2.1 HM1.out.2.2.2.2.2.1 HM1.out.2.2.2.2.2.2 (side_hi base B1 S1) (fun u Gu _ => by
            obtain ⟨a1, a2, _⟩ := G1.wf.sub_ok G1.od HM1.out.2.2.2.2.1 HM1.out.1 HM1.out.2.2.2.1 true
            obtain ⟨b1, b2, _⟩ := G1.wf.sub_ok G1.od HM1.out.2.2.2.2.2.1 HM1.out.2.1 HM1.out.2.2.2.1 true
            obtain ⟨c1, c2, _⟩ := G1.wf.sub_ok G1.od HM1.out.2.2.2.2.2.2 HM1.out.2.2.1 HM1.out.2.2.2.1 true
            exact HIH.out (m + 1) (by have := HM.out.2.2.2.1; omega) base B1 S1 _ _ _ u Gu a1 b1 c1 (by omega) (by omega) (by omega))
          rw [(HO.out.half G1.wf G1.od HM1.out.2.2.2.2.1 HM1.out.2.2.2.2.2.1 HM1.out.2.2.2.2.2.2 HM1.out.1 HM1.out.2.1 HM1.out.2.2.1 HM1.out.2.2.2.1).1 true, E1.tab HG.out.wf HI.out.1, E1.tab HG.out.wf HI.out.2.1, E1.tab HG.out.wf HI.out.2.2, HT.out, E1.vars, E1.n, HP1.out.2.2.2.2.2] at hh2
          have HH2 := Bx.mk hh2
          clear hr1 hh2 E1 G1
          go_wp2_with fail
          refine HH2.out.mono ?_
          rintro e w4 hres
          obtain ⟨S2, B2, G2, st2, E2, nw2, hi2, p2, r2, rfl, hr2⟩ := hres.shape
          have HR2 := Bx.mk hr2
          have HP2 : Bx (StG w4 base B2 S2 ∧ Stp B w B2 w4 ∧ S.Ext S2 ∧ S.New S2 T ∧ S2.hi ≤ S.hi + Sto.cost S.n (m + 1) + Sto.cost S.n (m + 1) ∧ B2.s = B.s ∧ S1.Ext S2) := ⟨G2, HP1.out.2.1.trans st2, HP1.out.2.2.1.trans E2, by
            have E1 := HP1.out.2.2.1
            rw [← E1.vars] at nw2
            exact HP1.out.2.2.2.1.trans (nw2.up HP1.out.1.od G2.wf E2 HM1.out.2.2.2.1 (by rw [E1.vars]; exact HFREE.out)) E1 E2 HP1.out.1.wf, by have := HP1.out.2.2.2.2.1; omega, st2.s.trans HP1.out.2.2.2.2.2, E2⟩
          have hL0 := HL0.out.step st2
          have hL1 := HL1.out.step st2
          clear g0 g1 g2 c0 c1 c2 hr2 hres G2 st2 E2 nw2 hi2 HH2 HL0 HL1
          obtain ⟨⟨g0, g1, g2⟩, gz⟩ := three hL0.blk
          obtain ⟨⟨c0, c1, c2⟩, z0, z1, z2⟩ := three hL1.blk
          have HL0 := Bx.mk hL0
          have HL1 := Bx.mk hL1
          clear hL0 hL1 gz z0 z1 z2
          have HCO := Bx.mk (Sto.cost_succ S.n m)
          have HCM := Bx.mk (Sto.cost_mono (n := S.n) HM.out.2.2.2.1)
          cases p2 with
          | false =>
            simp only [Bool.false_eq_true, if_false]
            go_wp2_with fail
            go_ret2
            show OpRes _ _ _ _ _ _ _ _
            rw [HT.out]
            exact ⟨S2, B2, HP2.out.1, HP2.out.2.1, HP2.out.2.2.1, HP2.out.2.2.2.1, by have h1 := HP2.out.2.2.2.2.1; have h2 := HCO.out; have h3 := HCM.out; omega, .inr ⟨rfl, by simpa using HR2.out⟩⟩
          | true =>
            simp only [if_true]
            have hr2 := HR2.out
            simp only [if_true] at hr2
            have G2 := HP2.out.1
            have E12 := HP2.out.2.2.2.2.2.2
            have E2 := HP2.out.2.2.1
            have i1 := E12.is HR1'.out.1
            have t1 := E12.tab HP1.out.1.wf HR1'.out.1
            rw [HR1'.out.2] at t1
            have h8 := G2.wf.n8
            have hm2 : m < S2.n := by rw [E2.n]; exact HM.out.2.2.2.2
            have hv := (HG.out.od.lt m HM.out.2.2.2.2).1
            have hfr : ∀ q i, i < m + 1 → Tb.Free (Tb.fix T ((S.vars.getD m 0 : Nat) : Int) q) (S2.vars.getD i 0) := fun q i hi => by
              rw [E2.vars]
              rw [E2.n] at h8
              by_cases e : i = m
              · rw [e]; exact Tb.free_fix_same T (by omega) q
              · exact Tb.free_fix (by omega) (by have := (HG.out.od.lt i (by have := HM.out.2.2.2.2; omega)).1; omega) (HFREE.out i (by omega)) q
            have l1 := G2.wf.lev_ge G2.od i1 (k := m + 1) (by omega) (by rw [t1]; exact hfr false)
            have l2 := G2.wf.lev_ge G2.od hr2.1 (k := m + 1) (by omega) (by rw [hr2.2]; exact hfr true)
            have hmk := gmk_any base B2 S2 ⟨m, r1, r2⟩ w4 G2 hm2 i1 hr2.1 (by show (m : Int) < S2.lev r1; omega) (by show (m : Int) < S2.lev r2; omega)
            simp only at hmk
            rw [t1, hr2.2, E2.vars, E2.n, Tb.mux_fix (by rw [E2.n] at h8; omega), HP2.out.2.2.2.2.2.1] at hmk
            have HMK := Bx.mk hmk
            clear hr2 G2 E12 E2 i1 t1 h8 hm2 hv hfr l1 l2 hmk
            go_wp2_with fail
            refine HMK.out.mono ?_
            rintro e w5 hres
            obtain ⟨S3, B3, G3, st3, E3, nw3, hi3, p3, r3, rfl, hr3⟩ := hres.shape
            have HR3 := Bx.mk hr3
            have HP3 : Bx (StG w5 base B3 S3 ∧ Stp B w B3 w5 ∧ S.Ext S3 ∧ S.New S3 T ∧ S3.hi ≤ S.hi + Sto.cost S.n l ∧ B3.s = B.s) := ⟨G3, HP2.out.2.1.trans st3, HP2.out.2.2.1.trans E3, HP2.out.2.2.2.1.trans nw3 HP2.out.2.2.1 E3 HP2.out.1.wf, by have h1 := HP2.out.2.2.2.2.1; have h2 := HCO.out; have h3 := HCM.out; omega, st3.s.trans HP2.out.2.2.2.2.2.1⟩
            have hL0 := HL0.out.step st3
            have hL1 := HL1.out.step st3
            clear g0 g1 g2 c0 c1 c2 hr3 hres G3 st3 E3 nw3 hi3 HMK HL0 HL1
            obtain ⟨⟨g0, g1, g2⟩, gz⟩ := three hL0.blk
            obtain ⟨⟨c0, c1, c2⟩, z0, z1, z2⟩ := three hL1.blk
            clear hL0 hL1 gz z0 z1 z2
            cases p3 with
            | false =>
              simp only [Bool.false_eq_true, if_false]
              go_wp2_with fail
              go_ret2
              show OpRes _ _ _ _ _ _ _ _
              rw [HT.out]
              exact ⟨S3, B3, HP3.out.1, HP3.out.2.1, HP3.out.2.2.1, HP3.out.2.2.2.1, HP3.out.2.2.2.2.1, .inr ⟨rfl, by simpa using HR3.out⟩⟩
            | true =>
              simp only [if_true]
              have hr3 := HR3.out
              simp only [if_true] at hr3
              have E3 := HP3.out.2.2.1
              have hnt := gnote_any base B3 S3 op 0 a b c r3 w5 HP3.out.1 HO.out.lt (by omega) (E3.is HI.out.1) (E3.is HI.out.2.1) (E3.is HI.out.2.2) hr3.1 (by rw [hr3.2, E3.tab HG.out.wf HI.out.1, E3.tab HG.out.wf HI.out.2.1, E3.tab HG.out.wf HI.out.2.2, HT.out])
              rw [HP3.out.2.2.2.2.2] at hnt
              have HNT := Bx.mk hnt
              have HR3' := Bx.mk hr3
              clear hr3 E3 hnt
              go_wp2_with fail
              refine HNT.out.mono ?_
              rintro e w6 ⟨rfl, B4, G4, st4⟩
              have HP4 : Bx (StG w6 base B4 S3 ∧ Stp B w B4 w6) := ⟨G4, HP3.out.2.1.trans st4⟩
              clear G4 st4 HNT g0 g1 g2 c0 c1 c2
              go_wp2_with fail
              go_ret2
              show OpRes _ _ _ _ _ _ _ _
              rw [HT.out]
              exact ⟨S3, B4, HP4.out.1, HP4.out.2, HP3.out.2.2.1, HP3.out.2.2.2.1, HP3.out.2.2.2.2.1, .inl ⟨r3, rfl, HR3'.out⟩⟩
/-- the operation, from whatever level -/
theorem does_all (op K : Nat) (ends : Nat → Nat → Nat → Option Nat) (O : LOp op K ends) : ∀ (d l : Nat), 9 ≤ l + d → DoesIs op K l := by
  intro d
  induction d with
  | zero =>
    intro l hl base B S a b c w G ia ib ic la lb lc
    have h1 := (Sto.lev_le G.wf ia).2.1
    have h8 := G.wf.n8
    omega
  | succ d ih => exact fun l hl => does_step op K ends O l (fun l' h => ih l' (by omega))
end Go.Proofs.Ythbifeoohphnpaa

/-
  Package logic: where an operation needs no node.
-/
namespace Go.Proofs.Ythbifeoohphnpaa
set_option linter.unusedVariables false
open Go.RowKit
def Lg.ite (a b c : Nat) : Option Nat := if a = 1 ∨ b = c then some b else if a = 0 then some c else if b = 1 ∧ c = 0 then some a else none
def Lg.and (a b c : Nat) : Option Nat := if a = 0 ∨ b = 0 then some 0 else if a = 1 ∨ a = b then some b else if b = 1 then some a else none
def Lg.or (a b c : Nat) : Option Nat := if a = 1 ∨ b = 1 then some 1 else if a = 0 ∨ a = b then some b else if b = 0 then some a else none
def Lg.xor (a b c : Nat) : Option Nat := if a = b then some 0 else if a = 0 then some b else if b = 0 then some a else if a ≤ 1 ∧ b ≤ 1 then some 1 else none
theorem eqN {a n : Nat} {m : Int} (hm : m = (n : Int)) : ((a : Int) == m) = decide (a = n) := by
  subst hm
  by_cases h : a = n
  · subst h; simp
  · rw [beq_eq_false_iff_ne.2 (by omega), decide_eq_false h]
theorem Tb.pw_op (op : Nat) (h : op = 2 ∨ op = 3 ∨ op = 4 ∨ op = 5) : Tb.Pw (Tb.op op 0) := by
  rcases h with rfl | rfl | rfl | rfl
  · exact ⟨fun p q r => p && q, fun t u v x hx => by show (t &&& u).getLsbD x = _; rw [BitVec.getLsbD_and]⟩
  · exact ⟨fun p q r => p || q, fun t u v x hx => by show (t ||| u).getLsbD x = _; rw [BitVec.getLsbD_or]⟩
  · exact ⟨fun p q r => p ^^ q, fun t u v x hx => by show (t ^^^ u).getLsbD x = _; rw [BitVec.getLsbD_xor]⟩
  · exact ⟨fun p q r => (p && q) || (!p && r), fun t u v x hx => by show ((t &&& u) ||| (~~~t &&& v)).getLsbD x = _; rw [BitVec.getLsbD_or, BitVec.getLsbD_and, BitVec.getLsbD_and, BitVec.getLsbD_not]; simp [hx]⟩
theorem Tb.one_and (f : Tb.T) : ~~~(0#256) &&& f = f := Tb.ext_get fun x hx => by rw [BitVec.getLsbD_and, Tb.one_get hx]; simp
theorem Tb.and_one (f : Tb.T) : f &&& ~~~(0#256) = f := Tb.ext_get fun x hx => by rw [BitVec.getLsbD_and, Tb.one_get hx]; simp
theorem Tb.or_one (f : Tb.T) : f ||| ~~~(0#256) = ~~~(0#256) := Tb.ext_get fun x hx => by rw [BitVec.getLsbD_or, Tb.one_get hx]; simp
theorem Tb.one_or (f : Tb.T) : ~~~(0#256) ||| f = ~~~(0#256) := Tb.ext_get fun x hx => by rw [BitVec.getLsbD_or, Tb.one_get hx]; simp
theorem Tb.not_one : ~~~(~~~(0#256)) = 0#256 := BitVec.not_not
theorem Tb.zero_and (f : Tb.T) : 0#256 &&& f = 0#256 := by simp
theorem Tb.and_zero (f : Tb.T) : f &&& 0#256 = 0#256 := by simp
theorem Tb.zero_or (f : Tb.T) : 0#256 ||| f = f := by simp
theorem Tb.or_zero (f : Tb.T) : f ||| 0#256 = f := by simp
theorem Tb.ite_same (f g : Tb.T) : (f &&& g) ||| (~~~f &&& g) = g := Tb.ext_get fun x hx => by
  rw [BitVec.getLsbD_or, BitVec.getLsbD_and, BitVec.getLsbD_and, BitVec.getLsbD_not]
  cases f.getLsbD x <;> simp [hx]
theorem Lg.ite_ok (S : Sto) (a b c r : Nat) (W : S.Wf) (ia : S.is a = true) (ib : S.is b = true) (ic : S.is c = true) (h : Lg.ite a b c = some r) : S.is r = true ∧ S.tab r = Tb.op 5 0 (S.tab a) (S.tab b) (S.tab c) := by
  show _ ∧ _ = (S.tab a &&& S.tab b) ||| (~~~(S.tab a) &&& S.tab c)
  unfold Lg.ite at h
  split at h
  · rename_i h1
    cases h
    refine ⟨ib, ?_⟩
    rcases h1 with rfl | rfl
    · rw [Sto.tab_one, Tb.one_and, Tb.not_one, Tb.zero_and, Tb.or_zero]
    · rw [Tb.ite_same]
  · split at h
    · rename_i h1 h2
      cases h
      subst h2
      rw [Sto.tab_zero, Tb.zero_and, Tb.one_and, Tb.zero_or]
      exact ⟨ic, rfl⟩
    · split at h
      · rename_i h1 h2 h3
        cases h
        obtain ⟨rfl, rfl⟩ := h3
        rw [Sto.tab_zero, Sto.tab_one, Tb.and_one, Tb.and_zero, Tb.or_zero]
        exact ⟨ia, rfl⟩
      · cases h
theorem Lg.and_ok (S : Sto) (a b c r : Nat) (W : S.Wf) (ia : S.is a = true) (ib : S.is b = true) (ic : S.is c = true) (h : Lg.and a b c = some r) : S.is r = true ∧ S.tab r = Tb.op 2 0 (S.tab a) (S.tab b) (S.tab c) := by
  show _ ∧ _ = S.tab a &&& S.tab b
  unfold Lg.and at h
  split at h
  · rename_i h1
    cases h
    refine ⟨Sto.is_small (by omega), ?_⟩
    rcases h1 with rfl | rfl
    · rw [Sto.tab_zero, Tb.zero_and]
    · rw [Sto.tab_zero, Tb.and_zero]
  · split at h
    · rename_i h1 h2
      cases h
      refine ⟨ib, ?_⟩
      rcases h2 with rfl | rfl
      · rw [Sto.tab_one, Tb.one_and]
      · rw [BitVec.and_self]
    · split at h
      · rename_i h1 h2 h3
        cases h
        subst h3
        rw [Sto.tab_one, Tb.and_one]
        exact ⟨ia, rfl⟩
      · cases h
theorem Lg.or_ok (S : Sto) (a b c r : Nat) (W : S.Wf) (ia : S.is a = true) (ib : S.is b = true) (ic : S.is c = true) (h : Lg.or a b c = some r) : S.is r = true ∧ S.tab r = Tb.op 3 0 (S.tab a) (S.tab b) (S.tab c) := by
  show _ ∧ _ = S.tab a ||| S.tab b
  unfold Lg.or at h
  split at h
  · rename_i h1
    cases h
    refine ⟨Sto.is_small (by omega), ?_⟩
    rcases h1 with rfl | rfl
    · rw [Sto.tab_one, Tb.one_or]
    · rw [Sto.tab_one, Tb.or_one]
  · split at h
    · rename_i h1 h2
      cases h
      refine ⟨ib, ?_⟩
      rcases h2 with rfl | rfl
      · rw [Sto.tab_zero, Tb.zero_or]
      · rw [BitVec.or_self]
    · split at h
      · rename_i h1 h2 h3
        cases h
        subst h3
        rw [Sto.tab_zero, Tb.or_zero]
        exact ⟨ia, rfl⟩
      · cases h
theorem Lg.xor_ok (S : Sto) (a b c r : Nat) (W : S.Wf) (ia : S.is a = true) (ib : S.is b = true) (ic : S.is c = true) (h : Lg.xor a b c = some r) : S.is r = true ∧ S.tab r = Tb.op 4 0 (S.tab a) (S.tab b) (S.tab c) := by
  show _ ∧ _ = S.tab a ^^^ S.tab b
  unfold Lg.xor at h
  split at h
  · rename_i h1
    cases h
    subst h1
    rw [BitVec.xor_self, Sto.tab_zero]
    exact ⟨Sto.is_small (by omega), rfl⟩
  · split at h
    · rename_i h1 h2
      cases h
      subst h2
      rw [Sto.tab_zero, BitVec.zero_xor]
      exact ⟨ib, rfl⟩
    · split at h
      · rename_i h1 h2 h3
        cases h
        subst h3
        rw [Sto.tab_zero, BitVec.xor_zero]
        exact ⟨ia, rfl⟩
      · split at h
        · rename_i h1 h2 h3 h4
          cases h
          refine ⟨Sto.is_small (by omega), ?_⟩
          have e1 : a = 1 := by omega
          have e2 : b = 1 := by omega
          omega
        · cases h
theorem Lg.no {a b c : Nat} (ha : a < 2) (hb : b < 2) (hc : c < 2) : Lg.ite a b c ≠ none ∧ Lg.and a b c ≠ none ∧ Lg.or a b c ≠ none ∧ Lg.xor a b c ≠ none := by
  have : a = 0 ∨ a = 1 := by omega
  have : b = 0 ∨ b = 1 := by omega
  have : c = 0 ∨ c = 1 := by omega
  rcases ‹a = 0 ∨ a = 1› with rfl | rfl <;> rcases ‹b = 0 ∨ b = 1› with rfl | rfl <;> rcases ‹c = 0 ∨ c = 1› with rfl | rfl <;> decide
set_option maxRecDepth 100000 in
set_option maxHeartbeats 1000000 in
theorem run_lg (op K : Nat) (ends : Nat → Nat → Nat → Option Nat) (O : LOp op K ends) (base : Nat) (B : Bk) (S : Sto) (a b c l : Nat) (w : World) (G : StG w base B S) (ia : S.is a = true) (ib : S.is b = true) (ic : S.is c = true) (la : (l : Int) ≤ S.lev a) (lb : (l : Int) ≤ S.lev b) (lc : (l : Int) ≤ S.lev c) :
    Calls Try.prog 94 #[.pointer (some ⟨B.s, 0, none⟩), .int .u8 (op : Int), .func (.func K) #[] #[], argV a b c] w fun e w' => OpRes base B w S (Tb.op op 0 (S.tab a) (S.tab b) (S.tab c)) (Sto.cost S.n l) e w' := by
  have HG := Bx.mk G
  have hX1 : Blk (w.alloc (.cells (argC a b c) 163)) w.heap.size 163 (argC a b c) := Blk.new w _ _
  have hF0 : Fr [] w (w.alloc (.cells (argC a b c) 163)) := (Fr.refl _ _).alloc _
  have HD := Bx.mk (fun u (Gu : StG u base B S) => does_all op K ends O 9 l (by omega) base B S a b c u Gu ia ib ic la lb lc)
  have sa := G.small ia
  have sb := G.small ib
  have sc := G.small ic
  have HA := Bx.mk (fun u (Gu : StG u base B S) => gis_any (h := a) Gu (by omega))
  have HB := Bx.mk (fun u (Gu : StG u base B S) => gis_any (h := b) Gu (by omega))
  have HC := Bx.mk (fun u (Gu : StG u base B S) => gis_any (h := c) Gu (by omega))
  rw [ia] at HA
  rw [ib] at HB
  rw [ic] at HC
  clear G ia ib ic la lb lc sa sb sc O
  go_enter Try.func94, Try.ntmps94
  go_wp2_with fail
  generalize w.alloc (.cells (argC a b c) 163) = w0 at *
  have HF0 := Bx.mk hF0
  have HG0 := Bx.mk (HG.out.fr0 hF0)
  obtain ⟨⟨c0, c1, c2⟩, z0, z1, z2⟩ := three hX1
  have hi0 : ∀ u, (Instr.index 163 (.agg #[.int .u32 (a : Int), .int .u32 (b : Int), .int .u32 (c : Int)]) (.int .i64 0)).run Try.prog u = .ok (.int .u32 (a : Int)) u := fun u => by kernel_rfl
  have hi1 : ∀ u, (Instr.index 163 (.agg #[.int .u32 (a : Int), .int .u32 (b : Int), .int .u32 (c : Int)]) (.int .i64 1)).run Try.prog u = .ok (.int .u32 (b : Int)) u := fun u => by kernel_rfl
  have hi2 : ∀ u, (Instr.index 163 (.agg #[.int .u32 (a : Int), .int .u32 (b : Int), .int .u32 (c : Int)]) (.int .i64 2)).run Try.prog u = .ok (.int .u32 (c : Int)) u := fun u => by kernel_rfl
  clear hX1 hF0 z0 z1 z2
  refine wp_loop_rounds 4 ?_
  rw [rounds_succ]
  go_wp2_with fail
  refine (HA.out w0 HG0.out).mono ?_
  rintro e w1 ⟨rfl, rfl⟩
  go_wp2_with fail
  rw [rounds_succ]
  go_wp2_with fail
  refine (HB.out _ HG0.out).mono ?_
  rintro e w1 ⟨rfl, rfl⟩
  go_wp2_with fail
  rw [rounds_succ]
  go_wp2_with fail
  refine (HC.out _ HG0.out).mono ?_
  rintro e w1 ⟨rfl, rfl⟩
  go_wp2_with fail
  rw [rounds_succ]
  go_wp2_with fail
  refine (HD.out _ HG0.out).mono ?_
  rintro e w2 hres
  replace hres := hres.after HF0.out
  obtain ⟨p, r, he⟩ : ∃ (p : Int) (r : Int), e = .returned (.tuple #[.int .u32 r, .int .i64 p]) := by
    obtain ⟨_, _, _, _, _, _, _, h5⟩ := id hres
    rcases h5 with ⟨r, he, _⟩ | ⟨he, _⟩
    · exact ⟨_, _, he⟩
    · exact ⟨_, _, he⟩
  subst he
  have HR := Bx.mk hres
  clear hres
  go_wp2_with fail
  go_ret2
  exact HR.out
section
variable {u : World} {a : Act} {o : Oper} {x y : Operand}
theorem exec_ixA0 {b : Nat} {z : Value} (hz : z = .int .i64 0) (hop : o.op = .indexAddr 163 x y) (hx : a.eval x = .pointer (some ⟨b, 0, none⟩)) (hy : a.eval y = z) :
    (execOp a.eval o).run Try.prog u = .ok (.value (.pointer (some ⟨b, 0, none⟩))) u := by
  subst hz
  unfold execOp
  simp only [hop, hx, hy]
  go_simp
theorem exec_ixA1 {b : Nat} {z : Value} (hz : z = .int .i64 1) (hop : o.op = .indexAddr 163 x y) (hx : a.eval x = .pointer (some ⟨b, 0, none⟩)) (hy : a.eval y = z) :
    (execOp a.eval o).run Try.prog u = .ok (.value (.pointer (some ⟨b, 1, none⟩))) u := by
  subst hz
  unfold execOp
  simp only [hop, hx, hy]
  go_simp
theorem exec_ixA2 {b : Nat} {z : Value} (hz : z = .int .i64 2) (hop : o.op = .indexAddr 163 x y) (hx : a.eval x = .pointer (some ⟨b, 0, none⟩)) (hy : a.eval y = z) :
    (execOp a.eval o).run Try.prog u = .ok (.value (.pointer (some ⟨b, 2, none⟩))) u := by
  subst hz
  unfold execOp
  simp only [hop, hx, hy]
  go_simp
theorem exec_ldH {p off : Nat} {v : Value} (hop : o.op = .load 31 x) (hx : a.eval x = .pointer (some ⟨p, off, none⟩)) (hc : u.cell? ⟨p, off, none⟩ = some v) :
    (execOp a.eval o).run Try.prog u = .ok (.value v) u := by
  unfold execOp
  simp only [hop, hx]
  go_simp
theorem exec_eqHI {m n : Int} {d : Bool} (h : (m == n) = d) (hop : o.op = .binOp .eql 31 x y 31) (hx : a.eval x = .int .u32 m) (hy : a.eval y = .int .u32 n) :
    (execOp a.eval o).run Try.prog u = .ok (.value (.bool d)) u := by
  unfold execOp
  simp only [hop, hx, hy]
  go_simp
end
set_option maxRecDepth 100000 in
set_option maxHeartbeats 1000000 in
theorem iteEnds_any : EndsIs 95 Lg.ite := by
  intro a b c w ha hb hc
  have k1 := eqN (a := a) (n := 1) (m := 1) rfl
  have k2 := eqN (a := b) (n := c) (m := (c : Int)) rfl
  have k3 := eqN (a := a) (n := 0) (m := 0) rfl
  have k4 := eqN (a := b) (n := 1) (m := 1) rfl
  have k5 := eqN (a := c) (n := 0) (m := 0) rfl
  have hX1 : Blk (w.alloc (.cells (argC a b c) 163)) w.heap.size 163 (argC a b c) := Blk.new w _ _
  have hF0 : Fr [] w (w.alloc (.cells (argC a b c) 163)) := (Fr.refl _ _).alloc _
  obtain ⟨⟨c0, c1, c2⟩, z0, z1, z2⟩ := three hX1
  have HF0 := Bx.mk hF0
  have HE : Bx (Lg.ite a b c = if a = 1 ∨ b = c then some b else if a = 0 then some c else if b = 1 ∧ c = 0 then some a else none) := ⟨rfl⟩
  generalize Lg.ite a b c = E at *
  clear hX1 hF0 z0 z1 z2 ha hb hc
  by_cases h1 : a = 1
  · have hE : E = some b := by rw [HE.out, if_pos (.inl h1)]
    subst hE
    rw [decide_eq_true h1] at k1
    clear h1 HE k2 k3 k4 k5
    go_enter Try.func95, Try.ntmps95
    go_wp2_with fail
    go_ret2
    exact ⟨⟨b, rfl, fun r hr => Option.some.inj hr⟩, HF0.out⟩
  · rw [decide_eq_false h1] at k1
    by_cases h2 : b = c
    · have hE : E = some b := by rw [HE.out, if_pos (.inr h2)]
      subst hE
      rw [decide_eq_true h2] at k2
      clear h1 h2 HE k3 k4 k5
      go_enter Try.func95, Try.ntmps95
      go_wp2_with fail
      go_ret2
      exact ⟨⟨b, rfl, fun r hr => Option.some.inj hr⟩, HF0.out⟩
    · rw [decide_eq_false h2] at k2
      have hE0 : E = if a = 0 then some c else if b = 1 ∧ c = 0 then some a else none := by rw [HE.out, if_neg (by omega)]
      clear HE
      by_cases h3 : a = 0
      · have hE : E = some c := by rw [hE0, if_pos h3]
        subst hE
        rw [decide_eq_true h3] at k3
        clear h1 h2 h3 hE0 k4 k5
        go_enter Try.func95, Try.ntmps95
        go_wp2_with fail
        go_ret2
        exact ⟨⟨c, rfl, fun r hr => Option.some.inj hr⟩, HF0.out⟩
      · rw [decide_eq_false h3] at k3
        rw [if_neg h3] at hE0
        by_cases h4 : b = 1
        · rw [decide_eq_true h4] at k4
          by_cases h5 : c = 0
          · rw [decide_eq_true h5] at k5
            rw [if_pos ⟨h4, h5⟩] at hE0
            subst hE0
            have HK4 := Bx.mk k4
            have HK5 := Bx.mk k5
            have HX1 := Bx.mk (Blk.new w 163 (argC a b c))
            clear h1 h2 h3 h4 h5 k4 k5
            go_enter Try.func95, Try.ntmps95
            go_wp2_with fail
            have HX0 := HX1
            generalize w.alloc (.cells (argC a b c) 163) = w0 at *
-- ⟦ITE5T
            refine region_any 100 (fun u => Fr [] w0 u) (by kernel_rfl) ?_
            generalize hu : World.drew _ = u0
            have hS : Fr [] w0 u0 := by rw [← hu]; exact (Fr.refl _ _).drew
            clear hu
            refine any_tk (i := 0) (.pointer (some ⟨w.heap.size, 0, none⟩)) rfl rfl (by kernel_rfl) (fun _ _ d _ _ h => by cases d <;> exact h) (fun u hS => exec_ixA0 rfl rfl rfl rfl) hS ?_
            try simp only [Act.put, List.getElem_toArray, List.getElem_cons_succ, List.getElem_cons_zero, List.setIfInBounds_toArray, List.set_cons_succ, List.set_cons_zero]
            refine any_tk (i := 1) (.int .u32 (a : Int)) rfl rfl (by kernel_rfl) (fun _ _ d _ _ h => by cases d <;> exact h) (fun u hS => exec_ldH rfl rfl ((HX0.out.fr hS (by simp)).cellEq (i := 0) rfl)) hS ?_
            try simp only [Act.put, List.getElem_toArray, List.getElem_cons_succ, List.getElem_cons_zero, List.setIfInBounds_toArray, List.set_cons_succ, List.set_cons_zero]
            refine any_tk (i := 2) (.pointer (some ⟨w.heap.size, 1, none⟩)) rfl rfl (by kernel_rfl) (fun _ _ d _ _ h => by cases d <;> exact h) (fun u hS => exec_ixA1 rfl rfl rfl rfl) hS ?_
            try simp only [Act.put, List.getElem_toArray, List.getElem_cons_succ, List.getElem_cons_zero, List.setIfInBounds_toArray, List.set_cons_succ, List.set_cons_zero]
            refine any_tk (i := 3) (.int .u32 (b : Int)) rfl rfl (by kernel_rfl) (fun _ _ d _ _ h => by cases d <;> exact h) (fun u hS => exec_ldH rfl rfl ((HX0.out.fr hS (by simp)).cellEq (i := 1) rfl)) hS ?_
            try simp only [Act.put, List.getElem_toArray, List.getElem_cons_succ, List.getElem_cons_zero, List.setIfInBounds_toArray, List.set_cons_succ, List.set_cons_zero]
            refine any_tk (i := 4) (.bool true) rfl rfl (by kernel_rfl) (fun _ _ d _ _ h => by cases d <;> exact h) (fun u hS => exec_eqHI HK4.out rfl rfl rfl) hS ?_
            try simp only [Act.put, List.getElem_toArray, List.getElem_cons_succ, List.getElem_cons_zero, List.setIfInBounds_toArray, List.set_cons_succ, List.set_cons_zero]
            refine any_tk (i := 5) (.bool true) rfl rfl (by kernel_rfl) (fun _ _ d _ _ h => by cases d <;> exact h) (fun u hS => rfl) hS ?_
            try simp only [Act.put, List.getElem_toArray, List.getElem_cons_succ, List.getElem_cons_zero, List.setIfInBounds_toArray, List.set_cons_succ, List.set_cons_zero]
            refine any_tk (i := 6) (.pointer (some ⟨w.heap.size, 2, none⟩)) rfl rfl (by kernel_rfl) (fun _ _ d _ _ h => by cases d <;> exact h) (fun u hS => exec_ixA2 rfl rfl rfl rfl) hS ?_
            try simp only [Act.put, List.getElem_toArray, List.getElem_cons_succ, List.getElem_cons_zero, List.setIfInBounds_toArray, List.set_cons_succ, List.set_cons_zero]
            refine any_tk (i := 7) (.int .u32 (c : Int)) rfl rfl (by kernel_rfl) (fun _ _ d _ _ h => by cases d <;> exact h) (fun u hS => exec_ldH rfl rfl ((HX0.out.fr hS (by simp)).cellEq (i := 2) rfl)) hS ?_
            try simp only [Act.put, List.getElem_toArray, List.getElem_cons_succ, List.getElem_cons_zero, List.setIfInBounds_toArray, List.set_cons_succ, List.set_cons_zero]
            refine any_tk (i := 8) (.bool true) rfl rfl (by kernel_rfl) (fun _ _ d _ _ h => by cases d <;> exact h) (fun u hS => exec_eqHI HK5.out rfl rfl rfl) hS ?_
            try simp only [Act.put, List.getElem_toArray, List.getElem_cons_succ, List.getElem_cons_zero, List.setIfInBounds_toArray, List.set_cons_succ, List.set_cons_zero]
            refine any_tk (i := 9) (.bool true) rfl rfl (by kernel_rfl) (fun _ _ d _ _ h => by cases d <;> exact h) (fun u hS => exec_pick rfl rfl rfl) hS ?_
            try simp only [Act.put, List.getElem_toArray, List.getElem_cons_succ, List.getElem_cons_zero, List.setIfInBounds_toArray, List.set_cons_succ, List.set_cons_zero]
            refine any_tk (i := 10) (.int .u32 (a : Int)) rfl rfl (by kernel_rfl) (fun _ _ d _ _ h => by cases d <;> exact h) (fun u hS => rfl) hS ?_
            try simp only [Act.put, List.getElem_toArray, List.getElem_cons_succ, List.getElem_cons_zero, List.setIfInBounds_toArray, List.set_cons_succ, List.set_cons_zero]
            refine any_tk (i := 11) (.bool true) rfl rfl (by kernel_rfl) (fun _ _ d _ _ h => by cases d <;> exact h) (fun u hS => rfl) hS ?_
            try simp only [Act.put, List.getElem_toArray, List.getElem_cons_succ, List.getElem_cons_zero, List.setIfInBounds_toArray, List.set_cons_succ, List.set_cons_zero]
            refine any_end (by kernel_rfl) ?_
-- ⟧
            have HF1 := HF0.out.trans hS (by simp)
            clear hS
            go_wp2_with fail
            go_ret2
            exact ⟨⟨a, rfl, fun r hr => Option.some.inj hr⟩, HF1⟩
          · rw [decide_eq_false h5] at k5
            rw [if_neg (by omega)] at hE0
            subst hE0
            have HK4 := Bx.mk k4
            have HK5 := Bx.mk k5
            have HX1 := Bx.mk (Blk.new w 163 (argC a b c))
            clear h1 h2 h3 h4 h5 k4 k5
            go_enter Try.func95, Try.ntmps95
            go_wp2_with fail
            have HX0 := HX1
            generalize w.alloc (.cells (argC a b c) 163) = w0 at *
-- ⟦ITE5F
            refine region_any 100 (fun u => Fr [] w0 u) (by kernel_rfl) ?_
            generalize hu : World.drew _ = u0
            have hS : Fr [] w0 u0 := by rw [← hu]; exact (Fr.refl _ _).drew
            clear hu
            refine any_tk (i := 0) (.pointer (some ⟨w.heap.size, 0, none⟩)) rfl rfl (by kernel_rfl) (fun _ _ d _ _ h => by cases d <;> exact h) (fun u hS => exec_ixA0 rfl rfl rfl rfl) hS ?_
            try simp only [Act.put, List.getElem_toArray, List.getElem_cons_succ, List.getElem_cons_zero, List.setIfInBounds_toArray, List.set_cons_succ, List.set_cons_zero]
            refine any_tk (i := 1) (.int .u32 (a : Int)) rfl rfl (by kernel_rfl) (fun _ _ d _ _ h => by cases d <;> exact h) (fun u hS => exec_ldH rfl rfl ((HX0.out.fr hS (by simp)).cellEq (i := 0) rfl)) hS ?_
            try simp only [Act.put, List.getElem_toArray, List.getElem_cons_succ, List.getElem_cons_zero, List.setIfInBounds_toArray, List.set_cons_succ, List.set_cons_zero]
            refine any_tk (i := 2) (.pointer (some ⟨w.heap.size, 1, none⟩)) rfl rfl (by kernel_rfl) (fun _ _ d _ _ h => by cases d <;> exact h) (fun u hS => exec_ixA1 rfl rfl rfl rfl) hS ?_
            try simp only [Act.put, List.getElem_toArray, List.getElem_cons_succ, List.getElem_cons_zero, List.setIfInBounds_toArray, List.set_cons_succ, List.set_cons_zero]
            refine any_tk (i := 3) (.int .u32 (b : Int)) rfl rfl (by kernel_rfl) (fun _ _ d _ _ h => by cases d <;> exact h) (fun u hS => exec_ldH rfl rfl ((HX0.out.fr hS (by simp)).cellEq (i := 1) rfl)) hS ?_
            try simp only [Act.put, List.getElem_toArray, List.getElem_cons_succ, List.getElem_cons_zero, List.setIfInBounds_toArray, List.set_cons_succ, List.set_cons_zero]
            refine any_tk (i := 4) (.bool true) rfl rfl (by kernel_rfl) (fun _ _ d _ _ h => by cases d <;> exact h) (fun u hS => exec_eqHI HK4.out rfl rfl rfl) hS ?_
            try simp only [Act.put, List.getElem_toArray, List.getElem_cons_succ, List.getElem_cons_zero, List.setIfInBounds_toArray, List.set_cons_succ, List.set_cons_zero]
            refine any_tk (i := 5) (.bool true) rfl rfl (by kernel_rfl) (fun _ _ d _ _ h => by cases d <;> exact h) (fun u hS => rfl) hS ?_
            try simp only [Act.put, List.getElem_toArray, List.getElem_cons_succ, List.getElem_cons_zero, List.setIfInBounds_toArray, List.set_cons_succ, List.set_cons_zero]
            refine any_tk (i := 6) (.pointer (some ⟨w.heap.size, 2, none⟩)) rfl rfl (by kernel_rfl) (fun _ _ d _ _ h => by cases d <;> exact h) (fun u hS => exec_ixA2 rfl rfl rfl rfl) hS ?_
            try simp only [Act.put, List.getElem_toArray, List.getElem_cons_succ, List.getElem_cons_zero, List.setIfInBounds_toArray, List.set_cons_succ, List.set_cons_zero]
            refine any_tk (i := 7) (.int .u32 (c : Int)) rfl rfl (by kernel_rfl) (fun _ _ d _ _ h => by cases d <;> exact h) (fun u hS => exec_ldH rfl rfl ((HX0.out.fr hS (by simp)).cellEq (i := 2) rfl)) hS ?_
            try simp only [Act.put, List.getElem_toArray, List.getElem_cons_succ, List.getElem_cons_zero, List.setIfInBounds_toArray, List.set_cons_succ, List.set_cons_zero]
            refine any_tk (i := 8) (.bool false) rfl rfl (by kernel_rfl) (fun _ _ d _ _ h => by cases d <;> exact h) (fun u hS => exec_eqHI HK5.out rfl rfl rfl) hS ?_
            try simp only [Act.put, List.getElem_toArray, List.getElem_cons_succ, List.getElem_cons_zero, List.setIfInBounds_toArray, List.set_cons_succ, List.set_cons_zero]
            refine any_tk (i := 9) (.bool false) rfl rfl (by kernel_rfl) (fun _ _ d _ _ h => by cases d <;> exact h) (fun u hS => exec_pick rfl rfl rfl) hS ?_
            try simp only [Act.put, List.getElem_toArray, List.getElem_cons_succ, List.getElem_cons_zero, List.setIfInBounds_toArray, List.set_cons_succ, List.set_cons_zero]
            refine any_tk (i := 10) (.int .u32 (a : Int)) rfl rfl (by kernel_rfl) (fun _ _ d _ _ h => by cases d <;> exact h) (fun u hS => rfl) hS ?_
            try simp only [Act.put, List.getElem_toArray, List.getElem_cons_succ, List.getElem_cons_zero, List.setIfInBounds_toArray, List.set_cons_succ, List.set_cons_zero]
            refine any_tk (i := 11) (.bool false) rfl rfl (by kernel_rfl) (fun _ _ d _ _ h => by cases d <;> exact h) (fun u hS => rfl) hS ?_
            try simp only [Act.put, List.getElem_toArray, List.getElem_cons_succ, List.getElem_cons_zero, List.setIfInBounds_toArray, List.set_cons_succ, List.set_cons_zero]
            refine any_end (by kernel_rfl) ?_
-- ⟧
            have HF1 := HF0.out.trans hS (by simp)
            clear hS
            go_wp2_with fail
            go_ret2
            exact ⟨⟨a, rfl, fun r hr => by cases hr⟩, HF1⟩
        · rw [decide_eq_false h4] at k4
          rw [if_neg (by omega)] at hE0
          subst hE0
          have HK4 := Bx.mk k4
          have HX1 := Bx.mk (Blk.new w 163 (argC a b c))
          clear h1 h2 h3 h4 k5 k4
          go_enter Try.func95, Try.ntmps95
          go_wp2_with fail
          have HX0 := HX1
          generalize w.alloc (.cells (argC a b c) 163) = w0 at *
-- ⟦ITE5
          refine region_any 100 (fun u => Fr [] w0 u) (by kernel_rfl) ?_
          generalize hu : World.drew _ = u0
          have hS : Fr [] w0 u0 := by rw [← hu]; exact (Fr.refl _ _).drew
          clear hu
          refine any_tk (i := 0) (.pointer (some ⟨w.heap.size, 0, none⟩)) rfl rfl (by kernel_rfl) (fun _ _ d _ _ h => by cases d <;> exact h) (fun u hS => exec_ixA0 rfl rfl rfl rfl) hS ?_
          try simp only [Act.put, List.getElem_toArray, List.getElem_cons_succ, List.getElem_cons_zero, List.setIfInBounds_toArray, List.set_cons_succ, List.set_cons_zero]
          refine any_tk (i := 1) (.int .u32 (a : Int)) rfl rfl (by kernel_rfl) (fun _ _ d _ _ h => by cases d <;> exact h) (fun u hS => exec_ldH rfl rfl ((HX0.out.fr hS (by simp)).cellEq (i := 0) rfl)) hS ?_
          try simp only [Act.put, List.getElem_toArray, List.getElem_cons_succ, List.getElem_cons_zero, List.setIfInBounds_toArray, List.set_cons_succ, List.set_cons_zero]
          refine any_tk (i := 2) (.pointer (some ⟨w.heap.size, 1, none⟩)) rfl rfl (by kernel_rfl) (fun _ _ d _ _ h => by cases d <;> exact h) (fun u hS => exec_ixA1 rfl rfl rfl rfl) hS ?_
          try simp only [Act.put, List.getElem_toArray, List.getElem_cons_succ, List.getElem_cons_zero, List.setIfInBounds_toArray, List.set_cons_succ, List.set_cons_zero]
          refine any_tk (i := 3) (.int .u32 (b : Int)) rfl rfl (by kernel_rfl) (fun _ _ d _ _ h => by cases d <;> exact h) (fun u hS => exec_ldH rfl rfl ((HX0.out.fr hS (by simp)).cellEq (i := 1) rfl)) hS ?_
          try simp only [Act.put, List.getElem_toArray, List.getElem_cons_succ, List.getElem_cons_zero, List.setIfInBounds_toArray, List.set_cons_succ, List.set_cons_zero]
          refine any_tk (i := 4) (.bool false) rfl rfl (by kernel_rfl) (fun _ _ d _ _ h => by cases d <;> exact h) (fun u hS => exec_eqHI HK4.out rfl rfl rfl) hS ?_
          try simp only [Act.put, List.getElem_toArray, List.getElem_cons_succ, List.getElem_cons_zero, List.setIfInBounds_toArray, List.set_cons_succ, List.set_cons_zero]
          refine any_tk (i := 5) (.bool false) rfl rfl (by kernel_rfl) (fun _ _ d _ _ h => by cases d <;> exact h) (fun u hS => rfl) hS ?_
          try simp only [Act.put, List.getElem_toArray, List.getElem_cons_succ, List.getElem_cons_zero, List.setIfInBounds_toArray, List.set_cons_succ, List.set_cons_zero]
          refine any_sk (i := 6) rfl rfl (by kernel_rfl) (fun _ _ d _ _ h => by cases d <;> exact h) hS ?_
          try simp only [Act.put, List.getElem_toArray, List.getElem_cons_succ, List.getElem_cons_zero, List.setIfInBounds_toArray, List.set_cons_succ, List.set_cons_zero]
          refine any_sk (i := 7) rfl rfl (by kernel_rfl) (fun _ _ d _ _ h => by cases d <;> exact h) hS ?_
          try simp only [Act.put, List.getElem_toArray, List.getElem_cons_succ, List.getElem_cons_zero, List.setIfInBounds_toArray, List.set_cons_succ, List.set_cons_zero]
          refine any_sk (i := 8) rfl rfl (by kernel_rfl) (fun _ _ d _ _ h => by cases d <;> exact h) hS ?_
          try simp only [Act.put, List.getElem_toArray, List.getElem_cons_succ, List.getElem_cons_zero, List.setIfInBounds_toArray, List.set_cons_succ, List.set_cons_zero]
          refine any_tk (i := 9) (.bool false) rfl rfl (by kernel_rfl) (fun _ _ d _ _ h => by cases d <;> exact h) (fun u hS => exec_pickN rfl rfl rfl) hS ?_
          try simp only [Act.put, List.getElem_toArray, List.getElem_cons_succ, List.getElem_cons_zero, List.setIfInBounds_toArray, List.set_cons_succ, List.set_cons_zero]
          refine any_tk (i := 10) (.int .u32 (a : Int)) rfl rfl (by kernel_rfl) (fun _ _ d _ _ h => by cases d <;> exact h) (fun u hS => rfl) hS ?_
          try simp only [Act.put, List.getElem_toArray, List.getElem_cons_succ, List.getElem_cons_zero, List.setIfInBounds_toArray, List.set_cons_succ, List.set_cons_zero]
          refine any_tk (i := 11) (.bool false) rfl rfl (by kernel_rfl) (fun _ _ d _ _ h => by cases d <;> exact h) (fun u hS => rfl) hS ?_
          try simp only [Act.put, List.getElem_toArray, List.getElem_cons_succ, List.getElem_cons_zero, List.setIfInBounds_toArray, List.set_cons_succ, List.set_cons_zero]
          refine any_end (by kernel_rfl) ?_
-- ⟧
          have HF1 := HF0.out.trans hS (by simp)
          clear hS
          go_wp2_with fail
          go_ret2
          exact ⟨⟨a, rfl, fun r hr => by cases hr⟩, HF1⟩
set_option maxRecDepth 100000 in
theorem ite_op : LOp 5 95 Lg.ite := ⟨by omega, Tb.pw_op 5 (by omega), Lg.ite_ok, fun a b c ha hb hc => (Lg.no ha hb hc).1, iteEnds_any, fun _ _ => rfl⟩
set_option maxRecDepth 100000 in
/-- Ite -/
theorem ite_lg (base : Nat) (B : Bk) (S : Sto) (a b c l : Nat) (w : World) (G : StG w base B S) (ia : S.is a = true) (ib : S.is b = true) (ic : S.is c = true) (la : (l : Int) ≤ S.lev a) (lb : (l : Int) ≤ S.lev b) (lc : (l : Int) ≤ S.lev c) :
    Calls Try.prog 86 #[.pointer (some ⟨B.s, 0, none⟩), .int .u32 (a : Int), .int .u32 (b : Int), .int .u32 (c : Int)] w fun e w' => OpRes base B w S ((S.tab a &&& S.tab b) ||| (~~~(S.tab a) &&& S.tab c)) (Sto.cost S.n l) e w' := by
  have HR := Bx.mk (run_lg 5 _ _ ite_op base B S a b c l w G ia ib ic la lb lc)
  clear G ia ib ic la lb lc
  go_enter Try.func86, Try.ntmps86
  go_wp2_with fail
  refine HR.out.mono ?_
  rintro e w2 hres
  obtain ⟨p, r, he⟩ : ∃ (p : Int) (r : Int), e = .returned (.tuple #[.int .u32 r, .int .i64 p]) := by
    obtain ⟨_, _, _, _, _, _, _, h5⟩ := id hres
    rcases h5 with ⟨r, he, _⟩ | ⟨he, _⟩
    · exact ⟨_, _, he⟩
    · exact ⟨_, _, he⟩
  subst he
  have HQ := Bx.mk hres
  clear hres
  go_wp2_with fail
  go_ret2
  exact HQ.out
end Go.Proofs.Ythbifeoohphnpaa

/-
  Slices of numbers beside a store: read; made by append.
-/
namespace Go.Proofs.Ythbifeoohphnpaa
set_option linter.unusedVariables false
open Go.RowKit
abbrev numV (q : IntKind) (x : Int) : Value := .int q x
/-- a slice of numbers whose elements are known, not of the store's own -/
structure RdN (q : IntKind) (B : Bk) (w : World) (p : Option Addr) (xs : List Int) : Prop where
  at_ : ∀ j x, xs[j]? = some x → ∃ g off, p = some ⟨g, off, none⟩ ∧ g ∉ B.own ∧ w.cell? ⟨g, off + j, none⟩ = some (.int q x)
theorem RdN.nil (q : IntKind) (B : Bk) (w : World) (p : Option Addr) : RdN q B w p [] := ⟨fun j x h => by simp at h⟩
theorem cell_fr {F : List Nat} {w w' : World} {g o : Nat} {v : Value} (hf : Fr F w w') (hg : g ∉ F) (h : w.cell? ⟨g, o, none⟩ = some v) : w'.cell? ⟨g, o, none⟩ = some v := by
  rw [← h]
  unfold World.cell?
  rw [hf.block g (block_lt_of_cell h) hg]
theorem RdN.fr {q : IntKind} {B : Bk} {w w' : World} {p : Option Addr} {xs : List Int} {F : List Nat} (h : RdN q B w p xs) (hf : Fr F w w') (hn : ∀ g off, p = some ⟨g, off, none⟩ → g ∉ F) : RdN q B w' p xs :=
  ⟨fun j x hx => by
    obtain ⟨g, off, e, h1, h2⟩ := h.at_ j x hx
    exact ⟨g, off, e, h1, cell_fr hf (hn g off e) h2⟩⟩
theorem RdN.fr0 {q : IntKind} {B : Bk} {w w' : World} {p : Option Addr} {xs : List Int} (h : RdN q B w p xs) (hf : Fr [] w w') : RdN q B w' p xs := h.fr hf (by simp)
theorem RdN.step {q : IntKind} {B B' : Bk} {w w' : World} {p : Option Addr} {xs : List Int} (h : RdN q B w p xs) (hs : Stp B w B' w') : RdN q B' w' p xs :=
  ⟨fun j x hx => by
    obtain ⟨g, off, e, h1, h2⟩ := h.at_ j x hx
    exact ⟨g, off, e, fun hb => (hs.sub g hb).elim h1 fun hl => absurd (block_lt_of_cell h2) (by simp only; omega), cell_fr hs.fr h1 h2⟩⟩
theorem RdN.take {q : IntKind} {B : Bk} {w : World} {p : Option Addr} {xs : List Int} (h : RdN q B w p xs) (n : Nat) : RdN q B w p (xs.take n) :=
  ⟨fun j x hx => h.at_ j x (by rw [List.getElem?_take] at hx; split at hx; exact hx; cases hx)⟩
/-- a slice made by append, or none yet -/
structure LocS (q : IntKind) (ty : TypeId) (B : Bk) (w : World) (base : Nat) (v : Value) (xs : List Int) : Prop where
  row : w.ownsRow base ty 1 v xs.length (xs.map (Value.int q))
  out : ∀ b ∈ v.ownBlock.toList, b ∉ B.own
section
variable {q : IntKind} {ty : TypeId} {B B' : Bk} {w w' : World} {base : Nat} {v : Value} {xs : List Int}
theorem LocS.nil (q : IntKind) (ty : TypeId) (B : Bk) (w : World) (base : Nat) : LocS q ty B w base (.slice none 0 0) [] := ⟨World.ownsRow_nil w base _ 1, by simp [Value.ownBlock]⟩
theorem LocS.lt (h : LocS q ty B w base v xs) : ∀ b ∈ v.ownBlock.toList, base ≤ b ∧ b < w.heap.size := fun b hb => by
  cases e : v.ownBlock with
  | none => rw [e] at hb; simp at hb
  | some g => rw [e] at hb; simp at hb; subst hb; exact h.row.lt b e
theorem LocS.fr {F : List Nat} (h : LocS q ty B w base v xs) (hf : Fr F w w') (hn : ∀ b ∈ v.ownBlock.toList, b ∉ F) : LocS q ty B w' base v xs := ⟨ownsRow_fr h.row hf hn, h.out⟩
theorem LocS.fr0 (h : LocS q ty B w base v xs) (hf : Fr [] w w') : LocS q ty B w' base v xs := h.fr hf (by simp)
theorem LocS.step (h : LocS q ty B w base v xs) (hs : Stp B w B' w') : LocS q ty B' w' base v xs :=
  ⟨ownsRow_fr h.row hs.fr h.out, fun b hb hm => (hs.sub b hm).elim (h.out b hb) fun hl => absurd (h.lt b hb).2 (by omega)⟩
theorem LocS.shape (h : LocS q ty B w base v xs) : ∃ p cap, v = .slice p xs.length cap ∧ RdN q B w p xs ∧ (∀ g off, p = some ⟨g, off, none⟩ → g ∈ v.ownBlock.toList) ∧ (p = none → xs = []) := by
  rcases h.row.2 with ⟨h', h0⟩ | ⟨g, cap, cur, h', hr⟩
  · have hL : xs = [] := List.eq_nil_of_length_eq_zero h0
    subst hL
    exact ⟨none, 0, h', RdN.nil _ _ _ _, fun g off e => (by cases e), fun _ => rfl⟩
  · subst h'
    refine ⟨some ⟨g, 0, none⟩, cap, rfl, ⟨fun j x hj => ⟨g, 0, rfl, h.out g (by simp [Value.ownBlock]), ?_⟩⟩, fun g' off e => ?_, fun e => by cases e⟩
    · have hlt : j < xs.length := (List.getElem?_eq_some_iff.1 hj).1
      rw [Nat.zero_add, h.row.cellAt j (by omega), List.getElem?_map, hj]
      rfl
    · simp only [Option.some.injEq, Addr.mk.injEq] at e
      simp [Value.ownBlock, e.1]
/-- a number appended, out of a cell that holds it -/
theorem LocS.app (h : LocS q ty B w base v xs) (hlB : ∀ b ∈ B.own, b < w.heap.size) {st : TypeId} {i0 : TypeInfo} {z : Value} {bytes : Nat} (hu : Try.prog.underlying st = some (.slice ty)) (hi : Try.prog.info? ty = some i0) (hz : i0.zero = some z ∧ i0.size = 1 ∧ i0.bytes = bytes) (hz1 : z.cells.size = 1) (hby : bytes ≤ 1000) (hb : base ≤ w.heap.size) (hn : xs.length < 1000000) {x : Int} {c : Nat} {a : Addr} (hx : w.cell? a = some (.int q x)) :
    ∃ v' w', (Builtin.append_ #[st, st] st #[v, .slice (some a) 1 c]).run Try.prog w = .ok v' w' ∧ LocS q ty B w' base v' (xs ++ [x]) ∧ Fr v.ownBlock.toList w w' := by
  have hnews : ∀ j u, [Value.int q x][j]? = some u → w.cell? (a.add j) = some u := fun j u hj => by
    cases j with
    | zero => simp at hj; subst hj; exact hx
    | succ j => simp at hj
  obtain ⟨v', w', hr, h1, h2, _, h3⟩ := run_append_own_at (P := Try.prog) w base st st ty i0 z 1 bytes hu hi hz.1 hz.2.1 hz.2.2 hz1 (by omega) v xs.length (xs.map (Value.int q)) h.row a 1 c [Value.int q x] rfl hnews (by intro u hu; simp at hu; subst hu; rfl) (by unfold maxLen; omega) (by
    have : (xs.length + 1) * bytes ≤ 1000001 * 1000 := Nat.mul_le_mul (by omega) hby
    omega) hb
  refine ⟨v', w', hr, ⟨by rw [List.length_append, List.map_append]; exact h1, fun b hb2 hm => ?_⟩, (Fr.refl _ w).grown h2 (fun k hk hl => by rw [hk]; simp)⟩
  rcases h3 with h3 | h3
  · exact h.out b (by rw [← h3]; exact hb2) hm
  · rw [h3] at hb2
    simp at hb2
    have := hlB b hm
    omega
end
theorem Loc.lt' {w : World} {base : Nat} {B : Bk} {S : Sto} (h : StG w base B S) : ∀ b ∈ B.own, b < w.heap.size := by
  obtain ⟨L, h1⟩ := h.at_
  exact h1.lt
set_option maxRecDepth 100000 in
/-- the types of numbers -/
theorem info_int : ∃ i, Try.prog.info? 3 = some i ∧ i.zero = some (.int .i64 0) ∧ i.size = 1 ∧ i.bytes = 8 := by
  refine ⟨_, rfl, ?_⟩
  exact ⟨by kernel_rfl, by kernel_rfl, by kernel_rfl⟩
set_option maxRecDepth 100000 in
theorem info_hd : ∃ i, Try.prog.info? 31 = some i ∧ i.zero = some (.int .u32 0) ∧ i.size = 1 ∧ i.bytes = 4 := by
  refine ⟨_, rfl, ?_⟩
  exact ⟨by kernel_rfl, by kernel_rfl, by kernel_rfl⟩
/-- a handle appended, as the walk spells it: boxed in a new block -/
theorem LocS.app_hd {B : Bk} {w : World} {base : Nat} {v : Value} {xs : List Int} (h : LocS .u32 31 B w base v xs) (hlB : ∀ b ∈ B.own, b < w.heap.size) (hb : base ≤ w.heap.size) (hn : xs.length < 1000000) (x : Int) :
    ∃ v' w', (Builtin.append_ #[50, 50] 50 #[v, .slice (some ⟨w.heap.size, 0, none⟩) 1 1]).run Try.prog (w.alloc (.cells #[.int .u32 x] 31)) = .ok v' w' ∧ LocS .u32 31 B w' base v' (xs ++ [x]) ∧ Fr v.ownBlock.toList w w' := by
  obtain ⟨i0, hi, hz⟩ := info_hd
  have hX : Blk (w.alloc (.cells #[.int .u32 x] 31)) w.heap.size 31 #[.int .u32 x] := Blk.new w _ _
  have hf : Fr [] w (w.alloc (.cells #[.int .u32 x] 31)) := (Fr.refl _ _).alloc _
  obtain ⟨v', w', hr, h1, h2⟩ := (h.fr0 hf).app (fun b hm => by have := hlB b hm; have := hf.size; omega) (st := 50) Try.underlying50 hi hz rfl (by omega) (Nat.le_trans hb hf.size) hn (c := 1) (hX.cellEq (i := 0) rfl)
  exact ⟨v', w', hr, h1, (hf.mono (S' := v.ownBlock.toList) (by simp)).trans h2 (fun b hb _ => hb)⟩
theorem LocS.app_int {B : Bk} {w : World} {base : Nat} {v : Value} {xs : List Int} (h : LocS .i64 3 B w base v xs) (hlB : ∀ b ∈ B.own, b < w.heap.size) (hb : base ≤ w.heap.size) (hn : xs.length < 1000000) (x : Int) :
    ∃ v' w', (Builtin.append_ #[38, 38] 38 #[v, .slice (some ⟨w.heap.size, 0, none⟩) 1 1]).run Try.prog (w.alloc (.cells #[.int .i64 x] 3)) = .ok v' w' ∧ LocS .i64 3 B w' base v' (xs ++ [x]) ∧ Fr v.ownBlock.toList w w' := by
  obtain ⟨i0, hi, hz⟩ := info_int
  have hX : Blk (w.alloc (.cells #[.int .i64 x] 3)) w.heap.size 3 #[.int .i64 x] := Blk.new w _ _
  have hf : Fr [] w (w.alloc (.cells #[.int .i64 x] 3)) := (Fr.refl _ _).alloc _
  obtain ⟨v', w', hr, h1, h2⟩ := (h.fr0 hf).app (fun b hm => by have := hlB b hm; have := hf.size; omega) (st := 38) Try.underlying38 hi hz rfl (by omega) (Nat.le_trans hb hf.size) hn (c := 1) (hX.cellEq (i := 0) rfl)
  exact ⟨v', w', hr, h1, (hf.mono (S' := v.ownBlock.toList) (by simp)).trans h2 (fun b hb _ => hb)⟩
end Go.Proofs.Ythbifeoohphnpaa

/-
  Package logic: variables; and, or, xor, not.
-/
namespace Go.Proofs.Ythbifeoohphnpaa
set_option linter.unusedVariables false
open Go.RowKit
theorem ordV_cells {S : Sto} (hl : S.vars.length = 8 ∧ S.levels.length = 8) {k : Nat} (hk : k < 8) : (ordV S)[1 + k]? = some (.int .i64 ((S.vars.getD k 0 : Nat) : Int)) ∧ (ordV S)[9 + k]? = some (.int .i64 ((S.levels.getD k 0 : Nat) : Int)) := by
  unfold ordV
  rw [List.getElem?_toArray, List.getElem?_toArray, show 1 + k = k + 1 from by omega, show 9 + k = (8 + k) + 1 from by omega, List.getElem?_cons_succ, List.getElem?_cons_succ, List.getElem?_append_left (by simp; omega), List.getElem?_append_right (by simp; omega)]
  rw [List.getElem?_map, List.getElem?_map, List.length_map, hl.1, show 8 + k - 8 = k from by omega]
  rw [List.getD_eq_getElem?_getD, List.getD_eq_getElem?_getD, List.getElem?_eq_getElem (show k < S.vars.length by omega), List.getElem?_eq_getElem (show k < S.levels.length by omega)]
  exact ⟨rfl, rfl⟩
set_option maxRecDepth 100000 in
theorem olevel_any (o v : Nat) (S : Sto) (w : World) (h : Blk w o 102 (ordV S)) (hl : S.vars.length = 8 ∧ S.levels.length = 8 ∧ S.n ≤ 8) (hv : v < S.n) :
    Calls Try.prog 59 #[.pointer (some ⟨o, 0, none⟩), .int .i64 (v : Int)] w fun e w' => e = .returned (.int .i64 ((S.levels.getD v 0 : Nat) : Int)) ∧ w' = w := by
  have c0 : w.cell? ⟨o, 0, none⟩ = some (.int .i64 (S.n : Int)) := h.cellEq rfl
  have c1 : w.cell? ⟨o, 9 + v, none⟩ = some (.int .i64 ((S.levels.getD v 0 : Nat) : Int)) := h.cellEq (ordV_cells ⟨hl.1, hl.2.1⟩ (by omega)).2
  have q0 : ¬ (v : Int) < 0 := by omega
  have q1 : ¬ (v : Int) ≥ (S.n : Int) := by omega
  have q2 : (v : Int) < 8 := by omega
  have q3 : (0 : Int) ≤ (v : Int) := by omega
  clear h hl hv
  generalize S.levels.getD v 0 = r at *
  generalize S.n = n at *
  go_enter Try.func59, Try.ntmps59
  go_wp2_with fail
  go_ret
  exact ⟨rfl, rfl⟩
set_option maxRecDepth 100000 in
theorem ovar_any (o l : Nat) (S : Sto) (w : World) (h : Blk w o 102 (ordV S)) (hl : S.vars.length = 8 ∧ S.levels.length = 8 ∧ S.n ≤ 8) (hv : l < S.n) :
    Calls Try.prog 85 #[.pointer (some ⟨o, 0, none⟩), .int .i64 (l : Int)] w fun e w' => e = .returned (.int .i64 ((S.vars.getD l 0 : Nat) : Int)) ∧ w' = w := by
  have c0 : w.cell? ⟨o, 0, none⟩ = some (.int .i64 (S.n : Int)) := h.cellEq rfl
  have c1 : w.cell? ⟨o, 1 + l, none⟩ = some (.int .i64 ((S.vars.getD l 0 : Nat) : Int)) := h.cellEq (ordV_cells ⟨hl.1, hl.2.1⟩ (by omega)).1
  have q0 : ¬ (l : Int) < 0 := by omega
  have q1 : ¬ (l : Int) ≥ (S.n : Int) := by omega
  have q2 : (l : Int) < 8 := by omega
  have q3 : (0 : Int) ≤ (l : Int) := by omega
  clear h hl hv
  generalize S.vars.getD l 0 = r at *
  generalize S.n = n at *
  go_enter Try.func85, Try.ntmps85
  go_wp2_with fail
  go_ret
  exact ⟨rfl, rfl⟩
section
variable {u : World} {a : Act} {o : Oper} {x y : Operand}
theorem exec_leH {m n : Int} {d : Bool} (h : decide (m ≤ n) = d) (hop : o.op = .binOp .leq 31 x y 31) (hx : a.eval x = .int .u32 m) (hy : a.eval y = .int .u32 n) :
    (execOp a.eval o).run Try.prog u = .ok (.value (.bool d)) u := by
  unfold execOp
  simp only [hop, hx, hy]
  subst h
  go_simp
end
theorem StG.vl {w : World} {base : Nat} {B : Bk} {S : Sto} (G : StG w base B S) : S.vars.length = 8 ∧ S.levels.length = 8 ∧ S.n ≤ 8 := ⟨G.od.len.1, G.od.len.2, G.wf.n8⟩
theorem Tb.mux_var {v : Nat} (hv : v < 8) : Tb.mux (v : Int) (0#256) (~~~(0#256)) = Tb.var (v : Int) := Tb.ext_get fun x hx => by
  rw [Tb.mux_get hv hx, Tb.var_get _ _ hx, Tb.one_get hx]
  have : Tb.kn (v : Int) = true := by unfold Tb.kn; simp; omega
  rw [this]
  cases h : x.testBit v <;> simp [h]
/-- what two results tell -/
theorem OpRes.pair {base : Nat} {B : Bk} {w w' : World} {S : Sto} {T : Tb.T} {c : Nat} {e : Ending} (h : OpRes base B w S T c e w') : ∃ (p : Int) (r : Int), e = .returned (.tuple #[.int .u32 r, .int .i64 p]) := by
  obtain ⟨_, _, _, _, _, _, _, h5⟩ := h
  rcases h5 with ⟨r, he, _⟩ | ⟨he, _⟩
  · exact ⟨_, _, he⟩
  · exact ⟨_, _, he⟩
set_option maxRecDepth 100000 in
/-- a variable's node -/
theorem var_lg (base : Nat) (B : Bk) (S : Sto) (v : Nat) (w : World) (G : StG w base B S) (hv : v < S.n) :
    Calls Try.prog 65 #[.pointer (some ⟨B.s, 0, none⟩), .int .i64 (v : Int)] w fun e w' => OpRes base B w S (Tb.var (v : Int)) 1 e w' := by
  obtain ⟨l1, l2⟩ := G.od.vl v hv
  have h8 := G.wf.n8
  have HMK := Bx.mk (fun u (Gu : StG u base B S) => gmk_any base B S ⟨S.levels.getD v 0, 0, 1⟩ u Gu l1 (Sto.is_small (by show 0 < 2; omega)) (Sto.is_small (by show 1 < 2; omega)) (by rw [Sto.lev_small (show (0 : Nat) < 2 by omega)]; exact Int.ofNat_lt.2 l1) (by rw [Sto.lev_small (show (1 : Nat) < 2 by omega)]; exact Int.ofNat_lt.2 l1))
  simp only at HMK
  rw [l2, Sto.tab_zero, Sto.tab_one, Tb.mux_var (by omega)] at HMK
  have HLV := Bx.mk (fun o u (h : Blk u o 102 (ordV S)) => olevel_any o v S u h G.vl hv)
  have HG := Bx.mk G
  clear G l1 l2 h8 hv
  generalize S.levels.getD v 0 = l at *
  go_enter Try.func65, Try.ntmps65
  go_wp2_with fail
  refine (gorder_any HG.out).mono ?_
  rintro e w1 ⟨rfl, ho, hf, hz⟩
  have HF := Bx.mk hf
  have HL := Bx.mk (HLV.out _ _ ho)
  clear ho hf hz HLV
  go_wp2_with fail
  refine HL.out.mono ?_
  rintro e w2 ⟨rfl, rfl⟩
  go_wp2_with fail
  refine (HMK.out _ (HG.out.fr0 HF.out)).mono ?_
  rintro e w3 hres
  replace hres := (hres.after HF.out).mono (c' := 1) (by split <;> omega)
  obtain ⟨p, r, rfl⟩ := hres.pair
  have HR := Bx.mk hres
  clear hres HMK HL
  go_wp2_with fail
  go_ret2
  exact HR.out
/-- a handle's level, as a number -/
theorem Sto.low_le {S : Sto} (W : S.Wf) {h : Nat} (hi : S.is h = true) : ((0 : Nat) : Int) ≤ S.lev h := (Sto.lev_le W hi).1
end Go.Proofs.Ythbifeoohphnpaa

/-
  Tables put in variables' places. No program in sight.
-/
namespace Go.Proofs.Ythbifeoohphnpaa
set_option linter.unusedVariables false
open Go.RowKit
namespace Tb
/-- bits packed -/
def pk (p : Nat → Bool) : Nat → Nat
  | 0 => 0
  | k + 1 => pk p k ||| (if p k then 2 ^ k else 0)
theorem pk_bit (p : Nat → Bool) : ∀ k i, (pk p k).testBit i = (decide (i < k) && p i)
  | 0, i => by simp [pk]
  | k + 1, i => by
    unfold pk
    rw [Nat.testBit_or, pk_bit p k i]
    by_cases e : i = k
    · subst e
      cases h : p i
      · simp
      · simp [Nat.testBit_two_pow]
    · have : (if p k = true then 2 ^ k else 0).testBit i = false := by
        split
        · rw [Nat.testBit_two_pow]; simp; omega
        · simp
      rw [this, Bool.or_false]
      by_cases h : i < k
      · rw [decide_eq_true h, decide_eq_true (show i < k + 1 by omega)]
      · rw [decide_eq_false h, decide_eq_false (show ¬ i < k + 1 by omega)]
theorem pk_lt (p : Nat → Bool) : ∀ k, pk p k < 2 ^ k
  | 0 => by simp [pk]
  | k + 1 => by
    unfold pk
    have h1 := pk_lt p k
    refine Nat.or_lt_two_pow (Nat.lt_of_lt_of_le h1 (Nat.pow_le_pow_right (by omega) (by omega))) ?_
    split
    · exact Nat.pow_lt_pow_right (by omega) (by omega)
    · exact Nat.two_pow_pos _
/-- each variable as another table is -/
def subst (f : T) (g : Nat → T) : T := tab fun x => f.getLsbD (pk (fun v => (g v).getLsbD x) 8)
theorem subst_get {f : T} {g : Nat → T} {x : Nat} (hx : x < 256) : (subst f g).getLsbD x = f.getLsbD (pk (fun v => (g v).getLsbD x) 8) := by unfold subst; rw [tab_get]; simp [hx]
theorem subst_zero (g : Nat → T) : subst (0#256) g = 0#256 := ext_get fun x hx => by rw [subst_get hx]; simp
theorem subst_one (g : Nat → T) : subst (~~~(0#256)) g = ~~~(0#256) := ext_get fun x hx => by rw [subst_get hx, one_get (pk_lt _ 8), one_get hx]
theorem subst_mux {v : Nat} (hv : v < 8) (f0 f1 : T) (g : Nat → T) : subst (mux (v : Int) f0 f1) g = (g v &&& subst f1 g) ||| (~~~(g v) &&& subst f0 g) := ext_get fun x hx => by
  rw [subst_get hx, mux_get hv (pk_lt _ 8), pk_bit, decide_eq_true hv, Bool.true_and, BitVec.getLsbD_or, BitVec.getLsbD_and, BitVec.getLsbD_and, BitVec.getLsbD_not, subst_get hx, subst_get hx]
  cases (g v).getLsbD x <;> simp [hx]
/-- where it doesn't hang on a variable, that one's table doesn't matter -/
theorem subst_congr {f : T} {g g' : Nat → T} (h : ∀ v, v < 8 → g v = g' v ∨ Free f v) : subst f g = subst f g' := ext_get fun x hx => by
  rw [subst_get hx, subst_get hx]
  refine free_walk (pk_lt _ 8) (pk_lt _ 8) fun v hv => ?_
  rcases h v hv with e | e
  · left; rw [pk_bit, pk_bit, e]
  · exact .inr e
theorem subst_var (f : T) : subst f (fun v => var (v : Int)) = f := ext_get fun x hx => by
  rw [subst_get hx]
  congr 1
  refine eq_of_bits (pk_lt _ 8) hx fun i hi => ?_
  rw [pk_bit, decide_eq_true hi, Bool.true_and, var_get _ _ hx]
  have : kn (i : Int) = true := by unfold kn; simp; omega
  rw [this]
  simp
/-- one variable's table alone -/
theorem subst_one_var {k : Nat} (hk : k < 8) (f G : T) : subst f (fun v => if v = k then G else var (v : Int)) = (G &&& fix f (k : Int) true) ||| (~~~G &&& fix f (k : Int) false) := ext_get fun x hx => by
  have key : pk (fun v => (if v = k then G else var (v : Int)).getLsbD x) 8 = wth x k (G.getLsbD x) := by
    refine eq_of_bits (pk_lt _ 8) (wth_lt x hx k hk _) fun i hi => ?_
    rw [pk_bit, decide_eq_true hi, Bool.true_and, wth_bit x hx k hk _ i hi]
    by_cases e : i = k
    · rw [if_pos e, if_pos e]
    · rw [if_neg e, if_neg e, var_get _ _ hx]
      have : kn (i : Int) = true := by unfold kn; simp; omega
      rw [this]
      simp
  rw [subst_get hx, key, BitVec.getLsbD_or, BitVec.getLsbD_and, BitVec.getLsbD_and, BitVec.getLsbD_not, fix_get hk hx, fix_get hk hx]
  cases G.getLsbD x <;> simp [hx]
end Tb
/-- so many calls a walk makes, from a level on, where a table hangs on some levels alone -/
def Sto.calls (D : Nat → Bool) (n l : Nat) : Nat := 2 ^ ((List.range' l (n - l)).countP D) - 1
theorem Sto.calls_step {D : Nat → Bool} {n l : Nat} (hl : l < n) (hd : D l = true) : 1 + 2 * Sto.calls D n (l + 1) = Sto.calls D n l := by
  unfold Sto.calls
  rw [show n - l = (n - (l + 1)) + 1 from by omega, List.range'_succ, List.countP_cons, if_pos hd, Nat.pow_succ]
  have := Nat.two_pow_pos ((List.range' (l + 1) (n - (l + 1))).countP D)
  omega
theorem Sto.calls_mono {D : Nat → Bool} {n l l' : Nat} (h : l ≤ l') (hn : l' ≤ n) : Sto.calls D n l' ≤ Sto.calls D n l := by
  unfold Sto.calls
  have e : List.range' l (n - l) = List.range' l (l' - l) ++ List.range' l' (n - l') := by
    rw [show n - l = (l' - l) + (n - l') from by omega, ← List.range'_append_1, show l + (l' - l) = l' from by omega]
  rw [e, List.countP_append]
  have := Nat.pow_le_pow_right (n := 2) (by omega) (show (List.range' l' (n - l')).countP D ≤ (List.range' l (l' - l)).countP D + (List.range' l' (n - l')).countP D by omega)
  omega
theorem Sto.calls_all (n : Nat) : Sto.calls (fun _ => true) n 0 = 2 ^ n - 1 := by
  unfold Sto.calls
  rw [List.countP_true, List.length_range', Nat.sub_zero]
/-- two steps on a store, other blocks written besides -/
structure StpX (X : List Nat) (B : Bk) (w : World) (B' : Bk) (w' : World) : Prop where
  fr : Fr (X ++ B.own) w w'
  sub : ∀ b ∈ B'.own, b ∈ B.own ∨ w.heap.size ≤ b
  s : B'.s = B.s
theorem StpX.refl (X : List Nat) (B : Bk) (w : World) : StpX X B w B w := ⟨Fr.refl _ _, fun b h => .inl h, rfl⟩
theorem Stp.toX {X : List Nat} {B B' : Bk} {w w' : World} (h : Stp B w B' w') : StpX X B w B' w' := ⟨h.fr.mono (fun b hb _ => List.mem_append.2 (.inr hb)), h.sub, h.s⟩
theorem StpX.of_fr {X : List Nat} {B : Bk} {w w' : World} (h : Fr X w w') : StpX X B w B w' := ⟨h.mono (fun b hb _ => List.mem_append.2 (.inl hb)), fun b h => .inl h, rfl⟩
theorem StpX.trans {X : List Nat} {B B' B'' : Bk} {w w' w'' : World} (h : StpX X B w B' w') (k : StpX X B' w' B'' w'') : StpX X B w B'' w'' :=
  ⟨h.fr.trans k.fr (fun b hb hl => by
    rcases List.mem_append.1 hb with hb | hb
    · exact List.mem_append.2 (.inl hb)
    · exact (h.sub b hb).elim (fun h1 => List.mem_append.2 (.inr h1)) fun h2 => absurd hl (by omega)), fun b hb => by
    rcases k.sub b hb with h1 | h1
    · exact h.sub b h1
    · exact .inr (Nat.le_trans h.fr.size h1), k.s.trans h.s⟩
theorem StpX.toStp {X : List Nat} {B B' : Bk} {w w' : World} (h : StpX X B w B' w') (hx : ∀ b ∈ X, w.heap.size ≤ b) : Stp B w B' w' :=
  ⟨h.fr.mono (fun b hb hl => (List.mem_append.1 hb).elim (fun h1 => absurd (hx b h1) (by omega)) id), h.sub, h.s⟩
theorem StpX.after {X : List Nat} {B B' : Bk} {w w1 w' : World} (hf : Fr [] w w1) (h : StpX X B w1 B' w') : StpX X B w B' w' :=
  ⟨(hf.mono (S' := X ++ B.own) (by simp)).trans h.fr (fun b hb _ => hb), fun b hb => (h.sub b hb).imp_right (fun hl => Nat.le_trans hf.size hl), h.s⟩
theorem Loc.stepX {X : List Nat} {B B' : Bk} {u u' : World} {b : Nat} {t : TypeId} {cs : Array Value} (h : Loc B u b t cs) (hs : StpX X B u B' u') (hx : b ∉ X) : Loc B' u' b t cs :=
  ⟨fun hb => (hs.sub b hb).elim h.out fun hl => absurd h.blk.lt (by omega), h.blk.fr hs.fr (fun hm => (List.mem_append.1 hm).elim hx h.out)⟩
end Go.Proofs.Ythbifeoohphnpaa

/-
  Package compose: the variables' nodes.
-/
namespace Go.Proofs.Ythbifeoohphnpaa
set_option linter.unusedVariables false
open Go.RowKit
theorem LocS.app_fr {w0 w w' : World} {q : IntKind} {ty : TypeId} {B : Bk} {v : Value} {xs : List Int} (h : LocS q ty B w w0.heap.size v xs) (hf : Fr [] w0 w) (ha : Fr v.ownBlock.toList w w') : Fr [] w0 w' :=
  (hf.mono (S' := v.ownBlock.toList) (by simp)).trans ha (fun b hb _ => hb) |>.mono (fun b hb hl => absurd (h.lt b hb).1 (by omega))
theorem StG.app {w w' : World} {base b0 : Nat} {B : Bk} {S : Sto} {q : IntKind} {ty : TypeId} {v : Value} {xs : List Int} (G : StG w base B S) (h : LocS q ty B w b0 v xs) (ha : Fr v.ownBlock.toList w w') : StG w' base B S := G.fr ha (fun b hb hm => h.out b hm hb)
/-- the numbers below -/
def nats (n : Nat) : List Int := (List.range n).map fun (i : Nat) => (i : Int)
theorem nats_len (n : Nat) : (nats n).length = n := by unfold nats; simp
theorem nats_succ (n : Nat) : nats (n + 1) = nats n ++ [(n : Int)] := by unfold nats; rw [List.range_succ, List.map_append]; rfl
theorem nats_get {n i : Nat} (h : i < n) : (nats n)[i]? = some (i : Int) := by unfold nats; rw [List.getElem?_map, List.getElem?_range h]; rfl
set_option maxRecDepth 100000 in
set_option maxHeartbeats 1000000 in
theorem own_any (base : Nat) (B : Bk) (S : Sto) (w : World) (G : StG w base B S) :
    Calls Try.prog 67 #[.pointer (some ⟨B.s, 0, none⟩)] w fun e w' => ∃ v, e = .returned v ∧ LocS .i64 3 B w' w.heap.size v (nats S.n) ∧ Fr [] w w' := by
  have HV := Bx.mk (gvars_any G)
  have HG := Bx.mk G
  have h8 := G.wf.n8
  obtain ⟨n, hn⟩ : ∃ n, n = S.n := ⟨_, rfl⟩
  rw [← hn] at h8 HV ⊢
  have HN := Bx.mk hn
  clear G hn
  have q1 : (n : Int) ≤ 8 := by omega
  have q0 : (0 : Int) ≤ (n : Int) := by omega
  go_enter Try.func67, Try.ntmps67
  go_wp2_with fail
  refine HV.out.mono ?_
  rintro e w1 ⟨rfl, rfl⟩
  go_wp2_with fail
  go_loopw [3, 7] (fun v i wr => ∃ k : Nat, k ≤ n ∧ i = .int .i64 k ∧ LocS .i64 3 B wr w1.heap.size v (nats k) ∧ Fr [] w1 wr) (fun _ i _ => n - (intOf i).toNat)
  case atStart => exact ⟨0, by omega, rfl, LocS.nil _ _ _ _ _, Fr.refl _ _⟩
  case round =>
    obtain ⟨k, hk, rfl, hL, hF⟩ := hrel
    by_cases hlt : k < n
    · have HLk := Bx.mk hL
      obtain ⟨v', w', hra, hA, hf2⟩ := hL.app_int (fun b hb => Nat.lt_of_lt_of_le (Loc.lt' HG.out b hb) hF.size) hF.size (by rw [nats_len]; omega) (k : Int)
      have HA : Bx (LocS .i64 3 B w' w1.heap.size v' (nats (k + 1)) ∧ Fr [] w1 w') := ⟨by rw [nats_succ]; exact hA, hL.app_fr hF hf2⟩
      clear hL hF hA hf2
      go_wp2_with (first | (at_builtin; refine wpList_by_append _ rfl _ _ _ rfl rfl rfl hra ?_) | fail)
      exact ⟨⟨k + 1, by omega, by go_num, HA.out⟩, by simp [intOf]; omega⟩
    · obtain rfl : k = n := by omega
      have HLk := Bx.mk (And.intro hL hF)
      clear hL hF
      go_wp2_with fail
      go_ret
      exact ⟨_, rfl, HLk.out⟩
/-- handles of tables -/
def HsOf (S : Sto) (hs : List Int) (Ts : List Tb.T) : Prop := hs.length = Ts.length ∧ ∀ (j : Nat) (T : Tb.T), Ts[j]? = some T → ∃ h : Nat, hs[j]? = some (h : Int) ∧ S.is h = true ∧ S.tab h = T
theorem HsOf.nil (S : Sto) : HsOf S [] [] := ⟨rfl, fun j T h => by simp at h⟩
theorem HsOf.ext {S S' : Sto} {hs : List Int} {Ts : List Tb.T} (h : HsOf S hs Ts) (W : S.Wf) (E : S.Ext S') : HsOf S' hs Ts := ⟨h.1, fun j T hj => by
  obtain ⟨x, h1, h2, h3⟩ := h.2 j T hj
  exact ⟨x, h1, E.is h2, by rw [E.tab W h2]; exact h3⟩⟩
theorem HsOf.snoc {S : Sto} {hs : List Int} {Ts : List Tb.T} (h : HsOf S hs Ts) {x : Nat} {T : Tb.T} (hi : S.is x = true) (ht : S.tab x = T) : HsOf S (hs ++ [(x : Int)]) (Ts ++ [T]) := ⟨by simp [h.1], fun j U hj => by
  rw [List.getElem?_append] at hj
  split at hj
  · rename_i hl
    obtain ⟨y, h1, h2, h3⟩ := h.2 j U hj
    exact ⟨y, by rw [List.getElem?_append_left (by rw [h.1]; exact hl)]; exact h1, h2, h3⟩
  · rename_i hl
    have hj0 : j - Ts.length = 0 := by
      cases e : j - Ts.length with
      | zero => rfl
      | succ n => rw [e] at hj; simp at hj
    rw [hj0] at hj
    simp at hj
    subst hj
    exact ⟨x, by rw [List.getElem?_append_right (by rw [h.1]; omega), h.1, hj0]; rfl, hi, ht⟩⟩
/-- variables' tables -/
def varTs (xs : List Nat) : List Tb.T := xs.map fun (x : Nat) => Tb.var (x : Int)
theorem varTs_take {xs : List Nat} {k x : Nat} (h : xs[k]? = some x) : varTs (xs.take (k + 1)) = varTs (xs.take k) ++ [Tb.var (x : Int)] := by
  unfold varTs
  rw [List.take_add_one, h, List.map_append]
  rfl
def ints (xs : List Nat) : List Int := xs.map fun (x : Nat) => (x : Int)
theorem ints_get {xs : List Nat} {k x : Nat} (h : xs[k]? = some x) : (ints xs)[k]? = some (x : Int) := by unfold ints; rw [List.getElem?_map, h]; rfl
/-- the loop over the variables -/
structure VarSt (base : Nat) (B : Bk) (w : World) (S : Sto) (xs : List Nat) (k : Nat) (wr : World) (S1 : Sto) (B1 : Bk) (v : Value) (hs : List Int) : Prop where
  G : StG wr base B1 S1
  st : Stp B w B1 wr
  ext : S.Ext S1
  hi : S1.hi ≤ S.hi + k
  row : LocS .u32 31 B1 wr w.heap.size v hs
  ok : HsOf S1 hs (varTs (xs.take k))
/-- what a call gives that makes handles one by one -/
def VarsRes (base : Nat) (B : Bk) (w : World) (S : Sto) (Ts : List Tb.T) (c : Nat) (e : Ending) (w' : World) : Prop :=
  ∃ S' B', StG w' base B' S' ∧ Stp B w B' w' ∧ S.Ext S' ∧ S'.hi ≤ S.hi + c ∧
    ((∃ v hs, e = .returned (.tuple #[v, .int .i64 0]) ∧ LocS .u32 31 B' w' w.heap.size v hs ∧ HsOf S' hs Ts) ∨ (e = .returned (.tuple #[.slice none 0 0, .int .i64 60]) ∧ S'.room ≤ S'.len))
set_option maxRecDepth 100000 in
set_option maxHeartbeats 2000000 in
theorem variables_any (base : Nat) (B : Bk) (S : Sto) (p : Option Addr) (cap : Nat) (xs : List Nat) (w : World) (G : StG w base B S) (hr : RdN .i64 B w p (ints xs)) (hx : ∀ x ∈ xs, x < S.n) (hn : xs.length ≤ 100) :
    Calls Try.prog 66 #[.pointer (some ⟨B.s, 0, none⟩), .slice p xs.length cap] w (VarsRes base B w S (varTs xs) xs.length) := by
  have HG := Bx.mk G
  have HRD := Bx.mk hr
  have HX := Bx.mk hx
  obtain ⟨n, hnn⟩ : ∃ n, n = xs.length := ⟨_, rfl⟩
  rw [← hnn] at hn ⊢
  have HN := Bx.mk hnn
  clear G hr hx hnn
  have q1 : (n : Int) ≤ 100 := by omega
  go_enter Try.func66, Try.ntmps66
  go_wp2_with fail
  go_loopw [6, 13] (fun v i wr => ∃ (k : Nat) (S1 : Sto) (B1 : Bk) (hs : List Int), k ≤ n ∧ i = .int .i64 k ∧ VarSt base B w S xs k wr S1 B1 v hs) (fun _ i _ => n - (intOf i).toNat)
  case atStart => exact ⟨0, S, B, [], by omega, rfl, HG.out, Stp.refl _ _, Sto.Ext.refl _, by omega, LocS.nil _ _ _ _ _, by rw [List.take_zero]; exact HsOf.nil S⟩
  case round =>
    obtain ⟨k, S1, B1, hs, hk, rfl, hV⟩ := hrel
    by_cases hlt : k < n
    · obtain ⟨x, hxk⟩ : ∃ x, xs[k]? = some x := ⟨_, List.getElem?_eq_getElem (by rw [← HN.out]; exact hlt)⟩
      obtain ⟨g, off, rfl, hgo, hc⟩ := (HRD.out.step hV.st).at_ k x (ints_get hxk)
      have HVR := Bx.mk (var_lg base B1 S1 x wr hV.G (by rw [hV.ext.n]; exact HX.out x (List.mem_of_getElem? hxk)))
      rw [hV.st.s] at HVR
      have HV := Bx.mk hV
      have HXK := Bx.mk hxk
      clear hV hgo hxk
      go_wp2_with fail
      refine HVR.out.mono ?_
      rintro e w2 hres
      obtain ⟨S2, B2, G2, st2, E2, nw2, hi2, p2, r2, rfl, hr2⟩ := hres.shape
      have hrow := HV.out.row.step st2
      have HP2 : Bx (StG w2 base B2 S2 ∧ Stp B w B2 w2 ∧ S.Ext S2 ∧ S2.hi ≤ S.hi + (k + 1) ∧ HsOf S2 hs (varTs (xs.take k))) := ⟨G2, HV.out.st.trans st2, HV.out.ext.trans E2, by have := HV.out.hi; omega, HV.out.ok.ext HV.out.G.wf E2⟩
      have HR2 := Bx.mk hr2
      clear hres G2 st2 E2 nw2 hi2 hr2 HVR hc
      cases p2 with
      | false =>
        have HROW := Bx.mk hrow
        clear hrow
        simp only [Bool.false_eq_true, if_false]
        go_wp2_with fail
        go_ret2
        exact ⟨S2, B2, HP2.out.1, HP2.out.2.1, HP2.out.2.2.1, by have := HP2.out.2.2.2.1; omega, .inr ⟨rfl, by simpa using HR2.out⟩⟩
      | true =>
        simp only [if_true]
        have hr2 := HR2.out
        simp only [if_true] at hr2
        obtain ⟨v', w', hra, hA, hf2⟩ := hrow.app_hd (Loc.lt' HP2.out.1) HP2.out.2.1.fr.size (by rw [HP2.out.2.2.2.2.1]; unfold varTs; simp; omega) (r2 : Int)
        have HA : Bx (VarSt base B w S xs (k + 1) w' S2 B2 v' (hs ++ [(r2 : Int)])) := ⟨⟨HP2.out.1.app hrow hf2, ⟨(HP2.out.2.1.fr.trans hf2 (fun b hb hl => absurd (hrow.lt b hb).1 (by omega))), HP2.out.2.1.sub, HP2.out.2.1.s⟩, HP2.out.2.2.1, HP2.out.2.2.2.1, hA, by rw [varTs_take HXK.out]; exact HP2.out.2.2.2.2.snoc hr2.1 hr2.2⟩⟩
        clear hrow hr2 hA hf2 HR2
        go_wp2_with (first | (at_builtin; refine wpList_by_append _ rfl _ _ _ rfl rfl rfl hra ?_) | fail)
        exact ⟨⟨k + 1, S2, B2, _, by omega, by go_num, HA.out⟩, by simp [intOf]; omega⟩
    · obtain rfl : k = n := by omega
      have HV := Bx.mk hV
      clear hV
      go_wp2_with fail
      go_ret2
      have hV := HV.out
      exact ⟨S1, B1, hV.G, hV.st, hV.ext, hV.hi, .inl ⟨_, hs, rfl, hV.row, by have := hV.ok; rw [HN.out, List.take_length] at this; exact this⟩⟩
end Go.Proofs.Ythbifeoohphnpaa

/-
  Package compose: what a walk keeps; both children.
-/
namespace Go.Proofs.Ythbifeoohphnpaa
set_option linter.unusedVariables false
open Go.RowKit
abbrev cwV (s : Nat) (p : Option Addr) (n cap bm : Nat) : Value := .agg #[.pointer (some ⟨s, 0, none⟩), .slice p n cap, .map (some bm)]
abbrev cwC (s : Nat) (p : Option Addr) (n cap bm : Nat) : Array Value := #[.pointer (some ⟨s, 0, none⟩), .slice p n cap, .map (some bm)]
abbrev HMap (w : World) (bm : Nat) (m : Nat → Option Nat) : Prop := MapI 31 31 .u32 .u32 w bm m
/-- what a walk stands on: a store, tables in variables' places, what was done already -/
structure CEnv (base bm : Nat) (p : Option Addr) (gs : List Int) (gt : Nat → Tb.T) (B : Bk) (S : Sto) (m : Nat → Option Nat) (w : World) : Prop where
  G : StG w base B S
  rd : RdN .u32 B w p gs
  mp : HMap w bm m
  bo : bm ∉ B.own
  pb : ∀ g off, p = some ⟨g, off, none⟩ → g ≠ bm
  len : gs.length = S.n
  gi : ∀ v, v < S.n → ∃ h : Nat, gs[v]? = some (h : Int) ∧ S.is h = true ∧ S.tab h = gt v
  ok : ∀ x r, m x = some r → S.is x = true ∧ S.is r = true ∧ S.tab r = Tb.subst (S.tab x) gt
section
variable {base bm : Nat} {p : Option Addr} {gs : List Int} {gt : Nat → Tb.T} {B B' : Bk} {S S' : Sto} {m : Nat → Option Nat} {w w' : World}
theorem CEnv.fr0 (h : CEnv base bm p gs gt B S m w) (hf : Fr [] w w') : CEnv base bm p gs gt B S m w' :=
  ⟨h.G.fr0 hf, h.rd.fr0 hf, h.mp.fr hf (by simp), h.bo, h.pb, h.len, h.gi, h.ok⟩
theorem CEnv.step (h : CEnv base bm p gs gt B S m w) (G' : StG w' base B' S') (hs : Stp B w B' w') (E : S.Ext S') : CEnv base bm p gs gt B' S' m w' :=
  ⟨G', h.rd.step hs, h.mp.fr hs.fr h.bo, fun hb => (hs.sub bm hb).elim h.bo fun hl => absurd h.mp.lt (by omega), h.pb, by rw [E.n]; exact h.len, fun v hv => by
    obtain ⟨x, h1, h2, h3⟩ := h.gi v (by rw [← E.n]; exact hv)
    exact ⟨x, h1, E.is h2, by rw [E.tab h.G.wf h2]; exact h3⟩, fun x r hx => by
    obtain ⟨h1, h2, h3⟩ := h.ok x r hx
    exact ⟨E.is h1, E.is h2, by rw [E.tab h.G.wf h1, E.tab h.G.wf h2]; exact h3⟩⟩
end
/-- what one joining costs at most -/
def KapOk (D : Nat → Bool) (n : Nat) (vars : List Nat) (gt : Nat → Tb.T) (κ : Nat → Nat) : Prop := ∀ (l : Nat) (f : Tb.T) (S1 S2 : Sto), l < n → (∀ i, i < n → (D i = false ∨ i < l) → Tb.Free f (vars.getD i 0)) → S1.Wf → S2.Wf → S1.Ord → S1.n = n → S1.vars = vars → S1.Ext S2 → S1.New S2 (Tb.subst f gt) → S2.hi ≤ S1.hi + Sto.cost n 0 → S2.hi ≤ S1.hi + κ l
/-- what a whole walk costs, from a level on -/
def CostOk (D : Nat → Bool) (n : Nat) (κ C : Nat → Nat) : Prop := ∀ l l', l ≤ l' → l' < n → D l' = true → κ l' + 2 * C (l' + 1) ≤ C l
/-- what a walk gives -/
def CRes (base bm : Nat) (p : Option Addr) (gs : List Int) (gt : Nat → Tb.T) (B : Bk) (w : World) (S : Sto) (f cost : Nat) (e : Ending) (w' : World) : Prop :=
  ∃ S' B' m', CEnv base bm p gs gt B' S' m' w' ∧ StpX [bm] B w B' w' ∧ S.Ext S' ∧ S'.hi ≤ S.hi + cost ∧ ((∃ r, e = retHE r 0 ∧ S'.is r = true ∧ S'.tab r = Tb.subst (S.tab f) gt) ∨ (e = retHE 0 60 ∧ S'.room ≤ S'.len))
theorem CRes.shape {base bm : Nat} {p : Option Addr} {gs : List Int} {gt : Nat → Tb.T} {B : Bk} {w w' : World} {S : Sto} {f cost : Nat} {e : Ending} (h : CRes base bm p gs gt B w S f cost e w') :
    ∃ S' B' m', CEnv base bm p gs gt B' S' m' w' ∧ StpX [bm] B w B' w' ∧ S.Ext S' ∧ S'.hi ≤ S.hi + cost ∧ ∃ (q : Bool) (r : Nat), e = (if q then .returned (.tuple #[.int .u32 (r : Int), .int .i64 0]) else .returned (.tuple #[.int .u32 0, .int .i64 60])) ∧ if q then S'.is r = true ∧ S'.tab r = Tb.subst (S.tab f) gt else S'.room ≤ S'.len := by
  obtain ⟨S', B', m', h1, h2, h3, h4, h5⟩ := h
  refine ⟨S', B', m', h1, h2, h3, h4, ?_⟩
  rcases h5 with ⟨r, he, h6⟩ | ⟨he, h6⟩
  · exact ⟨true, r, by rw [he]; rfl, h6⟩
  · exact ⟨false, 0, by rw [he]; rfl, h6⟩
/-- the walk's contract from a level on -/
def DoesC (D : Nat → Bool) (κ C : Nat → Nat) (l : Nat) : Prop := ∀ (base bm : Nat) (p : Option Addr) (cap : Nat) (gs : List Int) (gt : Nat → Tb.T) (B : Bk) (S : Sto) (m : Nat → Option Nat) (f : Nat) (w : World),
  CEnv base bm p gs gt B S m w → KapOk D S.n S.vars gt κ → CostOk D S.n κ C → S.is f = true → (l : Int) ≤ S.lev f → (∀ i, i < S.n → D i = false → Tb.Free (S.tab f) (S.vars.getD i 0)) →
    Calls Try.prog 68 #[cwV B.s p S.n cap bm, .int .u32 (f : Int)] w (CRes base bm p gs gt B w S f (C l))
/-- what both children give -/
def BothRes (base bm : Nat) (p : Option Addr) (gs : List Int) (gt : Nat → Tb.T) (B : Bk) (w : World) (S : Sto) (a b cost : Nat) (e : Ending) (w' : World) : Prop :=
  ∃ S' B' m', CEnv base bm p gs gt B' S' m' w' ∧ StpX [bm] B w B' w' ∧ S.Ext S' ∧ S'.hi ≤ S.hi + cost ∧ ∃ (q : Bool) (r1 r2 : Nat), e = (if q then .returned (.tuple #[.int .u32 (r1 : Int), .int .u32 (r2 : Int), .int .i64 0]) else .returned (.tuple #[.int .u32 (r1 : Int), .int .u32 (r2 : Int), .int .i64 60])) ∧
    if q then S'.is r1 = true ∧ S'.tab r1 = Tb.subst (S.tab a) gt ∧ S'.is r2 = true ∧ S'.tab r2 = Tb.subst (S.tab b) gt else S'.room ≤ S'.len
set_option maxRecDepth 100000 in
set_option maxHeartbeats 2000000 in
theorem both_any (D : Nat → Bool) (κ C : Nat → Nat) (base bm : Nat) (p : Option Addr) (cap : Nat) (gs : List Int) (gt : Nat → Tb.T) (B : Bk) (S : Sto) (m : Nat → Option Nat) (f : Nat) (nd : Nd) (w : World) (E : CEnv base bm p gs gt B S m w) (HK : KapOk D S.n S.vars gt κ) (HC : CostOk D S.n κ C) (hg : S.get f = some nd) (ih : DoesC D κ C (nd.l + 1))
    (hfr : ∀ q : Bool, ∀ i, i < S.n → D i = false → Tb.Free (S.tab (if q then nd.b else nd.a)) (S.vars.getD i 0)) :
    Calls Try.prog 84 #[.pointer (some ⟨B.s, 0, none⟩), .int .u32 (f : Int), .func (.func 68) #[cwV B.s p S.n cap bm] #[]] w (BothRes base bm p gs gt B w S nd.a nd.b (2 * (C (nd.l + 1)))) := by
  unfold DoesC at ih
  obtain ⟨k1, k2, k3, k4, k5⟩ := E.G.wf.kid f nd hg
  have hlo : S.low f = nd.a := by unfold Sto.low; rw [hg]
  have hhi : S.high f = nd.b := by unfold Sto.high; rw [hg]
  have HLO := Bx.mk (glow_any E.G (Sto.is_of hg))
  rw [hlo] at HLO
  have HD1 := Bx.mk (ih base bm p cap gs gt B S m nd.a w E HK HC k2 (by omega) (hfr false))
  have HD2 := Bx.mk (fun B1 S1 m1 (w1 : World) (E1 : CEnv base bm p gs gt B1 S1 m1 w1) (X : S.Ext S1) (hs : B1.s = B.s) => by
    have h := ih base bm p cap gs gt B1 S1 m1 nd.b w1 E1 (by rw [X.n, X.vars]; exact HK) (by rw [X.n]; exact HC) (X.is k3) (by rw [X.lev k3]; omega) (by rw [X.n, X.vars, X.tab E.G.wf k3]; exact hfr true)
    rw [hs, X.n] at h
    exact h)
  have HHI := Bx.mk (fun B1 S1 m1 (w1 : World) (E1 : CEnv base bm p gs gt B1 S1 m1 w1) (X : S.Ext S1) (hs : B1.s = B.s) => by
    have h := ghigh_any E1.G (Sto.is_of (X.get f nd hg))
    rw [hs, show S1.high f = nd.b from by unfold Sto.high; rw [X.get f nd hg]] at h
    exact h)
  have HE := Bx.mk E
  have HN := Bx.mk (And.intro k2 k3)
  clear E HK HC ih k1 k2 k3 k4 k5 hlo hhi hfr hg
  generalize S.n = n at *
  go_enter Try.func84, Try.ntmps84
  go_wp2_with fail
  refine HLO.out.mono ?_
  rintro e w1 ⟨rfl, rfl⟩
  go_wp2_with fail
  refine HD1.out.mono ?_
  rintro e w2 hres
  obtain ⟨S1, B1, m1, E1, st1, X1, hi1, q1, r1, rfl, hr1⟩ := hres.shape
  have HR1 := Bx.mk hr1
  have HP1 : Bx (CEnv base bm p gs gt B1 S1 m1 w2 ∧ StpX [bm] B w1 B1 w2 ∧ S.Ext S1 ∧ S1.hi ≤ S.hi + C (nd.l + 1)) := ⟨E1, st1, X1, hi1⟩
  have HH := Bx.mk (HHI.out B1 S1 m1 w2 E1 X1 st1.s)
  have HDD := Bx.mk (HD2.out B1 S1 m1 w2 E1 X1 st1.s)
  clear hr1 hres E1 st1 X1 hi1 HD1 HD2 HHI
  cases q1 with
  | false =>
    simp only [Bool.false_eq_true, if_false]
    go_wp2_with fail
    refine bodyPost_ret (v := .tuple #[.int .u32 0, .int .u32 0, .int .i64 60]) (by simp [results, Try.results84, go_sem]) rfl ?_
    exact ⟨S1, B1, m1, HP1.out.1, HP1.out.2.1, HP1.out.2.2.1, by have := HP1.out.2.2.2; omega, false, 0, 0, rfl, by simpa using HR1.out⟩
  | true =>
    simp only [if_true]
    go_wp2_with fail
    refine HH.out.mono ?_
    rintro e w3 ⟨rfl, rfl⟩
    go_wp2_with fail
    refine HDD.out.mono ?_
    rintro e w4 hres
    obtain ⟨S2, B2, m2, E2, st2, X2, hi2, q2, r2, rfl, hr2⟩ := hres.shape
    have HR2 := Bx.mk hr2
    have HP2 : Bx (CEnv base bm p gs gt B2 S2 m2 w4 ∧ StpX [bm] B w1 B2 w4 ∧ S.Ext S2 ∧ S2.hi ≤ S.hi + 2 * (C (nd.l + 1)) ∧ S1.Ext S2) := ⟨E2, HP1.out.2.1.trans st2, HP1.out.2.2.1.trans X2, by have := HP1.out.2.2.2; omega, X2⟩
    clear hr2 hres E2 st2 X2 hi2 HDD HH
    cases q2 with
    | false =>
      simp only [Bool.false_eq_true, if_false]
      go_wp2_with fail
      refine bodyPost_ret (v := .tuple #[.int .u32 (r1 : Int), .int .u32 0, .int .i64 60]) (by simp [results, Try.results84, go_sem]) rfl ?_
      exact ⟨S2, B2, m2, HP2.out.1, HP2.out.2.1, HP2.out.2.2.1, HP2.out.2.2.2.1, false, r1, 0, rfl, by simpa using HR2.out⟩
    | true =>
      simp only [if_true]
      go_wp2_with fail
      refine bodyPost_ret (v := .tuple #[.int .u32 (r1 : Int), .int .u32 (r2 : Int), .int .i64 0]) (by simp [results, Try.results84, go_sem]) rfl ?_
      have hr1 := HR1.out
      have hr2 := HR2.out
      simp only [if_true] at hr1 hr2
      exact ⟨S2, B2, m2, HP2.out.1, HP2.out.2.1, HP2.out.2.2.1, HP2.out.2.2.2.1, true, r1, r2, rfl, HP2.out.2.2.2.2.is hr1.1, by rw [HP2.out.2.2.2.2.tab HP1.out.1.G.wf hr1.1]; exact hr1.2, hr2.1, by rw [hr2.2, HP1.out.2.2.1.tab HE.out.G.wf HN.out.2]⟩
end Go.Proofs.Ythbifeoohphnpaa
