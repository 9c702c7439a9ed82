/-
  The walks of the document's tables, tenth part: the nodes of functions under an order.
-/
import Derived.Test.YtfkefgelceaimaaDoorRefI
import Derived.Test.YtfkefgelceaimaaDoorPartsPlain
import Derived.Test.YtfkefgelceaimaaDoorLaw3
import Derived.Test.YtfkefgelceaimaaDoorFloat2
namespace Go.Proofs.YtfkefgelceaimaaDoor
set_option linter.unusedVariables false
open Go.RowKit

/-- two slices lie in two blocks -/
def Apart (v u : Value) : Prop := ∀ k, v.ownBlock = some k → u.ownBlock ≠ some k
theorem Apart.symm {v u : Value} (h : Apart v u) : Apart u v := fun k hk hv => h k hv hk
theorem Apart.nil (v : Value) : Apart v (.slice none 0 0) := fun k _ h => by simp [Value.ownBlock] at h
theorem Apart.kept {w : World} {base : Nat} {v v' u : Value} {L : List Tb.T} (h : Apart v u) (hu : TSl w base u L) (hb : v'.ownBlock = v.ownBlock ∨ v'.ownBlock = some w.heap.size) : Apart v' u := fun k hk e => by
  rcases hb with hb | hb
  · exact h k (hb ▸ hk) e
  · have := (hu.lt e).2
    rw [hb] at hk
    obtain rfl := Option.some.inj hk
    omega
theorem Apart.row {v u : Value} (h : Apart v u) : u.ownBlock = none ∨ u.ownBlock ≠ v.ownBlock := by
  cases e : u.ownBlock with
  | none => exact .inl rfl
  | some k => exact .inr fun e' => h k e'.symm e

/-- the outer loop -/
structure PS (w wr : World) (fs : List Tb.T) (ws : List Int) (k : Nat) (va vn : Value) (La Ln : List Tb.T) : Prop where
  all : TSl wr w.heap.size va La
  now : TSl wr w.heap.size vn Ln
  apart : Apart va vn
  below : Below w.heap.size w wr
  lev : k ≤ ws.length → Tb.Same Ln (Tb.Lv fs ws k)
  cof : Tb.Same La (Tb.Up fs ws k)
  nd : La.Nodup
  fewn : Ln.length ≤ 4 * 2 ^ k
  fewa : La.length ≤ 4 * 2 ^ k
/-- the first loop: the functions, each once -/
structure PF (w wr : World) (fs : List Tb.T) (i : Nat) (vn : Value) (Ln : List Tb.T) : Prop where
  now : TSl wr w.heap.size vn Ln
  below : Below w.heap.size w wr
  same : Tb.Same Ln (fun F => F ∈ fs.take i)
  few : Ln.length ≤ i
/-- a slice of tables that came in, in a later world -/
theorem TabsAt.below {w w' : World} {p : Option Addr} {L : List Tb.T} (h : TabsAt w p L) (hb : Below w.heap.size w w') : TabsAt w' p L :=
  ⟨fun j F hj => by
    obtain ⟨g, off, e, hc⟩ := h.at_ j F hj
    exact ⟨g, off, e, fun i hi => by rw [hb.cell (block_lt_of_cell (hc i hi))]; exact hc i hi⟩⟩
theorem TabsAt.cells4 {w : World} {g off : Nat} {L : List Tb.T} (h : TabsAt w (some ⟨g, off, none⟩) L) {k : Nat} {F : Tb.T} (hk : L[k]? = some F) :
    w.cell? ⟨g, off + k * 4, none⟩ = some (.int .u64 (Tb.wd F 0)) ∧ w.cell? ⟨g, off + k * 4 + 1, none⟩ = some (.int .u64 (Tb.wd F 1)) ∧ w.cell? ⟨g, off + k * 4 + 2, none⟩ = some (.int .u64 (Tb.wd F 2)) ∧ w.cell? ⟨g, off + k * 4 + 3, none⟩ = some (.int .u64 (Tb.wd F 3)) := by
  obtain ⟨g', off', e, hc⟩ := h.at_ k F hk
  simp only [Option.some.injEq, Addr.mk.injEq, and_true] at e
  obtain ⟨rfl, rfl⟩ := e
  exact ⟨hc 0 (by omega), hc 1 (by omega), hc 2 (by omega), hc 3 (by omega)⟩
theorem take_same {fs : List Tb.T} {i : Nat} {G : Tb.T} (hG : fs[i]? = some G) (F : Tb.T) : F ∈ fs.take (i + 1) ↔ F ∈ fs.take i ∨ F = G := by
  rw [List.take_add_one, hG, Option.toList_some, List.mem_append, List.mem_singleton]

/-- the inner loop -/
structure PI (w wr : World) (fs : List Tb.T) (ws : List Int) (k i : Nat) (va vn vx : Value) (La Ln Lx : List Tb.T) : Prop where
  all : TSl wr w.heap.size va La
  now : TSl wr w.heap.size vn Ln
  nx : TSl wr w.heap.size vx Lx
  an : Apart va vn
  ax : Apart va vx
  xn : Apart vx vn
  below : Below w.heap.size w wr
  cof : Tb.Same La (Tb.UpI fs ws k Ln i)
  nd : La.Nodup
  fewa : La.length ≤ 4 * 2 ^ k + i
  fewx : Lx.length ≤ 2 * i
  sx : k < ws.length → Tb.Same Lx (Tb.Both (Ln.take i) (ws.getD k 0))
theorem PI.step {w wr w1 : World} {fs : List Tb.T} {ws : List Int} {k i : Nat} {va vn vx : Value} {La Ln Lx : List Tb.T} (h : PI w wr fs ws k i va vn vx La Ln Lx) (hb : Below wr.heap.size wr w1) : PI w w1 fs ws k i va vn vx La Ln Lx :=
  ⟨h.all.below hb, h.now.below hb, h.nx.below hb, h.an, h.ax, h.xn, h.below.trans (hb.mono h.below.size), h.cof, h.nd, h.fewa, h.fewx, h.sx⟩
theorem PI.done {w wr : World} {fs : List Tb.T} {ws : List Int} {k : Nat} {va vn vx : Value} {La Ln Lx : List Tb.T} (h : PI w wr fs ws k Ln.length va vn vx La Ln Lx) (hl : k ≤ ws.length → Tb.Same Ln (Tb.Lv fs ws k)) (hf : Ln.length ≤ 4 * 2 ^ k) (hk : k ≤ ws.length) : PS w wr fs ws (k + 1) va vx La Lx := by
  refine ⟨h.all, h.nx, h.ax, h.below, fun hk1 => ?_, Tb.upI_all (hl hk) h.cof, h.nd, ?_, ?_⟩
  · have hkl : k < ws.length := by omega
    have sx := h.sx hkl
    rw [List.take_length] at sx
    have hv : ws[k]? = some (ws.getD k 0) := by simp [List.getD, hkl]
    exact ⟨fun F => by rw [sx.iff F]; exact Tb.lv_succ hv (hl hk) F⟩
  · have h1 := h.fewx
    rw [Nat.pow_succ]; omega
  · have h1 := h.fewa
    rw [Nat.pow_succ]; omega
/-- the inner loop, behind the first if -/
structure PH (w wq : World) (fs : List Tb.T) (ws : List Int) (k i b : Nat) (F : Tb.T) (va vn vx : Value) (La Ln Lx : List Tb.T) : Prop where
  all : TSl wq w.heap.size va La
  now : TSl wq w.heap.size vn Ln
  nx : TSl wq w.heap.size vx Lx
  an : Apart va vn
  ax : Apart va vx
  xn : Apart vx vn
  below : Below w.heap.size w wq
  cof : Tb.Same La (Tb.UpI fs ws k Ln (i + 1))
  nd : La.Nodup
  fewa : La.length ≤ 4 * 2 ^ k + (i + 1)
  fewx : Lx.length ≤ 2 * i
  sx : k < ws.length → Tb.Same Lx (Tb.Both (Ln.take i) (ws.getD k 0))
  box : Blk wq b 24 (Tb.tcells F)
  ge : w.heap.size ≤ b
  b9 : ∀ j, vx.ownBlock = some j → j ≠ b
theorem PH.step {w wq w1 : World} {fs : List Tb.T} {ws : List Int} {k i b : Nat} {F : Tb.T} {va vn vx : Value} {La Ln Lx : List Tb.T} (h : PH w wq fs ws k i b F va vn vx La Ln Lx) (hb : Below wq.heap.size wq w1) : PH w w1 fs ws k i b F va vn vx La Ln Lx :=
  ⟨h.all.below hb, h.now.below hb, h.nx.below hb, h.an, h.ax, h.xn, h.below.trans (hb.mono h.below.size), h.cof, h.nd, h.fewa, h.fewx, h.sx, h.box.below hb h.box.lt, h.ge, h.b9⟩
/-- .. behind the next one's first half -/
structure PX (w wq : World) (y : Nat) (B : Tb.T) (va vn vx : Value) (La Ln Lx : List Tb.T) : Prop where
  all : TSl wq w.heap.size va La
  now : TSl wq w.heap.size vn Ln
  nx : TSl wq w.heap.size vx Lx
  an : Apart va vn
  ax : Apart va vx
  xn : Apart vx vn
  below : Below w.heap.size w wq
  box : Blk wq y 24 (Tb.tcells B)
  y9 : ∀ j, vx.ownBlock = some j → j ≠ y
theorem PX.step {w wq w1 : World} {y : Nat} {B : Tb.T} {va vn vx : Value} {La Ln Lx : List Tb.T} (h : PX w wq y B va vn vx La Ln Lx) (hb : Below wq.heap.size wq w1) : PX w w1 y B va vn vx La Ln Lx :=
  ⟨h.all.below hb, h.now.below hb, h.nx.below hb, h.an, h.ax, h.xn, h.below.trans (hb.mono h.below.size), h.box.below hb h.box.lt, h.y9⟩
/-- a table appended, as the walk spells it -/
structure App (w w1 w' : World) (v v' : Value) (L : List Tb.T) (G : Tb.T) : Prop where
  own : TSl w' w.heap.size v' (L ++ [G])
  below : Below w.heap.size w w'
  other : ∀ u M, TSl w1 w.heap.size u M → Apart v u → TSl w' w.heap.size u M ∧ Apart v' u
  blk : ∀ (g t : Nat) (cs : Array Value), Blk w1 g t cs → w.heap.size ≤ g → (∀ k, v.ownBlock = some k → k ≠ g) → Blk w' g t cs ∧ (∀ k, v'.ownBlock = some k → k ≠ g)
theorem app_run {w w1 : World} {v : Value} {L : List Tb.T} (h : TSl w1 w.heap.size v L) (hw : Below w.heap.size w w1) (G : Tb.T) (hn : L.length < 1000000) :
    ∃ v' w', (Builtin.append_ #[25, 25] 25 #[v, .slice (some ⟨w1.heap.size, 0, none⟩) 1 1]).run Tryd.prog (w1.alloc (.cells #[.int .u64 (Tb.wd G 0), .int .u64 (Tb.wd G 1), .int .u64 (Tb.wd G 2), .int .u64 (Tb.wd G 3)] 24)) = .ok v' w' ∧ App w w1 w' v v' L G := by
  obtain ⟨bx, bg, bz⟩ := boxed_new w1 G
  have hb := hw.size
  have hx : ∀ i, i < 4 → (w1.alloc (.cells (Tb.tcells G) 24)).cell? ⟨w1.heap.size, i, none⟩ = some (.int .u64 (Tb.wd G i)) := fun i hi => by
    rw [bx.cell]
    match i, hi with
    | 0, _ => rfl
    | 1, _ => rfl
    | 2, _ => rfl
    | 3, _ => rfl
  have h1 := h.kept bg (by cases e : v.ownBlock <;> simp)
  obtain ⟨v', w', hr, ht, hg, hbk⟩ := h1.run_append G w1.heap.size hx hn (by rw [bz]; omega) 25 1
  refine ⟨v', w', hr, ht, ?_, fun u M hu ha => ⟨?_, ?_⟩, fun g t cs hB hge hne => ⟨?_, ?_⟩⟩
  · exact (hw.alloc hb _).grown hg (by rw [bz]; omega) (fun k hk => (h.lt hk).1)
  · exact (hu.kept bg (by cases e : u.ownBlock <;> simp)).kept hg ha.row
  · exact ha.kept (hu.kept bg (by cases e : u.ownBlock <;> simp)) hbk
  · refine (hB.grown bg (by simp)).grown hg ?_
    intro e
    exact hne g e.symm rfl
  · intro k hk e
    subst e
    rcases hbk with hbk | hbk
    · exact hne _ (hbk ▸ hk) rfl
    · rw [bz] at hbk
      have := hB.lt
      rw [hbk] at hk
      have := Option.some.inj hk
      omega

theorem PX.app {w w1 w' : World} {y : Nat} {B G : Tb.T} {va vn vx vx' : Value} {La Ln Lx : List Tb.T} (h : PX w w1 y B va vn vx La Ln Lx) (hA : App w w1 w' vx vx' Lx G) (hy : w.heap.size ≤ y) : PX w w' y B va vn vx' La Ln (Lx ++ [G]) := by
  obtain ⟨o1, o2⟩ := hA.other _ _ h.all h.ax.symm
  obtain ⟨o3, o4⟩ := hA.other _ _ h.now h.xn
  obtain ⟨o5, o6⟩ := hA.blk _ _ _ h.box hy h.y9
  exact ⟨o1, o3, hA.own, h.an, o2.symm, o4, hA.below, o5, o6⟩
set_option maxRecDepth 100000 in
set_option maxHeartbeats 8000000 in
theorem rparts_any (fs : List Tb.T) (p : Option Addr) (capl : Nat) (vv : Value) (vs : List Int) (w : World) (hF : TabsAt w p fs) (hn : fs.length ≤ 4) (hp : IntsVal w vv vs) :
    Calls Tryd.prog 54 #[.slice p fs.length capl, vv] w fun e w' => ∃ (q : Option Addr) (cap : Nat) (P : List Tb.T), e = .returned (.slice q P.length cap) ∧ P.Nodup ∧ Tb.Same P (Tb.Up fs (vs.take 8) ((vs.take 8).length + 1)) ∧ Below w.heap.size w w' := by
  go_enter Tryd.func54, Tryd.ntmps54
  go_wp2_with fail
  go_loopw [6, 7] (fun vn i wr => ∃ (k : Nat) (Ln : List Tb.T), k ≤ fs.length ∧ i = .int .i64 k ∧ PF w wr fs k vn Ln) (fun _ i _ => fs.length - (intOf i).toNat)
  case atStart => exact ⟨0, [], by omega, rfl, TSl.nil _ _, Below.refl _ _, ⟨fun F => by simp⟩, by simp⟩
  case round =>
    rename_i wr
    obtain ⟨k, Ln, hk, rfl, hS⟩ := hrel
    by_cases hlt : k < fs.length
    · obtain ⟨G, hG⟩ : ∃ G, fs[k]? = some G := ⟨_, List.getElem?_eq_getElem hlt⟩
      obtain ⟨g, off, rfl, _⟩ := hF.at_ k G hG
      obtain ⟨d0, d1, d2, d3⟩ := (hF.below hS.below).cells4 hG
      obtain ⟨pn, capn, rfl, hT⟩ := hS.now.shape
      have hI := fun w (h : TabsAt w pn Ln) => rin_any Ln pn capn G w h (by have := hS.few; omega)
      by_cases hm : G ∈ Ln
      · have HI := Bx.mk hI
        have HM := Bx.mk hm
        have hsame : Tb.Same Ln (fun F => F ∈ fs.take (k + 1)) := by
          have := Tb.add_dedup (g := G) hS.same (q := fun F => F ∈ fs.take (k + 1)) (fun F => take_same hG F)
          rwa [if_pos hm] at this
        clear hm hI
        go_wp2_with fail
        refine (HI.out _ hT).mono ?_
        rintro e w1 ⟨rfl, b1⟩
        have hS' : PF w w1 fs (k + 1) _ Ln := ⟨hS.now.below b1, hS.below.trans (b1.mono hS.below.size), hsame, by have := hS.few; omega⟩
        rw [show decide (G ∈ Ln) = true from decide_eq_true HM.out]
        clear hT HI HM hsame b1 hS d0 d1 d2 d3
        go_wp2_with fail
        exact ⟨⟨k + 1, Ln, by omega, by go_num, hS'⟩, by simp [intOf]; omega⟩
      · have HI := Bx.mk hI
        have HM := Bx.mk hm
        have hsame : Tb.Same (Ln ++ [G]) (fun F => F ∈ fs.take (k + 1)) := by
          have := Tb.add_dedup (g := G) hS.same (q := fun F => F ∈ fs.take (k + 1)) (fun F => take_same hG F)
          rwa [if_neg hm] at this
        clear hm hI
        go_wp2_with fail
        refine (HI.out _ hT).mono ?_
        rintro e w1 ⟨rfl, b1⟩
        have hb1 := hS.below.trans (b1.mono hS.below.size)
        obtain ⟨d0, d1, d2, d3⟩ := (hF.below hb1).cells4 hG
        obtain ⟨v', w', hra, hA⟩ := app_run (hS.now.below b1) hb1 G (by have := hS.few; omega)
        have hS' : PF w w' fs (k + 1) v' (Ln ++ [G]) := ⟨hA.own, hA.below, hsame, by have := hS.few; simp; omega⟩
        rw [show decide (G ∈ Ln) = false from decide_eq_false HM.out]
        clear hT HI HM hsame b1 hS hA hb1
        go_wp2_with (first | (at_builtin; refine wpList_by_append _ rfl _ _ _ rfl rfl rfl hra ?_) | fail)
        exact ⟨⟨k + 1, _, by omega, by go_num, hS'⟩, by simp [intOf]; omega⟩
    · obtain rfl : k = fs.length := by omega
      obtain ⟨pv, capv, rfl, hV⟩ : ∃ pv capv, vv = .slice pv vs.length capv ∧ IntsAt w pv vs := by
        rcases hp with ⟨rfl, rfl⟩ | ⟨g, off, cap, rfl, _, hc⟩
        · exact ⟨none, 0, rfl, ⟨fun j x hj => by simp at hj⟩⟩
        · exact ⟨_, cap, rfl, ⟨fun j x hj => ⟨g, off, rfl, hc j x hj⟩⟩⟩
      obtain ⟨ws, hws⟩ : ∃ ws, Bx (vs.take 8 = ws) := ⟨_, ⟨rfl⟩⟩
      have hwl : ws.length = min 8 vs.length := by rw [← hws.out, List.length_take]
      have hwv : ∀ k v, ws[k]? = some v → vs[k]? = some v := fun k v h => by
        rw [← hws.out, List.getElem?_take] at h
        split at h
        · exact h
        · cases h
      obtain ⟨n, hnn⟩ : ∃ n, Bx (ws.length = n) := ⟨_, ⟨rfl⟩⟩
      have hN := hnn.out
      rw [hN] at hwl
      have HWL := Bx.mk (show n ≤ vs.length ∧ n ≤ 8 ∧ (n = vs.length ∨ n = 8) from by omega)
      clear hwl
      have hP0 : PS w wr fs ws 0 (.slice none 0 0) _ [] Ln :=
        ⟨TSl.nil _ _, hS.now, (Apart.nil _).symm, hS.below, fun _ => ⟨fun F => by rw [hS.same.iff F, List.take_length, Tb.lv_zero]⟩, Tb.up_zero fs ws, by simp, by have := hS.few; simp; omega, by simp⟩
      have HWV := Bx.mk hwv
      clear hS hp hwv hN
      go_wp2_with fail
      go_loopw [5, 6, 8] (fun va vn i wr => ∃ (k : Nat) (La Ln : List Tb.T), k ≤ n + 1 ∧ i = .int .i64 k ∧ PS w wr fs ws k va vn La Ln) (fun _ _ i _ => n + 1 - (intOf i).toNat)
      case atStart => exact ⟨0, [], Ln, by omega, rfl, hP0⟩
      case round =>
        clear hP0
        obtain ⟨k, La, Ln, hk, rfl, hS⟩ := hrel
        by_cases hle : k ≤ n
        · obtain ⟨hm1, hm2, _⟩ := HWL.out
          have q1 : (k : Int) ≤ (vs.length : Int) := by omega
          have q2 : (k : Int) ≤ 8 := by omega
          have hk8 : k ≤ 8 := by omega
          clear hm1 hm2
          obtain ⟨pn, capn, rfl, _⟩ := hS.now.shape
          have hI0 : PI w wr fs ws k 0 _ (.slice pn Ln.length capn) (.slice none 0 0) La Ln [] :=
            ⟨hS.all, hS.now, TSl.nil _ _, hS.apart, Apart.nil _, (Apart.nil _).symm, hS.below, Tb.upI_zero hS.cof, hS.nd, by have := hS.fewa; omega, by simp, fun _ => Tb.both_zero Ln _⟩
          have HS := Bx.mk hS
          clear hS
          have hpow : 2 ^ k ≤ 256 := by have := Nat.pow_le_pow_right (show 0 < 2 by omega) hk8; simpa using this
          have hLn : Ln.length ≤ 1024 := by have := HS.out.fewn; omega
          have HPow := Bx.mk hpow
          clear hpow
          go_wp2_with fail
          go_loopw [5, 9, 10] (fun va vx j wq => ∃ (i : Nat) (La Lx : List Tb.T), i ≤ Ln.length ∧ j = .int .i64 i ∧ PI w wq fs ws k i va (.slice pn Ln.length capn) vx La Ln Lx) (fun _ _ j _ => Ln.length - (intOf j).toNat)
          case atStart => exact ⟨0, La, [], by omega, rfl, hI0⟩
          case round =>
            clear hI0
            obtain ⟨i, La, Lx, hi, rfl, hP⟩ := hrel
            rename_i wq
            by_cases hlt : i < Ln.length
            · obtain ⟨F, hF2⟩ : ∃ F, Ln[i]? = some F := ⟨_, List.getElem?_eq_getElem hlt⟩
              obtain ⟨pn', capn', hsh, hTn⟩ := hP.now.shape
              cases hsh
              obtain ⟨g, off, rfl, _⟩ := hTn.at_ i F hF2
              obtain ⟨d0, d1, d2, d3⟩ := hTn.cells4 hF2
              have hPA := hP.step (w1 := wr.alloc (.cells (Tb.tcells F) 24)) ((Below.refl _ _).alloc (Nat.le_refl _) _)
              have hBA := Blk.new wr 24 (Tb.tcells F)
              have hbA : w.heap.size ≤ wr.heap.size := hP.below.size
              have hbu : ∀ j, (∃ v L, TSl wr w.heap.size v L ∧ v.ownBlock = some j) → j ≠ wr.heap.size := fun j ⟨v, L, h, e⟩ => by have := (h.lt e).2; omega
              have hb5 : ∀ j, u5.ownBlock = some j → j ≠ wr.heap.size := fun j e => hbu j ⟨_, _, hP.all, e⟩
              have hb9 : ∀ j, u9.ownBlock = some j → j ≠ wr.heap.size := fun j e => hbu j ⟨_, _, hP.nx, e⟩
              clear hP hTn hbu
              go_wp2_with fail
              clear d0 d1 d2 d3
              rw [show (#[.int .u64 (Tb.wd F 0), .int .u64 (Tb.wd F 1), .int .u64 (Tb.wd F 2), .int .u64 (Tb.wd F 3)] : Array Value) = Tb.tcells F from rfl]
              generalize wr.alloc (.cells (Tb.tcells F) 24) = wA at hPA hBA ⊢
              generalize wr.heap.size = b at hBA hbA hb5 hb9 ⊢
              have kA := (Keep.start (Below.refl wA.heap.size wA)).add' (p := b) (F := F) hBA (by simp)
              simp only [List.nil_append] at kA
              obtain ⟨pa, capa, rfl, hTa⟩ := hPA.all.shape
              have hfa := hPA.fewa
              have HI := Bx.mk (fun w (h : TabsAt w pa La) => rin_any La pa capa F w h (by have := HPow.out; omega))
              go_cut [67] (fun c w' => ∃ cb : Bool, c = .bool cb ∧ (cb = true ↔ (Tb.Nc F ∧ F ∉ La)) ∧ Below wA.heap.size wA w')
              case first =>
                by_cases hz : F = Tb.cst false
                · have HN : ¬ Tb.Nc F := by unfold Tb.Nc; simp [hz]
                  -- from wA
                  -- partsZ
                  refine region_float2 [3, 8] 13 (fun i => ([Tb.tv F, Tb.tv (Tb.cst false), .bool false, .bool false, undef, undef, undef, .bool false, .bool false, undef, undef, undef, undef] : List Value).getD i undef) (fun _ => none) (fun u => Keep wA u [(b, F)]) _ (by kernel_rfl) (by kernel_rfl) (by intro g hg; simp only [List.mem_cons, List.not_mem_nil, or_false] at hg; rcases hg with rfl | rfl <;> exact ⟨rfl, _, rfl⟩) kA.drew (Nat.le_refl _) (fun _ o h => h.alloc o) ?_ ?_ ?_
                  · iterate 1 skip
                    refine all_succ ?_ ?_
                    rotate_left
                    · intro hf oo hoper
                      obtain rfl := Option.some.inj hoper
                      exact .inl ⟨8, true, false, rfl, rfl, by decide, rfl⟩
                    refine all_succ ?_ ?_
                    rotate_left
                    · intro hf oo hoper
                      obtain rfl := Option.some.inj hoper
                      exact .inl ⟨8, true, false, rfl, rfl, by decide, rfl⟩
                    refine all_succ ?_ ?_
                    rotate_left
                    · intro hf oo hoper
                      obtain rfl := Option.some.inj hoper
                      exact .inl ⟨8, true, false, rfl, rfl, by decide, rfl⟩
                    refine all_succ ?_ ?_
                    rotate_left
                    · intro hf oo hoper
                      obtain rfl := Option.some.inj hoper
                      exact .inl ⟨8, true, false, rfl, rfl, by decide, rfl⟩
                    refine all_succ ?_ ?_
                    rotate_left
                    · intro hf oo hoper
                      obtain rfl := Option.some.inj hoper
                      refine .inr ⟨(fun g b h => by cases h), ?_⟩
                      intro act uu hS hB hd hold KK hcont
                      exact wp_of_exec (exec_move rfl (hd 7 61 (by kernel_rfl) rfl rfl)) (hcont uu hS (Below.refl _ _))
                    refine all_succ ?_ ?_
                    rotate_left
                    · intro hf oo hoper
                      obtain rfl := Option.some.inj hoper
                      refine .inr ⟨(fun g b h => by cases h), ?_⟩
                      intro act uu hS hB hd hold KK hcont
                      exact wp_of_exec (exec_pick0 rfl (hd 3 57 (by kernel_rfl) rfl rfl) rfl) (hcont uu hS (Below.refl _ _))
                    refine all_succ ?_ ?_
                    rotate_left
                    · intro hf oo hoper
                      obtain rfl := Option.some.inj hoper
                      exact .inl ⟨3, true, false, rfl, rfl, by decide, rfl⟩
                    refine all_succ ?_ ?_
                    rotate_left
                    · intro hf oo hoper
                      obtain rfl := Option.some.inj hoper
                      exact .inl ⟨3, true, false, rfl, rfl, by decide, rfl⟩
                    refine all_succ ?_ ?_
                    rotate_left
                    · intro hf oo hoper
                      obtain rfl := Option.some.inj hoper
                      exact .inl ⟨3, true, false, rfl, rfl, by decide, rfl⟩
                    refine all_succ ?_ ?_
                    rotate_left
                    · intro hf oo hoper
                      obtain rfl := Option.some.inj hoper
                      refine .inr ⟨(fun g b h => by cases h), ?_⟩
                      intro act uu hS hB hd hold KK hcont
                      exact wp_of_exec (exec_move rfl (hd 2 56 (by kernel_rfl) rfl rfl)) (hcont uu hS (Below.refl _ _))
                    refine all_succ ?_ ?_
                    rotate_left
                    · intro hf oo hoper
                      obtain rfl := Option.some.inj hoper
                      refine .inr ⟨(fun g b h => by cases h), ?_⟩
                      intro act uu hS hB hd hold KK hcont
                      exact wp_of_exec (exec_neT0 rfl (hd 0 54 (by kernel_rfl) rfl rfl) (hd 1 55 (by kernel_rfl) rfl rfl) hz) (hcont uu hS (Below.refl _ _))
                    refine all_succ ?_ ?_
                    rotate_left
                    · intro hf oo hoper
                      obtain rfl := Option.some.inj hoper
                      refine .inr ⟨(fun g b h => by cases h), ?_⟩
                      intro act uu hS hB hd hold KK hcont
                      go_simp
                      refine (rconst_any false _).mono ?_
                      rintro e u' ⟨rfl, hb⟩
                      exact hcont _ (hS.step hb) hb
                    refine all_succ ?_ ?_
                    rotate_left
                    · intro hf oo hoper
                      obtain rfl := Option.some.inj hoper
                      refine .inr ⟨(fun g b h => by cases h), ?_⟩
                      intro act uu hS hB hd hold KK hcont
                      exact wp_of_exec (exec_load rfl (hold 11 (notDst (by kernel_rfl))) (hS.at_ 0 _ _ rfl)) (hcont uu hS (Below.refl _ _))
                    exact all_zero
                  · intro i hi ty z hf; cases hf
                  · intro ρ u hF
                    have e0 : ρ 0 = Tb.tv F := hF.val 0 (by omega) (by kernel_rfl) rfl
                    have e1 : ρ 1 = Tb.tv (Tb.cst false) := hF.val 1 (by omega) (by kernel_rfl) rfl
                    have e2 : ρ 2 = .bool false := hF.val 2 (by omega) (by kernel_rfl) rfl
                    have e3 : ρ 3 = .bool false := hF.val 3 (by omega) (by kernel_rfl) rfl
                    have e4 : ρ 4 = undef := hF.val 4 (by omega) (by kernel_rfl) rfl
                    have e5 : ρ 5 = undef := hF.val 5 (by omega) (by kernel_rfl) rfl
                    have e6 : ρ 6 = undef := hF.val 6 (by omega) (by kernel_rfl) rfl
                    have e7 : ρ 7 = .bool false := hF.val 7 (by omega) (by kernel_rfl) rfl
                    have e8 : ρ 8 = .bool false := hF.val 8 (by omega) (by kernel_rfl) rfl
                    have e9 : ρ 9 = undef := hF.val 9 (by omega) (by kernel_rfl) rfl
                    have e10 : ρ 10 = undef := hF.val 10 (by omega) (by kernel_rfl) rfl
                    have e11 : ρ 11 = undef := hF.val 11 (by omega) (by kernel_rfl) rfl
                    have e12 : ρ 12 = undef := hF.val 12 (by omega) (by kernel_rfl) rfl
                    have k0 := hF.s_
                    simp only [puts, dstOf, e0, e1, e2, e3, e4, e5, e6, e7, e8, e9, e10, e11, e12]
                    go_wp2_with fail
                    go_meet
                    case rel => exact ⟨_, rfl, by simp [HN], k0.below⟩
                · by_cases ho : F = Tb.cst true
                  · have HN : ¬ Tb.Nc F := by unfold Tb.Nc; simp [ho]
                    -- from wA
                    -- partsO
                    refine region_float2 [3, 8] 13 (fun i => ([Tb.tv F, Tb.tv (Tb.cst false), .bool true, .bool true, Tb.tv F, Tb.tv (Tb.cst true), .bool false, .bool false, .bool false, undef, undef, undef, undef] : List Value).getD i undef) (fun _ => none) (fun u => Keep wA u [(b, F)]) _ (by kernel_rfl) (by kernel_rfl) (by intro g hg; simp only [List.mem_cons, List.not_mem_nil, or_false] at hg; rcases hg with rfl | rfl <;> exact ⟨rfl, _, rfl⟩) kA.drew (Nat.le_refl _) (fun _ o h => h.alloc o) ?_ ?_ ?_
                    · iterate 1 skip
                      refine all_succ ?_ ?_
                      rotate_left
                      · intro hf oo hoper
                        obtain rfl := Option.some.inj hoper
                        exact .inl ⟨8, true, false, rfl, rfl, by decide, rfl⟩
                      refine all_succ ?_ ?_
                      rotate_left
                      · intro hf oo hoper
                        obtain rfl := Option.some.inj hoper
                        exact .inl ⟨8, true, false, rfl, rfl, by decide, rfl⟩
                      refine all_succ ?_ ?_
                      rotate_left
                      · intro hf oo hoper
                        obtain rfl := Option.some.inj hoper
                        exact .inl ⟨8, true, false, rfl, rfl, by decide, rfl⟩
                      refine all_succ ?_ ?_
                      rotate_left
                      · intro hf oo hoper
                        obtain rfl := Option.some.inj hoper
                        exact .inl ⟨8, true, false, rfl, rfl, by decide, rfl⟩
                      refine all_succ ?_ ?_
                      rotate_left
                      · intro hf oo hoper
                        obtain rfl := Option.some.inj hoper
                        refine .inr ⟨(fun g b h => by cases h), ?_⟩
                        intro act uu hS hB hd hold KK hcont
                        exact wp_of_exec (exec_move rfl (hd 7 61 (by kernel_rfl) rfl rfl)) (hcont uu hS (Below.refl _ _))
                      refine all_succ ?_ ?_
                      rotate_left
                      · intro hf oo hoper
                        obtain rfl := Option.some.inj hoper
                        refine .inr ⟨(fun g b h => by cases h), ?_⟩
                        intro act uu hS hB hd hold KK hcont
                        exact wp_of_exec (exec_pick rfl (hd 3 57 (by kernel_rfl) rfl rfl) (hd 6 60 (by kernel_rfl) rfl rfl)) (hcont uu hS (Below.refl _ _))
                      refine all_succ ?_ ?_
                      rotate_left
                      · intro hf oo hoper
                        obtain rfl := Option.some.inj hoper
                        refine .inr ⟨(fun g b h => by cases h; rfl), ?_⟩
                        intro act uu hS hB hd hold KK hcont
                        exact wp_of_exec (exec_neT0 rfl (hd 4 58 (by kernel_rfl) rfl rfl) (hd 5 59 (by kernel_rfl) rfl rfl) ho) (hcont uu hS (Below.refl _ _))
                      refine all_succ ?_ ?_
                      rotate_left
                      · intro hf oo hoper
                        obtain rfl := Option.some.inj hoper
                        refine .inr ⟨(fun g b h => by cases h; rfl), ?_⟩
                        intro act uu hS hB hd hold KK hcont
                        go_simp
                        refine (rconst_any true _).mono ?_
                        rintro e u' ⟨rfl, hb⟩
                        exact hcont _ (hS.step hb) hb
                      refine all_succ ?_ ?_
                      rotate_left
                      · intro hf oo hoper
                        obtain rfl := Option.some.inj hoper
                        refine .inr ⟨(fun g b h => by cases h; rfl), ?_⟩
                        intro act uu hS hB hd hold KK hcont
                        exact wp_of_exec (exec_load rfl (hold 11 (notDst (by kernel_rfl))) (hS.at_ 0 _ _ rfl)) (hcont uu hS (Below.refl _ _))
                      refine all_succ ?_ ?_
                      rotate_left
                      · intro hf oo hoper
                        obtain rfl := Option.some.inj hoper
                        refine .inr ⟨(fun g b h => by cases h), ?_⟩
                        intro act uu hS hB hd hold KK hcont
                        exact wp_of_exec (exec_move rfl (hd 2 56 (by kernel_rfl) rfl rfl)) (hcont uu hS (Below.refl _ _))
                      refine all_succ ?_ ?_
                      rotate_left
                      · intro hf oo hoper
                        obtain rfl := Option.some.inj hoper
                        refine .inr ⟨(fun g b h => by cases h), ?_⟩
                        intro act uu hS hB hd hold KK hcont
                        exact wp_of_exec (exec_neT1 rfl (hd 0 54 (by kernel_rfl) rfl rfl) (hd 1 55 (by kernel_rfl) rfl rfl) hz) (hcont uu hS (Below.refl _ _))
                      refine all_succ ?_ ?_
                      rotate_left
                      · intro hf oo hoper
                        obtain rfl := Option.some.inj hoper
                        refine .inr ⟨(fun g b h => by cases h), ?_⟩
                        intro act uu hS hB hd hold KK hcont
                        go_simp
                        refine (rconst_any false _).mono ?_
                        rintro e u' ⟨rfl, hb⟩
                        exact hcont _ (hS.step hb) hb
                      refine all_succ ?_ ?_
                      rotate_left
                      · intro hf oo hoper
                        obtain rfl := Option.some.inj hoper
                        refine .inr ⟨(fun g b h => by cases h), ?_⟩
                        intro act uu hS hB hd hold KK hcont
                        exact wp_of_exec (exec_load rfl (hold 11 (notDst (by kernel_rfl))) (hS.at_ 0 _ _ rfl)) (hcont uu hS (Below.refl _ _))
                      exact all_zero
                    · intro i hi ty z hf; cases hf
                    · intro ρ u hF
                      have e0 : ρ 0 = Tb.tv F := hF.val 0 (by omega) (by kernel_rfl) rfl
                      have e1 : ρ 1 = Tb.tv (Tb.cst false) := hF.val 1 (by omega) (by kernel_rfl) rfl
                      have e2 : ρ 2 = .bool true := hF.val 2 (by omega) (by kernel_rfl) rfl
                      have e3 : ρ 3 = .bool true := hF.val 3 (by omega) (by kernel_rfl) rfl
                      have e4 : ρ 4 = Tb.tv F := hF.val 4 (by omega) (by kernel_rfl) rfl
                      have e5 : ρ 5 = Tb.tv (Tb.cst true) := hF.val 5 (by omega) (by kernel_rfl) rfl
                      have e6 : ρ 6 = .bool false := hF.val 6 (by omega) (by kernel_rfl) rfl
                      have e7 : ρ 7 = .bool false := hF.val 7 (by omega) (by kernel_rfl) rfl
                      have e8 : ρ 8 = .bool false := hF.val 8 (by omega) (by kernel_rfl) rfl
                      have e9 : ρ 9 = undef := hF.val 9 (by omega) (by kernel_rfl) rfl
                      have e10 : ρ 10 = undef := hF.val 10 (by omega) (by kernel_rfl) rfl
                      have e11 : ρ 11 = undef := hF.val 11 (by omega) (by kernel_rfl) rfl
                      have e12 : ρ 12 = undef := hF.val 12 (by omega) (by kernel_rfl) rfl
                      have k0 := hF.s_
                      simp only [puts, dstOf, e0, e1, e2, e3, e4, e5, e6, e7, e8, e9, e10, e11, e12]
                      go_wp2_with fail
                      go_meet
                      case rel => exact ⟨_, rfl, by simp [HN], k0.below⟩
                  · have HN : Tb.Nc F := by unfold Tb.Nc; exact ⟨hz, ho⟩
                    -- spinneyref3.in
                    -- from wA
                    -- partsI
                    refine region_float2 [3, 8] 13 (fun i => ([Tb.tv F, Tb.tv (Tb.cst false), .bool true, .bool true, Tb.tv F, Tb.tv (Tb.cst true), .bool true, .bool true, .bool true, (.slice pa La.length capa), Tb.tv F, .bool (decide (F ∈ La)), .bool (!(decide (F ∈ La)))] : List Value).getD i undef) (fun _ => none) (fun u => Keep wA u [(b, F)]) _ (by kernel_rfl) (by kernel_rfl) (by intro g hg; simp only [List.mem_cons, List.not_mem_nil, or_false] at hg; rcases hg with rfl | rfl <;> exact ⟨rfl, _, rfl⟩) kA.drew (Nat.le_refl _) (fun _ o h => h.alloc o) ?_ ?_ ?_
                    · iterate 1 skip
                      refine all_succ ?_ ?_
                      rotate_left
                      · intro hf oo hoper
                        obtain rfl := Option.some.inj hoper
                        refine .inr ⟨(fun g b h => by cases h; rfl), ?_⟩
                        intro act uu hS hB hd hold KK hcont
                        have h1 : act.eval ((Operand.tmp 65)) = .bool (decide (F ∈ La)) := (hd 11 65 (by kernel_rfl) rfl rfl)
                        have h3 : (Op.unary UnOp.not (.bool (decide (F ∈ La)))).run Tryd.prog uu = .ok (.bool (!(decide (F ∈ La)))) uu := (un_not _ _)
                        exact wp_of_exec (exec_un rfl h1 h3) (hcont uu hS (Below.refl _ _))
                      refine all_succ ?_ ?_
                      rotate_left
                      · intro hf oo hoper
                        obtain rfl := Option.some.inj hoper
                        refine .inr ⟨(fun g b h => by cases h; rfl), ?_⟩
                        intro act uu hS hB hd hold KK hcont
                        have h63 : act.tmps.getD 63 undef = (.slice pa La.length capa) := (hd 9 63 (by kernel_rfl) rfl rfl)
                        have h64 : act.tmps.getD 64 undef = Tb.tv F := (hd 10 64 (by kernel_rfl) rfl rfl)
                        go_simp
                        refine (HI.out _ (hTa.below hS.below)).mono ?_
                        rintro e u' ⟨rfl, hb⟩
                        exact hcont _ (hS.step hb) hb
                      refine all_succ ?_ ?_
                      rotate_left
                      · intro hf oo hoper
                        obtain rfl := Option.some.inj hoper
                        refine .inr ⟨(fun g b h => by cases h; rfl), ?_⟩
                        intro act uu hS hB hd hold KK hcont
                        exact wp_of_exec (exec_load rfl (hold 11 (notDst (by kernel_rfl))) (hS.at_ 0 _ _ rfl)) (hcont uu hS (Below.refl _ _))
                      refine all_succ ?_ ?_
                      rotate_left
                      · intro hf oo hoper
                        obtain rfl := Option.some.inj hoper
                        refine .inr ⟨(fun g b h => by cases h; rfl), ?_⟩
                        intro act uu hS hB hd hold KK hcont
                        exact wp_of_exec (exec_move rfl (hold 5 (notDst (by kernel_rfl)))) (hcont uu hS (Below.refl _ _))
                      refine all_succ ?_ ?_
                      rotate_left
                      · intro hf oo hoper
                        obtain rfl := Option.some.inj hoper
                        refine .inr ⟨(fun g b h => by cases h), ?_⟩
                        intro act uu hS hB hd hold KK hcont
                        exact wp_of_exec (exec_move rfl (hd 7 61 (by kernel_rfl) rfl rfl)) (hcont uu hS (Below.refl _ _))
                      refine all_succ ?_ ?_
                      rotate_left
                      · intro hf oo hoper
                        obtain rfl := Option.some.inj hoper
                        refine .inr ⟨(fun g b h => by cases h), ?_⟩
                        intro act uu hS hB hd hold KK hcont
                        exact wp_of_exec (exec_pick rfl (hd 3 57 (by kernel_rfl) rfl rfl) (hd 6 60 (by kernel_rfl) rfl rfl)) (hcont uu hS (Below.refl _ _))
                      refine all_succ ?_ ?_
                      rotate_left
                      · intro hf oo hoper
                        obtain rfl := Option.some.inj hoper
                        refine .inr ⟨(fun g b h => by cases h; rfl), ?_⟩
                        intro act uu hS hB hd hold KK hcont
                        exact wp_of_exec (exec_neT1 rfl (hd 4 58 (by kernel_rfl) rfl rfl) (hd 5 59 (by kernel_rfl) rfl rfl) ho) (hcont uu hS (Below.refl _ _))
                      refine all_succ ?_ ?_
                      rotate_left
                      · intro hf oo hoper
                        obtain rfl := Option.some.inj hoper
                        refine .inr ⟨(fun g b h => by cases h; rfl), ?_⟩
                        intro act uu hS hB hd hold KK hcont
                        go_simp
                        refine (rconst_any true _).mono ?_
                        rintro e u' ⟨rfl, hb⟩
                        exact hcont _ (hS.step hb) hb
                      refine all_succ ?_ ?_
                      rotate_left
                      · intro hf oo hoper
                        obtain rfl := Option.some.inj hoper
                        refine .inr ⟨(fun g b h => by cases h; rfl), ?_⟩
                        intro act uu hS hB hd hold KK hcont
                        exact wp_of_exec (exec_load rfl (hold 11 (notDst (by kernel_rfl))) (hS.at_ 0 _ _ rfl)) (hcont uu hS (Below.refl _ _))
                      refine all_succ ?_ ?_
                      rotate_left
                      · intro hf oo hoper
                        obtain rfl := Option.some.inj hoper
                        refine .inr ⟨(fun g b h => by cases h), ?_⟩
                        intro act uu hS hB hd hold KK hcont
                        exact wp_of_exec (exec_move rfl (hd 2 56 (by kernel_rfl) rfl rfl)) (hcont uu hS (Below.refl _ _))
                      refine all_succ ?_ ?_
                      rotate_left
                      · intro hf oo hoper
                        obtain rfl := Option.some.inj hoper
                        refine .inr ⟨(fun g b h => by cases h), ?_⟩
                        intro act uu hS hB hd hold KK hcont
                        exact wp_of_exec (exec_neT1 rfl (hd 0 54 (by kernel_rfl) rfl rfl) (hd 1 55 (by kernel_rfl) rfl rfl) hz) (hcont uu hS (Below.refl _ _))
                      refine all_succ ?_ ?_
                      rotate_left
                      · intro hf oo hoper
                        obtain rfl := Option.some.inj hoper
                        refine .inr ⟨(fun g b h => by cases h), ?_⟩
                        intro act uu hS hB hd hold KK hcont
                        go_simp
                        refine (rconst_any false _).mono ?_
                        rintro e u' ⟨rfl, hb⟩
                        exact hcont _ (hS.step hb) hb
                      refine all_succ ?_ ?_
                      rotate_left
                      · intro hf oo hoper
                        obtain rfl := Option.some.inj hoper
                        refine .inr ⟨(fun g b h => by cases h), ?_⟩
                        intro act uu hS hB hd hold KK hcont
                        exact wp_of_exec (exec_load rfl (hold 11 (notDst (by kernel_rfl))) (hS.at_ 0 _ _ rfl)) (hcont uu hS (Below.refl _ _))
                      exact all_zero
                    · intro i hi ty z hf; cases hf
                    · intro ρ u hF
                      have e0 : ρ 0 = Tb.tv F := hF.val 0 (by omega) (by kernel_rfl) rfl
                      have e1 : ρ 1 = Tb.tv (Tb.cst false) := hF.val 1 (by omega) (by kernel_rfl) rfl
                      have e2 : ρ 2 = .bool true := hF.val 2 (by omega) (by kernel_rfl) rfl
                      have e3 : ρ 3 = .bool true := hF.val 3 (by omega) (by kernel_rfl) rfl
                      have e4 : ρ 4 = Tb.tv F := hF.val 4 (by omega) (by kernel_rfl) rfl
                      have e5 : ρ 5 = Tb.tv (Tb.cst true) := hF.val 5 (by omega) (by kernel_rfl) rfl
                      have e6 : ρ 6 = .bool true := hF.val 6 (by omega) (by kernel_rfl) rfl
                      have e7 : ρ 7 = .bool true := hF.val 7 (by omega) (by kernel_rfl) rfl
                      have e8 : ρ 8 = .bool true := hF.val 8 (by omega) (by kernel_rfl) rfl
                      have e9 : ρ 9 = (.slice pa La.length capa) := hF.val 9 (by omega) (by kernel_rfl) rfl
                      have e10 : ρ 10 = Tb.tv F := hF.val 10 (by omega) (by kernel_rfl) rfl
                      have e11 : ρ 11 = .bool (decide (F ∈ La)) := hF.val 11 (by omega) (by kernel_rfl) rfl
                      have e12 : ρ 12 = .bool (!(decide (F ∈ La))) := hF.val 12 (by omega) (by kernel_rfl) rfl
                      have k0 := hF.s_
                      simp only [puts, dstOf, e0, e1, e2, e3, e4, e5, e6, e7, e8, e9, e10, e11, e12]
                      go_wp2_with fail
                      go_meet
                      case rel => exact ⟨_, rfl, by simp [HN], k0.below⟩
              case rest =>
                obtain ⟨cb, rfl, hcb, bA⟩ := hcut
                have hPC := hPA.step bA
                have hBC := hBA.below bA hBA.lt
                clear hPA hBA kA hTa HI bA
                have HCB := Bx.mk hcb
                clear hcb
                go_upto_if 67 with fail
                go_cut [5, 67] (fun va' cc w' => cc = .bool cb ∧ ∃ La', PH w w' fs ws k i b F va' (.slice (some ⟨g, off, none⟩) Ln.length capn) u9 La' Ln Lx)
                case first =>
                  cases hcb : cb with
                  | false =>
                    have hno : ¬ Tb.Nc F ∨ F ∈ La := by
                      have := HCB.out
                      rw [hcb] at this
                      by_cases h1 : Tb.Nc F
                      · by_cases h2 : F ∈ La
                        · exact .inr h2
                        · exact absurd (this.2 ⟨h1, h2⟩) (by simp)
                      · exact .inl h1
                    go_wp2_with fail
                    go_meet
                    case rel => exact ⟨by rw [hcb], La, hPC.all, hPC.now, hPC.nx, hPC.an, hPC.ax, hPC.xn, hPC.below, Tb.upI_no hF2 hPC.cof hno, hPC.nd, by have := hPC.fewa; omega, hPC.fewx, hPC.sx, hBC, hbA, hb9⟩
                  | true =>
                    have hyes : Tb.Nc F ∧ F ∉ La := HCB.out.1 hcb
                    obtain ⟨v', w', hra, hA⟩ := app_run hPC.all hPC.below F (by have := HPow.out; have := hPC.fewa; omega)
                    obtain ⟨⟨a0, a1, a2, a3⟩, c0, c1, c2, c3⟩ := tfacts hBC
                    go_wp2_with (first | (at_builtin; refine wpList_by_append _ rfl _ _ _ rfl rfl rfl hra ?_) | fail)
                    go_meet
                    case rel =>
                      obtain ⟨o1, o2⟩ := hA.other _ _ hPC.now hPC.an
                      obtain ⟨o3, o4⟩ := hA.other _ _ hPC.nx hPC.ax
                      refine ⟨by rw [hcb], La ++ [F], hA.own, o1, o3, o2, o4, hPC.xn, hA.below, Tb.upI_yes hF2 hPC.cof hyes.1, ?_, by have := hPC.fewa; simp; omega, hPC.fewx, hPC.sx, (hA.blk _ _ _ hBC hbA hb5).1, hbA, hb9⟩
                      rw [List.nodup_append]
                      exact ⟨hPC.nd, by simp, fun x hx y hy e => by simp at hy; subst hy; subst e; exact hyes.2 hx⟩
                case rest =>
                  obtain ⟨rfl, La', hH⟩ := hcut
                  clear hPC hBC HCB hfa
                  obtain ⟨va, rfl⟩ : ∃ va : Value, va = u5 := ⟨_, rfl⟩
                  by_cases hkn : k = n
                  · have hend : ¬ k < ws.length := by rw [hnn.out]; omega
                    have hPI : PI w wc fs ws k (i + 1) va (.slice (some ⟨g, off, none⟩) Ln.length capn) u9 La' Ln Lx :=
                      ⟨hH.all, hH.now, hH.nx, hH.an, hH.ax, hH.xn, hH.below, hH.cof, hH.nd, by have := hH.fewa; omega, by have := hH.fewx; omega, fun h => absurd h hend⟩
                    obtain ⟨hm1, hm2, hm3⟩ := HWL.out
                    clear hH
                    by_cases hkl : k = vs.length
                    · have e1 : ((k : Int) == (vs.length : Int)) = true := by rw [beq_iff_eq]; omega
                      clear hkl hkn hm1 hm2 hm3 hend
                      go_wp2_with fail
                      exact ⟨⟨i + 1, La', Lx, by omega, by go_num, hPI⟩, by simp [intOf]; omega⟩
                    · have e1 : ((k : Int) == (vs.length : Int)) = false := by rw [beq_eq_false_iff_ne]; omega
                      have e2 : ((k : Int) == 8) = true := by rw [beq_iff_eq]; omega
                      clear hkl hkn hm1 hm2 hm3 hend
                      go_wp2_with fail
                      exact ⟨⟨i + 1, La', Lx, by omega, by go_num, hPI⟩, by simp [intOf]; omega⟩
                  · obtain ⟨hm1, hm2, hm3⟩ := HWL.out
                    have e1 : ((k : Int) == (vs.length : Int)) = false := by rw [beq_eq_false_iff_ne]; omega
                    have e2 : ((k : Int) == 8) = false := by rw [beq_eq_false_iff_ne]; omega
                    have hklt : k < n := by omega
                    obtain ⟨v, hv⟩ : ∃ v, ws[k]? = some v := ⟨_, List.getElem?_eq_getElem (by rw [hnn.out]; omega)⟩
                    have hvv := HWV.out k v hv
                    obtain ⟨gv, offv, rfl, hcv⟩ := hV.at_ k v hvv
                    have hkv : k < vs.length := by omega
                    have hgd := Bx.mk (show ws.getD k 0 = v from by simp [List.getD, hv])
                    clear hv hvv hkn
                    obtain ⟨wC, rfl⟩ : ∃ x : World, x = wc := ⟨_, rfl⟩
                    have hcvC : wC.cell? ⟨gv, offv + k, none⟩ = some (.int .i64 v) := by rw [hH.below.cell (block_lt_of_cell hcv)]; exact hcv
                    have HVc := Bx.mk (fun u (h : Below wC.heap.size wC u) => (h.cell (p := ⟨gv, offv + k, none⟩) (block_lt_of_cell hcvC)).trans hcvC)
                    clear hcvC hcv
                    have kC := (Keep.start (Below.refl wC.heap.size wC)).add' (p := b) (F := F) hH.box (by simp)
                    simp only [List.nil_append] at kC
                    go_upto_region 18 with fail
                    go_cut [12, 13] (fun pa pb w' => ∃ x y, pa = .pointer (some ⟨x, 0, none⟩) ∧ pb = .pointer (some ⟨y, 0, none⟩) ∧ wC.heap.size ≤ x ∧ wC.heap.size ≤ y ∧ Keep wC w' [(b, F), (x, Tb.fix F v false), (y, Tb.fix F v true)])
                    case first =>
                      -- from wC
                      -- partsB
                      refine region_float [] 14 (fun i => ([Tb.tv F, .slice (some ⟨gv, offv, none⟩) vs.length capv, .int .i64 ((k : Nat) : Int), .pointer (some ⟨gv, offv + k, none⟩), .int .i64 v, Tb.tv (Tb.fix F v false), Tb.tv F, .slice (some ⟨gv, offv, none⟩) vs.length capv, .int .i64 ((k : Nat) : Int), .pointer (some ⟨gv, offv + k, none⟩), .int .i64 v, Tb.tv (Tb.fix F v true), undef, undef] : List Value).getD i undef) (fun i => if 12 ≤ i ∧ i < 14 then some (24, #[.int .u64 0, .int .u64 0, .int .u64 0, .int .u64 0]) else none) (fun u => Keep wC u [(b, F)]) wC.heap.size (by kernel_rfl) (by kernel_rfl) (by simp) kC.drew (Nat.le_refl _) (fun _ o h => h.alloc o) ?_ ?_ ?_
                      · iterate 1 skip
                        refine all_succ ?_ ?_
                        rotate_left
                        · intro hf; cases hf
                        refine all_succ ?_ ?_
                        rotate_left
                        · intro hf; cases hf
                        refine all_succ ?_ ?_
                        rotate_left
                        · intro hf oo hoper act uu hS hB hd hold KK hcont
                          obtain rfl := Option.some.inj hoper
                          have h86 : act.tmps.getD 86 undef = Tb.tv F := (hd 6 86 (by kernel_rfl) rfl rfl)
                          have h90 : act.tmps.getD 90 undef = .int .i64 v := (hd 10 90 (by kernel_rfl) rfl rfl)
                          go_simp
                          refine (rfix_any F v true _).mono ?_
                          rintro e u' ⟨rfl, hb⟩
                          exact hcont _ (hS.step hb) hb
                        refine all_succ ?_ ?_
                        rotate_left
                        · intro hf oo hoper act uu hS hB hd hold KK hcont
                          obtain rfl := Option.some.inj hoper
                          exact wp_of_exec (exec_loadI rfl (hd 9 89 (by kernel_rfl) rfl rfl) (HVc.out _ hS.below)) (hcont uu hS (Below.refl _ _))
                        refine all_succ ?_ ?_
                        rotate_left
                        · intro hf oo hoper act uu hS hB hd hold KK hcont
                          obtain rfl := Option.some.inj hoper
                          exact wp_of_exec (exec_index rfl (hd 7 87 (by kernel_rfl) rfl rfl) (hd 8 88 (by kernel_rfl) rfl rfl) hkv) (hcont uu hS (Below.refl _ _))
                        refine all_succ ?_ ?_
                        rotate_left
                        · intro hf oo hoper act uu hS hB hd hold KK hcont
                          obtain rfl := Option.some.inj hoper
                          exact wp_of_exec (exec_move rfl (hold 8 (notDst (by kernel_rfl)))) (hcont uu hS (Below.refl _ _))
                        refine all_succ ?_ ?_
                        rotate_left
                        · intro hf oo hoper act uu hS hB hd hold KK hcont
                          obtain rfl := Option.some.inj hoper
                          exact wp_of_exec (exec_move rfl (hold 1 (notDst (by kernel_rfl)))) (hcont uu hS (Below.refl _ _))
                        refine all_succ ?_ ?_
                        rotate_left
                        · intro hf oo hoper act uu hS hB hd hold KK hcont
                          obtain rfl := Option.some.inj hoper
                          exact wp_of_exec (exec_load rfl (hold 11 (notDst (by kernel_rfl))) (hS.at_ 0 _ _ rfl)) (hcont uu hS (Below.refl _ _))
                        refine all_succ ?_ ?_
                        rotate_left
                        · intro hf oo hoper act uu hS hB hd hold KK hcont
                          obtain rfl := Option.some.inj hoper
                          have h80 : act.tmps.getD 80 undef = Tb.tv F := (hd 0 80 (by kernel_rfl) rfl rfl)
                          have h84 : act.tmps.getD 84 undef = .int .i64 v := (hd 4 84 (by kernel_rfl) rfl rfl)
                          go_simp
                          refine (rfix_any F v false _).mono ?_
                          rintro e u' ⟨rfl, hb⟩
                          exact hcont _ (hS.step hb) hb
                        refine all_succ ?_ ?_
                        rotate_left
                        · intro hf oo hoper act uu hS hB hd hold KK hcont
                          obtain rfl := Option.some.inj hoper
                          exact wp_of_exec (exec_loadI rfl (hd 3 83 (by kernel_rfl) rfl rfl) (HVc.out _ hS.below)) (hcont uu hS (Below.refl _ _))
                        refine all_succ ?_ ?_
                        rotate_left
                        · intro hf oo hoper act uu hS hB hd hold KK hcont
                          obtain rfl := Option.some.inj hoper
                          exact wp_of_exec (exec_index rfl (hd 1 81 (by kernel_rfl) rfl rfl) (hd 2 82 (by kernel_rfl) rfl rfl) hkv) (hcont uu hS (Below.refl _ _))
                        refine all_succ ?_ ?_
                        rotate_left
                        · intro hf oo hoper act uu hS hB hd hold KK hcont
                          obtain rfl := Option.some.inj hoper
                          exact wp_of_exec (exec_move rfl (hold 8 (notDst (by kernel_rfl)))) (hcont uu hS (Below.refl _ _))
                        refine all_succ ?_ ?_
                        rotate_left
                        · intro hf oo hoper act uu hS hB hd hold KK hcont
                          obtain rfl := Option.some.inj hoper
                          exact wp_of_exec (exec_move rfl (hold 1 (notDst (by kernel_rfl)))) (hcont uu hS (Below.refl _ _))
                        refine all_succ ?_ ?_
                        rotate_left
                        · intro hf oo hoper act uu hS hB hd hold KK hcont
                          obtain rfl := Option.some.inj hoper
                          exact wp_of_exec (exec_load rfl (hold 11 (notDst (by kernel_rfl))) (hS.at_ 0 _ _ rfl)) (hcont uu hS (Below.refl _ _))
                        exact all_zero
                      · intro i hi ty z hf o hoper a u K hk
                        have hi2 : 12 ≤ i ∧ i < 14 := by
                          split at hf
                          · assumption
                          · cases hf
                        rw [if_pos hi2] at hf
                        cases hf
                        by_cases c12 : i = 12
                        · subst c12
                          obtain rfl := Option.some.inj hoper
                          go_simp
                          exact hk
                        by_cases c13 : i = 13
                        · subst c13
                          obtain rfl := Option.some.inj hoper
                          go_simp
                          exact hk
                        omega
                      · intro ρ u hF
                        have e0 : ρ 0 = Tb.tv F := hF.val 0 (by omega) (by kernel_rfl) rfl
                        have e1 : ρ 1 = .slice (some ⟨gv, offv, none⟩) vs.length capv := hF.val 1 (by omega) (by kernel_rfl) rfl
                        have e2 : ρ 2 = .int .i64 ((k : Nat) : Int) := hF.val 2 (by omega) (by kernel_rfl) rfl
                        have e3 : ρ 3 = .pointer (some ⟨gv, offv + k, none⟩) := hF.val 3 (by omega) (by kernel_rfl) rfl
                        have e4 : ρ 4 = .int .i64 v := hF.val 4 (by omega) (by kernel_rfl) rfl
                        have e5 : ρ 5 = Tb.tv (Tb.fix F v false) := hF.val 5 (by omega) (by kernel_rfl) rfl
                        have e6 : ρ 6 = Tb.tv F := hF.val 6 (by omega) (by kernel_rfl) rfl
                        have e7 : ρ 7 = .slice (some ⟨gv, offv, none⟩) vs.length capv := hF.val 7 (by omega) (by kernel_rfl) rfl
                        have e8 : ρ 8 = .int .i64 ((k : Nat) : Int) := hF.val 8 (by omega) (by kernel_rfl) rfl
                        have e9 : ρ 9 = .pointer (some ⟨gv, offv + k, none⟩) := hF.val 9 (by omega) (by kernel_rfl) rfl
                        have e10 : ρ 10 = .int .i64 v := hF.val 10 (by omega) (by kernel_rfl) rfl
                        have e11 : ρ 11 = Tb.tv (Tb.fix F v true) := hF.val 11 (by omega) (by kernel_rfl) rfl
                        obtain ⟨p12, e12, hb12, z12⟩ := hF.ptr 12 24 _ (by omega) rfl rfl
                        rw [← Tb.tcells_zero] at z12
                        obtain ⟨p13, e13, hb13, z13⟩ := hF.ptr 13 24 _ (by omega) rfl rfl
                        rw [← Tb.tcells_zero] at z13
                        have d12_13 : p12 ≠ p13 := fun e => hF.dis 12 13 (by omega) (by omega) (by omega) rfl rfl rfl rfl (by rw [e12, e13, e])
                        have d13_12 : p13 ≠ p12 := fun e => hF.dis 13 12 (by omega) (by omega) (by omega) rfl rfl rfl rfl (by rw [e13, e12, e])
                        have l0 := kC.lt (k := 0) rfl
                        have k0 := hF.s_
                        have k1 := k0.add' (p := p12) (F := 0#256) z12 (by simp <;> omega)
                        have k2 := k1.add' (p := p13) (F := 0#256) z13 (by simp <;> omega)
                        have k3 := k2.store 1 ((Tb.fix F v false)) (p := p12) (G := 0#256) rfl (by have := kC.below.size; omega)
                        have k4 := k3.store 2 ((Tb.fix F v true)) (p := p13) (G := 0#256) rfl (by have := kC.below.size; omega)
                        obtain ⟨⟨a120, a121, a122, a123⟩, b120, b121, b122, b123⟩ := tfacts z12
                        obtain ⟨⟨a130, a131, a132, a133⟩, b130, b131, b132, b133⟩ := tfacts z13
                        simp only [puts, dstOf, e0, e1, e2, e3, e4, e5, e6, e7, e8, e9, e10, e11, e12, e13]
                        go_wp2_with fail
                        go_meet
                        case rel => exact ⟨_, _, rfl, rfl, hb12, hb13, k4⟩
                    case rest =>
                      obtain ⟨x, y, rfl, rfl, hx, hy, kD⟩ := hcut
                      have hge := hH.below.size
                      have hy9 : ∀ j, u9.ownBlock = some j → j ≠ y := fun j e => by have := (hH.nx.lt e).2; omega
                      have hHD := hH.step kD.below
                      clear hH kC HVc
                      have hyw : w.heap.size ≤ y := by omega
                      obtain ⟨px, capx, hxs, hTx⟩ := hHD.nx.shape
                      subst hxs
                      have hlx : Lx.length < 1000000 := by have := hHD.fewx; omega
                      obtain ⟨⟨a0, a1, a2, a3⟩, c0, c1, c2, c3⟩ := tfacts (kD.at_ 1 _ _ rfl)
                      have HIx := Bx.mk (fun w (h : TabsAt w px Lx) => rin_any Lx px capx (Tb.fix F v false) w h hlx)
                      go_wp2_with fail
                      refine (HIx.out _ hTx).mono ?_
                      rintro e w1 ⟨rfl, b1⟩
                      have hX : PX w w1 y (Tb.fix F v true) va (.slice (some ⟨g, off, none⟩) Ln.length capn) (.slice px Lx.length capx) La' Ln Lx :=
                        ⟨hHD.all.below b1, hHD.now.below b1, hHD.nx.below b1, hHD.an, hHD.ax, hHD.xn, hHD.below.trans (b1.mono hHD.below.size), (kD.at_ 2 _ _ rfl).below b1 (kD.lt (k := 2) rfl), hy9⟩
                      have hbx := (kD.at_ 1 _ _ rfl).below b1 (kD.lt (k := 1) rfl)
                      have HD := Bx.mk hHD
                      clear a0 a1 a2 a3 c0 c1 c2 c3 HIx hTx b1 kD hHD hy9
                      generalize hca : decide (Tb.fix F v false ∈ Lx) = ca
                      have HCA := Bx.mk hca
                      clear hca
                      go_upto_if 95 with fail
                      go_cut [9, 95] (fun vx' cc w' => cc = .bool (!ca) ∧ PX w w' y (Tb.fix F v true) va (.slice (some ⟨g, off, none⟩) Ln.length capn) vx' La' Ln (if Tb.fix F v false ∈ Lx then Lx else Lx ++ [Tb.fix F v false]))
                      case first =>
                        cases hcb : ca with
                        | true =>
                          have hin : Tb.fix F v false ∈ Lx := of_decide_eq_true (HCA.out.trans hcb)
                          have HX := Bx.mk hX
                          have HIN := Bx.mk hin
                          clear hX hin
                          go_wp2_with fail
                          go_meet
                          case rel => exact ⟨by rw [hcb], by rw [if_pos HIN.out]; exact HX.out⟩
                        | false =>
                          have hin : Tb.fix F v false ∉ Lx := of_decide_eq_false (HCA.out.trans hcb)
                          have HIN := Bx.mk hin
                          obtain ⟨v', w', hra, hA⟩ := app_run hX.nx hX.below (Tb.fix F v false) hlx
                          have HX := Bx.mk (hX.app hA hyw)
                          obtain ⟨⟨a0, a1, a2, a3⟩, c0, c1, c2, c3⟩ := tfacts hbx
                          clear hX hin hA
                          go_wp2_with (first | (at_builtin; refine wpList_by_append _ rfl _ _ _ rfl rfl rfl hra ?_) | fail)
                          go_meet
                          case rel => exact ⟨by rw [hcb]; rfl, by rw [if_neg HIN.out]; exact HX.out⟩
                      case rest =>
                        obtain ⟨rfl, hX⟩ := hcut
                        obtain ⟨Lz, hLz⟩ : ∃ Lz, Bx (Lz = if Tb.fix F v false ∈ Lx then Lx else Lx ++ [Tb.fix F v false]) := ⟨_, ⟨rfl⟩⟩
                        rw [← hLz.out] at hX
                        have hfz : Lz.length ≤ 2 * i + 1 := by
                          have h1 := HD.out.fewx
                          have h2 := hLz.out
                          by_cases h : Tb.fix F v false ∈ Lx
                          · rw [if_pos h] at h2; rw [h2]; omega
                          · rw [if_neg h] at h2; rw [h2, List.length_append]; simp; omega
                        have hsame : k < ws.length → Tb.Same (if Tb.fix F v true ∈ Lz then Lz else Lz ++ [Tb.fix F v true]) (Tb.Both (Ln.take (i + 1)) (ws.getD k 0)) := fun h => by
                          have s0 := HD.out.sx h
                          rw [hgd.out] at s0 ⊢
                          have s1 : Tb.Same Lz (fun G => Tb.Both (Ln.take i) v G ∨ G = Tb.fix F v false) := by rw [hLz.out]; exact Tb.add_dedup s0 (fun _ => Iff.rfl)
                          exact Tb.add_dedup s1 (fun G => by rw [Tb.both_take hF2, or_assoc])
                        have HSame := Bx.mk hsame
                        clear hsame HCA hLz
                        obtain ⟨px2, capx2, hxs2, hTx2⟩ := hX.nx.shape
                        subst hxs2
                        have hlz : Lz.length < 1000000 := by omega
                        obtain ⟨⟨a0, a1, a2, a3⟩, c0, c1, c2, c3⟩ := tfacts hX.box
                        have HIx := Bx.mk (fun w (h : TabsAt w px2 Lz) => rin_any Lz px2 capx2 (Tb.fix F v true) w h hlz)
                        go_wp2_with fail
                        refine (HIx.out _ hTx2).mono ?_
                        rintro e w2 ⟨rfl, b2⟩
                        have hX2 := hX.step b2
                        clear hX a0 a1 a2 a3 c0 c1 c2 c3 HIx hTx2 b2
                        by_cases hin : Tb.fix F v true ∈ Lz
                        · have hPI : PI w w2 fs ws k (i + 1) va (.slice (some ⟨g, off, none⟩) Ln.length capn) (.slice px2 Lz.length capx2) La' Ln Lz :=
                            ⟨hX2.all, hX2.now, hX2.nx, hX2.an, hX2.ax, hX2.xn, hX2.below, HD.out.cof, HD.out.nd, by have := HD.out.fewa; omega, by omega, fun h => by have := HSame.out h; rwa [if_pos hin] at this⟩
                          rw [show decide (Tb.fix F v true ∈ Lz) = true from decide_eq_true hin]
                          clear hX2 HSame hin HD
                          go_wp2_with fail
                          exact ⟨⟨i + 1, La', Lz, by omega, by go_num, hPI⟩, by simp [intOf]; omega⟩
                        · obtain ⟨v', w', hra, hA⟩ := app_run hX2.nx hX2.below (Tb.fix F v true) hlz
                          have hX3 := hX2.app hA hyw
                          have hPI : PI w w' fs ws k (i + 1) va (.slice (some ⟨g, off, none⟩) Ln.length capn) v' La' Ln (Lz ++ [Tb.fix F v true]) :=
                            ⟨hX3.all, hX3.now, hX3.nx, hX3.an, hX3.ax, hX3.xn, hX3.below, HD.out.cof, HD.out.nd, by have := HD.out.fewa; omega, by rw [List.length_append]; simp; omega, fun h => by have := HSame.out h; rwa [if_neg hin] at this⟩
                          rw [show decide (Tb.fix F v true ∈ Lz) = false from decide_eq_false hin]
                          obtain ⟨⟨a0, a1, a2, a3⟩, c0, c1, c2, c3⟩ := tfacts hX2.box
                          clear hX2 hX3 HSame hin HD hA
                          go_wp2_with (first | (at_builtin; refine wpList_by_append _ rfl _ _ _ rfl rfl rfl hra ?_) | fail)
                          exact ⟨⟨i + 1, La', Lz ++ [Tb.fix F v true], by omega, by go_num, hPI⟩, by simp [intOf]; omega⟩
            · obtain rfl : i = Ln.length := by omega
              have hPS := hP.done HS.out.lev HS.out.fewn (by rw [hnn.out]; omega)
              clear hP HS
              go_wp2_with fail
              exact ⟨⟨k + 1, La, Lx, by omega, by go_num, hPS⟩, by simp [intOf]; omega⟩
        · obtain ⟨hm1, hm2, hm3⟩ := HWL.out
          obtain ⟨pa, capa, hsh, _⟩ := hS.all.shape
          subst hsh
          have hk1 : k = n + 1 := by omega
          have HF := Bx.mk (show Tb.Same La (Tb.Up fs (vs.take 8) ((vs.take 8).length + 1)) from by rw [hws.out, hnn.out, ← hk1]; exact hS.cof)
          have hb := hS.below
          have hnd := hS.nd
          by_cases hl : k ≤ vs.length
          · have q1 : (k : Int) ≤ (vs.length : Int) := by omega
            have q2 : ¬ (k : Int) ≤ 8 := by omega
            clear hm1 hm2 hm3 hk1 hl hle hS
            go_wp2_with fail
            go_ret
            exact ⟨pa, capa, La, rfl, hnd, by have := HF.out; rw [List.length_take] at this; exact this, hb⟩
          · have q1 : ¬ (k : Int) ≤ (vs.length : Int) := by omega
            clear hm1 hm2 hm3 hk1 hl hle hS
            go_wp2_with fail
            go_ret
            exact ⟨pa, capa, La, rfl, hnd, by have := HF.out; rw [List.length_take] at this; exact this, hb⟩

theorem SizeIs.same {fs : List Tb.T} {vs : List Int} {n m : Nat} (h : SizeIs fs vs n) (h' : SizeIs fs vs m) : n = m := by
  obtain ⟨S, hS, rfl, hm⟩ := h.ex
  obtain ⟨S', hS', rfl, hm'⟩ := h'.ex
  exact ((List.perm_ext_iff_of_nodup hS hS').2 fun F => (hm F).trans (hm' F).symm).length_eq

set_option maxRecDepth 100000 in
set_option maxHeartbeats 1000000 in
theorem rsize_any (fs : List Tb.T) (p : Option Addr) (capl : Nat) (vv : Value) (vs : List Int) (w : World) (hF : TabsAt w p fs) (hn : fs.length ≤ 4) (hp : IntsVal w vv vs) :
    Calls Tryd.prog 20 #[.slice p fs.length capl, vv] w fun e w' => ∃ n, SizeIs fs vs n ∧ e = .returned (.int .i64 (n : Int)) ∧ Below w.heap.size w w' := by
  have HP := Bx.mk (fun w hF hp => rparts_any fs p capl vv vs w hF hn hp)
  go_enter Tryd.func20, Tryd.ntmps20
  go_wp2_with fail
  refine (HP.out _ hF hp).mono ?_
  rintro e w1 ⟨q, cap, P, rfl, hnd, hsame, b1⟩
  have HS : SizeIs fs vs P.length := ⟨P, hnd, rfl, fun F => by rw [hsame.iff F, Tb.up_cof]⟩
  clear hnd hsame HP
  go_wp2_with fail
  go_ret
  exact ⟨P.length, HS, rfl, b1⟩

/-- both tell one number -/
theorem size_same (fs : List Tb.T) (p : Option Addr) (capl : Nat) (vv : Value) (vs : List Int) (w : World) (n : Nat) (hs : SizeIs fs vs n) (hF : TabsAt w p fs) (hn : fs.length ≤ 4) (hp : IntsVal w vv vs) :
    Calls Tryd.prog 19 #[.slice p fs.length capl, vv] w fun e w' => e = .returned (.int .i64 (n : Int)) ∧ Below w.heap.size w w' :=
  (size_any fs p capl vv vs w hF (by omega) hp).mono fun e w' ⟨m, hm, he, hb⟩ => ⟨by rw [he, hm.same hs], hb⟩
theorem rsize_same (fs : List Tb.T) (p : Option Addr) (capl : Nat) (vv : Value) (vs : List Int) (w : World) (n : Nat) (hs : SizeIs fs vs n) (hF : TabsAt w p fs) (hn : fs.length ≤ 4) (hp : IntsVal w vv vs) :
    Calls Tryd.prog 20 #[.slice p fs.length capl, vv] w fun e w' => e = .returned (.int .i64 (n : Int)) ∧ Below w.heap.size w w' :=
  (rsize_any fs p capl vv vs w hF hn hp).mono fun e w' ⟨m, hm, he, hb⟩ => ⟨by rw [he, hm.same hs], hb⟩
end Go.Proofs.YtfkefgelceaimaaDoor
