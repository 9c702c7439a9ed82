/-
  Texts on which the law ComposeRaw rests, part 1 of 1.
-/
import Derived.Test.YthbifeoohphnpaaBa11
/-
  The laws of package compose: what they look at first; what is refused.
-/
namespace Go.Proofs.Ythbifeoohphnpaa
set_option linter.unusedVariables false
open Go.RowKit
/-- a slice in a block of one's own -/
theorem RdN.blk {q : IntKind} {B : Bk} {w : World} {g : Nat} {t : TypeId} {cs : Array Value} {xs : List Int} (hB : Blk w g t cs) (hg : g ∉ B.own) (hx : ∀ (j : Nat) (x : Int), xs[j]? = some x → cs[j]? = some (.int q x)) : RdN q B w (some ⟨g, 0, none⟩) xs :=
  ⟨fun j x hj => ⟨g, 0, rfl, hg, by rw [Nat.zero_add]; exact hB.cellEq (hx j x hj)⟩⟩
theorem Ls.noOwn {w0 w : World} {s n room c : Nat} {B : Bk} {S : Sto} (L : Ls w0 s n room c B S w) {b : Nat} (hb : w.heap.size ≤ b) : b ∉ B.own := fun h => absurd (Loc.lt' L.G b h) (by omega)
theorem swap2 : Tb.subst (Tb.var ((0 : Nat) : Int)) (gtOf (varTs [1, 0])) = Tb.var ((1 : Nat) : Int) := by decide +kernel
theorem comp01 : ((Tb.var ((1 : Nat) : Int) &&& Tb.fix (Tb.var ((0 : Nat) : Int)) ((0 : Nat) : Int) true) ||| (~~~(Tb.var ((1 : Nat) : Int)) &&& Tb.fix (Tb.var ((0 : Nat) : Int)) ((0 : Nat) : Int) false)) = Tb.var ((1 : Nat) : Int) := by decide +kernel
theorem cm2 : cmCost 2 = 2 := by decide
set_option maxRecDepth 100000 in
set_option maxHeartbeats 2000000 in
theorem known13_any (w : World) : Calls Try.prog 33 #[] w fun e w' => e = .returned (.bool true) ∧ Below w.heap.size w w' := by
  have HN : Bx (Calls Try.prog 10 #[.int .i64 2, .int .i64 100] w fun e w' => ∃ s B, e = .returned (.tuple #[.pointer (some ⟨s, 0, none⟩), .int .i64 0]) ∧ Ls w s 2 100 0 B (Sto.new 2 100) w') := ⟨Ls.new 2 100 w (by omega) (by omega) (by omega) (by omega)⟩
  go_enter Try.func33, Try.ntmps33
  go_wp2_with fail
  refine HN.out.mono ?_
  rintro e w1 ⟨s, B1, rfl, L1⟩
  have HV : Bx (Calls Try.prog 65 #[.pointer (some ⟨s, 0, none⟩), .int .i64 0] w1 (Told w s 2 100 (0 + 1) (Sto.new 2 100) (Tb.var ((0 : Nat) : Int)))) := ⟨L1.var (v := 0) (by omega) (by omega)⟩
  clear HN L1
  go_wp2_with fail
  refine HV.out.mono ?_
  rintro e w2 ⟨S2, B2, L2, k2, a, rfl, da⟩
  have HV : Bx (Calls Try.prog 65 #[.pointer (some ⟨s, 0, none⟩), .int .i64 1] w2 (Told w s 2 100 (0 + 1 + 1) S2 (Tb.var ((1 : Nat) : Int)))) := ⟨L2.var (v := 1) (by omega) (by omega)⟩
  have DA := Bx.mk da
  clear L2 k2 da
  go_wp2_with fail
  refine HV.out.mono ?_
  rintro e w3 ⟨S3, B3, L3, k3, b, rfl, db⟩
  have DA3 := Bx.mk (DA.out.ext k3)
  have DB := Bx.mk db
  have HC : Bx (Calls Try.prog 34 #[.pointer (some ⟨s, 0, none⟩), .int .u32 (a : Int), .int .i64 0, .int .u32 (b : Int)] w3 (Told w s 2 100 (0 + 1 + 1 + cmCost 2) S3 (Tb.var ((1 : Nat) : Int)))) := ⟨by
    have h := L3.compose (v := 0) DA3.out db (by omega) (by rw [cm2]; omega)
    rw [comp01] at h
    exact h⟩
  clear HV L3 k3 db DA
  go_wp2_with fail
  (with_reducible refine HC.out.mono ?_)
  rintro e w4 ⟨S4, B4, L4, k4, c, rfl, dc⟩
  have DA4 := Bx.mk (DA3.out.ext k4)
  have DB4 := Bx.mk (DB.out.ext k4)
  have DC := Bx.mk dc
  have hbl := Blk.new w4 3 #[.int .i64 1, .int .i64 0]
  have hf4 : Fr [] w4 (w4.alloc (.cells #[.int .i64 1, .int .i64 0] 3)) := (Fr.refl _ _).alloc _
  have HR : Bx (Calls Try.prog 36 #[.pointer (some ⟨s, 0, none⟩), .int .u32 (a : Int), .slice (some ⟨w4.heap.size, 0, none⟩) 2 2] (w4.alloc (.cells #[.int .i64 1, .int .i64 0] 3)) (Told w s 2 100 (0 + 1 + 1 + cmCost 2 + cmCost 2) S4 (Tb.var ((1 : Nat) : Int)))) := ⟨by
    have h := (L4.fr0 hf4).rename (cap := 2) (xs := [1, 0]) DA4.out (RdN.blk hbl (L4.noOwn (Nat.le_refl _)) (fun j x hj => by
      match j with
      | 0 => cases hj; rfl
      | 1 => cases hj; rfl
      | j + 2 => simp [ints] at hj)) (by simp) rfl (by rw [cm2]; omega)
    rw [swap2] at h
    exact h⟩
  clear HC L4 k4 dc DA3 DB hbl hf4
  go_wp2_with fail
  (with_reducible refine HR.out.mono ?_)
  rintro e w5 ⟨S5, B5, L5, k5, d, rfl, dd⟩
  have DA5 := Bx.mk (DA4.out.ext k5)
  have DB5 := Bx.mk (DB4.out.ext k5)
  have hcb : c = b := (L5.eq (DC.out.ext k5) DB5.out).2 rfl
  have hdb : d = b := (L5.eq dd DB5.out).2 rfl
  have HB : Bx (Calls Try.prog 34 #[.pointer (some ⟨s, 0, none⟩), .int .u32 (a : Int), .int .i64 2, .int .u32 (b : Int)] w5 fun e w' => e = .returned (.tuple #[.int .u32 0, .int .i64 40]) ∧ w' = w5) := ⟨by
    have h := compose_bad2 w.heap.size B5 S5 a b 2 w5 L5.G DA5.out.is DB5.out.is (by rw [L5.n]; omega)
    rw [L5.s] at h
    exact h⟩
  have HL5 := Bx.mk L5
  have k01 : ((c : Int) == (b : Int)) = true := by rw [beq_iff_eq]; omega
  have k02 : ((d : Int) == (b : Int)) = true := by rw [beq_iff_eq]; omega
  clear HR L5 k5 dd DC DA4 DB4 hcb hdb
  go_wp2_with fail
  refine HB.out.mono ?_
  rintro e w6 ⟨rfl, rfl⟩
  have hbl := Blk.new w6 31 #[.int .u32 (a : Int)]
  have hf6 : Fr [] w6 (w6.alloc (.cells #[.int .u32 (a : Int)] 31)) := (Fr.refl _ _).alloc _
  have HS : Bx (Calls Try.prog 35 #[.pointer (some ⟨s, 0, none⟩), .int .u32 (a : Int), .slice (some ⟨w6.heap.size, 0, none⟩) 1 1] (w6.alloc (.cells #[.int .u32 (a : Int)] 31)) fun e w' => e = .returned (.tuple #[.int .u32 0, .int .i64 40]) ∧ w' = (w6.alloc (.cells #[.int .u32 (a : Int)] 31))) := ⟨by
    have L6 := HL5.out.fr0 hf6
    have h := subst_bad2 w.heap.size B5 S5 a 1 _ [(a : Int)] _ L6.G DA5.out.is (RdN.blk hbl (HL5.out.noOwn (Nat.le_refl _)) (fun j x hj => by
      match j with
      | 0 => cases hj; rfl
      | j + 1 => simp at hj)) (fun k x hx => by
      match k with
      | 0 => cases hx; exact ⟨a, rfl, DA5.out.is⟩
      | k + 1 => simp at hx) (by rw [L6.n]; simp) (by simp)
    rw [L6.s] at h
    exact h⟩
  have HF6 := Bx.mk hf6
  clear HB hbl hf6
  go_wp2_with fail
  (with_reducible refine HS.out.mono ?_)
  rintro e w7 ⟨rfl, rfl⟩
  have HE := Bx.mk ((HL5.out.fr0 HF6.out).end_)
  clear HS
  go_wp2_with fail
  go_ret
  exact ⟨rfl, HE.out⟩
/-! ComposeRaw -/
theorem madeH (m : Nat) : madeCells #[Value.int .u32 0] m = (List.replicate m (Value.int .u32 0)).toArray := by rw [← toList_madeCells_one]
theorem madeI (m : Nat) : madeCells #[Value.int .i64 0] m = (List.replicate m (Value.int .i64 0)).toArray := by rw [← toList_madeCells_one]
/-- what the three calls give -/
structure RawIs (x y : Nat) (v : Int) (m : Nat) (E1 E2 : Int) (bx by_ : Bool) : Prop where
  h1 : ∀ (w w1 : World) (s : Nat) (B1 : Bk), Ls w s 3 100 0 B1 (Sto.new 3 100) w1 → Calls Try.prog 34 #[.pointer (some ⟨s, 0, none⟩), .int .u32 (x : Int), .int .i64 v, .int .u32 (y : Int)] w1 fun e w' => ∃ (r : Int) (S2 : Sto) (B2 : Bk), e = .returned (.tuple #[.int .u32 r, .int .i64 E1]) ∧ Ls w s 3 100 10 B2 S2 w' ∧ S2.is x = bx ∧ S2.is y = by_
  h2 : ∀ (w w2 : World) (s : Nat) (B2 : Bk) (S2 : Sto) (g : Nat), Ls w s 3 100 10 B2 S2 w2 → S2.is x = bx → Blk w2 g 31 (madeCells #[Value.int .u32 0] m) → g ∉ B2.own → Calls Try.prog 35 #[.pointer (some ⟨s, 0, none⟩), .int .u32 (x : Int), .slice (some ⟨g, 0, none⟩) m m] w2 fun e w' => ∃ (r : Int) (S3 : Sto) (B3 : Bk), e = .returned (.tuple #[.int .u32 r, .int .i64 E2]) ∧ Ls w s 3 100 30 B3 S3 w' ∧ S3.is x = bx
  h3 : ∀ (w w3 : World) (s : Nat) (B3 : Bk) (S3 : Sto) (g : Nat), Ls w s 3 100 30 B3 S3 w3 → S3.is x = bx → Blk w3 g 3 (madeCells #[Value.int .i64 0] m) → g ∉ B3.own → Calls Try.prog 36 #[.pointer (some ⟨s, 0, none⟩), .int .u32 (x : Int), .slice (some ⟨g, 0, none⟩) m m] w3 fun e w' => ∃ (r : Int) (S4 : Sto) (B4 : Bk), e = .returned (.tuple #[.int .u32 r, .int .i64 E2]) ∧ Ls w s 3 100 50 B4 S4 w' ∧ S4.is x = bx
set_option maxRecDepth 100000 in
set_option maxHeartbeats 400000 in
theorem raw_a (x y : Nat) (v : Int) (n m : Nat) (w : World) (hx : x < 4294967296) (hy : y < 4294967296) (hn : n < 256) (hm : n % 6 = m) (H : RawIs x y v m 101 101 false false) :
    Calls Try.prog 7 #[.int .u32 (x : Int), .int .u32 (y : Int), .int .i64 v, .int .u8 (n : Int)] w fun e w' => e = .returned (.bool true) ∧ Below w.heap.size w w' := by
  obtain ⟨i0, hi, hz⟩ := info_hd
  obtain ⟨i1, hi1, hz1⟩ := info_int
  have HN : Bx (∀ u, Calls Try.prog 10 #[.int .i64 3, .int .i64 100] u fun e w' => ∃ s B, e = .returned (.tuple #[.pointer (some ⟨s, 0, none⟩), .int .i64 0]) ∧ Ls u s 3 100 0 B (Sto.new 3 100) w') := ⟨fun u => Ls.new 3 100 u (by omega) (by omega) (by omega) (by omega)⟩
  have HH := Bx.mk H
  have HX := Bx.mk (And.intro hx hy)
  have E6 := Bx.mk (show ((n : Int) % 6) = (m : Int) by omega)
  have h6 : m < 6 := by omega
  have HMK := Bx.mk (fun u : World => (by have h := run_make (P := Try.prog) u 50 31 i0 _ Try.underlying50 hi hz.1 .i64 .i64 m m (by omega) (Int.le_refl _) (by rw [hz.2.2]; omega) (by omega); rw [hz.2.1, Nat.mul_one, Int.toNat_natCast] at h; exact h : (Instr.makeSlice 50 (.int .i64 (m : Int)) (.int .i64 (m : Int))).run Try.prog u = .ok (.slice (some ⟨u.heap.size, 0, none⟩) m m) (u.alloc (.cells (madeCells #[Value.int .u32 0] m) 31))))
  have HMI := Bx.mk (fun u : World => (by have h := run_make (P := Try.prog) u 38 3 i1 _ Try.underlying38 hi1 hz1.1 .i64 .i64 m m (by omega) (Int.le_refl _) (by rw [hz1.2.2]; omega) (by omega); rw [hz1.2.1, Nat.mul_one, Int.toNat_natCast] at h; exact h : (Instr.makeSlice 38 (.int .i64 (m : Int)) (.int .i64 (m : Int))).run Try.prog u = .ok (.slice (some ⟨u.heap.size, 0, none⟩) m m) (u.alloc (.cells (madeCells #[Value.int .i64 0] m) 3))))
  have q1 : (m : Int) < 6 := by omega
  have q2 : (0 : Int) ≤ (m : Int) := by omega
  clear hx hy hz hz1 H hm
  go_enter Try.func7, Try.ntmps7
  go_wp2_with fail
  refine (known13_any w).mono ?_
  rintro e w1 ⟨rfl, hb⟩
  have HB := Bx.mk hb
  clear hb
  go_wp2_with fail
  refine (HN.out w1).mono ?_
  rintro e w2 ⟨s, B1, rfl, L1⟩
  have HC := Bx.mk (HH.out.h1 w1 w2 s B1 L1)
  clear L1 HN
  go_wp2_with fail
  (with_reducible refine HC.out.mono ?_)
  rintro e w3 ⟨r1, S2, B2, rfl, L2, ix2, iy2⟩
  have HIX := Bx.mk (L2.is HX.out.1)
  have HIY := Bx.mk (L2.is HX.out.2)
  rw [ix2] at HIX
  rw [iy2] at HIY
  have HL2 := Bx.mk (And.intro L2 (And.intro ix2 iy2))
  clear L2 ix2 iy2 HC
  go_wp2_with fail
  refine HIX.out.mono ?_
  rintro e wz ⟨rfl, rfl⟩
  go_wp2_with fail
  have hbl := Blk.new wz 31 (madeCells #[Value.int .u32 0] m)
  have hfz : Fr [] wz (wz.alloc (.cells (madeCells #[Value.int .u32 0] m) 31)) := (Fr.refl _ _).alloc _
  have HS := Bx.mk (HH.out.h2 w1 _ s B2 S2 wz.heap.size (HL2.out.1.fr0 hfz) HL2.out.2.1 hbl (HL2.out.1.noOwn (Nat.le_refl _)))
  have hmk := HMK.out wz
  rw [E6.out, hmk]
  clear hbl hfz hmk HIX HIY
  go_wp2_with fail
  (with_reducible refine HS.out.mono ?_)
  rintro e wa ⟨r2, S3, B3, rfl, L3, ix3⟩
  have HL3 := Bx.mk (And.intro L3 ix3)
  clear L3 ix3 HS HL2
  go_wp2_with fail
  have hbl := Blk.new wa 3 (madeCells #[Value.int .i64 0] m)
  have hfz : Fr [] wa (wa.alloc (.cells (madeCells #[Value.int .i64 0] m) 3)) := (Fr.refl _ _).alloc _
  have HR := Bx.mk (HH.out.h3 w1 _ s B3 S3 wa.heap.size (HL3.out.1.fr0 hfz) HL3.out.2 hbl (HL3.out.1.noOwn (Nat.le_refl _)))
  have hmk := HMI.out wa
  rw [E6.out, hmk]
  clear hbl hfz hmk
  go_wp2_with fail
  (with_reducible refine HR.out.mono ?_)
  rintro e wb ⟨r3, S4, B4, rfl, L4, ix4⟩
  have HIX := Bx.mk (L4.is HX.out.1)
  rw [ix4] at HIX
  have HL4 := Bx.mk L4
  clear L4 ix4 HR HL3
  go_wp2_with fail
  refine HIX.out.mono ?_
  rintro e wz ⟨rfl, rfl⟩
  have HE := Bx.mk (HB.out.trans (HL4.out.end_.mono HB.out.size))
  clear HIX HL4
  go_wp2_with fail
  go_ret
  exact ⟨rfl, HE.out⟩
set_option maxRecDepth 100000 in
set_option maxHeartbeats 400000 in
theorem raw_b0 (x y : Nat) (v : Int) (n m : Nat) (w : World) (hx : x < 4294967296) (hy : y < 4294967296) (hn : n < 256) (hm : n % 6 = m) (H : RawIs x y v m 101 0 true false) (hm3 : m = 3) :
    Calls Try.prog 7 #[.int .u32 (x : Int), .int .u32 (y : Int), .int .i64 v, .int .u8 (n : Int)] w fun e w' => e = .returned (.bool true) ∧ Below w.heap.size w w' := by
  obtain ⟨i0, hi, hz⟩ := info_hd
  obtain ⟨i1, hi1, hz1⟩ := info_int
  have HN : Bx (∀ u, Calls Try.prog 10 #[.int .i64 3, .int .i64 100] u fun e w' => ∃ s B, e = .returned (.tuple #[.pointer (some ⟨s, 0, none⟩), .int .i64 0]) ∧ Ls u s 3 100 0 B (Sto.new 3 100) w') := ⟨fun u => Ls.new 3 100 u (by omega) (by omega) (by omega) (by omega)⟩
  have HH := Bx.mk H
  have HX := Bx.mk (And.intro hx hy)
  have E6 := Bx.mk (show ((n : Int) % 6) = (m : Int) by omega)
  have h6 : m < 6 := by omega
  have HMK := Bx.mk (fun u : World => (by have h := run_make (P := Try.prog) u 50 31 i0 _ Try.underlying50 hi hz.1 .i64 .i64 m m (by omega) (Int.le_refl _) (by rw [hz.2.2]; omega) (by omega); rw [hz.2.1, Nat.mul_one, Int.toNat_natCast] at h; exact h : (Instr.makeSlice 50 (.int .i64 (m : Int)) (.int .i64 (m : Int))).run Try.prog u = .ok (.slice (some ⟨u.heap.size, 0, none⟩) m m) (u.alloc (.cells (madeCells #[Value.int .u32 0] m) 31))))
  have HMI := Bx.mk (fun u : World => (by have h := run_make (P := Try.prog) u 38 3 i1 _ Try.underlying38 hi1 hz1.1 .i64 .i64 m m (by omega) (Int.le_refl _) (by rw [hz1.2.2]; omega) (by omega); rw [hz1.2.1, Nat.mul_one, Int.toNat_natCast] at h; exact h : (Instr.makeSlice 38 (.int .i64 (m : Int)) (.int .i64 (m : Int))).run Try.prog u = .ok (.slice (some ⟨u.heap.size, 0, none⟩) m m) (u.alloc (.cells (madeCells #[Value.int .i64 0] m) 3))))
  have q1 : (m : Int) < 6 := by omega
  have q2 : (0 : Int) ≤ (m : Int) := by omega
  have k3 : ((n : Int) % 6 == 3) = true := by rw [beq_iff_eq]; omega
  have k4 : ((n : Int) % 6 != 3) = false := by rw [bne_eq_false_iff_eq]; omega
  clear hx hy hz hz1 H hm hm3
  go_enter Try.func7, Try.ntmps7
  go_wp2_with fail
  refine (known13_any w).mono ?_
  rintro e w1 ⟨rfl, hb⟩
  have HB := Bx.mk hb
  clear hb
  go_wp2_with fail
  refine (HN.out w1).mono ?_
  rintro e w2 ⟨s, B1, rfl, L1⟩
  have HC := Bx.mk (HH.out.h1 w1 w2 s B1 L1)
  clear L1 HN
  go_wp2_with fail
  (with_reducible refine HC.out.mono ?_)
  rintro e w3 ⟨r1, S2, B2, rfl, L2, ix2, iy2⟩
  have HIX := Bx.mk (L2.is HX.out.1)
  have HIY := Bx.mk (L2.is HX.out.2)
  rw [ix2] at HIX
  rw [iy2] at HIY
  have HL2 := Bx.mk (And.intro L2 (And.intro ix2 iy2))
  clear L2 ix2 iy2 HC
  go_wp2_with fail
  refine HIX.out.mono ?_
  rintro e wz ⟨rfl, rfl⟩
  go_wp2_with fail
  refine HIY.out.mono ?_
  rintro e wz ⟨rfl, rfl⟩
  go_wp2_with fail
  have hbl := Blk.new wz 31 (madeCells #[Value.int .u32 0] m)
  have hfz : Fr [] wz (wz.alloc (.cells (madeCells #[Value.int .u32 0] m) 31)) := (Fr.refl _ _).alloc _
  have HS := Bx.mk (HH.out.h2 w1 _ s B2 S2 wz.heap.size (HL2.out.1.fr0 hfz) HL2.out.2.1 hbl (HL2.out.1.noOwn (Nat.le_refl _)))
  have hmk := HMK.out wz
  rw [E6.out, hmk]
  clear hbl hfz hmk HIX HIY
  go_wp2_with fail
  (with_reducible refine HS.out.mono ?_)
  rintro e wa ⟨r2, S3, B3, rfl, L3, ix3⟩
  have HL3 := Bx.mk (And.intro L3 ix3)
  clear L3 ix3 HS HL2
  go_wp2_with fail
  have hbl := Blk.new wa 3 (madeCells #[Value.int .i64 0] m)
  have hfz : Fr [] wa (wa.alloc (.cells (madeCells #[Value.int .i64 0] m) 3)) := (Fr.refl _ _).alloc _
  have HR := Bx.mk (HH.out.h3 w1 _ s B3 S3 wa.heap.size (HL3.out.1.fr0 hfz) HL3.out.2 hbl (HL3.out.1.noOwn (Nat.le_refl _)))
  have hmk := HMI.out wa
  rw [E6.out, hmk]
  clear hbl hfz hmk
  go_wp2_with fail
  (with_reducible refine HR.out.mono ?_)
  rintro e wb ⟨r3, S4, B4, rfl, L4, ix4⟩
  have HIX := Bx.mk (L4.is HX.out.1)
  rw [ix4] at HIX
  have HL4 := Bx.mk L4
  clear L4 ix4 HR HL3
  go_wp2_with fail
  refine HIX.out.mono ?_
  rintro e wz ⟨rfl, rfl⟩
  have HE := Bx.mk (HB.out.trans (HL4.out.end_.mono HB.out.size))
  clear HIX HL4
  go_wp2_with fail
  go_ret
  exact ⟨rfl, HE.out⟩
set_option maxRecDepth 100000 in
set_option maxHeartbeats 400000 in
theorem raw_b1 (x y : Nat) (v : Int) (n m : Nat) (w : World) (hx : x < 4294967296) (hy : y < 4294967296) (hn : n < 256) (hm : n % 6 = m) (H : RawIs x y v m 101 40 true false) (hm3 : m ≠ 3) :
    Calls Try.prog 7 #[.int .u32 (x : Int), .int .u32 (y : Int), .int .i64 v, .int .u8 (n : Int)] w fun e w' => e = .returned (.bool true) ∧ Below w.heap.size w w' := by
  obtain ⟨i0, hi, hz⟩ := info_hd
  obtain ⟨i1, hi1, hz1⟩ := info_int
  have HN : Bx (∀ u, Calls Try.prog 10 #[.int .i64 3, .int .i64 100] u fun e w' => ∃ s B, e = .returned (.tuple #[.pointer (some ⟨s, 0, none⟩), .int .i64 0]) ∧ Ls u s 3 100 0 B (Sto.new 3 100) w') := ⟨fun u => Ls.new 3 100 u (by omega) (by omega) (by omega) (by omega)⟩
  have HH := Bx.mk H
  have HX := Bx.mk (And.intro hx hy)
  have E6 := Bx.mk (show ((n : Int) % 6) = (m : Int) by omega)
  have h6 : m < 6 := by omega
  have HMK := Bx.mk (fun u : World => (by have h := run_make (P := Try.prog) u 50 31 i0 _ Try.underlying50 hi hz.1 .i64 .i64 m m (by omega) (Int.le_refl _) (by rw [hz.2.2]; omega) (by omega); rw [hz.2.1, Nat.mul_one, Int.toNat_natCast] at h; exact h : (Instr.makeSlice 50 (.int .i64 (m : Int)) (.int .i64 (m : Int))).run Try.prog u = .ok (.slice (some ⟨u.heap.size, 0, none⟩) m m) (u.alloc (.cells (madeCells #[Value.int .u32 0] m) 31))))
  have HMI := Bx.mk (fun u : World => (by have h := run_make (P := Try.prog) u 38 3 i1 _ Try.underlying38 hi1 hz1.1 .i64 .i64 m m (by omega) (Int.le_refl _) (by rw [hz1.2.2]; omega) (by omega); rw [hz1.2.1, Nat.mul_one, Int.toNat_natCast] at h; exact h : (Instr.makeSlice 38 (.int .i64 (m : Int)) (.int .i64 (m : Int))).run Try.prog u = .ok (.slice (some ⟨u.heap.size, 0, none⟩) m m) (u.alloc (.cells (madeCells #[Value.int .i64 0] m) 3))))
  have q1 : (m : Int) < 6 := by omega
  have q2 : (0 : Int) ≤ (m : Int) := by omega
  have k3 : ((n : Int) % 6 == 3) = false := by rw [beq_eq_false_iff_ne]; omega
  have k4 : ((n : Int) % 6 != 3) = true := by rw [bne_iff_ne]; omega
  clear hx hy hz hz1 H hm hm3
  go_enter Try.func7, Try.ntmps7
  go_wp2_with fail
  refine (known13_any w).mono ?_
  rintro e w1 ⟨rfl, hb⟩
  have HB := Bx.mk hb
  clear hb
  go_wp2_with fail
  refine (HN.out w1).mono ?_
  rintro e w2 ⟨s, B1, rfl, L1⟩
  have HC := Bx.mk (HH.out.h1 w1 w2 s B1 L1)
  clear L1 HN
  go_wp2_with fail
  (with_reducible refine HC.out.mono ?_)
  rintro e w3 ⟨r1, S2, B2, rfl, L2, ix2, iy2⟩
  have HIX := Bx.mk (L2.is HX.out.1)
  have HIY := Bx.mk (L2.is HX.out.2)
  rw [ix2] at HIX
  rw [iy2] at HIY
  have HL2 := Bx.mk (And.intro L2 (And.intro ix2 iy2))
  clear L2 ix2 iy2 HC
  go_wp2_with fail
  refine HIX.out.mono ?_
  rintro e wz ⟨rfl, rfl⟩
  go_wp2_with fail
  refine HIY.out.mono ?_
  rintro e wz ⟨rfl, rfl⟩
  go_wp2_with fail
  have hbl := Blk.new wz 31 (madeCells #[Value.int .u32 0] m)
  have hfz : Fr [] wz (wz.alloc (.cells (madeCells #[Value.int .u32 0] m) 31)) := (Fr.refl _ _).alloc _
  have HS := Bx.mk (HH.out.h2 w1 _ s B2 S2 wz.heap.size (HL2.out.1.fr0 hfz) HL2.out.2.1 hbl (HL2.out.1.noOwn (Nat.le_refl _)))
  have hmk := HMK.out wz
  rw [E6.out, hmk]
  clear hbl hfz hmk HIX HIY
  go_wp2_with fail
  (with_reducible refine HS.out.mono ?_)
  rintro e wa ⟨r2, S3, B3, rfl, L3, ix3⟩
  have HL3 := Bx.mk (And.intro L3 ix3)
  clear L3 ix3 HS HL2
  go_wp2_with fail
  have hbl := Blk.new wa 3 (madeCells #[Value.int .i64 0] m)
  have hfz : Fr [] wa (wa.alloc (.cells (madeCells #[Value.int .i64 0] m) 3)) := (Fr.refl _ _).alloc _
  have HR := Bx.mk (HH.out.h3 w1 _ s B3 S3 wa.heap.size (HL3.out.1.fr0 hfz) HL3.out.2 hbl (HL3.out.1.noOwn (Nat.le_refl _)))
  have hmk := HMI.out wa
  rw [E6.out, hmk]
  clear hbl hfz hmk
  go_wp2_with fail
  (with_reducible refine HR.out.mono ?_)
  rintro e wb ⟨r3, S4, B4, rfl, L4, ix4⟩
  have HIX := Bx.mk (L4.is HX.out.1)
  rw [ix4] at HIX
  have HL4 := Bx.mk L4
  clear L4 ix4 HR HL3
  go_wp2_with fail
  refine HIX.out.mono ?_
  rintro e wz ⟨rfl, rfl⟩
  have HE := Bx.mk (HB.out.trans (HL4.out.end_.mono HB.out.size))
  clear HIX HL4
  go_wp2_with fail
  go_ret
  exact ⟨rfl, HE.out⟩
set_option maxRecDepth 100000 in
set_option maxHeartbeats 400000 in
theorem raw_c0 (x y : Nat) (v : Int) (n m : Nat) (w : World) (hx : x < 4294967296) (hy : y < 4294967296) (hn : n < 256) (hm : n % 6 = m) (H : RawIs x y v m 40 0 true true) (h0 : v < 0) (hm3 : m = 3) :
    Calls Try.prog 7 #[.int .u32 (x : Int), .int .u32 (y : Int), .int .i64 v, .int .u8 (n : Int)] w fun e w' => e = .returned (.bool true) ∧ Below w.heap.size w w' := by
  obtain ⟨i0, hi, hz⟩ := info_hd
  obtain ⟨i1, hi1, hz1⟩ := info_int
  have HN : Bx (∀ u, Calls Try.prog 10 #[.int .i64 3, .int .i64 100] u fun e w' => ∃ s B, e = .returned (.tuple #[.pointer (some ⟨s, 0, none⟩), .int .i64 0]) ∧ Ls u s 3 100 0 B (Sto.new 3 100) w') := ⟨fun u => Ls.new 3 100 u (by omega) (by omega) (by omega) (by omega)⟩
  have HH := Bx.mk H
  have HX := Bx.mk (And.intro hx hy)
  have E6 := Bx.mk (show ((n : Int) % 6) = (m : Int) by omega)
  have h6 : m < 6 := by omega
  have HMK := Bx.mk (fun u : World => (by have h := run_make (P := Try.prog) u 50 31 i0 _ Try.underlying50 hi hz.1 .i64 .i64 m m (by omega) (Int.le_refl _) (by rw [hz.2.2]; omega) (by omega); rw [hz.2.1, Nat.mul_one, Int.toNat_natCast] at h; exact h : (Instr.makeSlice 50 (.int .i64 (m : Int)) (.int .i64 (m : Int))).run Try.prog u = .ok (.slice (some ⟨u.heap.size, 0, none⟩) m m) (u.alloc (.cells (madeCells #[Value.int .u32 0] m) 31))))
  have HMI := Bx.mk (fun u : World => (by have h := run_make (P := Try.prog) u 38 3 i1 _ Try.underlying38 hi1 hz1.1 .i64 .i64 m m (by omega) (Int.le_refl _) (by rw [hz1.2.2]; omega) (by omega); rw [hz1.2.1, Nat.mul_one, Int.toNat_natCast] at h; exact h : (Instr.makeSlice 38 (.int .i64 (m : Int)) (.int .i64 (m : Int))).run Try.prog u = .ok (.slice (some ⟨u.heap.size, 0, none⟩) m m) (u.alloc (.cells (madeCells #[Value.int .i64 0] m) 3))))
  have q1 : (m : Int) < 6 := by omega
  have q2 : (0 : Int) ≤ (m : Int) := by omega
  have k3 : ((n : Int) % 6 == 3) = true := by rw [beq_iff_eq]; omega
  have k4 : ((n : Int) % 6 != 3) = false := by rw [bne_eq_false_iff_eq]; omega
  clear hx hy hz hz1 H hm hm3
  go_enter Try.func7, Try.ntmps7
  go_wp2_with fail
  refine (known13_any w).mono ?_
  rintro e w1 ⟨rfl, hb⟩
  have HB := Bx.mk hb
  clear hb
  go_wp2_with fail
  refine (HN.out w1).mono ?_
  rintro e w2 ⟨s, B1, rfl, L1⟩
  have HC := Bx.mk (HH.out.h1 w1 w2 s B1 L1)
  clear L1 HN
  go_wp2_with fail
  (with_reducible refine HC.out.mono ?_)
  rintro e w3 ⟨r1, S2, B2, rfl, L2, ix2, iy2⟩
  have HIX := Bx.mk (L2.is HX.out.1)
  have HIY := Bx.mk (L2.is HX.out.2)
  rw [ix2] at HIX
  rw [iy2] at HIY
  have HL2 := Bx.mk (And.intro L2 (And.intro ix2 iy2))
  clear L2 ix2 iy2 HC
  go_wp2_with fail
  refine HIX.out.mono ?_
  rintro e wz ⟨rfl, rfl⟩
  go_wp2_with fail
  refine HIY.out.mono ?_
  rintro e wz ⟨rfl, rfl⟩
  go_wp2_with fail
  have hbl := Blk.new wz 31 (madeCells #[Value.int .u32 0] m)
  have hfz : Fr [] wz (wz.alloc (.cells (madeCells #[Value.int .u32 0] m) 31)) := (Fr.refl _ _).alloc _
  have HS := Bx.mk (HH.out.h2 w1 _ s B2 S2 wz.heap.size (HL2.out.1.fr0 hfz) HL2.out.2.1 hbl (HL2.out.1.noOwn (Nat.le_refl _)))
  have hmk := HMK.out wz
  rw [E6.out, hmk]
  clear hbl hfz hmk HIX HIY
  go_wp2_with fail
  (with_reducible refine HS.out.mono ?_)
  rintro e wa ⟨r2, S3, B3, rfl, L3, ix3⟩
  have HL3 := Bx.mk (And.intro L3 ix3)
  clear L3 ix3 HS HL2
  go_wp2_with fail
  have hbl := Blk.new wa 3 (madeCells #[Value.int .i64 0] m)
  have hfz : Fr [] wa (wa.alloc (.cells (madeCells #[Value.int .i64 0] m) 3)) := (Fr.refl _ _).alloc _
  have HR := Bx.mk (HH.out.h3 w1 _ s B3 S3 wa.heap.size (HL3.out.1.fr0 hfz) HL3.out.2 hbl (HL3.out.1.noOwn (Nat.le_refl _)))
  have hmk := HMI.out wa
  rw [E6.out, hmk]
  clear hbl hfz hmk
  go_wp2_with fail
  (with_reducible refine HR.out.mono ?_)
  rintro e wb ⟨r3, S4, B4, rfl, L4, ix4⟩
  have HIX := Bx.mk (L4.is HX.out.1)
  rw [ix4] at HIX
  have HL4 := Bx.mk L4
  clear L4 ix4 HR HL3
  go_wp2_with fail
  refine HIX.out.mono ?_
  rintro e wz ⟨rfl, rfl⟩
  have HE := Bx.mk (HB.out.trans (HL4.out.end_.mono HB.out.size))
  clear HIX HL4
  go_wp2_with fail
  go_ret
  exact ⟨rfl, HE.out⟩
set_option maxRecDepth 100000 in
set_option maxHeartbeats 400000 in
theorem raw_c1 (x y : Nat) (v : Int) (n m : Nat) (w : World) (hx : x < 4294967296) (hy : y < 4294967296) (hn : n < 256) (hm : n % 6 = m) (H : RawIs x y v m 40 40 true true) (h0 : v < 0) (hm3 : m ≠ 3) :
    Calls Try.prog 7 #[.int .u32 (x : Int), .int .u32 (y : Int), .int .i64 v, .int .u8 (n : Int)] w fun e w' => e = .returned (.bool true) ∧ Below w.heap.size w w' := by
  obtain ⟨i0, hi, hz⟩ := info_hd
  obtain ⟨i1, hi1, hz1⟩ := info_int
  have HN : Bx (∀ u, Calls Try.prog 10 #[.int .i64 3, .int .i64 100] u fun e w' => ∃ s B, e = .returned (.tuple #[.pointer (some ⟨s, 0, none⟩), .int .i64 0]) ∧ Ls u s 3 100 0 B (Sto.new 3 100) w') := ⟨fun u => Ls.new 3 100 u (by omega) (by omega) (by omega) (by omega)⟩
  have HH := Bx.mk H
  have HX := Bx.mk (And.intro hx hy)
  have E6 := Bx.mk (show ((n : Int) % 6) = (m : Int) by omega)
  have h6 : m < 6 := by omega
  have HMK := Bx.mk (fun u : World => (by have h := run_make (P := Try.prog) u 50 31 i0 _ Try.underlying50 hi hz.1 .i64 .i64 m m (by omega) (Int.le_refl _) (by rw [hz.2.2]; omega) (by omega); rw [hz.2.1, Nat.mul_one, Int.toNat_natCast] at h; exact h : (Instr.makeSlice 50 (.int .i64 (m : Int)) (.int .i64 (m : Int))).run Try.prog u = .ok (.slice (some ⟨u.heap.size, 0, none⟩) m m) (u.alloc (.cells (madeCells #[Value.int .u32 0] m) 31))))
  have HMI := Bx.mk (fun u : World => (by have h := run_make (P := Try.prog) u 38 3 i1 _ Try.underlying38 hi1 hz1.1 .i64 .i64 m m (by omega) (Int.le_refl _) (by rw [hz1.2.2]; omega) (by omega); rw [hz1.2.1, Nat.mul_one, Int.toNat_natCast] at h; exact h : (Instr.makeSlice 38 (.int .i64 (m : Int)) (.int .i64 (m : Int))).run Try.prog u = .ok (.slice (some ⟨u.heap.size, 0, none⟩) m m) (u.alloc (.cells (madeCells #[Value.int .i64 0] m) 3))))
  have q1 : (m : Int) < 6 := by omega
  have q2 : (0 : Int) ≤ (m : Int) := by omega
  have k3 : ((n : Int) % 6 == 3) = false := by rw [beq_eq_false_iff_ne]; omega
  have k4 : ((n : Int) % 6 != 3) = true := by rw [bne_iff_ne]; omega
  clear hx hy hz hz1 H hm hm3
  go_enter Try.func7, Try.ntmps7
  go_wp2_with fail
  refine (known13_any w).mono ?_
  rintro e w1 ⟨rfl, hb⟩
  have HB := Bx.mk hb
  clear hb
  go_wp2_with fail
  refine (HN.out w1).mono ?_
  rintro e w2 ⟨s, B1, rfl, L1⟩
  have HC := Bx.mk (HH.out.h1 w1 w2 s B1 L1)
  clear L1 HN
  go_wp2_with fail
  (with_reducible refine HC.out.mono ?_)
  rintro e w3 ⟨r1, S2, B2, rfl, L2, ix2, iy2⟩
  have HIX := Bx.mk (L2.is HX.out.1)
  have HIY := Bx.mk (L2.is HX.out.2)
  rw [ix2] at HIX
  rw [iy2] at HIY
  have HL2 := Bx.mk (And.intro L2 (And.intro ix2 iy2))
  clear L2 ix2 iy2 HC
  go_wp2_with fail
  refine HIX.out.mono ?_
  rintro e wz ⟨rfl, rfl⟩
  go_wp2_with fail
  refine HIY.out.mono ?_
  rintro e wz ⟨rfl, rfl⟩
  go_wp2_with fail
  have hbl := Blk.new wz 31 (madeCells #[Value.int .u32 0] m)
  have hfz : Fr [] wz (wz.alloc (.cells (madeCells #[Value.int .u32 0] m) 31)) := (Fr.refl _ _).alloc _
  have HS := Bx.mk (HH.out.h2 w1 _ s B2 S2 wz.heap.size (HL2.out.1.fr0 hfz) HL2.out.2.1 hbl (HL2.out.1.noOwn (Nat.le_refl _)))
  have hmk := HMK.out wz
  rw [E6.out, hmk]
  clear hbl hfz hmk HIX HIY
  go_wp2_with fail
  (with_reducible refine HS.out.mono ?_)
  rintro e wa ⟨r2, S3, B3, rfl, L3, ix3⟩
  have HL3 := Bx.mk (And.intro L3 ix3)
  clear L3 ix3 HS HL2
  go_wp2_with fail
  have hbl := Blk.new wa 3 (madeCells #[Value.int .i64 0] m)
  have hfz : Fr [] wa (wa.alloc (.cells (madeCells #[Value.int .i64 0] m) 3)) := (Fr.refl _ _).alloc _
  have HR := Bx.mk (HH.out.h3 w1 _ s B3 S3 wa.heap.size (HL3.out.1.fr0 hfz) HL3.out.2 hbl (HL3.out.1.noOwn (Nat.le_refl _)))
  have hmk := HMI.out wa
  rw [E6.out, hmk]
  clear hbl hfz hmk
  go_wp2_with fail
  (with_reducible refine HR.out.mono ?_)
  rintro e wb ⟨r3, S4, B4, rfl, L4, ix4⟩
  have HIX := Bx.mk (L4.is HX.out.1)
  rw [ix4] at HIX
  have HL4 := Bx.mk L4
  clear L4 ix4 HR HL3
  go_wp2_with fail
  refine HIX.out.mono ?_
  rintro e wz ⟨rfl, rfl⟩
  have HE := Bx.mk (HB.out.trans (HL4.out.end_.mono HB.out.size))
  clear HIX HL4
  go_wp2_with fail
  go_ret
  exact ⟨rfl, HE.out⟩
set_option maxRecDepth 100000 in
set_option maxHeartbeats 400000 in
theorem raw_c20 (x y : Nat) (v : Int) (n m : Nat) (w : World) (hx : x < 4294967296) (hy : y < 4294967296) (hn : n < 256) (hm : n % 6 = m) (H : RawIs x y v m 40 0 true true) (h0 : ¬ v < 0) (h3 : v ≥ 3) (hm3 : m = 3) :
    Calls Try.prog 7 #[.int .u32 (x : Int), .int .u32 (y : Int), .int .i64 v, .int .u8 (n : Int)] w fun e w' => e = .returned (.bool true) ∧ Below w.heap.size w w' := by
  obtain ⟨i0, hi, hz⟩ := info_hd
  obtain ⟨i1, hi1, hz1⟩ := info_int
  have HN : Bx (∀ u, Calls Try.prog 10 #[.int .i64 3, .int .i64 100] u fun e w' => ∃ s B, e = .returned (.tuple #[.pointer (some ⟨s, 0, none⟩), .int .i64 0]) ∧ Ls u s 3 100 0 B (Sto.new 3 100) w') := ⟨fun u => Ls.new 3 100 u (by omega) (by omega) (by omega) (by omega)⟩
  have HH := Bx.mk H
  have HX := Bx.mk (And.intro hx hy)
  have E6 := Bx.mk (show ((n : Int) % 6) = (m : Int) by omega)
  have h6 : m < 6 := by omega
  have HMK := Bx.mk (fun u : World => (by have h := run_make (P := Try.prog) u 50 31 i0 _ Try.underlying50 hi hz.1 .i64 .i64 m m (by omega) (Int.le_refl _) (by rw [hz.2.2]; omega) (by omega); rw [hz.2.1, Nat.mul_one, Int.toNat_natCast] at h; exact h : (Instr.makeSlice 50 (.int .i64 (m : Int)) (.int .i64 (m : Int))).run Try.prog u = .ok (.slice (some ⟨u.heap.size, 0, none⟩) m m) (u.alloc (.cells (madeCells #[Value.int .u32 0] m) 31))))
  have HMI := Bx.mk (fun u : World => (by have h := run_make (P := Try.prog) u 38 3 i1 _ Try.underlying38 hi1 hz1.1 .i64 .i64 m m (by omega) (Int.le_refl _) (by rw [hz1.2.2]; omega) (by omega); rw [hz1.2.1, Nat.mul_one, Int.toNat_natCast] at h; exact h : (Instr.makeSlice 38 (.int .i64 (m : Int)) (.int .i64 (m : Int))).run Try.prog u = .ok (.slice (some ⟨u.heap.size, 0, none⟩) m m) (u.alloc (.cells (madeCells #[Value.int .i64 0] m) 3))))
  have q1 : (m : Int) < 6 := by omega
  have q2 : (0 : Int) ≤ (m : Int) := by omega
  have k3 : ((n : Int) % 6 == 3) = true := by rw [beq_iff_eq]; omega
  have k4 : ((n : Int) % 6 != 3) = false := by rw [bne_eq_false_iff_eq]; omega
  clear hx hy hz hz1 H hm hm3
  go_enter Try.func7, Try.ntmps7
  go_wp2_with fail
  refine (known13_any w).mono ?_
  rintro e w1 ⟨rfl, hb⟩
  have HB := Bx.mk hb
  clear hb
  go_wp2_with fail
  refine (HN.out w1).mono ?_
  rintro e w2 ⟨s, B1, rfl, L1⟩
  have HC := Bx.mk (HH.out.h1 w1 w2 s B1 L1)
  clear L1 HN
  go_wp2_with fail
  (with_reducible refine HC.out.mono ?_)
  rintro e w3 ⟨r1, S2, B2, rfl, L2, ix2, iy2⟩
  have HIX := Bx.mk (L2.is HX.out.1)
  have HIY := Bx.mk (L2.is HX.out.2)
  rw [ix2] at HIX
  rw [iy2] at HIY
  have HL2 := Bx.mk (And.intro L2 (And.intro ix2 iy2))
  clear L2 ix2 iy2 HC
  go_wp2_with fail
  refine HIX.out.mono ?_
  rintro e wz ⟨rfl, rfl⟩
  go_wp2_with fail
  refine HIY.out.mono ?_
  rintro e wz ⟨rfl, rfl⟩
  go_wp2_with fail
  have hbl := Blk.new wz 31 (madeCells #[Value.int .u32 0] m)
  have hfz : Fr [] wz (wz.alloc (.cells (madeCells #[Value.int .u32 0] m) 31)) := (Fr.refl _ _).alloc _
  have HS := Bx.mk (HH.out.h2 w1 _ s B2 S2 wz.heap.size (HL2.out.1.fr0 hfz) HL2.out.2.1 hbl (HL2.out.1.noOwn (Nat.le_refl _)))
  have hmk := HMK.out wz
  rw [E6.out, hmk]
  clear hbl hfz hmk HIX HIY
  go_wp2_with fail
  (with_reducible refine HS.out.mono ?_)
  rintro e wa ⟨r2, S3, B3, rfl, L3, ix3⟩
  have HL3 := Bx.mk (And.intro L3 ix3)
  clear L3 ix3 HS HL2
  go_wp2_with fail
  have hbl := Blk.new wa 3 (madeCells #[Value.int .i64 0] m)
  have hfz : Fr [] wa (wa.alloc (.cells (madeCells #[Value.int .i64 0] m) 3)) := (Fr.refl _ _).alloc _
  have HR := Bx.mk (HH.out.h3 w1 _ s B3 S3 wa.heap.size (HL3.out.1.fr0 hfz) HL3.out.2 hbl (HL3.out.1.noOwn (Nat.le_refl _)))
  have hmk := HMI.out wa
  rw [E6.out, hmk]
  clear hbl hfz hmk
  go_wp2_with fail
  (with_reducible refine HR.out.mono ?_)
  rintro e wb ⟨r3, S4, B4, rfl, L4, ix4⟩
  have HIX := Bx.mk (L4.is HX.out.1)
  rw [ix4] at HIX
  have HL4 := Bx.mk L4
  clear L4 ix4 HR HL3
  go_wp2_with fail
  refine HIX.out.mono ?_
  rintro e wz ⟨rfl, rfl⟩
  have HE := Bx.mk (HB.out.trans (HL4.out.end_.mono HB.out.size))
  clear HIX HL4
  go_wp2_with fail
  go_ret
  exact ⟨rfl, HE.out⟩
set_option maxRecDepth 100000 in
set_option maxHeartbeats 400000 in
theorem raw_c21 (x y : Nat) (v : Int) (n m : Nat) (w : World) (hx : x < 4294967296) (hy : y < 4294967296) (hn : n < 256) (hm : n % 6 = m) (H : RawIs x y v m 40 40 true true) (h0 : ¬ v < 0) (h3 : v ≥ 3) (hm3 : m ≠ 3) :
    Calls Try.prog 7 #[.int .u32 (x : Int), .int .u32 (y : Int), .int .i64 v, .int .u8 (n : Int)] w fun e w' => e = .returned (.bool true) ∧ Below w.heap.size w w' := by
  obtain ⟨i0, hi, hz⟩ := info_hd
  obtain ⟨i1, hi1, hz1⟩ := info_int
  have HN : Bx (∀ u, Calls Try.prog 10 #[.int .i64 3, .int .i64 100] u fun e w' => ∃ s B, e = .returned (.tuple #[.pointer (some ⟨s, 0, none⟩), .int .i64 0]) ∧ Ls u s 3 100 0 B (Sto.new 3 100) w') := ⟨fun u => Ls.new 3 100 u (by omega) (by omega) (by omega) (by omega)⟩
  have HH := Bx.mk H
  have HX := Bx.mk (And.intro hx hy)
  have E6 := Bx.mk (show ((n : Int) % 6) = (m : Int) by omega)
  have h6 : m < 6 := by omega
  have HMK := Bx.mk (fun u : World => (by have h := run_make (P := Try.prog) u 50 31 i0 _ Try.underlying50 hi hz.1 .i64 .i64 m m (by omega) (Int.le_refl _) (by rw [hz.2.2]; omega) (by omega); rw [hz.2.1, Nat.mul_one, Int.toNat_natCast] at h; exact h : (Instr.makeSlice 50 (.int .i64 (m : Int)) (.int .i64 (m : Int))).run Try.prog u = .ok (.slice (some ⟨u.heap.size, 0, none⟩) m m) (u.alloc (.cells (madeCells #[Value.int .u32 0] m) 31))))
  have HMI := Bx.mk (fun u : World => (by have h := run_make (P := Try.prog) u 38 3 i1 _ Try.underlying38 hi1 hz1.1 .i64 .i64 m m (by omega) (Int.le_refl _) (by rw [hz1.2.2]; omega) (by omega); rw [hz1.2.1, Nat.mul_one, Int.toNat_natCast] at h; exact h : (Instr.makeSlice 38 (.int .i64 (m : Int)) (.int .i64 (m : Int))).run Try.prog u = .ok (.slice (some ⟨u.heap.size, 0, none⟩) m m) (u.alloc (.cells (madeCells #[Value.int .i64 0] m) 3))))
  have q1 : (m : Int) < 6 := by omega
  have q2 : (0 : Int) ≤ (m : Int) := by omega
  have k3 : ((n : Int) % 6 == 3) = false := by rw [beq_eq_false_iff_ne]; omega
  have k4 : ((n : Int) % 6 != 3) = true := by rw [bne_iff_ne]; omega
  clear hx hy hz hz1 H hm hm3
  go_enter Try.func7, Try.ntmps7
  go_wp2_with fail
  refine (known13_any w).mono ?_
  rintro e w1 ⟨rfl, hb⟩
  have HB := Bx.mk hb
  clear hb
  go_wp2_with fail
  refine (HN.out w1).mono ?_
  rintro e w2 ⟨s, B1, rfl, L1⟩
  have HC := Bx.mk (HH.out.h1 w1 w2 s B1 L1)
  clear L1 HN
  go_wp2_with fail
  (with_reducible refine HC.out.mono ?_)
  rintro e w3 ⟨r1, S2, B2, rfl, L2, ix2, iy2⟩
  have HIX := Bx.mk (L2.is HX.out.1)
  have HIY := Bx.mk (L2.is HX.out.2)
  rw [ix2] at HIX
  rw [iy2] at HIY
  have HL2 := Bx.mk (And.intro L2 (And.intro ix2 iy2))
  clear L2 ix2 iy2 HC
  go_wp2_with fail
  refine HIX.out.mono ?_
  rintro e wz ⟨rfl, rfl⟩
  go_wp2_with fail
  refine HIY.out.mono ?_
  rintro e wz ⟨rfl, rfl⟩
  go_wp2_with fail
  have hbl := Blk.new wz 31 (madeCells #[Value.int .u32 0] m)
  have hfz : Fr [] wz (wz.alloc (.cells (madeCells #[Value.int .u32 0] m) 31)) := (Fr.refl _ _).alloc _
  have HS := Bx.mk (HH.out.h2 w1 _ s B2 S2 wz.heap.size (HL2.out.1.fr0 hfz) HL2.out.2.1 hbl (HL2.out.1.noOwn (Nat.le_refl _)))
  have hmk := HMK.out wz
  rw [E6.out, hmk]
  clear hbl hfz hmk HIX HIY
  go_wp2_with fail
  (with_reducible refine HS.out.mono ?_)
  rintro e wa ⟨r2, S3, B3, rfl, L3, ix3⟩
  have HL3 := Bx.mk (And.intro L3 ix3)
  clear L3 ix3 HS HL2
  go_wp2_with fail
  have hbl := Blk.new wa 3 (madeCells #[Value.int .i64 0] m)
  have hfz : Fr [] wa (wa.alloc (.cells (madeCells #[Value.int .i64 0] m) 3)) := (Fr.refl _ _).alloc _
  have HR := Bx.mk (HH.out.h3 w1 _ s B3 S3 wa.heap.size (HL3.out.1.fr0 hfz) HL3.out.2 hbl (HL3.out.1.noOwn (Nat.le_refl _)))
  have hmk := HMI.out wa
  rw [E6.out, hmk]
  clear hbl hfz hmk
  go_wp2_with fail
  (with_reducible refine HR.out.mono ?_)
  rintro e wb ⟨r3, S4, B4, rfl, L4, ix4⟩
  have HIX := Bx.mk (L4.is HX.out.1)
  rw [ix4] at HIX
  have HL4 := Bx.mk L4
  clear L4 ix4 HR HL3
  go_wp2_with fail
  refine HIX.out.mono ?_
  rintro e wz ⟨rfl, rfl⟩
  have HE := Bx.mk (HB.out.trans (HL4.out.end_.mono HB.out.size))
  clear HIX HL4
  go_wp2_with fail
  go_ret
  exact ⟨rfl, HE.out⟩
set_option maxRecDepth 100000 in
set_option maxHeartbeats 400000 in
theorem raw_d0 (x y : Nat) (v : Int) (n m : Nat) (w : World) (hx : x < 4294967296) (hy : y < 4294967296) (hn : n < 256) (hm : n % 6 = m) (H : RawIs x y v m 0 0 true true) (h0 : ¬ v < 0) (h3 : ¬ v ≥ 3) (hm3 : m = 3) :
    Calls Try.prog 7 #[.int .u32 (x : Int), .int .u32 (y : Int), .int .i64 v, .int .u8 (n : Int)] w fun e w' => e = .returned (.bool true) ∧ Below w.heap.size w w' := by
  obtain ⟨i0, hi, hz⟩ := info_hd
  obtain ⟨i1, hi1, hz1⟩ := info_int
  have HN : Bx (∀ u, Calls Try.prog 10 #[.int .i64 3, .int .i64 100] u fun e w' => ∃ s B, e = .returned (.tuple #[.pointer (some ⟨s, 0, none⟩), .int .i64 0]) ∧ Ls u s 3 100 0 B (Sto.new 3 100) w') := ⟨fun u => Ls.new 3 100 u (by omega) (by omega) (by omega) (by omega)⟩
  have HH := Bx.mk H
  have HX := Bx.mk (And.intro hx hy)
  have E6 := Bx.mk (show ((n : Int) % 6) = (m : Int) by omega)
  have h6 : m < 6 := by omega
  have HMK := Bx.mk (fun u : World => (by have h := run_make (P := Try.prog) u 50 31 i0 _ Try.underlying50 hi hz.1 .i64 .i64 m m (by omega) (Int.le_refl _) (by rw [hz.2.2]; omega) (by omega); rw [hz.2.1, Nat.mul_one, Int.toNat_natCast] at h; exact h : (Instr.makeSlice 50 (.int .i64 (m : Int)) (.int .i64 (m : Int))).run Try.prog u = .ok (.slice (some ⟨u.heap.size, 0, none⟩) m m) (u.alloc (.cells (madeCells #[Value.int .u32 0] m) 31))))
  have HMI := Bx.mk (fun u : World => (by have h := run_make (P := Try.prog) u 38 3 i1 _ Try.underlying38 hi1 hz1.1 .i64 .i64 m m (by omega) (Int.le_refl _) (by rw [hz1.2.2]; omega) (by omega); rw [hz1.2.1, Nat.mul_one, Int.toNat_natCast] at h; exact h : (Instr.makeSlice 38 (.int .i64 (m : Int)) (.int .i64 (m : Int))).run Try.prog u = .ok (.slice (some ⟨u.heap.size, 0, none⟩) m m) (u.alloc (.cells (madeCells #[Value.int .i64 0] m) 3))))
  have q1 : (m : Int) < 6 := by omega
  have q2 : (0 : Int) ≤ (m : Int) := by omega
  have k3 : ((n : Int) % 6 == 3) = true := by rw [beq_iff_eq]; omega
  have k4 : ((n : Int) % 6 != 3) = false := by rw [bne_eq_false_iff_eq]; omega
  clear hx hy hz hz1 H hm hm3
  go_enter Try.func7, Try.ntmps7
  go_wp2_with fail
  refine (known13_any w).mono ?_
  rintro e w1 ⟨rfl, hb⟩
  have HB := Bx.mk hb
  clear hb
  go_wp2_with fail
  refine (HN.out w1).mono ?_
  rintro e w2 ⟨s, B1, rfl, L1⟩
  have HC := Bx.mk (HH.out.h1 w1 w2 s B1 L1)
  clear L1 HN
  go_wp2_with fail
  (with_reducible refine HC.out.mono ?_)
  rintro e w3 ⟨r1, S2, B2, rfl, L2, ix2, iy2⟩
  have HIX := Bx.mk (L2.is HX.out.1)
  have HIY := Bx.mk (L2.is HX.out.2)
  rw [ix2] at HIX
  rw [iy2] at HIY
  have HL2 := Bx.mk (And.intro L2 (And.intro ix2 iy2))
  clear L2 ix2 iy2 HC
  go_wp2_with fail
  refine HIX.out.mono ?_
  rintro e wz ⟨rfl, rfl⟩
  go_wp2_with fail
  refine HIY.out.mono ?_
  rintro e wz ⟨rfl, rfl⟩
  go_wp2_with fail
  have hbl := Blk.new wz 31 (madeCells #[Value.int .u32 0] m)
  have hfz : Fr [] wz (wz.alloc (.cells (madeCells #[Value.int .u32 0] m) 31)) := (Fr.refl _ _).alloc _
  have HS := Bx.mk (HH.out.h2 w1 _ s B2 S2 wz.heap.size (HL2.out.1.fr0 hfz) HL2.out.2.1 hbl (HL2.out.1.noOwn (Nat.le_refl _)))
  have hmk := HMK.out wz
  rw [E6.out, hmk]
  clear hbl hfz hmk HIX HIY
  go_wp2_with fail
  (with_reducible refine HS.out.mono ?_)
  rintro e wa ⟨r2, S3, B3, rfl, L3, ix3⟩
  have HL3 := Bx.mk (And.intro L3 ix3)
  clear L3 ix3 HS HL2
  go_wp2_with fail
  have hbl := Blk.new wa 3 (madeCells #[Value.int .i64 0] m)
  have hfz : Fr [] wa (wa.alloc (.cells (madeCells #[Value.int .i64 0] m) 3)) := (Fr.refl _ _).alloc _
  have HR := Bx.mk (HH.out.h3 w1 _ s B3 S3 wa.heap.size (HL3.out.1.fr0 hfz) HL3.out.2 hbl (HL3.out.1.noOwn (Nat.le_refl _)))
  have hmk := HMI.out wa
  rw [E6.out, hmk]
  clear hbl hfz hmk
  go_wp2_with fail
  (with_reducible refine HR.out.mono ?_)
  rintro e wb ⟨r3, S4, B4, rfl, L4, ix4⟩
  have HIX := Bx.mk (L4.is HX.out.1)
  rw [ix4] at HIX
  have HL4 := Bx.mk L4
  clear L4 ix4 HR HL3
  go_wp2_with fail
  refine HIX.out.mono ?_
  rintro e wz ⟨rfl, rfl⟩
  have HE := Bx.mk (HB.out.trans (HL4.out.end_.mono HB.out.size))
  clear HIX HL4
  go_wp2_with fail
  go_ret
  exact ⟨rfl, HE.out⟩
set_option maxRecDepth 100000 in
set_option maxHeartbeats 400000 in
theorem raw_d1 (x y : Nat) (v : Int) (n m : Nat) (w : World) (hx : x < 4294967296) (hy : y < 4294967296) (hn : n < 256) (hm : n % 6 = m) (H : RawIs x y v m 0 40 true true) (h0 : ¬ v < 0) (h3 : ¬ v ≥ 3) (hm3 : m ≠ 3) :
    Calls Try.prog 7 #[.int .u32 (x : Int), .int .u32 (y : Int), .int .i64 v, .int .u8 (n : Int)] w fun e w' => e = .returned (.bool true) ∧ Below w.heap.size w w' := by
  obtain ⟨i0, hi, hz⟩ := info_hd
  obtain ⟨i1, hi1, hz1⟩ := info_int
  have HN : Bx (∀ u, Calls Try.prog 10 #[.int .i64 3, .int .i64 100] u fun e w' => ∃ s B, e = .returned (.tuple #[.pointer (some ⟨s, 0, none⟩), .int .i64 0]) ∧ Ls u s 3 100 0 B (Sto.new 3 100) w') := ⟨fun u => Ls.new 3 100 u (by omega) (by omega) (by omega) (by omega)⟩
  have HH := Bx.mk H
  have HX := Bx.mk (And.intro hx hy)
  have E6 := Bx.mk (show ((n : Int) % 6) = (m : Int) by omega)
  have h6 : m < 6 := by omega
  have HMK := Bx.mk (fun u : World => (by have h := run_make (P := Try.prog) u 50 31 i0 _ Try.underlying50 hi hz.1 .i64 .i64 m m (by omega) (Int.le_refl _) (by rw [hz.2.2]; omega) (by omega); rw [hz.2.1, Nat.mul_one, Int.toNat_natCast] at h; exact h : (Instr.makeSlice 50 (.int .i64 (m : Int)) (.int .i64 (m : Int))).run Try.prog u = .ok (.slice (some ⟨u.heap.size, 0, none⟩) m m) (u.alloc (.cells (madeCells #[Value.int .u32 0] m) 31))))
  have HMI := Bx.mk (fun u : World => (by have h := run_make (P := Try.prog) u 38 3 i1 _ Try.underlying38 hi1 hz1.1 .i64 .i64 m m (by omega) (Int.le_refl _) (by rw [hz1.2.2]; omega) (by omega); rw [hz1.2.1, Nat.mul_one, Int.toNat_natCast] at h; exact h : (Instr.makeSlice 38 (.int .i64 (m : Int)) (.int .i64 (m : Int))).run Try.prog u = .ok (.slice (some ⟨u.heap.size, 0, none⟩) m m) (u.alloc (.cells (madeCells #[Value.int .i64 0] m) 3))))
  have q1 : (m : Int) < 6 := by omega
  have q2 : (0 : Int) ≤ (m : Int) := by omega
  have k3 : ((n : Int) % 6 == 3) = false := by rw [beq_eq_false_iff_ne]; omega
  have k4 : ((n : Int) % 6 != 3) = true := by rw [bne_iff_ne]; omega
  clear hx hy hz hz1 H hm hm3
  go_enter Try.func7, Try.ntmps7
  go_wp2_with fail
  refine (known13_any w).mono ?_
  rintro e w1 ⟨rfl, hb⟩
  have HB := Bx.mk hb
  clear hb
  go_wp2_with fail
  refine (HN.out w1).mono ?_
  rintro e w2 ⟨s, B1, rfl, L1⟩
  have HC := Bx.mk (HH.out.h1 w1 w2 s B1 L1)
  clear L1 HN
  go_wp2_with fail
  (with_reducible refine HC.out.mono ?_)
  rintro e w3 ⟨r1, S2, B2, rfl, L2, ix2, iy2⟩
  have HIX := Bx.mk (L2.is HX.out.1)
  have HIY := Bx.mk (L2.is HX.out.2)
  rw [ix2] at HIX
  rw [iy2] at HIY
  have HL2 := Bx.mk (And.intro L2 (And.intro ix2 iy2))
  clear L2 ix2 iy2 HC
  go_wp2_with fail
  refine HIX.out.mono ?_
  rintro e wz ⟨rfl, rfl⟩
  go_wp2_with fail
  refine HIY.out.mono ?_
  rintro e wz ⟨rfl, rfl⟩
  go_wp2_with fail
  have hbl := Blk.new wz 31 (madeCells #[Value.int .u32 0] m)
  have hfz : Fr [] wz (wz.alloc (.cells (madeCells #[Value.int .u32 0] m) 31)) := (Fr.refl _ _).alloc _
  have HS := Bx.mk (HH.out.h2 w1 _ s B2 S2 wz.heap.size (HL2.out.1.fr0 hfz) HL2.out.2.1 hbl (HL2.out.1.noOwn (Nat.le_refl _)))
  have hmk := HMK.out wz
  rw [E6.out, hmk]
  clear hbl hfz hmk HIX HIY
  go_wp2_with fail
  (with_reducible refine HS.out.mono ?_)
  rintro e wa ⟨r2, S3, B3, rfl, L3, ix3⟩
  have HL3 := Bx.mk (And.intro L3 ix3)
  clear L3 ix3 HS HL2
  go_wp2_with fail
  have hbl := Blk.new wa 3 (madeCells #[Value.int .i64 0] m)
  have hfz : Fr [] wa (wa.alloc (.cells (madeCells #[Value.int .i64 0] m) 3)) := (Fr.refl _ _).alloc _
  have HR := Bx.mk (HH.out.h3 w1 _ s B3 S3 wa.heap.size (HL3.out.1.fr0 hfz) HL3.out.2 hbl (HL3.out.1.noOwn (Nat.le_refl _)))
  have hmk := HMI.out wa
  rw [E6.out, hmk]
  clear hbl hfz hmk
  go_wp2_with fail
  (with_reducible refine HR.out.mono ?_)
  rintro e wb ⟨r3, S4, B4, rfl, L4, ix4⟩
  have HIX := Bx.mk (L4.is HX.out.1)
  rw [ix4] at HIX
  have HL4 := Bx.mk L4
  clear L4 ix4 HR HL3
  go_wp2_with fail
  refine HIX.out.mono ?_
  rintro e wz ⟨rfl, rfl⟩
  have HE := Bx.mk (HB.out.trans (HL4.out.end_.mono HB.out.size))
  clear HIX HL4
  go_wp2_with fail
  go_ret
  exact ⟨rfl, HE.out⟩
theorem new_is (n room x : Nat) : (Sto.new n room).is x = decide (x < 2) := by unfold Sto.is; rw [Sto.get_new]; simp
theorem rep_getI (q : IntKind) (m : Nat) (j : Nat) (x : Int) (h : (List.replicate m (0 : Int))[j]? = some x) : ((List.replicate m (Value.int q 0)).toArray)[j]? = some (.int q x) := by
  rw [List.getElem?_replicate] at h
  rw [List.getElem?_toArray, List.getElem?_replicate]
  split at h
  · rename_i hj; cases h; rw [if_pos hj]
  · cases h
theorem ints_zero (m : Nat) : ints (List.replicate m 0) = List.replicate m (0 : Int) := by unfold ints; rw [List.map_replicate]; rfl
theorem Ls.mono {w0 w : World} {s n room c c' : Nat} {B : Bk} {S : Sto} (L : Ls w0 s n room c B S w) (h : c ≤ c') : Ls w0 s n room c' B S w := ⟨L.G, L.fr, L.n, L.room, Nat.le_trans L.hi h, L.s⟩
theorem cm3 : cmCost 3 = 10 := by decide
theorem Gr.is {S S' : Sto} (k : Gr S S') {x : Nat} (h : S.is x = true) : S'.is x = true := k.ext.is h
set_option maxRecDepth 100000 in
set_option maxHeartbeats 400000 in
theorem raw_a2 (x y : Nat) (v : Int) (n m : Nat) (w : World) (hx : x < 4294967296) (hy : y < 4294967296) (hn : n < 256) (hm : n % 6 = m) (H : RawIs x y v m 101 101 false true) :
    Calls Try.prog 7 #[.int .u32 (x : Int), .int .u32 (y : Int), .int .i64 v, .int .u8 (n : Int)] w fun e w' => e = .returned (.bool true) ∧ Below w.heap.size w w' := by
  obtain ⟨i0, hi, hz⟩ := info_hd
  obtain ⟨i1, hi1, hz1⟩ := info_int
  have HN : Bx (∀ u, Calls Try.prog 10 #[.int .i64 3, .int .i64 100] u fun e w' => ∃ s B, e = .returned (.tuple #[.pointer (some ⟨s, 0, none⟩), .int .i64 0]) ∧ Ls u s 3 100 0 B (Sto.new 3 100) w') := ⟨fun u => Ls.new 3 100 u (by omega) (by omega) (by omega) (by omega)⟩
  have HH := Bx.mk H
  have HX := Bx.mk (And.intro hx hy)
  have E6 := Bx.mk (show ((n : Int) % 6) = (m : Int) by omega)
  have h6 : m < 6 := by omega
  have HMK := Bx.mk (fun u : World => (by have h := run_make (P := Try.prog) u 50 31 i0 _ Try.underlying50 hi hz.1 .i64 .i64 m m (by omega) (Int.le_refl _) (by rw [hz.2.2]; omega) (by omega); rw [hz.2.1, Nat.mul_one, Int.toNat_natCast] at h; exact h : (Instr.makeSlice 50 (.int .i64 (m : Int)) (.int .i64 (m : Int))).run Try.prog u = .ok (.slice (some ⟨u.heap.size, 0, none⟩) m m) (u.alloc (.cells (madeCells #[Value.int .u32 0] m) 31))))
  have HMI := Bx.mk (fun u : World => (by have h := run_make (P := Try.prog) u 38 3 i1 _ Try.underlying38 hi1 hz1.1 .i64 .i64 m m (by omega) (Int.le_refl _) (by rw [hz1.2.2]; omega) (by omega); rw [hz1.2.1, Nat.mul_one, Int.toNat_natCast] at h; exact h : (Instr.makeSlice 38 (.int .i64 (m : Int)) (.int .i64 (m : Int))).run Try.prog u = .ok (.slice (some ⟨u.heap.size, 0, none⟩) m m) (u.alloc (.cells (madeCells #[Value.int .i64 0] m) 3))))
  have q1 : (m : Int) < 6 := by omega
  have q2 : (0 : Int) ≤ (m : Int) := by omega
  clear hx hy hz hz1 H hm
  go_enter Try.func7, Try.ntmps7
  go_wp2_with fail
  refine (known13_any w).mono ?_
  rintro e w1 ⟨rfl, hb⟩
  have HB := Bx.mk hb
  clear hb
  go_wp2_with fail
  refine (HN.out w1).mono ?_
  rintro e w2 ⟨s, B1, rfl, L1⟩
  have HC := Bx.mk (HH.out.h1 w1 w2 s B1 L1)
  clear L1 HN
  go_wp2_with fail
  (with_reducible refine HC.out.mono ?_)
  rintro e w3 ⟨r1, S2, B2, rfl, L2, ix2, iy2⟩
  have HIX := Bx.mk (L2.is HX.out.1)
  have HIY := Bx.mk (L2.is HX.out.2)
  rw [ix2] at HIX
  rw [iy2] at HIY
  have HL2 := Bx.mk (And.intro L2 (And.intro ix2 iy2))
  clear L2 ix2 iy2 HC
  go_wp2_with fail
  refine HIX.out.mono ?_
  rintro e wz ⟨rfl, rfl⟩
  go_wp2_with fail
  have hbl := Blk.new wz 31 (madeCells #[Value.int .u32 0] m)
  have hfz : Fr [] wz (wz.alloc (.cells (madeCells #[Value.int .u32 0] m) 31)) := (Fr.refl _ _).alloc _
  have HS := Bx.mk (HH.out.h2 w1 _ s B2 S2 wz.heap.size (HL2.out.1.fr0 hfz) HL2.out.2.1 hbl (HL2.out.1.noOwn (Nat.le_refl _)))
  have hmk := HMK.out wz
  rw [E6.out, hmk]
  clear hbl hfz hmk HIX HIY
  go_wp2_with fail
  (with_reducible refine HS.out.mono ?_)
  rintro e wa ⟨r2, S3, B3, rfl, L3, ix3⟩
  have HL3 := Bx.mk (And.intro L3 ix3)
  clear L3 ix3 HS HL2
  go_wp2_with fail
  have hbl := Blk.new wa 3 (madeCells #[Value.int .i64 0] m)
  have hfz : Fr [] wa (wa.alloc (.cells (madeCells #[Value.int .i64 0] m) 3)) := (Fr.refl _ _).alloc _
  have HR := Bx.mk (HH.out.h3 w1 _ s B3 S3 wa.heap.size (HL3.out.1.fr0 hfz) HL3.out.2 hbl (HL3.out.1.noOwn (Nat.le_refl _)))
  have hmk := HMI.out wa
  rw [E6.out, hmk]
  clear hbl hfz hmk
  go_wp2_with fail
  (with_reducible refine HR.out.mono ?_)
  rintro e wb ⟨r3, S4, B4, rfl, L4, ix4⟩
  have HIX := Bx.mk (L4.is HX.out.1)
  rw [ix4] at HIX
  have HL4 := Bx.mk L4
  clear L4 ix4 HR HL3
  go_wp2_with fail
  refine HIX.out.mono ?_
  rintro e wz ⟨rfl, rfl⟩
  have HE := Bx.mk (HB.out.trans (HL4.out.end_.mono HB.out.size))
  clear HIX HL4
  go_wp2_with fail
  go_ret
  exact ⟨rfl, HE.out⟩
/-- the three calls, as they are -/
theorem rawIs (x y : Nat) (v : Int) (m : Nat) (hx : x < 4294967296) (hy : y < 4294967296) (hm6 : m < 6) :
    RawIs x y v m (if decide (x < 2) && decide (y < 2) then (if 0 ≤ v ∧ v < 3 then 0 else 40) else 101) (if decide (x < 2) then (if m = 3 then 0 else 40) else 101) (decide (x < 2)) (decide (y < 2)) := by
  refine ⟨fun w w1 s B1 L => ?_, fun w w2 s B2 S2 g L ix hb hg => ?_, fun w w3 s B3 S3 g L ix hb hg => ?_⟩
  · by_cases hxy : x < 2 ∧ y < 2
    · have ix : (Sto.new 3 100).is x = true := by rw [new_is]; exact decide_eq_true hxy.1
      have iy : (Sto.new 3 100).is y = true := by rw [new_is]; exact decide_eq_true hxy.2
      rw [decide_eq_true hxy.1, decide_eq_true hxy.2]
      simp only [Bool.and_self, if_true]
      by_cases hv : 0 ≤ v ∧ v < 3
      · rw [if_pos hv]
        obtain ⟨k, rfl⟩ := Int.eq_ofNat_of_zero_le hv.1
        refine (L.compose (v := k) ⟨ix, rfl⟩ ⟨iy, rfl⟩ (by omega) (by rw [cm3]; omega)).mono ?_
        rintro e w' ⟨S', B', L', k', h, rfl, _⟩
        rw [cm3] at L'
        exact ⟨_, S', B', rfl, L', k'.is ix, k'.is iy⟩
      · rw [if_neg hv]
        have h := compose_bad2 w.heap.size B1 _ x y v w1 L.G ix iy (by rw [L.n]; exact hv)
        rw [L.s] at h
        refine h.mono ?_
        rintro e w' ⟨rfl, rfl⟩
        exact ⟨0, _, B1, rfl, L.mono (by omega), ix, iy⟩
    · have hb : (decide (x < 2) && decide (y < 2)) = false := by
        rw [Bool.and_eq_false_iff]
        by_cases h : x < 2
        · exact .inr (decide_eq_false (fun h2 => hxy ⟨h, h2⟩))
        · exact .inl (decide_eq_false h)
      rw [hb]
      simp only [Bool.false_eq_true, if_false]
      have h := compose_bad1 w.heap.size B1 _ x y v w1 L.G hx hy (by rw [new_is, new_is]; simpa using hxy)
      rw [L.s] at h
      refine h.mono ?_
      rintro e w' ⟨rfl, rfl⟩
      exact ⟨0, _, B1, rfl, L.mono (by omega), new_is _ _ _, new_is _ _ _⟩
  · by_cases h2 : x < 2
    · rw [decide_eq_true h2] at ix ⊢
      simp only [if_true]
      rw [madeH] at hb
      have hrd : RdN .u32 B2 w2 (some ⟨g, 0, none⟩) (List.replicate m (0 : Int)) := RdN.blk hb hg (rep_getI .u32 m)
      by_cases hm : m = 3
      · subst hm
        rw [if_pos rfl]
        have h := subst_any (fun _ => true) (Sto.cost S2.n 0) w.heap.size B2 S2 x _ 3 _ (List.replicate 3 (0#256)) w2 L.G ix hrd ⟨rfl, fun j T hj => by
          rw [List.getElem?_replicate] at hj
          split at hj
          · rename_i h3; cases hj; exact ⟨0, by rw [List.getElem?_replicate, if_pos h3]; rfl, Sto.is_small (by omega), Sto.tab_zero _⟩
          · cases hj⟩ (by rw [L.n]; rfl) (KapOk.any _ _ _ _) (fun i _ h => by cases h)
        rw [L.s, L.n, Sto.calls_all] at h
        refine h.mono fun e w' hres => ?_
        obtain ⟨S', B', L', k', r, rfl, _⟩ := SuRes.told hres L (by decide)
        exact ⟨_, S', B', rfl, L'.mono (by decide), k'.is ix⟩
      · rw [if_neg hm]
        have h := subst_bad2 w.heap.size B2 S2 x m _ (List.replicate m (0 : Int)) w2 L.G ix hrd (fun k z hz => by
          rw [List.getElem?_replicate] at hz
          split at hz
          · cases hz; exact ⟨0, rfl, Sto.is_small (by omega)⟩
          · cases hz) (by rw [List.length_replicate, L.n]; exact hm) (by rw [List.length_replicate]; omega)
        rw [L.s, List.length_replicate] at h
        refine h.mono ?_
        rintro e w' ⟨rfl, rfl⟩
        exact ⟨0, S2, B2, rfl, L.mono (by omega), ix⟩
    · rw [decide_eq_false h2] at ix ⊢
      simp only [Bool.false_eq_true, if_false]
      have h := subst_bad1 w.heap.size B2 S2 x m m (some ⟨g, 0, none⟩) w2 L.G hx ix
      rw [L.s] at h
      refine h.mono ?_
      rintro e w' ⟨rfl, rfl⟩
      exact ⟨0, S2, B2, rfl, L.mono (by omega), ix⟩
  · by_cases h2 : x < 2
    · rw [decide_eq_true h2] at ix ⊢
      simp only [if_true]
      rw [madeI] at hb
      have hrd : RdN .i64 B3 w3 (some ⟨g, 0, none⟩) (ints (List.replicate m 0)) := by rw [ints_zero]; exact RdN.blk hb hg (rep_getI .i64 m)
      by_cases hm : m = 3
      · subst hm
        rw [if_pos rfl]
        refine (L.rename (cap := 3) (xs := List.replicate 3 0) ⟨ix, rfl⟩ hrd (fun z hz => by have := List.eq_of_mem_replicate hz; omega) rfl (by decide)).mono ?_
        rintro e w' ⟨S', B', L', k', r, rfl, _⟩
        exact ⟨_, S', B', rfl, L'.mono (by decide), k'.is ix⟩
      · rw [if_neg hm]
        have h := rename_bad2 w.heap.size B3 S3 x m m (some ⟨g, 0, none⟩) w3 L.G ix (by rw [L.n]; exact hm)
        rw [L.s] at h
        refine h.mono ?_
        rintro e w' ⟨rfl, rfl⟩
        exact ⟨0, S3, B3, rfl, L.mono (by omega), ix⟩
    · rw [decide_eq_false h2] at ix ⊢
      simp only [Bool.false_eq_true, if_false]
      have h := rename_bad1 w.heap.size B3 S3 x m m (some ⟨g, 0, none⟩) w3 L.G hx ix
      rw [L.s] at h
      refine h.mono ?_
      rintro e w' ⟨rfl, rfl⟩
      exact ⟨0, S3, B3, rfl, L.mono (by omega), ix⟩
/-- ComposeRaw -/
theorem composeRaw_any (x y : Nat) (v : Int) (n : Nat) (w : World) (hx : x < 4294967296) (hy : y < 4294967296) (hn : n < 256) :
    Calls Try.prog 7 #[.int .u32 (x : Int), .int .u32 (y : Int), .int .i64 v, .int .u8 (n : Int)] w fun e w' => e = .returned (.bool true) ∧ Below w.heap.size w w' := by
  have H := rawIs x y v (n % 6) hx hy (by omega)
  by_cases h1 : x < 2
  · rw [decide_eq_true h1] at H
    by_cases h2 : y < 2
    · rw [decide_eq_true h2] at H
      simp only [Bool.and_self, if_true] at H
      by_cases hm : n % 6 = 3
      · rw [if_pos hm] at H
        by_cases hv0 : v < 0
        · rw [if_neg (by omega)] at H
          exact raw_c0 x y v n _ w hx hy hn rfl H hv0 hm
        · by_cases hv3 : v ≥ 3
          · rw [if_neg (by omega)] at H
            exact raw_c20 x y v n _ w hx hy hn rfl H hv0 hv3 hm
          · rw [if_pos (by omega)] at H
            exact raw_d0 x y v n _ w hx hy hn rfl H hv0 hv3 hm
      · rw [if_neg hm] at H
        by_cases hv0 : v < 0
        · rw [if_neg (by omega)] at H
          exact raw_c1 x y v n _ w hx hy hn rfl H hv0 hm
        · by_cases hv3 : v ≥ 3
          · rw [if_neg (by omega)] at H
            exact raw_c21 x y v n _ w hx hy hn rfl H hv0 hv3 hm
          · rw [if_pos (by omega)] at H
            exact raw_d1 x y v n _ w hx hy hn rfl H hv0 hv3 hm
    · rw [decide_eq_false h2] at H
      simp only [Bool.and_false, Bool.false_eq_true, if_false, if_true] at H
      by_cases hm : n % 6 = 3
      · rw [if_pos hm] at H
        exact raw_b0 x y v n _ w hx hy hn rfl H hm
      · rw [if_neg hm] at H
        exact raw_b1 x y v n _ w hx hy hn rfl H hm
  · rw [decide_eq_false h1] at H
    simp only [Bool.false_and, Bool.false_eq_true, if_false] at H
    by_cases h2 : y < 2
    · rw [decide_eq_true h2] at H
      exact raw_a2 x y v n _ w hx hy hn rfl H
    · rw [decide_eq_false h2] at H
      exact raw_a x y v n _ w hx hy hn rfl H
end Go.Proofs.Ythbifeoohphnpaa
