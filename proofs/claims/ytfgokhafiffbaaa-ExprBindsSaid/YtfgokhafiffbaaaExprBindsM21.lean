/-
  Texts on which the law ExprBinds rests, part 21 of 22.
-/
import Derived.Test.YtfgokhafiffbaaaExprBindsM20
/-
  Formulas of the document: Print.
-/
namespace Go.Proofs.Ytfgokhafiffbaaa
set_option linter.unusedVariables false
open Go.RowKit Go.Lib
theorem cat_sz (a b : ByteArray) : (a ++ b).size = a.size + b.size := ByteArray.size_append ..
theorem ba_ext {a b : ByteArray} (h : a.data.toList = b.data.toList) : a = b := ByteArray.ext (Array.toList_inj.1 h)
/-- where the document's Print stands -/
structure PT (w u : World) (k a v : Int) (sl : Value) : Prop where
  be : Below w.heap.size w u
  e : Blk u w.heap.size 36 #[.int .i64 k, .int .i64 a, .int .i64 v, sl]
  g : Blk u (w.heap.size + 2) 24 #[.string { data := #[38] }, .string { data := #[124] }, .string { data := #[94] }, .string { data := #[45, 62] }, .string { data := #[60, 45, 62] }]
theorem PT.step {w u u' : World} {k a v : Int} {sl : Value} (h : PT w u k a v sl) (hb : Below u.heap.size u u') : PT w u' k a v sl :=
  ⟨h.be.trans (hb.mono h.be.size), h.e.below hb h.e.lt, h.g.below hb h.g.lt⟩
theorem PT.start (w : World) (k a v : Int) (sl : Value) (x : Value) : PT w (((w.alloc (.cells #[.int .i64 k, .int .i64 a, .int .i64 v, sl] 36)).alloc (.cells #[x] 5)).alloc (.cells #[.string { data := #[38] }, .string { data := #[124] }, .string { data := #[94] }, .string { data := #[45, 62] }, .string { data := #[60, 45, 62] }] 24)) k a v sl := by
  have h1 := Blk.new w 36 #[.int .i64 k, .int .i64 a, .int .i64 v, sl]
  have h3 := Blk.new ((w.alloc (.cells #[.int .i64 k, .int .i64 a, .int .i64 v, sl] 36)).alloc (.cells #[x] 5)) 24 #[.string { data := #[38] }, .string { data := #[124] }, .string { data := #[94] }, .string { data := #[45, 62] }, .string { data := #[60, 45, 62] }]
  rw [alloc_size, alloc_size] at h3
  exact ⟨(((Below.refl _ _).alloc (Nat.le_refl _) _).alloc (by rw [alloc_size]; omega) _).alloc (by rw [alloc_size, alloc_size]; omega) _, (h1.alloc _).alloc _, h3⟩
section
variable {a : Act} {u : World} {o : Oper} {x y : Operand}
theorem exec_loadG {p off : Nat} {s : ByteArray} (hop : o.op = .load 9 x) (hx : a.eval x = .pointer (some ⟨p, off, none⟩)) (hc : u.cell? ⟨p, off, none⟩ = some (.string s)) :
    (execOp a.eval o).run Try.prog u = .ok (.value (.string s)) u := by
  unfold execOp
  simp only [hop, hx]
  go_simp
theorem exec_addR {s t r : ByteArray} (hr : s ++ t = r) (hop : o.op = .binOp .add 9 x y 9) (hx : a.eval x = .string s) (hy : a.eval y = .string t) (h : s.size + t.size ≤ 1000000) :
    (execOp a.eval o).run Try.prog u = .ok (.value (.string r)) u := by
  subst hr
  exact exec_addS hop hx hy h
theorem exec_sub4 {k r : Int} (h : 4 ≤ k ∧ k ≤ 8) (hr : k - 4 = r) (hop : o.op = .binOp .sub 3 x y 3) (hx : a.eval x = .int .i64 k) (hy : a.eval y = .int .i64 4) :
    (execOp a.eval o).run Try.prog u = .ok (.value (.int .i64 r)) u := by
  have hw : wrap64 (k - 4) = k - 4 := w64 _ (by omega)
  subst hr
  unfold execOp
  simp only [hop, hx, hy]
  go_simp
  rw [IntKind.wrap_i64]
  omega
theorem exec_ix5 {p : Nat} {i : Int} {j : Nat} (hj : j < 5) (hi : i = (j : Int)) (hop : o.op = .indexAddr 24 x y) (hx : a.eval x = .pointer (some ⟨p, 0, none⟩)) (hy : a.eval y = .int .i64 i) :
    (execOp a.eval o).run Try.prog u = .ok (.value (.pointer (some ⟨p, j, none⟩))) u := by
  subst hi
  have h1 : (j : Int) < 5 := by omega
  unfold execOp
  simp only [hop, hx, hy]
  go_simp
end
/-- what is known of the document's Print for what has so few nodes -/
def P2z (n : Nat) : Prop := ∀ (t : Tr) (sl : Value) (B : Nat → Prop) (u : World), (t.on .nil).nodes ≤ n → (t.on .nil).allPlain = true → SlF u B sl t.kids →
  Calls Try.prog 21 #[Ev t sl] u fun e w' => e = .returned (.string ⟨(Ex.pr t).toArray⟩) ∧ Below u.heap.size u w'

set_option maxHeartbeats 16000000 in
theorem rput_1 (n : Nat) (hn1 : n ≤ 20000) (ih : P2z n) (a : Int) (m : Nat) (hm : m < 8) (pp : Option Addr) (cap : Nat) (w : World)  :
    Calls Try.prog 21 #[.agg #[.int .i64 1, .int .i64 a, .int .i64 (m : Int), .slice pp 0 cap]] w fun e w' => e = .returned (.string ⟨(Ex.prk 1 (m : Int) []).toArray⟩) ∧ Below w.heap.size w w' := by
  have hw0 : (m : Int) % 10 = (m : Int) := by omega
  have hw1 : wrap64 (48 + (m : Int)) = 48 + (m : Int) := w64 _ (by omega)
  have hw2 : IntKind.i64.wrap (48 + (m : Int)) = 48 + (m : Int) := by rw [IntKind.wrap_i64]; omega
  have hw3 : IntKind.u8.wrap (48 + (m : Int)) = 48 + (m : Int) := by rw [IntKind.wrap_u8]; omega
  have hB := Blk.new (w.alloc (.cells #[.int .i64 1, .int .i64 a, .int .i64 (m : Int), .slice pp 0 cap] 36)) 5 #[.int .u8 (48 + (m : Int))]
  have hO : OwnB ((w.alloc (.cells #[.int .i64 1, .int .i64 a, .int .i64 (m : Int), .slice pp 0 cap] 36)).alloc (.cells #[.int .u8 (48 + (m : Int))] 5)) (w.heap.size + 1) (.slice (some ⟨w.heap.size + 1, 0, none⟩) 1 1) [Nat.toUInt8 (48 + m)] := by
    rw [alloc_size] at hB
    refine ⟨rfl, .inr ⟨w.heap.size + 1, 1, #[.int .u8 (48 + (m : Int))], rfl, Nat.le_refl _, hB.eq, Nat.le_refl _, by unfold maxLen; omega, rfl, ?_⟩⟩
    have e : ((Nat.toUInt8 (48 + m)).toNat : Int) = 48 + (m : Int) := by
      have : (Nat.toUInt8 (48 + m)).toNat = 48 + m := by simp [Nat.toUInt8, UInt8.toNat_ofNat', Nat.mod_eq_of_lt (show 48 + m < 256 by omega)]
      rw [this]; omega
    simp
    omega
  have hC := hO.str (by simp)
  have HE := Bx.mk (show (⟨#[48 + UInt8.ofNat m]⟩ : ByteArray) = strOf [48 + m] from by unfold strOf; simp [Nat.toUInt8])
  have H0 := Bx.mk (PT.start w 1 a (m : Int) (.slice pp 0 cap) (.int .u8 (48 + (m : Int))))
  have HD := Bx.mk (dig_of m)
  have HDZ := Bx.mk (show (strOf [48 + m]).size = 1 from by rw [strOf_size]; rfl)
  clear hO hB
  have IH := Bx.mk ih
  clear ih
  go_enter Try.func21, Try.ntmps21
  go_wp2_with fail
  generalize hW : World.alloc (World.alloc (World.alloc _ _) _) _ = W0
  have H1 : Bx (PT w W0 1 a (m : Int) (.slice pp 0 cap)) := ⟨by rw [← hW]; exact H0.out⟩
  clear hW H0 hC hw0 hw1 hw2 hw3
  rw [HE.out]
  generalize hds : strOf [48 + m] = ds at *
  clear hds
  have z1 : ¬ 9223372036854775807 < 1 + ds.size := by have := HDZ.out; omega
  go_wp2_with fail
  go_ret
  refine ⟨congrArg (fun s => Ending.returned (Value.string s)) (ba_ext ?_), H1.out.be⟩
  have hd := HD.out
  simp only [ByteArray.data_append, Array.toList_append, hd]
  unfold Ex.prk
  simp
set_option maxHeartbeats 16000000 in
theorem rput_2 (n : Nat) (hn1 : n ≤ 20000) (ih : P2z n) (a : Int) (m : Nat) (hm : m < 8) (pp : Option Addr) (cap : Nat) (w : World)  :
    Calls Try.prog 21 #[.agg #[.int .i64 2, .int .i64 a, .int .i64 (m : Int), .slice pp 0 cap]] w fun e w' => e = .returned (.string ⟨(Ex.prk 2 (m : Int) []).toArray⟩) ∧ Below w.heap.size w w' := by
  have hw0 : (m : Int) % 10 = (m : Int) := by omega
  have hw1 : wrap64 (48 + (m : Int)) = 48 + (m : Int) := w64 _ (by omega)
  have hw2 : IntKind.i64.wrap (48 + (m : Int)) = 48 + (m : Int) := by rw [IntKind.wrap_i64]; omega
  have hw3 : IntKind.u8.wrap (48 + (m : Int)) = 48 + (m : Int) := by rw [IntKind.wrap_u8]; omega
  have hB := Blk.new (w.alloc (.cells #[.int .i64 2, .int .i64 a, .int .i64 (m : Int), .slice pp 0 cap] 36)) 5 #[.int .u8 (48 + (m : Int))]
  have hO : OwnB ((w.alloc (.cells #[.int .i64 2, .int .i64 a, .int .i64 (m : Int), .slice pp 0 cap] 36)).alloc (.cells #[.int .u8 (48 + (m : Int))] 5)) (w.heap.size + 1) (.slice (some ⟨w.heap.size + 1, 0, none⟩) 1 1) [Nat.toUInt8 (48 + m)] := by
    rw [alloc_size] at hB
    refine ⟨rfl, .inr ⟨w.heap.size + 1, 1, #[.int .u8 (48 + (m : Int))], rfl, Nat.le_refl _, hB.eq, Nat.le_refl _, by unfold maxLen; omega, rfl, ?_⟩⟩
    have e : ((Nat.toUInt8 (48 + m)).toNat : Int) = 48 + (m : Int) := by
      have : (Nat.toUInt8 (48 + m)).toNat = 48 + m := by simp [Nat.toUInt8, UInt8.toNat_ofNat', Nat.mod_eq_of_lt (show 48 + m < 256 by omega)]
      rw [this]; omega
    simp
    omega
  have hC := hO.str (by simp)
  have HE := Bx.mk (show (⟨#[48 + UInt8.ofNat m]⟩ : ByteArray) = strOf [48 + m] from by unfold strOf; simp [Nat.toUInt8])
  have H0 := Bx.mk (PT.start w 2 a (m : Int) (.slice pp 0 cap) (.int .u8 (48 + (m : Int))))
  have HD := Bx.mk (dig_of m)
  have HDZ := Bx.mk (show (strOf [48 + m]).size = 1 from by rw [strOf_size]; rfl)
  clear hO hB
  have IH := Bx.mk ih
  clear ih
  go_enter Try.func21, Try.ntmps21
  go_wp2_with fail
  generalize hW : World.alloc (World.alloc (World.alloc _ _) _) _ = W0
  have H1 : Bx (PT w W0 2 a (m : Int) (.slice pp 0 cap)) := ⟨by rw [← hW]; exact H0.out⟩
  clear hW H0 hC hw0 hw1 hw2 hw3
  rw [HE.out]
  generalize hds : strOf [48 + m] = ds at *
  clear hds
  go_wp2_with fail
  go_ret
  refine ⟨congrArg (fun s => Ending.returned (Value.string s)) (ba_ext ?_), H1.out.be⟩
  have hd := HD.out
  rw [hd]
  unfold Ex.prk
  simp
set_option maxHeartbeats 16000000 in
theorem rput_3 (n : Nat) (hn1 : n ≤ 20000) (ih : P2z n) (a : Int) (m : Nat) (hm : m < 8) (b o cap : Nat) (w : World) (x : Tr) (sx : Value) (Kx : Kid w b o x sx) (Nx : (x.on .nil).nodes ≤ n) (Px : (x.on .nil).allPlain = true) :
    Calls Try.prog 21 #[.agg #[.int .i64 3, .int .i64 a, .int .i64 (m : Int), .slice (some ⟨b, o, none⟩) 1 cap]] w fun e w' => e = .returned (.string ⟨(Ex.prk 3 (m : Int) [Ex.pr x]).toArray⟩) ∧ Below w.heap.size w w' := by
  have hw0 : (m : Int) % 10 = (m : Int) := by omega
  have hw1 : wrap64 (48 + (m : Int)) = 48 + (m : Int) := w64 _ (by omega)
  have hw2 : IntKind.i64.wrap (48 + (m : Int)) = 48 + (m : Int) := by rw [IntKind.wrap_i64]; omega
  have hw3 : IntKind.u8.wrap (48 + (m : Int)) = 48 + (m : Int) := by rw [IntKind.wrap_u8]; omega
  have hB := Blk.new (w.alloc (.cells #[.int .i64 3, .int .i64 a, .int .i64 (m : Int), .slice (some ⟨b, o, none⟩) 1 cap] 36)) 5 #[.int .u8 (48 + (m : Int))]
  have hO : OwnB ((w.alloc (.cells #[.int .i64 3, .int .i64 a, .int .i64 (m : Int), .slice (some ⟨b, o, none⟩) 1 cap] 36)).alloc (.cells #[.int .u8 (48 + (m : Int))] 5)) (w.heap.size + 1) (.slice (some ⟨w.heap.size + 1, 0, none⟩) 1 1) [Nat.toUInt8 (48 + m)] := by
    rw [alloc_size] at hB
    refine ⟨rfl, .inr ⟨w.heap.size + 1, 1, #[.int .u8 (48 + (m : Int))], rfl, Nat.le_refl _, hB.eq, Nat.le_refl _, by unfold maxLen; omega, rfl, ?_⟩⟩
    have e : ((Nat.toUInt8 (48 + m)).toNat : Int) = 48 + (m : Int) := by
      have : (Nat.toUInt8 (48 + m)).toNat = 48 + m := by simp [Nat.toUInt8, UInt8.toNat_ofNat', Nat.mod_eq_of_lt (show 48 + m < 256 by omega)]
      rw [this]; omega
    simp
    omega
  have hC := hO.str (by simp)
  have HE := Bx.mk (show (⟨#[48 + UInt8.ofNat m]⟩ : ByteArray) = strOf [48 + m] from by unfold strOf; simp [Nat.toUInt8])
  have H0 := Bx.mk (PT.start w 3 a (m : Int) (.slice (some ⟨b, o, none⟩) 1 cap) (.int .u8 (48 + (m : Int))))
  have HD := Bx.mk (dig_of m)
  have HDZ := Bx.mk (show (strOf [48 + m]).size = 1 from by rw [strOf_size]; rfl)
  clear hO hB
  have BKx := Bx.mk Kx
  have BNx := Bx.mk Nx
  have BPx := Bx.mk Px
  have BLx := Bx.mk (show (⟨(Ex.pr x).toArray⟩ : ByteArray).size ≤ 320000 from by have := pr_len x; rw [size_mk]; omega)
  have IH := Bx.mk ih
  clear ih Kx Nx Px
  obtain ⟨k0, k1, k2, k3, kS⟩ := BKx.out.below H0.out.be
  obtain ⟨px, cx, rfl⟩ := kS.is
  have HI := Bx.mk (IH.out x _ _ _ BNx.out BPx.out kS)
  clear kS
  unfold Ev at HI
  go_enter Try.func21, Try.ntmps21
  go_wp2_with fail
  refine HI.out.mono ?_
  rintro e u9 ⟨rfl, hb⟩
  have H2 := Bx.mk (H0.out.step hb)
  clear hb k0 k1 k2 k3 HI H0 hC hw0 hw1 hw2 hw3
  generalize hss : (⟨(Ex.pr x).toArray⟩ : ByteArray) = ss at BLx ⊢
  have HSS := Bx.mk (show ss.data.toList = Ex.pr x from by rw [← hss])
  clear hss
  rw [HE.out]
  generalize hds : strOf [48 + m] = ds at *
  clear hds
  have z0 : ¬ 9223372036854775807 < 2 + ss.size := by have := HDZ.out; have := BLx.out; omega
  have z1 : ¬ 9223372036854775807 < 2 + ss.size + 1 := by have := HDZ.out; have := BLx.out; omega
  go_wp2_with fail
  go_ret
  refine ⟨congrArg (fun s => Ending.returned (Value.string s)) (ba_ext ?_), H2.out.be⟩
  have hd := HD.out
  have hs := HSS.out
  simp only [ByteArray.data_append, Array.toList_append, hd, hs]
  unfold Ex.prk Ex.par
  simp
set_option maxHeartbeats 16000000 in
theorem rput_10 (n : Nat) (hn1 : n ≤ 20000) (ih : P2z n) (a : Int) (m : Nat) (hm : m < 8) (b o cap : Nat) (w : World) (x : Tr) (sx : Value) (Kx : Kid w b o x sx) (Nx : (x.on .nil).nodes ≤ n) (Px : (x.on .nil).allPlain = true) :
    Calls Try.prog 21 #[.agg #[.int .i64 10, .int .i64 a, .int .i64 (m : Int), .slice (some ⟨b, o, none⟩) 1 cap]] w fun e w' => e = .returned (.string ⟨(Ex.prk 10 (m : Int) [Ex.pr x]).toArray⟩) ∧ Below w.heap.size w w' := by
  have hw0 : (m : Int) % 10 = (m : Int) := by omega
  have hw1 : wrap64 (48 + (m : Int)) = 48 + (m : Int) := w64 _ (by omega)
  have hw2 : IntKind.i64.wrap (48 + (m : Int)) = 48 + (m : Int) := by rw [IntKind.wrap_i64]; omega
  have hw3 : IntKind.u8.wrap (48 + (m : Int)) = 48 + (m : Int) := by rw [IntKind.wrap_u8]; omega
  have hB := Blk.new (w.alloc (.cells #[.int .i64 10, .int .i64 a, .int .i64 (m : Int), .slice (some ⟨b, o, none⟩) 1 cap] 36)) 5 #[.int .u8 (48 + (m : Int))]
  have hO : OwnB ((w.alloc (.cells #[.int .i64 10, .int .i64 a, .int .i64 (m : Int), .slice (some ⟨b, o, none⟩) 1 cap] 36)).alloc (.cells #[.int .u8 (48 + (m : Int))] 5)) (w.heap.size + 1) (.slice (some ⟨w.heap.size + 1, 0, none⟩) 1 1) [Nat.toUInt8 (48 + m)] := by
    rw [alloc_size] at hB
    refine ⟨rfl, .inr ⟨w.heap.size + 1, 1, #[.int .u8 (48 + (m : Int))], rfl, Nat.le_refl _, hB.eq, Nat.le_refl _, by unfold maxLen; omega, rfl, ?_⟩⟩
    have e : ((Nat.toUInt8 (48 + m)).toNat : Int) = 48 + (m : Int) := by
      have : (Nat.toUInt8 (48 + m)).toNat = 48 + m := by simp [Nat.toUInt8, UInt8.toNat_ofNat', Nat.mod_eq_of_lt (show 48 + m < 256 by omega)]
      rw [this]; omega
    simp
    omega
  have hC := hO.str (by simp)
  have HE := Bx.mk (show (⟨#[48 + UInt8.ofNat m]⟩ : ByteArray) = strOf [48 + m] from by unfold strOf; simp [Nat.toUInt8])
  have H0 := Bx.mk (PT.start w 10 a (m : Int) (.slice (some ⟨b, o, none⟩) 1 cap) (.int .u8 (48 + (m : Int))))
  have HD := Bx.mk (dig_of m)
  have HDZ := Bx.mk (show (strOf [48 + m]).size = 1 from by rw [strOf_size]; rfl)
  clear hO hB
  have BKx := Bx.mk Kx
  have BNx := Bx.mk Nx
  have BPx := Bx.mk Px
  have BLx := Bx.mk (show (⟨(Ex.pr x).toArray⟩ : ByteArray).size ≤ 320000 from by have := pr_len x; rw [size_mk]; omega)
  have IH := Bx.mk ih
  clear ih Kx Nx Px
  obtain ⟨k0, k1, k2, k3, kS⟩ := BKx.out.below H0.out.be
  obtain ⟨px, cx, rfl⟩ := kS.is
  have HI := Bx.mk (IH.out x _ _ _ BNx.out BPx.out kS)
  clear kS
  unfold Ev at HI
  go_enter Try.func21, Try.ntmps21
  go_wp2_with fail
  refine HI.out.mono ?_
  rintro e u9 ⟨rfl, hb⟩
  have H2 := Bx.mk (H0.out.step hb)
  clear hb k0 k1 k2 k3 HI H0 hC hw0 hw1 hw2 hw3
  generalize hss : (⟨(Ex.pr x).toArray⟩ : ByteArray) = ss at BLx ⊢
  have HSS := Bx.mk (show ss.data.toList = Ex.pr x from by rw [← hss])
  clear hss
  rw [HE.out]
  generalize hds : strOf [48 + m] = ds at *
  clear hds
  have z0 : ¬ 9223372036854775807 < 5 + ds.size + 2 + ss.size := by have := HDZ.out; have := BLx.out; omega
  have z1 : ¬ 9223372036854775807 < 5 + ds.size + 2 + ss.size + 1 := by have := HDZ.out; have := BLx.out; omega
  have z2 : ¬ 9223372036854775807 < 8 + ss.size := by have := HDZ.out; have := BLx.out; omega
  have z3 : ¬ 9223372036854775807 < 8 + ss.size + 1 := by have := HDZ.out; have := BLx.out; omega
  go_wp2_with fail
  go_ret
  refine ⟨congrArg (fun s => Ending.returned (Value.string s)) (ba_ext ?_), H2.out.be⟩
  have hd := HD.out
  have hs := HSS.out
  simp only [ByteArray.data_append, Array.toList_append, hd, hs]
  unfold Ex.prk Ex.par
  simp
set_option maxHeartbeats 16000000 in
theorem rput_11 (n : Nat) (hn1 : n ≤ 20000) (ih : P2z n) (a : Int) (m : Nat) (hm : m < 8) (b o cap : Nat) (w : World) (x : Tr) (sx : Value) (Kx : Kid w b o x sx) (Nx : (x.on .nil).nodes ≤ n) (Px : (x.on .nil).allPlain = true) :
    Calls Try.prog 21 #[.agg #[.int .i64 11, .int .i64 a, .int .i64 (m : Int), .slice (some ⟨b, o, none⟩) 1 cap]] w fun e w' => e = .returned (.string ⟨(Ex.prk 11 (m : Int) [Ex.pr x]).toArray⟩) ∧ Below w.heap.size w w' := by
  have hw0 : (m : Int) % 10 = (m : Int) := by omega
  have hw1 : wrap64 (48 + (m : Int)) = 48 + (m : Int) := w64 _ (by omega)
  have hw2 : IntKind.i64.wrap (48 + (m : Int)) = 48 + (m : Int) := by rw [IntKind.wrap_i64]; omega
  have hw3 : IntKind.u8.wrap (48 + (m : Int)) = 48 + (m : Int) := by rw [IntKind.wrap_u8]; omega
  have hB := Blk.new (w.alloc (.cells #[.int .i64 11, .int .i64 a, .int .i64 (m : Int), .slice (some ⟨b, o, none⟩) 1 cap] 36)) 5 #[.int .u8 (48 + (m : Int))]
  have hO : OwnB ((w.alloc (.cells #[.int .i64 11, .int .i64 a, .int .i64 (m : Int), .slice (some ⟨b, o, none⟩) 1 cap] 36)).alloc (.cells #[.int .u8 (48 + (m : Int))] 5)) (w.heap.size + 1) (.slice (some ⟨w.heap.size + 1, 0, none⟩) 1 1) [Nat.toUInt8 (48 + m)] := by
    rw [alloc_size] at hB
    refine ⟨rfl, .inr ⟨w.heap.size + 1, 1, #[.int .u8 (48 + (m : Int))], rfl, Nat.le_refl _, hB.eq, Nat.le_refl _, by unfold maxLen; omega, rfl, ?_⟩⟩
    have e : ((Nat.toUInt8 (48 + m)).toNat : Int) = 48 + (m : Int) := by
      have : (Nat.toUInt8 (48 + m)).toNat = 48 + m := by simp [Nat.toUInt8, UInt8.toNat_ofNat', Nat.mod_eq_of_lt (show 48 + m < 256 by omega)]
      rw [this]; omega
    simp
    omega
  have hC := hO.str (by simp)
  have HE := Bx.mk (show (⟨#[48 + UInt8.ofNat m]⟩ : ByteArray) = strOf [48 + m] from by unfold strOf; simp [Nat.toUInt8])
  have H0 := Bx.mk (PT.start w 11 a (m : Int) (.slice (some ⟨b, o, none⟩) 1 cap) (.int .u8 (48 + (m : Int))))
  have HD := Bx.mk (dig_of m)
  have HDZ := Bx.mk (show (strOf [48 + m]).size = 1 from by rw [strOf_size]; rfl)
  clear hO hB
  have BKx := Bx.mk Kx
  have BNx := Bx.mk Nx
  have BPx := Bx.mk Px
  have BLx := Bx.mk (show (⟨(Ex.pr x).toArray⟩ : ByteArray).size ≤ 320000 from by have := pr_len x; rw [size_mk]; omega)
  have IH := Bx.mk ih
  clear ih Kx Nx Px
  obtain ⟨k0, k1, k2, k3, kS⟩ := BKx.out.below H0.out.be
  obtain ⟨px, cx, rfl⟩ := kS.is
  have HI := Bx.mk (IH.out x _ _ _ BNx.out BPx.out kS)
  clear kS
  unfold Ev at HI
  go_enter Try.func21, Try.ntmps21
  go_wp2_with fail
  refine HI.out.mono ?_
  rintro e u9 ⟨rfl, hb⟩
  have H2 := Bx.mk (H0.out.step hb)
  clear hb k0 k1 k2 k3 HI H0 hC hw0 hw1 hw2 hw3
  generalize hss : (⟨(Ex.pr x).toArray⟩ : ByteArray) = ss at BLx ⊢
  have HSS := Bx.mk (show ss.data.toList = Ex.pr x from by rw [← hss])
  clear hss
  rw [HE.out]
  generalize hds : strOf [48 + m] = ds at *
  clear hds
  have z0 : ¬ 9223372036854775807 < 5 + ds.size + 2 + ss.size := by have := HDZ.out; have := BLx.out; omega
  have z1 : ¬ 9223372036854775807 < 5 + ds.size + 2 + ss.size + 1 := by have := HDZ.out; have := BLx.out; omega
  have z2 : ¬ 9223372036854775807 < 8 + ss.size := by have := HDZ.out; have := BLx.out; omega
  have z3 : ¬ 9223372036854775807 < 8 + ss.size + 1 := by have := HDZ.out; have := BLx.out; omega
  go_wp2_with fail
  go_ret
  refine ⟨congrArg (fun s => Ending.returned (Value.string s)) (ba_ext ?_), H2.out.be⟩
  have hd := HD.out
  have hs := HSS.out
  simp only [ByteArray.data_append, Array.toList_append, hd, hs]
  unfold Ex.prk Ex.par
  simp
set_option maxHeartbeats 16000000 in
theorem rput_9 (n : Nat) (hn1 : n ≤ 20000) (ih : P2z n) (a : Int) (m : Nat) (hm : m < 8) (b o cap : Nat) (w : World) (x : Tr) (sx : Value) (Kx : Kid w b o x sx) (Nx : (x.on .nil).nodes ≤ n) (Px : (x.on .nil).allPlain = true) (y : Tr) (sy : Value) (Ky : Kid w b (o + 4) y sy) (Ny : (y.on .nil).nodes ≤ n) (Py : (y.on .nil).allPlain = true) (z : Tr) (sz : Value) (Kz : Kid w b (o + 8) z sz) (Nz : (z.on .nil).nodes ≤ n) (Pz : (z.on .nil).allPlain = true) :
    Calls Try.prog 21 #[.agg #[.int .i64 9, .int .i64 a, .int .i64 (m : Int), .slice (some ⟨b, o, none⟩) 3 cap]] w fun e w' => e = .returned (.string ⟨(Ex.prk 9 (m : Int) [Ex.pr x, Ex.pr y, Ex.pr z]).toArray⟩) ∧ Below w.heap.size w w' := by
  have hw0 : (m : Int) % 10 = (m : Int) := by omega
  have hw1 : wrap64 (48 + (m : Int)) = 48 + (m : Int) := w64 _ (by omega)
  have hw2 : IntKind.i64.wrap (48 + (m : Int)) = 48 + (m : Int) := by rw [IntKind.wrap_i64]; omega
  have hw3 : IntKind.u8.wrap (48 + (m : Int)) = 48 + (m : Int) := by rw [IntKind.wrap_u8]; omega
  have hB := Blk.new (w.alloc (.cells #[.int .i64 9, .int .i64 a, .int .i64 (m : Int), .slice (some ⟨b, o, none⟩) 3 cap] 36)) 5 #[.int .u8 (48 + (m : Int))]
  have hO : OwnB ((w.alloc (.cells #[.int .i64 9, .int .i64 a, .int .i64 (m : Int), .slice (some ⟨b, o, none⟩) 3 cap] 36)).alloc (.cells #[.int .u8 (48 + (m : Int))] 5)) (w.heap.size + 1) (.slice (some ⟨w.heap.size + 1, 0, none⟩) 1 1) [Nat.toUInt8 (48 + m)] := by
    rw [alloc_size] at hB
    refine ⟨rfl, .inr ⟨w.heap.size + 1, 1, #[.int .u8 (48 + (m : Int))], rfl, Nat.le_refl _, hB.eq, Nat.le_refl _, by unfold maxLen; omega, rfl, ?_⟩⟩
    have e : ((Nat.toUInt8 (48 + m)).toNat : Int) = 48 + (m : Int) := by
      have : (Nat.toUInt8 (48 + m)).toNat = 48 + m := by simp [Nat.toUInt8, UInt8.toNat_ofNat', Nat.mod_eq_of_lt (show 48 + m < 256 by omega)]
      rw [this]; omega
    simp
    omega
  have hC := hO.str (by simp)
  have HE := Bx.mk (show (⟨#[48 + UInt8.ofNat m]⟩ : ByteArray) = strOf [48 + m] from by unfold strOf; simp [Nat.toUInt8])
  have H0 := Bx.mk (PT.start w 9 a (m : Int) (.slice (some ⟨b, o, none⟩) 3 cap) (.int .u8 (48 + (m : Int))))
  have HD := Bx.mk (dig_of m)
  have HDZ := Bx.mk (show (strOf [48 + m]).size = 1 from by rw [strOf_size]; rfl)
  clear hO hB
  have BKx := Bx.mk Kx
  have BNx := Bx.mk Nx
  have BPx := Bx.mk Px
  have BLx := Bx.mk (show (⟨(Ex.pr x).toArray⟩ : ByteArray).size ≤ 320000 from by have := pr_len x; rw [size_mk]; omega)
  have BKy := Bx.mk Ky
  have BNy := Bx.mk Ny
  have BPy := Bx.mk Py
  have BLy := Bx.mk (show (⟨(Ex.pr y).toArray⟩ : ByteArray).size ≤ 320000 from by have := pr_len y; rw [size_mk]; omega)
  have BKz := Bx.mk Kz
  have BNz := Bx.mk Nz
  have BPz := Bx.mk Pz
  have BLz := Bx.mk (show (⟨(Ex.pr z).toArray⟩ : ByteArray).size ≤ 320000 from by have := pr_len z; rw [size_mk]; omega)
  have IH := Bx.mk ih
  clear ih Kx Nx Px Ky Ny Py Kz Nz Pz
  go_enter Try.func21, Try.ntmps21
  go_wp2_with fail
  generalize hW : World.alloc (World.alloc (World.alloc _ _) _) _ = W0
  have H1 : Bx (PT w W0 9 a (m : Int) (.slice (some ⟨b, o, none⟩) 3 cap)) := ⟨by rw [← hW]; exact H0.out⟩
  clear hW H0 hC hw0 hw1 hw2 hw3
  rw [HE.out]
  generalize hds : strOf [48 + m] = ds at *
  clear hds
  obtain ⟨qx, hqx⟩ : ∃ q : ByteArray, (⟨(Ex.pr x).toArray⟩ : ByteArray) = q := ⟨_, rfl⟩
  rw [hqx] at BLx
  have HQx := Bx.mk hqx
  clear hqx
  obtain ⟨qy, hqy⟩ : ∃ q : ByteArray, (⟨(Ex.pr y).toArray⟩ : ByteArray) = q := ⟨_, rfl⟩
  rw [hqy] at BLy
  have HQy := Bx.mk hqy
  clear hqy
  obtain ⟨qz, hqz⟩ : ∃ q : ByteArray, (⟨(Ex.pr z).toArray⟩ : ByteArray) = q := ⟨_, rfl⟩
  rw [hqz] at BLz
  have HQz := Bx.mk hqz
  clear hqz
  refine region_any 100 (fun u => PT w u 9 a (m : Int) (.slice (some ⟨b, o, none⟩) 3 cap)) (by kernel_rfl) ?_
  generalize hu : World.drew _ = u0
  have hq0 := H1.out.step ((Below.refl _ _).drew)
  rw [hu] at hq0
  clear hu
  refine any_take (i := 0) (.pointer (some ⟨w.heap.size, 3, none⟩)) rfl rfl (by kernel_rfl) (by kernel_rfl) (by kernel_rfl) (by kernel_rfl) (fun _ _ d _ _ h => by cases d <;> exact h) (fun u hS => rfl) hq0 ?_
  (try simp only [Act.put]); (try simp only [List.getElem_toArray]); (try simp only [List.getElem_cons_succ]); (try simp only [List.getElem_cons_zero]); (try simp only [List.setIfInBounds_toArray]); (try simp only [List.set_cons_succ]); (try simp only [List.set_cons_zero])
  refine any_take (i := 1) (.slice (some ⟨b, o, none⟩) 3 cap) rfl rfl (by kernel_rfl) (by kernel_rfl) (by kernel_rfl) (by kernel_rfl) (fun _ _ d _ _ h => by cases d <;> exact h) (fun u hS => exec_loadS rfl rfl (hS.e.cell 3)) hq0 ?_
  (try simp only [Act.put]); (try simp only [List.getElem_toArray]); (try simp only [List.getElem_cons_succ]); (try simp only [List.getElem_cons_zero]); (try simp only [List.setIfInBounds_toArray]); (try simp only [List.set_cons_succ]); (try simp only [List.set_cons_zero])
  refine any_take (i := 2) (.pointer (some ⟨b, o, none⟩)) rfl rfl (by kernel_rfl) (by kernel_rfl) (by kernel_rfl) (by kernel_rfl) (fun _ _ d _ _ h => by cases d <;> exact h) (fun u hS => exec_ix03 rfl rfl rfl) hq0 ?_
  (try simp only [Act.put]); (try simp only [List.getElem_toArray]); (try simp only [List.getElem_cons_succ]); (try simp only [List.getElem_cons_zero]); (try simp only [List.setIfInBounds_toArray]); (try simp only [List.set_cons_succ]); (try simp only [List.set_cons_zero])
  refine any_take (i := 3) (Ev x sx) rfl rfl (by kernel_rfl) (by kernel_rfl) (by kernel_rfl) (by kernel_rfl) (fun _ _ d _ _ h => by cases d <;> exact h) (fun u hS => by obtain ⟨x0, x1, x2, x3, _⟩ := BKx.out.below hS.be; exact exec_loadX rfl rfl x0 x1 x2 x3) hq0 ?_
  (try simp only [Act.put]); (try simp only [List.getElem_toArray]); (try simp only [List.getElem_cons_succ]); (try simp only [List.getElem_cons_zero]); (try simp only [List.setIfInBounds_toArray]); (try simp only [List.set_cons_succ]); (try simp only [List.set_cons_zero])
  refine any_take (i := 7) (.pointer (some ⟨w.heap.size, 3, none⟩)) rfl rfl (by kernel_rfl) (by kernel_rfl) (by kernel_rfl) (by kernel_rfl) (fun _ _ d _ _ h => by cases d <;> exact h) (fun u hS => rfl) hq0 ?_
  (try simp only [Act.put]); (try simp only [List.getElem_toArray]); (try simp only [List.getElem_cons_succ]); (try simp only [List.getElem_cons_zero]); (try simp only [List.setIfInBounds_toArray]); (try simp only [List.set_cons_succ]); (try simp only [List.set_cons_zero])
  refine any_take (i := 8) (.slice (some ⟨b, o, none⟩) 3 cap) rfl rfl (by kernel_rfl) (by kernel_rfl) (by kernel_rfl) (by kernel_rfl) (fun _ _ d _ _ h => by cases d <;> exact h) (fun u hS => exec_loadS rfl rfl (hS.e.cell 3)) hq0 ?_
  (try simp only [Act.put]); (try simp only [List.getElem_toArray]); (try simp only [List.getElem_cons_succ]); (try simp only [List.getElem_cons_zero]); (try simp only [List.setIfInBounds_toArray]); (try simp only [List.set_cons_succ]); (try simp only [List.set_cons_zero])
  refine any_take (i := 9) (.pointer (some ⟨b, o + 4, none⟩)) rfl rfl (by kernel_rfl) (by kernel_rfl) (by kernel_rfl) (by kernel_rfl) (fun _ _ d _ _ h => by cases d <;> exact h) (fun u hS => exec_ix13 rfl rfl rfl) hq0 ?_
  (try simp only [Act.put]); (try simp only [List.getElem_toArray]); (try simp only [List.getElem_cons_succ]); (try simp only [List.getElem_cons_zero]); (try simp only [List.setIfInBounds_toArray]); (try simp only [List.set_cons_succ]); (try simp only [List.set_cons_zero])
  refine any_take (i := 10) (Ev y sy) rfl rfl (by kernel_rfl) (by kernel_rfl) (by kernel_rfl) (by kernel_rfl) (fun _ _ d _ _ h => by cases d <;> exact h) (fun u hS => by obtain ⟨x0, x1, x2, x3, _⟩ := BKy.out.below hS.be; exact exec_loadX rfl rfl x0 x1 x2 x3) hq0 ?_
  (try simp only [Act.put]); (try simp only [List.getElem_toArray]); (try simp only [List.getElem_cons_succ]); (try simp only [List.getElem_cons_zero]); (try simp only [List.setIfInBounds_toArray]); (try simp only [List.set_cons_succ]); (try simp only [List.set_cons_zero])
  refine any_take (i := 14) (.pointer (some ⟨w.heap.size, 3, none⟩)) rfl rfl (by kernel_rfl) (by kernel_rfl) (by kernel_rfl) (by kernel_rfl) (fun _ _ d _ _ h => by cases d <;> exact h) (fun u hS => rfl) hq0 ?_
  (try simp only [Act.put]); (try simp only [List.getElem_toArray]); (try simp only [List.getElem_cons_succ]); (try simp only [List.getElem_cons_zero]); (try simp only [List.setIfInBounds_toArray]); (try simp only [List.set_cons_succ]); (try simp only [List.set_cons_zero])
  refine any_take (i := 15) (.slice (some ⟨b, o, none⟩) 3 cap) rfl rfl (by kernel_rfl) (by kernel_rfl) (by kernel_rfl) (by kernel_rfl) (fun _ _ d _ _ h => by cases d <;> exact h) (fun u hS => exec_loadS rfl rfl (hS.e.cell 3)) hq0 ?_
  (try simp only [Act.put]); (try simp only [List.getElem_toArray]); (try simp only [List.getElem_cons_succ]); (try simp only [List.getElem_cons_zero]); (try simp only [List.setIfInBounds_toArray]); (try simp only [List.set_cons_succ]); (try simp only [List.set_cons_zero])
  refine any_take (i := 16) (.pointer (some ⟨b, o + 8, none⟩)) rfl rfl (by kernel_rfl) (by kernel_rfl) (by kernel_rfl) (by kernel_rfl) (fun _ _ d _ _ h => by cases d <;> exact h) (fun u hS => exec_ix23 rfl rfl rfl) hq0 ?_
  (try simp only [Act.put]); (try simp only [List.getElem_toArray]); (try simp only [List.getElem_cons_succ]); (try simp only [List.getElem_cons_zero]); (try simp only [List.setIfInBounds_toArray]); (try simp only [List.set_cons_succ]); (try simp only [List.set_cons_zero])
  refine any_take (i := 17) (Ev z sz) rfl rfl (by kernel_rfl) (by kernel_rfl) (by kernel_rfl) (by kernel_rfl) (fun _ _ d _ _ h => by cases d <;> exact h) (fun u hS => by obtain ⟨x0, x1, x2, x3, _⟩ := BKz.out.below hS.be; exact exec_loadX rfl rfl x0 x1 x2 x3) hq0 ?_
  (try simp only [Act.put]); (try simp only [List.getElem_toArray]); (try simp only [List.getElem_cons_succ]); (try simp only [List.getElem_cons_zero]); (try simp only [List.setIfInBounds_toArray]); (try simp only [List.set_cons_succ]); (try simp only [List.set_cons_zero])
  refine any_branch [4] (by kernel_rfl) rfl fun ix hix => ?_
  simp only [List.mem_cons, List.not_mem_nil, or_false] at hix
  subst hix
  refine any_op rfl rfl fun K hK => ?_
  go_simp
  have hc := IH.out x _ _ u0 BNx.out BPx.out (BKx.out.below hq0.be).2.2.2.2
  rw [HQx.out] at hc
  refine hc.mono ?_
  rintro e u1 ⟨rfl, hb⟩
  have hq1 := hq0.step hb
  refine hK _ _ (fun _ => hq1) ?_
  (try simp only [Act.put]); (try simp only [List.getElem_toArray]); (try simp only [List.getElem_cons_succ]); (try simp only [List.getElem_cons_zero]); (try simp only [List.setIfInBounds_toArray]); (try simp only [List.set_cons_succ]); (try simp only [List.set_cons_zero])
  clear hK
  obtain ⟨r5, hr5⟩ : ∃ r, (({ data := #[105, 116, 101, 40, 40] } : ByteArray) : ByteArray) ++ qx = r := ⟨_, rfl⟩
  have HZ5 := Bx.mk (show r5.size ≤ 320005 from by rw [← hr5, cat_sz]; have : (({ data := #[105, 116, 101, 40, 40] } : ByteArray)).size = 5 := rfl; have := BLx.out; omega)
  have HR5 := Bx.mk hr5
  clear hr5
  refine any_take (i := 5) (.string r5) rfl rfl (by kernel_rfl) (by kernel_rfl) (by kernel_rfl) (by kernel_rfl) (fun _ _ d _ _ h => by cases d <;> exact h) (fun u hS => exec_addR HR5.out rfl rfl rfl (by have : (({ data := #[105, 116, 101, 40, 40] } : ByteArray)).size = 5 := rfl; have := BLx.out; omega)) hq1 ?_
  (try simp only [Act.put]); (try simp only [List.getElem_toArray]); (try simp only [List.getElem_cons_succ]); (try simp only [List.getElem_cons_zero]); (try simp only [List.setIfInBounds_toArray]); (try simp only [List.set_cons_succ]); (try simp only [List.set_cons_zero])
  obtain ⟨r6, hr6⟩ : ∃ r, (r5 : ByteArray) ++ ({ data := #[41, 44, 32, 40] } : ByteArray) = r := ⟨_, rfl⟩
  have HZ6 := Bx.mk (show r6.size ≤ 320009 from by rw [← hr6, cat_sz]; have := HZ5.out; have : (({ data := #[41, 44, 32, 40] } : ByteArray)).size = 4 := rfl; omega)
  have HR6 := Bx.mk hr6
  clear hr6
  refine any_take (i := 6) (.string r6) rfl rfl (by kernel_rfl) (by kernel_rfl) (by kernel_rfl) (by kernel_rfl) (fun _ _ d _ _ h => by cases d <;> exact h) (fun u hS => exec_addR HR6.out rfl rfl rfl (by have := HZ5.out; have : (({ data := #[41, 44, 32, 40] } : ByteArray)).size = 4 := rfl; omega)) hq1 ?_
  (try simp only [Act.put]); (try simp only [List.getElem_toArray]); (try simp only [List.getElem_cons_succ]); (try simp only [List.getElem_cons_zero]); (try simp only [List.setIfInBounds_toArray]); (try simp only [List.set_cons_succ]); (try simp only [List.set_cons_zero])
  refine any_branch [11] (by kernel_rfl) rfl fun ix hix => ?_
  simp only [List.mem_cons, List.not_mem_nil, or_false] at hix
  subst hix
  refine any_op rfl rfl fun K hK => ?_
  go_simp
  have hc := IH.out y _ _ u1 BNy.out BPy.out (BKy.out.below hq1.be).2.2.2.2
  rw [HQy.out] at hc
  refine hc.mono ?_
  rintro e u2 ⟨rfl, hb⟩
  have hq2 := hq1.step hb
  refine hK _ _ (fun _ => hq2) ?_
  (try simp only [Act.put]); (try simp only [List.getElem_toArray]); (try simp only [List.getElem_cons_succ]); (try simp only [List.getElem_cons_zero]); (try simp only [List.setIfInBounds_toArray]); (try simp only [List.set_cons_succ]); (try simp only [List.set_cons_zero])
  clear hK
  obtain ⟨r12, hr12⟩ : ∃ r, (r6 : ByteArray) ++ qy = r := ⟨_, rfl⟩
  have HZ12 := Bx.mk (show r12.size ≤ 640009 from by rw [← hr12, cat_sz]; have := HZ6.out; have := BLy.out; omega)
  have HR12 := Bx.mk hr12
  clear hr12
  refine any_take (i := 12) (.string r12) rfl rfl (by kernel_rfl) (by kernel_rfl) (by kernel_rfl) (by kernel_rfl) (fun _ _ d _ _ h => by cases d <;> exact h) (fun u hS => exec_addR HR12.out rfl rfl rfl (by have := HZ6.out; have := BLy.out; omega)) hq2 ?_
  (try simp only [Act.put]); (try simp only [List.getElem_toArray]); (try simp only [List.getElem_cons_succ]); (try simp only [List.getElem_cons_zero]); (try simp only [List.setIfInBounds_toArray]); (try simp only [List.set_cons_succ]); (try simp only [List.set_cons_zero])
  obtain ⟨r13, hr13⟩ : ∃ r, (r12 : ByteArray) ++ ({ data := #[41, 44, 32, 40] } : ByteArray) = r := ⟨_, rfl⟩
  have HZ13 := Bx.mk (show r13.size ≤ 640013 from by rw [← hr13, cat_sz]; have := HZ12.out; have : (({ data := #[41, 44, 32, 40] } : ByteArray)).size = 4 := rfl; omega)
  have HR13 := Bx.mk hr13
  clear hr13
  refine any_take (i := 13) (.string r13) rfl rfl (by kernel_rfl) (by kernel_rfl) (by kernel_rfl) (by kernel_rfl) (fun _ _ d _ _ h => by cases d <;> exact h) (fun u hS => exec_addR HR13.out rfl rfl rfl (by have := HZ12.out; have : (({ data := #[41, 44, 32, 40] } : ByteArray)).size = 4 := rfl; omega)) hq2 ?_
  (try simp only [Act.put]); (try simp only [List.getElem_toArray]); (try simp only [List.getElem_cons_succ]); (try simp only [List.getElem_cons_zero]); (try simp only [List.setIfInBounds_toArray]); (try simp only [List.set_cons_succ]); (try simp only [List.set_cons_zero])
  refine any_branch [18] (by kernel_rfl) rfl fun ix hix => ?_
  simp only [List.mem_cons, List.not_mem_nil, or_false] at hix
  subst hix
  refine any_op rfl rfl fun K hK => ?_
  go_simp
  have hc := IH.out z _ _ u2 BNz.out BPz.out (BKz.out.below hq2.be).2.2.2.2
  rw [HQz.out] at hc
  refine hc.mono ?_
  rintro e u3 ⟨rfl, hb⟩
  have hq3 := hq2.step hb
  refine hK _ _ (fun _ => hq3) ?_
  (try simp only [Act.put]); (try simp only [List.getElem_toArray]); (try simp only [List.getElem_cons_succ]); (try simp only [List.getElem_cons_zero]); (try simp only [List.setIfInBounds_toArray]); (try simp only [List.set_cons_succ]); (try simp only [List.set_cons_zero])
  clear hK
  obtain ⟨r19, hr19⟩ : ∃ r, (r13 : ByteArray) ++ qz = r := ⟨_, rfl⟩
  have HZ19 := Bx.mk (show r19.size ≤ 960013 from by rw [← hr19, cat_sz]; have := HZ13.out; have := BLz.out; omega)
  have HR19 := Bx.mk hr19
  clear hr19
  refine any_take (i := 19) (.string r19) rfl rfl (by kernel_rfl) (by kernel_rfl) (by kernel_rfl) (by kernel_rfl) (fun _ _ d _ _ h => by cases d <;> exact h) (fun u hS => exec_addR HR19.out rfl rfl rfl (by have := HZ13.out; have := BLz.out; omega)) hq3 ?_
  (try simp only [Act.put]); (try simp only [List.getElem_toArray]); (try simp only [List.getElem_cons_succ]); (try simp only [List.getElem_cons_zero]); (try simp only [List.setIfInBounds_toArray]); (try simp only [List.set_cons_succ]); (try simp only [List.set_cons_zero])
  obtain ⟨r20, hr20⟩ : ∃ r, (r19 : ByteArray) ++ ({ data := #[41, 41] } : ByteArray) = r := ⟨_, rfl⟩
  have HZ20 := Bx.mk (show r20.size ≤ 960015 from by rw [← hr20, cat_sz]; have := HZ19.out; have : (({ data := #[41, 41] } : ByteArray)).size = 2 := rfl; omega)
  have HR20 := Bx.mk hr20
  clear hr20
  refine any_take (i := 20) (.string r20) rfl rfl (by kernel_rfl) (by kernel_rfl) (by kernel_rfl) (by kernel_rfl) (fun _ _ d _ _ h => by cases d <;> exact h) (fun u hS => exec_addR HR20.out rfl rfl rfl (by have := HZ19.out; have : (({ data := #[41, 41] } : ByteArray)).size = 2 := rfl; omega)) hq3 ?_
  (try simp only [Act.put]); (try simp only [List.getElem_toArray]); (try simp only [List.getElem_cons_succ]); (try simp only [List.getElem_cons_zero]); (try simp only [List.setIfInBounds_toArray]); (try simp only [List.set_cons_succ]); (try simp only [List.set_cons_zero])
  refine any_branch [21] (by kernel_rfl) rfl fun ix hix => ?_
  simp only [List.mem_cons, List.not_mem_nil, or_false] at hix
  subst hix
  refine any_op rfl rfl fun K hK => ?_
  go_simp
  refine hK _ _ (fun _ => hq3) ?_
  (try simp only [Act.put]); (try simp only [List.getElem_toArray]); (try simp only [List.getElem_cons_succ]); (try simp only [List.getElem_cons_zero]); (try simp only [List.setIfInBounds_toArray]); (try simp only [List.set_cons_succ]); (try simp only [List.set_cons_zero])
  clear hK
  refine any_end (by kernel_rfl) ?_
  have HF := Bx.mk hq3.be
  clear hq0 hq1 hq2 hq3
  go_wp2_with fail
  go_ret
  refine ⟨congrArg (fun s => Ending.returned (Value.string s)) (ba_ext ?_), HF.out⟩
  rw [← HR20.out, ← HR19.out, ← HR13.out, ← HR12.out, ← HR6.out, ← HR5.out, ← HQx.out, ← HQy.out, ← HQz.out]
  simp only [ByteArray.data_append, Array.toList_append]
  unfold Ex.prk Ex.par Ex.sgn
  simp
set_option maxHeartbeats 16000000 in
theorem rput_4 (n : Nat) (hn1 : n ≤ 20000) (ih : P2z n) (a : Int) (m : Nat) (hm : m < 8) (b o cap : Nat) (w : World) (x : Tr) (sx : Value) (Kx : Kid w b o x sx) (Nx : (x.on .nil).nodes ≤ n) (Px : (x.on .nil).allPlain = true) (y : Tr) (sy : Value) (Ky : Kid w b (o + 4) y sy) (Ny : (y.on .nil).nodes ≤ n) (Py : (y.on .nil).allPlain = true) :
    Calls Try.prog 21 #[.agg #[.int .i64 4, .int .i64 a, .int .i64 (m : Int), .slice (some ⟨b, o, none⟩) 2 cap]] w fun e w' => e = .returned (.string ⟨(Ex.prk 4 (m : Int) [Ex.pr x, Ex.pr y]).toArray⟩) ∧ Below w.heap.size w w' := by
  have hw0 : (m : Int) % 10 = (m : Int) := by omega
  have hw1 : wrap64 (48 + (m : Int)) = 48 + (m : Int) := w64 _ (by omega)
  have hw2 : IntKind.i64.wrap (48 + (m : Int)) = 48 + (m : Int) := by rw [IntKind.wrap_i64]; omega
  have hw3 : IntKind.u8.wrap (48 + (m : Int)) = 48 + (m : Int) := by rw [IntKind.wrap_u8]; omega
  have hB := Blk.new (w.alloc (.cells #[.int .i64 4, .int .i64 a, .int .i64 (m : Int), .slice (some ⟨b, o, none⟩) 2 cap] 36)) 5 #[.int .u8 (48 + (m : Int))]
  have hO : OwnB ((w.alloc (.cells #[.int .i64 4, .int .i64 a, .int .i64 (m : Int), .slice (some ⟨b, o, none⟩) 2 cap] 36)).alloc (.cells #[.int .u8 (48 + (m : Int))] 5)) (w.heap.size + 1) (.slice (some ⟨w.heap.size + 1, 0, none⟩) 1 1) [Nat.toUInt8 (48 + m)] := by
    rw [alloc_size] at hB
    refine ⟨rfl, .inr ⟨w.heap.size + 1, 1, #[.int .u8 (48 + (m : Int))], rfl, Nat.le_refl _, hB.eq, Nat.le_refl _, by unfold maxLen; omega, rfl, ?_⟩⟩
    have e : ((Nat.toUInt8 (48 + m)).toNat : Int) = 48 + (m : Int) := by
      have : (Nat.toUInt8 (48 + m)).toNat = 48 + m := by simp [Nat.toUInt8, UInt8.toNat_ofNat', Nat.mod_eq_of_lt (show 48 + m < 256 by omega)]
      rw [this]; omega
    simp
    omega
  have hC := hO.str (by simp)
  have HE := Bx.mk (show (⟨#[48 + UInt8.ofNat m]⟩ : ByteArray) = strOf [48 + m] from by unfold strOf; simp [Nat.toUInt8])
  have H0 := Bx.mk (PT.start w 4 a (m : Int) (.slice (some ⟨b, o, none⟩) 2 cap) (.int .u8 (48 + (m : Int))))
  have HD := Bx.mk (dig_of m)
  have HDZ := Bx.mk (show (strOf [48 + m]).size = 1 from by rw [strOf_size]; rfl)
  clear hO hB
  have BKx := Bx.mk Kx
  have BNx := Bx.mk Nx
  have BPx := Bx.mk Px
  have BLx := Bx.mk (show (⟨(Ex.pr x).toArray⟩ : ByteArray).size ≤ 320000 from by have := pr_len x; rw [size_mk]; omega)
  have BKy := Bx.mk Ky
  have BNy := Bx.mk Ny
  have BPy := Bx.mk Py
  have BLy := Bx.mk (show (⟨(Ex.pr y).toArray⟩ : ByteArray).size ≤ 320000 from by have := pr_len y; rw [size_mk]; omega)
  have IH := Bx.mk ih
  clear ih Kx Nx Px Ky Ny Py
  go_enter Try.func21, Try.ntmps21
  go_wp2_with fail
  generalize hW : World.alloc (World.alloc (World.alloc _ _) _) _ = W0
  have H1 : Bx (PT w W0 4 a (m : Int) (.slice (some ⟨b, o, none⟩) 2 cap)) := ⟨by rw [← hW]; exact H0.out⟩
  clear hW H0 hC hw0 hw1 hw2 hw3
  rw [HE.out]
  generalize hds : strOf [48 + m] = ds at *
  clear hds
  obtain ⟨qx, hqx⟩ : ∃ q : ByteArray, (⟨(Ex.pr x).toArray⟩ : ByteArray) = q := ⟨_, rfl⟩
  rw [hqx] at BLx
  have HQx := Bx.mk hqx
  clear hqx
  obtain ⟨qy, hqy⟩ : ∃ q : ByteArray, (⟨(Ex.pr y).toArray⟩ : ByteArray) = q := ⟨_, rfl⟩
  rw [hqy] at BLy
  have HQy := Bx.mk hqy
  clear hqy
  refine region_any 100 (fun u => PT w u 4 a (m : Int) (.slice (some ⟨b, o, none⟩) 2 cap)) (by kernel_rfl) ?_
  generalize hu : World.drew _ = u0
  have hq0 := H1.out.step ((Below.refl _ _).drew)
  rw [hu] at hq0
  clear hu
  refine any_take (i := 0) (.pointer (some ⟨w.heap.size, 3, none⟩)) rfl rfl (by kernel_rfl) (by kernel_rfl) (by kernel_rfl) (by kernel_rfl) (fun _ _ d _ _ h => by cases d <;> exact h) (fun u hS => rfl) hq0 ?_
  (try simp only [Act.put]); (try simp only [List.getElem_toArray]); (try simp only [List.getElem_cons_succ]); (try simp only [List.getElem_cons_zero]); (try simp only [List.setIfInBounds_toArray]); (try simp only [List.set_cons_succ]); (try simp only [List.set_cons_zero])
  refine any_take (i := 1) (.slice (some ⟨b, o, none⟩) 2 cap) rfl rfl (by kernel_rfl) (by kernel_rfl) (by kernel_rfl) (by kernel_rfl) (fun _ _ d _ _ h => by cases d <;> exact h) (fun u hS => exec_loadS rfl rfl (hS.e.cell 3)) hq0 ?_
  (try simp only [Act.put]); (try simp only [List.getElem_toArray]); (try simp only [List.getElem_cons_succ]); (try simp only [List.getElem_cons_zero]); (try simp only [List.setIfInBounds_toArray]); (try simp only [List.set_cons_succ]); (try simp only [List.set_cons_zero])
  refine any_take (i := 2) (.pointer (some ⟨b, o, none⟩)) rfl rfl (by kernel_rfl) (by kernel_rfl) (by kernel_rfl) (by kernel_rfl) (fun _ _ d _ _ h => by cases d <;> exact h) (fun u hS => exec_ix02 rfl rfl rfl) hq0 ?_
  (try simp only [Act.put]); (try simp only [List.getElem_toArray]); (try simp only [List.getElem_cons_succ]); (try simp only [List.getElem_cons_zero]); (try simp only [List.setIfInBounds_toArray]); (try simp only [List.set_cons_succ]); (try simp only [List.set_cons_zero])
  refine any_take (i := 3) (Ev x sx) rfl rfl (by kernel_rfl) (by kernel_rfl) (by kernel_rfl) (by kernel_rfl) (fun _ _ d _ _ h => by cases d <;> exact h) (fun u hS => by obtain ⟨x0, x1, x2, x3, _⟩ := BKx.out.below hS.be; exact exec_loadX rfl rfl x0 x1 x2 x3) hq0 ?_
  (try simp only [Act.put]); (try simp only [List.getElem_toArray]); (try simp only [List.getElem_cons_succ]); (try simp only [List.getElem_cons_zero]); (try simp only [List.setIfInBounds_toArray]); (try simp only [List.set_cons_succ]); (try simp only [List.set_cons_zero])
  refine any_take (i := 14) (.pointer (some ⟨w.heap.size, 3, none⟩)) rfl rfl (by kernel_rfl) (by kernel_rfl) (by kernel_rfl) (by kernel_rfl) (fun _ _ d _ _ h => by cases d <;> exact h) (fun u hS => rfl) hq0 ?_
  (try simp only [Act.put]); (try simp only [List.getElem_toArray]); (try simp only [List.getElem_cons_succ]); (try simp only [List.getElem_cons_zero]); (try simp only [List.setIfInBounds_toArray]); (try simp only [List.set_cons_succ]); (try simp only [List.set_cons_zero])
  refine any_take (i := 15) (.slice (some ⟨b, o, none⟩) 2 cap) rfl rfl (by kernel_rfl) (by kernel_rfl) (by kernel_rfl) (by kernel_rfl) (fun _ _ d _ _ h => by cases d <;> exact h) (fun u hS => exec_loadS rfl rfl (hS.e.cell 3)) hq0 ?_
  (try simp only [Act.put]); (try simp only [List.getElem_toArray]); (try simp only [List.getElem_cons_succ]); (try simp only [List.getElem_cons_zero]); (try simp only [List.setIfInBounds_toArray]); (try simp only [List.set_cons_succ]); (try simp only [List.set_cons_zero])
  refine any_take (i := 16) (.pointer (some ⟨b, o + 4, none⟩)) rfl rfl (by kernel_rfl) (by kernel_rfl) (by kernel_rfl) (by kernel_rfl) (fun _ _ d _ _ h => by cases d <;> exact h) (fun u hS => exec_ix12 rfl rfl rfl) hq0 ?_
  (try simp only [Act.put]); (try simp only [List.getElem_toArray]); (try simp only [List.getElem_cons_succ]); (try simp only [List.getElem_cons_zero]); (try simp only [List.setIfInBounds_toArray]); (try simp only [List.set_cons_succ]); (try simp only [List.set_cons_zero])
  refine any_take (i := 17) (Ev y sy) rfl rfl (by kernel_rfl) (by kernel_rfl) (by kernel_rfl) (by kernel_rfl) (fun _ _ d _ _ h => by cases d <;> exact h) (fun u hS => by obtain ⟨x0, x1, x2, x3, _⟩ := BKy.out.below hS.be; exact exec_loadX rfl rfl x0 x1 x2 x3) hq0 ?_
  (try simp only [Act.put]); (try simp only [List.getElem_toArray]); (try simp only [List.getElem_cons_succ]); (try simp only [List.getElem_cons_zero]); (try simp only [List.setIfInBounds_toArray]); (try simp only [List.set_cons_succ]); (try simp only [List.set_cons_zero])
  refine any_take (i := 7) (.pointer (some ⟨w.heap.size, 0, none⟩)) rfl rfl (by kernel_rfl) (by kernel_rfl) (by kernel_rfl) (by kernel_rfl) (fun _ _ d _ _ h => by cases d <;> exact h) (fun u hS => rfl) hq0 ?_
  (try simp only [Act.put]); (try simp only [List.getElem_toArray]); (try simp only [List.getElem_cons_succ]); (try simp only [List.getElem_cons_zero]); (try simp only [List.setIfInBounds_toArray]); (try simp only [List.set_cons_succ]); (try simp only [List.set_cons_zero])
  refine any_take (i := 8) (.int .i64 4) rfl rfl (by kernel_rfl) (by kernel_rfl) (by kernel_rfl) (by kernel_rfl) (fun _ _ d _ _ h => by cases d <;> exact h) (fun u hS => exec_loadI rfl rfl (hS.e.cell 0)) hq0 ?_
  (try simp only [Act.put]); (try simp only [List.getElem_toArray]); (try simp only [List.getElem_cons_succ]); (try simp only [List.getElem_cons_zero]); (try simp only [List.setIfInBounds_toArray]); (try simp only [List.set_cons_succ]); (try simp only [List.set_cons_zero])
  refine any_take (i := 9) (.int .i64 0) rfl rfl (by kernel_rfl) (by kernel_rfl) (by kernel_rfl) (by kernel_rfl) (fun _ _ d _ _ h => by cases d <;> exact h) (fun u hS => exec_sub4 (by omega) (by omega) rfl rfl rfl) hq0 ?_
  (try simp only [Act.put]); (try simp only [List.getElem_toArray]); (try simp only [List.getElem_cons_succ]); (try simp only [List.getElem_cons_zero]); (try simp only [List.setIfInBounds_toArray]); (try simp only [List.set_cons_succ]); (try simp only [List.set_cons_zero])
  refine any_take (i := 10) (.pointer (some ⟨w.heap.size + 2, 0, none⟩)) rfl rfl (by kernel_rfl) (by kernel_rfl) (by kernel_rfl) (by kernel_rfl) (fun _ _ d _ _ h => by cases d <;> exact h) (fun u hS => exec_ix5 (j := 0) (by omega) rfl rfl rfl rfl) hq0 ?_
  (try simp only [Act.put]); (try simp only [List.getElem_toArray]); (try simp only [List.getElem_cons_succ]); (try simp only [List.getElem_cons_zero]); (try simp only [List.setIfInBounds_toArray]); (try simp only [List.set_cons_succ]); (try simp only [List.set_cons_zero])
  refine any_take (i := 11) (.string { data := #[38] }) rfl rfl (by kernel_rfl) (by kernel_rfl) (by kernel_rfl) (by kernel_rfl) (fun _ _ d _ _ h => by cases d <;> exact h) (fun u hS => exec_loadG rfl rfl (hS.g.cell 0)) hq0 ?_
  (try simp only [Act.put]); (try simp only [List.getElem_toArray]); (try simp only [List.getElem_cons_succ]); (try simp only [List.getElem_cons_zero]); (try simp only [List.setIfInBounds_toArray]); (try simp only [List.set_cons_succ]); (try simp only [List.set_cons_zero])
  refine any_branch [4] (by kernel_rfl) rfl fun ix hix => ?_
  simp only [List.mem_cons, List.not_mem_nil, or_false] at hix
  subst hix
  refine any_op rfl rfl fun K hK => ?_
  go_simp
  have hc := IH.out x _ _ u0 BNx.out BPx.out (BKx.out.below hq0.be).2.2.2.2
  rw [HQx.out] at hc
  refine hc.mono ?_
  rintro e u1 ⟨rfl, hb⟩
  have hq1 := hq0.step hb
  refine hK _ _ (fun _ => hq1) ?_
  (try simp only [Act.put]); (try simp only [List.getElem_toArray]); (try simp only [List.getElem_cons_succ]); (try simp only [List.getElem_cons_zero]); (try simp only [List.setIfInBounds_toArray]); (try simp only [List.set_cons_succ]); (try simp only [List.set_cons_zero])
  clear hK
  obtain ⟨r5, hr5⟩ : ∃ r, (({ data := #[40, 40] } : ByteArray) : ByteArray) ++ qx = r := ⟨_, rfl⟩
  have HZ5 := Bx.mk (show r5.size ≤ 320002 from by rw [← hr5, cat_sz]; have : (({ data := #[40, 40] } : ByteArray)).size = 2 := rfl; have := BLx.out; omega)
  have HR5 := Bx.mk hr5
  clear hr5
  refine any_take (i := 5) (.string r5) rfl rfl (by kernel_rfl) (by kernel_rfl) (by kernel_rfl) (by kernel_rfl) (fun _ _ d _ _ h => by cases d <;> exact h) (fun u hS => exec_addR HR5.out rfl rfl rfl (by have : (({ data := #[40, 40] } : ByteArray)).size = 2 := rfl; have := BLx.out; omega)) hq1 ?_
  (try simp only [Act.put]); (try simp only [List.getElem_toArray]); (try simp only [List.getElem_cons_succ]); (try simp only [List.getElem_cons_zero]); (try simp only [List.setIfInBounds_toArray]); (try simp only [List.set_cons_succ]); (try simp only [List.set_cons_zero])
  obtain ⟨r6, hr6⟩ : ∃ r, (r5 : ByteArray) ++ ({ data := #[41, 32] } : ByteArray) = r := ⟨_, rfl⟩
  have HZ6 := Bx.mk (show r6.size ≤ 320004 from by rw [← hr6, cat_sz]; have := HZ5.out; have : (({ data := #[41, 32] } : ByteArray)).size = 2 := rfl; omega)
  have HR6 := Bx.mk hr6
  clear hr6
  refine any_take (i := 6) (.string r6) rfl rfl (by kernel_rfl) (by kernel_rfl) (by kernel_rfl) (by kernel_rfl) (fun _ _ d _ _ h => by cases d <;> exact h) (fun u hS => exec_addR HR6.out rfl rfl rfl (by have := HZ5.out; have : (({ data := #[41, 32] } : ByteArray)).size = 2 := rfl; omega)) hq1 ?_
  (try simp only [Act.put]); (try simp only [List.getElem_toArray]); (try simp only [List.getElem_cons_succ]); (try simp only [List.getElem_cons_zero]); (try simp only [List.setIfInBounds_toArray]); (try simp only [List.set_cons_succ]); (try simp only [List.set_cons_zero])
  obtain ⟨r12, hr12⟩ : ∃ r, (r6 : ByteArray) ++ ({ data := #[38] } : ByteArray) = r := ⟨_, rfl⟩
  have HZ12 := Bx.mk (show r12.size ≤ 320005 from by rw [← hr12, cat_sz]; have := HZ6.out; have : (({ data := #[38] } : ByteArray)).size = 1 := rfl; omega)
  have HR12 := Bx.mk hr12
  clear hr12
  refine any_take (i := 12) (.string r12) rfl rfl (by kernel_rfl) (by kernel_rfl) (by kernel_rfl) (by kernel_rfl) (fun _ _ d _ _ h => by cases d <;> exact h) (fun u hS => exec_addR HR12.out rfl rfl rfl (by have := HZ6.out; have : (({ data := #[38] } : ByteArray)).size = 1 := rfl; omega)) hq1 ?_
  (try simp only [Act.put]); (try simp only [List.getElem_toArray]); (try simp only [List.getElem_cons_succ]); (try simp only [List.getElem_cons_zero]); (try simp only [List.setIfInBounds_toArray]); (try simp only [List.set_cons_succ]); (try simp only [List.set_cons_zero])
  obtain ⟨r13, hr13⟩ : ∃ r, (r12 : ByteArray) ++ ({ data := #[32, 40] } : ByteArray) = r := ⟨_, rfl⟩
  have HZ13 := Bx.mk (show r13.size ≤ 320007 from by rw [← hr13, cat_sz]; have := HZ12.out; have : (({ data := #[32, 40] } : ByteArray)).size = 2 := rfl; omega)
  have HR13 := Bx.mk hr13
  clear hr13
  refine any_take (i := 13) (.string r13) rfl rfl (by kernel_rfl) (by kernel_rfl) (by kernel_rfl) (by kernel_rfl) (fun _ _ d _ _ h => by cases d <;> exact h) (fun u hS => exec_addR HR13.out rfl rfl rfl (by have := HZ12.out; have : (({ data := #[32, 40] } : ByteArray)).size = 2 := rfl; omega)) hq1 ?_
  (try simp only [Act.put]); (try simp only [List.getElem_toArray]); (try simp only [List.getElem_cons_succ]); (try simp only [List.getElem_cons_zero]); (try simp only [List.setIfInBounds_toArray]); (try simp only [List.set_cons_succ]); (try simp only [List.set_cons_zero])
  refine any_branch [18] (by kernel_rfl) rfl fun ix hix => ?_
  simp only [List.mem_cons, List.not_mem_nil, or_false] at hix
  subst hix
  refine any_op rfl rfl fun K hK => ?_
  go_simp
  have hc := IH.out y _ _ u1 BNy.out BPy.out (BKy.out.below hq1.be).2.2.2.2
  rw [HQy.out] at hc
  refine hc.mono ?_
  rintro e u2 ⟨rfl, hb⟩
  have hq2 := hq1.step hb
  refine hK _ _ (fun _ => hq2) ?_
  (try simp only [Act.put]); (try simp only [List.getElem_toArray]); (try simp only [List.getElem_cons_succ]); (try simp only [List.getElem_cons_zero]); (try simp only [List.setIfInBounds_toArray]); (try simp only [List.set_cons_succ]); (try simp only [List.set_cons_zero])
  clear hK
  obtain ⟨r19, hr19⟩ : ∃ r, (r13 : ByteArray) ++ qy = r := ⟨_, rfl⟩
  have HZ19 := Bx.mk (show r19.size ≤ 640007 from by rw [← hr19, cat_sz]; have := HZ13.out; have := BLy.out; omega)
  have HR19 := Bx.mk hr19
  clear hr19
  refine any_take (i := 19) (.string r19) rfl rfl (by kernel_rfl) (by kernel_rfl) (by kernel_rfl) (by kernel_rfl) (fun _ _ d _ _ h => by cases d <;> exact h) (fun u hS => exec_addR HR19.out rfl rfl rfl (by have := HZ13.out; have := BLy.out; omega)) hq2 ?_
  (try simp only [Act.put]); (try simp only [List.getElem_toArray]); (try simp only [List.getElem_cons_succ]); (try simp only [List.getElem_cons_zero]); (try simp only [List.setIfInBounds_toArray]); (try simp only [List.set_cons_succ]); (try simp only [List.set_cons_zero])
  obtain ⟨r20, hr20⟩ : ∃ r, (r19 : ByteArray) ++ ({ data := #[41, 41] } : ByteArray) = r := ⟨_, rfl⟩
  have HZ20 := Bx.mk (show r20.size ≤ 640009 from by rw [← hr20, cat_sz]; have := HZ19.out; have : (({ data := #[41, 41] } : ByteArray)).size = 2 := rfl; omega)
  have HR20 := Bx.mk hr20
  clear hr20
  refine any_take (i := 20) (.string r20) rfl rfl (by kernel_rfl) (by kernel_rfl) (by kernel_rfl) (by kernel_rfl) (fun _ _ d _ _ h => by cases d <;> exact h) (fun u hS => exec_addR HR20.out rfl rfl rfl (by have := HZ19.out; have : (({ data := #[41, 41] } : ByteArray)).size = 2 := rfl; omega)) hq2 ?_
  (try simp only [Act.put]); (try simp only [List.getElem_toArray]); (try simp only [List.getElem_cons_succ]); (try simp only [List.getElem_cons_zero]); (try simp only [List.setIfInBounds_toArray]); (try simp only [List.set_cons_succ]); (try simp only [List.set_cons_zero])
  refine any_branch [21] (by kernel_rfl) rfl fun ix hix => ?_
  simp only [List.mem_cons, List.not_mem_nil, or_false] at hix
  subst hix
  refine any_op rfl rfl fun K hK => ?_
  go_simp
  refine hK _ _ (fun _ => hq2) ?_
  (try simp only [Act.put]); (try simp only [List.getElem_toArray]); (try simp only [List.getElem_cons_succ]); (try simp only [List.getElem_cons_zero]); (try simp only [List.setIfInBounds_toArray]); (try simp only [List.set_cons_succ]); (try simp only [List.set_cons_zero])
  clear hK
  refine any_end (by kernel_rfl) ?_
  have HF := Bx.mk hq2.be
  clear hq0 hq1 hq2
  go_wp2_with fail
  go_ret
  refine ⟨congrArg (fun s => Ending.returned (Value.string s)) (ba_ext ?_), HF.out⟩
  rw [← HR20.out, ← HR19.out, ← HR13.out, ← HR12.out, ← HR6.out, ← HR5.out, ← HQx.out, ← HQy.out]
  simp only [ByteArray.data_append, Array.toList_append]
  unfold Ex.prk Ex.par Ex.sgn
  simp
set_option maxHeartbeats 16000000 in
theorem rput_5 (n : Nat) (hn1 : n ≤ 20000) (ih : P2z n) (a : Int) (m : Nat) (hm : m < 8) (b o cap : Nat) (w : World) (x : Tr) (sx : Value) (Kx : Kid w b o x sx) (Nx : (x.on .nil).nodes ≤ n) (Px : (x.on .nil).allPlain = true) (y : Tr) (sy : Value) (Ky : Kid w b (o + 4) y sy) (Ny : (y.on .nil).nodes ≤ n) (Py : (y.on .nil).allPlain = true) :
    Calls Try.prog 21 #[.agg #[.int .i64 5, .int .i64 a, .int .i64 (m : Int), .slice (some ⟨b, o, none⟩) 2 cap]] w fun e w' => e = .returned (.string ⟨(Ex.prk 5 (m : Int) [Ex.pr x, Ex.pr y]).toArray⟩) ∧ Below w.heap.size w w' := by
  have hw0 : (m : Int) % 10 = (m : Int) := by omega
  have hw1 : wrap64 (48 + (m : Int)) = 48 + (m : Int) := w64 _ (by omega)
  have hw2 : IntKind.i64.wrap (48 + (m : Int)) = 48 + (m : Int) := by rw [IntKind.wrap_i64]; omega
  have hw3 : IntKind.u8.wrap (48 + (m : Int)) = 48 + (m : Int) := by rw [IntKind.wrap_u8]; omega
  have hB := Blk.new (w.alloc (.cells #[.int .i64 5, .int .i64 a, .int .i64 (m : Int), .slice (some ⟨b, o, none⟩) 2 cap] 36)) 5 #[.int .u8 (48 + (m : Int))]
  have hO : OwnB ((w.alloc (.cells #[.int .i64 5, .int .i64 a, .int .i64 (m : Int), .slice (some ⟨b, o, none⟩) 2 cap] 36)).alloc (.cells #[.int .u8 (48 + (m : Int))] 5)) (w.heap.size + 1) (.slice (some ⟨w.heap.size + 1, 0, none⟩) 1 1) [Nat.toUInt8 (48 + m)] := by
    rw [alloc_size] at hB
    refine ⟨rfl, .inr ⟨w.heap.size + 1, 1, #[.int .u8 (48 + (m : Int))], rfl, Nat.le_refl _, hB.eq, Nat.le_refl _, by unfold maxLen; omega, rfl, ?_⟩⟩
    have e : ((Nat.toUInt8 (48 + m)).toNat : Int) = 48 + (m : Int) := by
      have : (Nat.toUInt8 (48 + m)).toNat = 48 + m := by simp [Nat.toUInt8, UInt8.toNat_ofNat', Nat.mod_eq_of_lt (show 48 + m < 256 by omega)]
      rw [this]; omega
    simp
    omega
  have hC := hO.str (by simp)
  have HE := Bx.mk (show (⟨#[48 + UInt8.ofNat m]⟩ : ByteArray) = strOf [48 + m] from by unfold strOf; simp [Nat.toUInt8])
  have H0 := Bx.mk (PT.start w 5 a (m : Int) (.slice (some ⟨b, o, none⟩) 2 cap) (.int .u8 (48 + (m : Int))))
  have HD := Bx.mk (dig_of m)
  have HDZ := Bx.mk (show (strOf [48 + m]).size = 1 from by rw [strOf_size]; rfl)
  clear hO hB
  have BKx := Bx.mk Kx
  have BNx := Bx.mk Nx
  have BPx := Bx.mk Px
  have BLx := Bx.mk (show (⟨(Ex.pr x).toArray⟩ : ByteArray).size ≤ 320000 from by have := pr_len x; rw [size_mk]; omega)
  have BKy := Bx.mk Ky
  have BNy := Bx.mk Ny
  have BPy := Bx.mk Py
  have BLy := Bx.mk (show (⟨(Ex.pr y).toArray⟩ : ByteArray).size ≤ 320000 from by have := pr_len y; rw [size_mk]; omega)
  have IH := Bx.mk ih
  clear ih Kx Nx Px Ky Ny Py
  go_enter Try.func21, Try.ntmps21
  go_wp2_with fail
  generalize hW : World.alloc (World.alloc (World.alloc _ _) _) _ = W0
  have H1 : Bx (PT w W0 5 a (m : Int) (.slice (some ⟨b, o, none⟩) 2 cap)) := ⟨by rw [← hW]; exact H0.out⟩
  clear hW H0 hC hw0 hw1 hw2 hw3
  rw [HE.out]
  generalize hds : strOf [48 + m] = ds at *
  clear hds
  obtain ⟨qx, hqx⟩ : ∃ q : ByteArray, (⟨(Ex.pr x).toArray⟩ : ByteArray) = q := ⟨_, rfl⟩
  rw [hqx] at BLx
  have HQx := Bx.mk hqx
  clear hqx
  obtain ⟨qy, hqy⟩ : ∃ q : ByteArray, (⟨(Ex.pr y).toArray⟩ : ByteArray) = q := ⟨_, rfl⟩
  rw [hqy] at BLy
  have HQy := Bx.mk hqy
  clear hqy
  refine region_any 100 (fun u => PT w u 5 a (m : Int) (.slice (some ⟨b, o, none⟩) 2 cap)) (by kernel_rfl) ?_
  generalize hu : World.drew _ = u0
  have hq0 := H1.out.step ((Below.refl _ _).drew)
  rw [hu] at hq0
  clear hu
  refine any_take (i := 0) (.pointer (some ⟨w.heap.size, 3, none⟩)) rfl rfl (by kernel_rfl) (by kernel_rfl) (by kernel_rfl) (by kernel_rfl) (fun _ _ d _ _ h => by cases d <;> exact h) (fun u hS => rfl) hq0 ?_
  (try simp only [Act.put]); (try simp only [List.getElem_toArray]); (try simp only [List.getElem_cons_succ]); (try simp only [List.getElem_cons_zero]); (try simp only [List.setIfInBounds_toArray]); (try simp only [List.set_cons_succ]); (try simp only [List.set_cons_zero])
  refine any_take (i := 1) (.slice (some ⟨b, o, none⟩) 2 cap) rfl rfl (by kernel_rfl) (by kernel_rfl) (by kernel_rfl) (by kernel_rfl) (fun _ _ d _ _ h => by cases d <;> exact h) (fun u hS => exec_loadS rfl rfl (hS.e.cell 3)) hq0 ?_
  (try simp only [Act.put]); (try simp only [List.getElem_toArray]); (try simp only [List.getElem_cons_succ]); (try simp only [List.getElem_cons_zero]); (try simp only [List.setIfInBounds_toArray]); (try simp only [List.set_cons_succ]); (try simp only [List.set_cons_zero])
  refine any_take (i := 2) (.pointer (some ⟨b, o, none⟩)) rfl rfl (by kernel_rfl) (by kernel_rfl) (by kernel_rfl) (by kernel_rfl) (fun _ _ d _ _ h => by cases d <;> exact h) (fun u hS => exec_ix02 rfl rfl rfl) hq0 ?_
  (try simp only [Act.put]); (try simp only [List.getElem_toArray]); (try simp only [List.getElem_cons_succ]); (try simp only [List.getElem_cons_zero]); (try simp only [List.setIfInBounds_toArray]); (try simp only [List.set_cons_succ]); (try simp only [List.set_cons_zero])
  refine any_take (i := 3) (Ev x sx) rfl rfl (by kernel_rfl) (by kernel_rfl) (by kernel_rfl) (by kernel_rfl) (fun _ _ d _ _ h => by cases d <;> exact h) (fun u hS => by obtain ⟨x0, x1, x2, x3, _⟩ := BKx.out.below hS.be; exact exec_loadX rfl rfl x0 x1 x2 x3) hq0 ?_
  (try simp only [Act.put]); (try simp only [List.getElem_toArray]); (try simp only [List.getElem_cons_succ]); (try simp only [List.getElem_cons_zero]); (try simp only [List.setIfInBounds_toArray]); (try simp only [List.set_cons_succ]); (try simp only [List.set_cons_zero])
  refine any_take (i := 14) (.pointer (some ⟨w.heap.size, 3, none⟩)) rfl rfl (by kernel_rfl) (by kernel_rfl) (by kernel_rfl) (by kernel_rfl) (fun _ _ d _ _ h => by cases d <;> exact h) (fun u hS => rfl) hq0 ?_
  (try simp only [Act.put]); (try simp only [List.getElem_toArray]); (try simp only [List.getElem_cons_succ]); (try simp only [List.getElem_cons_zero]); (try simp only [List.setIfInBounds_toArray]); (try simp only [List.set_cons_succ]); (try simp only [List.set_cons_zero])
  refine any_take (i := 15) (.slice (some ⟨b, o, none⟩) 2 cap) rfl rfl (by kernel_rfl) (by kernel_rfl) (by kernel_rfl) (by kernel_rfl) (fun _ _ d _ _ h => by cases d <;> exact h) (fun u hS => exec_loadS rfl rfl (hS.e.cell 3)) hq0 ?_
  (try simp only [Act.put]); (try simp only [List.getElem_toArray]); (try simp only [List.getElem_cons_succ]); (try simp only [List.getElem_cons_zero]); (try simp only [List.setIfInBounds_toArray]); (try simp only [List.set_cons_succ]); (try simp only [List.set_cons_zero])
  refine any_take (i := 16) (.pointer (some ⟨b, o + 4, none⟩)) rfl rfl (by kernel_rfl) (by kernel_rfl) (by kernel_rfl) (by kernel_rfl) (fun _ _ d _ _ h => by cases d <;> exact h) (fun u hS => exec_ix12 rfl rfl rfl) hq0 ?_
  (try simp only [Act.put]); (try simp only [List.getElem_toArray]); (try simp only [List.getElem_cons_succ]); (try simp only [List.getElem_cons_zero]); (try simp only [List.setIfInBounds_toArray]); (try simp only [List.set_cons_succ]); (try simp only [List.set_cons_zero])
  refine any_take (i := 17) (Ev y sy) rfl rfl (by kernel_rfl) (by kernel_rfl) (by kernel_rfl) (by kernel_rfl) (fun _ _ d _ _ h => by cases d <;> exact h) (fun u hS => by obtain ⟨x0, x1, x2, x3, _⟩ := BKy.out.below hS.be; exact exec_loadX rfl rfl x0 x1 x2 x3) hq0 ?_
  (try simp only [Act.put]); (try simp only [List.getElem_toArray]); (try simp only [List.getElem_cons_succ]); (try simp only [List.getElem_cons_zero]); (try simp only [List.setIfInBounds_toArray]); (try simp only [List.set_cons_succ]); (try simp only [List.set_cons_zero])
  refine any_take (i := 7) (.pointer (some ⟨w.heap.size, 0, none⟩)) rfl rfl (by kernel_rfl) (by kernel_rfl) (by kernel_rfl) (by kernel_rfl) (fun _ _ d _ _ h => by cases d <;> exact h) (fun u hS => rfl) hq0 ?_
  (try simp only [Act.put]); (try simp only [List.getElem_toArray]); (try simp only [List.getElem_cons_succ]); (try simp only [List.getElem_cons_zero]); (try simp only [List.setIfInBounds_toArray]); (try simp only [List.set_cons_succ]); (try simp only [List.set_cons_zero])
  refine any_take (i := 8) (.int .i64 5) rfl rfl (by kernel_rfl) (by kernel_rfl) (by kernel_rfl) (by kernel_rfl) (fun _ _ d _ _ h => by cases d <;> exact h) (fun u hS => exec_loadI rfl rfl (hS.e.cell 0)) hq0 ?_
  (try simp only [Act.put]); (try simp only [List.getElem_toArray]); (try simp only [List.getElem_cons_succ]); (try simp only [List.getElem_cons_zero]); (try simp only [List.setIfInBounds_toArray]); (try simp only [List.set_cons_succ]); (try simp only [List.set_cons_zero])
  refine any_take (i := 9) (.int .i64 1) rfl rfl (by kernel_rfl) (by kernel_rfl) (by kernel_rfl) (by kernel_rfl) (fun _ _ d _ _ h => by cases d <;> exact h) (fun u hS => exec_sub4 (by omega) (by omega) rfl rfl rfl) hq0 ?_
  (try simp only [Act.put]); (try simp only [List.getElem_toArray]); (try simp only [List.getElem_cons_succ]); (try simp only [List.getElem_cons_zero]); (try simp only [List.setIfInBounds_toArray]); (try simp only [List.set_cons_succ]); (try simp only [List.set_cons_zero])
  refine any_take (i := 10) (.pointer (some ⟨w.heap.size + 2, 1, none⟩)) rfl rfl (by kernel_rfl) (by kernel_rfl) (by kernel_rfl) (by kernel_rfl) (fun _ _ d _ _ h => by cases d <;> exact h) (fun u hS => exec_ix5 (j := 1) (by omega) rfl rfl rfl rfl) hq0 ?_
  (try simp only [Act.put]); (try simp only [List.getElem_toArray]); (try simp only [List.getElem_cons_succ]); (try simp only [List.getElem_cons_zero]); (try simp only [List.setIfInBounds_toArray]); (try simp only [List.set_cons_succ]); (try simp only [List.set_cons_zero])
  refine any_take (i := 11) (.string { data := #[124] }) rfl rfl (by kernel_rfl) (by kernel_rfl) (by kernel_rfl) (by kernel_rfl) (fun _ _ d _ _ h => by cases d <;> exact h) (fun u hS => exec_loadG rfl rfl (hS.g.cell 1)) hq0 ?_
  (try simp only [Act.put]); (try simp only [List.getElem_toArray]); (try simp only [List.getElem_cons_succ]); (try simp only [List.getElem_cons_zero]); (try simp only [List.setIfInBounds_toArray]); (try simp only [List.set_cons_succ]); (try simp only [List.set_cons_zero])
  refine any_branch [4] (by kernel_rfl) rfl fun ix hix => ?_
  simp only [List.mem_cons, List.not_mem_nil, or_false] at hix
  subst hix
  refine any_op rfl rfl fun K hK => ?_
  go_simp
  have hc := IH.out x _ _ u0 BNx.out BPx.out (BKx.out.below hq0.be).2.2.2.2
  rw [HQx.out] at hc
  refine hc.mono ?_
  rintro e u1 ⟨rfl, hb⟩
  have hq1 := hq0.step hb
  refine hK _ _ (fun _ => hq1) ?_
  (try simp only [Act.put]); (try simp only [List.getElem_toArray]); (try simp only [List.getElem_cons_succ]); (try simp only [List.getElem_cons_zero]); (try simp only [List.setIfInBounds_toArray]); (try simp only [List.set_cons_succ]); (try simp only [List.set_cons_zero])
  clear hK
  obtain ⟨r5, hr5⟩ : ∃ r, (({ data := #[40, 40] } : ByteArray) : ByteArray) ++ qx = r := ⟨_, rfl⟩
  have HZ5 := Bx.mk (show r5.size ≤ 320002 from by rw [← hr5, cat_sz]; have : (({ data := #[40, 40] } : ByteArray)).size = 2 := rfl; have := BLx.out; omega)
  have HR5 := Bx.mk hr5
  clear hr5
  refine any_take (i := 5) (.string r5) rfl rfl (by kernel_rfl) (by kernel_rfl) (by kernel_rfl) (by kernel_rfl) (fun _ _ d _ _ h => by cases d <;> exact h) (fun u hS => exec_addR HR5.out rfl rfl rfl (by have : (({ data := #[40, 40] } : ByteArray)).size = 2 := rfl; have := BLx.out; omega)) hq1 ?_
  (try simp only [Act.put]); (try simp only [List.getElem_toArray]); (try simp only [List.getElem_cons_succ]); (try simp only [List.getElem_cons_zero]); (try simp only [List.setIfInBounds_toArray]); (try simp only [List.set_cons_succ]); (try simp only [List.set_cons_zero])
  obtain ⟨r6, hr6⟩ : ∃ r, (r5 : ByteArray) ++ ({ data := #[41, 32] } : ByteArray) = r := ⟨_, rfl⟩
  have HZ6 := Bx.mk (show r6.size ≤ 320004 from by rw [← hr6, cat_sz]; have := HZ5.out; have : (({ data := #[41, 32] } : ByteArray)).size = 2 := rfl; omega)
  have HR6 := Bx.mk hr6
  clear hr6
  refine any_take (i := 6) (.string r6) rfl rfl (by kernel_rfl) (by kernel_rfl) (by kernel_rfl) (by kernel_rfl) (fun _ _ d _ _ h => by cases d <;> exact h) (fun u hS => exec_addR HR6.out rfl rfl rfl (by have := HZ5.out; have : (({ data := #[41, 32] } : ByteArray)).size = 2 := rfl; omega)) hq1 ?_
  (try simp only [Act.put]); (try simp only [List.getElem_toArray]); (try simp only [List.getElem_cons_succ]); (try simp only [List.getElem_cons_zero]); (try simp only [List.setIfInBounds_toArray]); (try simp only [List.set_cons_succ]); (try simp only [List.set_cons_zero])
  obtain ⟨r12, hr12⟩ : ∃ r, (r6 : ByteArray) ++ ({ data := #[124] } : ByteArray) = r := ⟨_, rfl⟩
  have HZ12 := Bx.mk (show r12.size ≤ 320005 from by rw [← hr12, cat_sz]; have := HZ6.out; have : (({ data := #[124] } : ByteArray)).size = 1 := rfl; omega)
  have HR12 := Bx.mk hr12
  clear hr12
  refine any_take (i := 12) (.string r12) rfl rfl (by kernel_rfl) (by kernel_rfl) (by kernel_rfl) (by kernel_rfl) (fun _ _ d _ _ h => by cases d <;> exact h) (fun u hS => exec_addR HR12.out rfl rfl rfl (by have := HZ6.out; have : (({ data := #[124] } : ByteArray)).size = 1 := rfl; omega)) hq1 ?_
  (try simp only [Act.put]); (try simp only [List.getElem_toArray]); (try simp only [List.getElem_cons_succ]); (try simp only [List.getElem_cons_zero]); (try simp only [List.setIfInBounds_toArray]); (try simp only [List.set_cons_succ]); (try simp only [List.set_cons_zero])
  obtain ⟨r13, hr13⟩ : ∃ r, (r12 : ByteArray) ++ ({ data := #[32, 40] } : ByteArray) = r := ⟨_, rfl⟩
  have HZ13 := Bx.mk (show r13.size ≤ 320007 from by rw [← hr13, cat_sz]; have := HZ12.out; have : (({ data := #[32, 40] } : ByteArray)).size = 2 := rfl; omega)
  have HR13 := Bx.mk hr13
  clear hr13
  refine any_take (i := 13) (.string r13) rfl rfl (by kernel_rfl) (by kernel_rfl) (by kernel_rfl) (by kernel_rfl) (fun _ _ d _ _ h => by cases d <;> exact h) (fun u hS => exec_addR HR13.out rfl rfl rfl (by have := HZ12.out; have : (({ data := #[32, 40] } : ByteArray)).size = 2 := rfl; omega)) hq1 ?_
  (try simp only [Act.put]); (try simp only [List.getElem_toArray]); (try simp only [List.getElem_cons_succ]); (try simp only [List.getElem_cons_zero]); (try simp only [List.setIfInBounds_toArray]); (try simp only [List.set_cons_succ]); (try simp only [List.set_cons_zero])
  refine any_branch [18] (by kernel_rfl) rfl fun ix hix => ?_
  simp only [List.mem_cons, List.not_mem_nil, or_false] at hix
  subst hix
  refine any_op rfl rfl fun K hK => ?_
  go_simp
  have hc := IH.out y _ _ u1 BNy.out BPy.out (BKy.out.below hq1.be).2.2.2.2
  rw [HQy.out] at hc
  refine hc.mono ?_
  rintro e u2 ⟨rfl, hb⟩
  have hq2 := hq1.step hb
  refine hK _ _ (fun _ => hq2) ?_
  (try simp only [Act.put]); (try simp only [List.getElem_toArray]); (try simp only [List.getElem_cons_succ]); (try simp only [List.getElem_cons_zero]); (try simp only [List.setIfInBounds_toArray]); (try simp only [List.set_cons_succ]); (try simp only [List.set_cons_zero])
  clear hK
  obtain ⟨r19, hr19⟩ : ∃ r, (r13 : ByteArray) ++ qy = r := ⟨_, rfl⟩
  have HZ19 := Bx.mk (show r19.size ≤ 640007 from by rw [← hr19, cat_sz]; have := HZ13.out; have := BLy.out; omega)
  have HR19 := Bx.mk hr19
  clear hr19
  refine any_take (i := 19) (.string r19) rfl rfl (by kernel_rfl) (by kernel_rfl) (by kernel_rfl) (by kernel_rfl) (fun _ _ d _ _ h => by cases d <;> exact h) (fun u hS => exec_addR HR19.out rfl rfl rfl (by have := HZ13.out; have := BLy.out; omega)) hq2 ?_
  (try simp only [Act.put]); (try simp only [List.getElem_toArray]); (try simp only [List.getElem_cons_succ]); (try simp only [List.getElem_cons_zero]); (try simp only [List.setIfInBounds_toArray]); (try simp only [List.set_cons_succ]); (try simp only [List.set_cons_zero])
  obtain ⟨r20, hr20⟩ : ∃ r, (r19 : ByteArray) ++ ({ data := #[41, 41] } : ByteArray) = r := ⟨_, rfl⟩
  have HZ20 := Bx.mk (show r20.size ≤ 640009 from by rw [← hr20, cat_sz]; have := HZ19.out; have : (({ data := #[41, 41] } : ByteArray)).size = 2 := rfl; omega)
  have HR20 := Bx.mk hr20
  clear hr20
  refine any_take (i := 20) (.string r20) rfl rfl (by kernel_rfl) (by kernel_rfl) (by kernel_rfl) (by kernel_rfl) (fun _ _ d _ _ h => by cases d <;> exact h) (fun u hS => exec_addR HR20.out rfl rfl rfl (by have := HZ19.out; have : (({ data := #[41, 41] } : ByteArray)).size = 2 := rfl; omega)) hq2 ?_
  (try simp only [Act.put]); (try simp only [List.getElem_toArray]); (try simp only [List.getElem_cons_succ]); (try simp only [List.getElem_cons_zero]); (try simp only [List.setIfInBounds_toArray]); (try simp only [List.set_cons_succ]); (try simp only [List.set_cons_zero])
  refine any_branch [21] (by kernel_rfl) rfl fun ix hix => ?_
  simp only [List.mem_cons, List.not_mem_nil, or_false] at hix
  subst hix
  refine any_op rfl rfl fun K hK => ?_
  go_simp
  refine hK _ _ (fun _ => hq2) ?_
  (try simp only [Act.put]); (try simp only [List.getElem_toArray]); (try simp only [List.getElem_cons_succ]); (try simp only [List.getElem_cons_zero]); (try simp only [List.setIfInBounds_toArray]); (try simp only [List.set_cons_succ]); (try simp only [List.set_cons_zero])
  clear hK
  refine any_end (by kernel_rfl) ?_
  have HF := Bx.mk hq2.be
  clear hq0 hq1 hq2
  go_wp2_with fail
  go_ret
  refine ⟨congrArg (fun s => Ending.returned (Value.string s)) (ba_ext ?_), HF.out⟩
  rw [← HR20.out, ← HR19.out, ← HR13.out, ← HR12.out, ← HR6.out, ← HR5.out, ← HQx.out, ← HQy.out]
  simp only [ByteArray.data_append, Array.toList_append]
  unfold Ex.prk Ex.par Ex.sgn
  simp
set_option maxHeartbeats 16000000 in
theorem rput_6 (n : Nat) (hn1 : n ≤ 20000) (ih : P2z n) (a : Int) (m : Nat) (hm : m < 8) (b o cap : Nat) (w : World) (x : Tr) (sx : Value) (Kx : Kid w b o x sx) (Nx : (x.on .nil).nodes ≤ n) (Px : (x.on .nil).allPlain = true) (y : Tr) (sy : Value) (Ky : Kid w b (o + 4) y sy) (Ny : (y.on .nil).nodes ≤ n) (Py : (y.on .nil).allPlain = true) :
    Calls Try.prog 21 #[.agg #[.int .i64 6, .int .i64 a, .int .i64 (m : Int), .slice (some ⟨b, o, none⟩) 2 cap]] w fun e w' => e = .returned (.string ⟨(Ex.prk 6 (m : Int) [Ex.pr x, Ex.pr y]).toArray⟩) ∧ Below w.heap.size w w' := by
  have hw0 : (m : Int) % 10 = (m : Int) := by omega
  have hw1 : wrap64 (48 + (m : Int)) = 48 + (m : Int) := w64 _ (by omega)
  have hw2 : IntKind.i64.wrap (48 + (m : Int)) = 48 + (m : Int) := by rw [IntKind.wrap_i64]; omega
  have hw3 : IntKind.u8.wrap (48 + (m : Int)) = 48 + (m : Int) := by rw [IntKind.wrap_u8]; omega
  have hB := Blk.new (w.alloc (.cells #[.int .i64 6, .int .i64 a, .int .i64 (m : Int), .slice (some ⟨b, o, none⟩) 2 cap] 36)) 5 #[.int .u8 (48 + (m : Int))]
  have hO : OwnB ((w.alloc (.cells #[.int .i64 6, .int .i64 a, .int .i64 (m : Int), .slice (some ⟨b, o, none⟩) 2 cap] 36)).alloc (.cells #[.int .u8 (48 + (m : Int))] 5)) (w.heap.size + 1) (.slice (some ⟨w.heap.size + 1, 0, none⟩) 1 1) [Nat.toUInt8 (48 + m)] := by
    rw [alloc_size] at hB
    refine ⟨rfl, .inr ⟨w.heap.size + 1, 1, #[.int .u8 (48 + (m : Int))], rfl, Nat.le_refl _, hB.eq, Nat.le_refl _, by unfold maxLen; omega, rfl, ?_⟩⟩
    have e : ((Nat.toUInt8 (48 + m)).toNat : Int) = 48 + (m : Int) := by
      have : (Nat.toUInt8 (48 + m)).toNat = 48 + m := by simp [Nat.toUInt8, UInt8.toNat_ofNat', Nat.mod_eq_of_lt (show 48 + m < 256 by omega)]
      rw [this]; omega
    simp
    omega
  have hC := hO.str (by simp)
  have HE := Bx.mk (show (⟨#[48 + UInt8.ofNat m]⟩ : ByteArray) = strOf [48 + m] from by unfold strOf; simp [Nat.toUInt8])
  have H0 := Bx.mk (PT.start w 6 a (m : Int) (.slice (some ⟨b, o, none⟩) 2 cap) (.int .u8 (48 + (m : Int))))
  have HD := Bx.mk (dig_of m)
  have HDZ := Bx.mk (show (strOf [48 + m]).size = 1 from by rw [strOf_size]; rfl)
  clear hO hB
  have BKx := Bx.mk Kx
  have BNx := Bx.mk Nx
  have BPx := Bx.mk Px
  have BLx := Bx.mk (show (⟨(Ex.pr x).toArray⟩ : ByteArray).size ≤ 320000 from by have := pr_len x; rw [size_mk]; omega)
  have BKy := Bx.mk Ky
  have BNy := Bx.mk Ny
  have BPy := Bx.mk Py
  have BLy := Bx.mk (show (⟨(Ex.pr y).toArray⟩ : ByteArray).size ≤ 320000 from by have := pr_len y; rw [size_mk]; omega)
  have IH := Bx.mk ih
  clear ih Kx Nx Px Ky Ny Py
  go_enter Try.func21, Try.ntmps21
  go_wp2_with fail
  generalize hW : World.alloc (World.alloc (World.alloc _ _) _) _ = W0
  have H1 : Bx (PT w W0 6 a (m : Int) (.slice (some ⟨b, o, none⟩) 2 cap)) := ⟨by rw [← hW]; exact H0.out⟩
  clear hW H0 hC hw0 hw1 hw2 hw3
  rw [HE.out]
  generalize hds : strOf [48 + m] = ds at *
  clear hds
  obtain ⟨qx, hqx⟩ : ∃ q : ByteArray, (⟨(Ex.pr x).toArray⟩ : ByteArray) = q := ⟨_, rfl⟩
  rw [hqx] at BLx
  have HQx := Bx.mk hqx
  clear hqx
  obtain ⟨qy, hqy⟩ : ∃ q : ByteArray, (⟨(Ex.pr y).toArray⟩ : ByteArray) = q := ⟨_, rfl⟩
  rw [hqy] at BLy
  have HQy := Bx.mk hqy
  clear hqy
  refine region_any 100 (fun u => PT w u 6 a (m : Int) (.slice (some ⟨b, o, none⟩) 2 cap)) (by kernel_rfl) ?_
  generalize hu : World.drew _ = u0
  have hq0 := H1.out.step ((Below.refl _ _).drew)
  rw [hu] at hq0
  clear hu
  refine any_take (i := 0) (.pointer (some ⟨w.heap.size, 3, none⟩)) rfl rfl (by kernel_rfl) (by kernel_rfl) (by kernel_rfl) (by kernel_rfl) (fun _ _ d _ _ h => by cases d <;> exact h) (fun u hS => rfl) hq0 ?_
  (try simp only [Act.put]); (try simp only [List.getElem_toArray]); (try simp only [List.getElem_cons_succ]); (try simp only [List.getElem_cons_zero]); (try simp only [List.setIfInBounds_toArray]); (try simp only [List.set_cons_succ]); (try simp only [List.set_cons_zero])
  refine any_take (i := 1) (.slice (some ⟨b, o, none⟩) 2 cap) rfl rfl (by kernel_rfl) (by kernel_rfl) (by kernel_rfl) (by kernel_rfl) (fun _ _ d _ _ h => by cases d <;> exact h) (fun u hS => exec_loadS rfl rfl (hS.e.cell 3)) hq0 ?_
  (try simp only [Act.put]); (try simp only [List.getElem_toArray]); (try simp only [List.getElem_cons_succ]); (try simp only [List.getElem_cons_zero]); (try simp only [List.setIfInBounds_toArray]); (try simp only [List.set_cons_succ]); (try simp only [List.set_cons_zero])
  refine any_take (i := 2) (.pointer (some ⟨b, o, none⟩)) rfl rfl (by kernel_rfl) (by kernel_rfl) (by kernel_rfl) (by kernel_rfl) (fun _ _ d _ _ h => by cases d <;> exact h) (fun u hS => exec_ix02 rfl rfl rfl) hq0 ?_
  (try simp only [Act.put]); (try simp only [List.getElem_toArray]); (try simp only [List.getElem_cons_succ]); (try simp only [List.getElem_cons_zero]); (try simp only [List.setIfInBounds_toArray]); (try simp only [List.set_cons_succ]); (try simp only [List.set_cons_zero])
  refine any_take (i := 3) (Ev x sx) rfl rfl (by kernel_rfl) (by kernel_rfl) (by kernel_rfl) (by kernel_rfl) (fun _ _ d _ _ h => by cases d <;> exact h) (fun u hS => by obtain ⟨x0, x1, x2, x3, _⟩ := BKx.out.below hS.be; exact exec_loadX rfl rfl x0 x1 x2 x3) hq0 ?_
  (try simp only [Act.put]); (try simp only [List.getElem_toArray]); (try simp only [List.getElem_cons_succ]); (try simp only [List.getElem_cons_zero]); (try simp only [List.setIfInBounds_toArray]); (try simp only [List.set_cons_succ]); (try simp only [List.set_cons_zero])
  refine any_take (i := 14) (.pointer (some ⟨w.heap.size, 3, none⟩)) rfl rfl (by kernel_rfl) (by kernel_rfl) (by kernel_rfl) (by kernel_rfl) (fun _ _ d _ _ h => by cases d <;> exact h) (fun u hS => rfl) hq0 ?_
  (try simp only [Act.put]); (try simp only [List.getElem_toArray]); (try simp only [List.getElem_cons_succ]); (try simp only [List.getElem_cons_zero]); (try simp only [List.setIfInBounds_toArray]); (try simp only [List.set_cons_succ]); (try simp only [List.set_cons_zero])
  refine any_take (i := 15) (.slice (some ⟨b, o, none⟩) 2 cap) rfl rfl (by kernel_rfl) (by kernel_rfl) (by kernel_rfl) (by kernel_rfl) (fun _ _ d _ _ h => by cases d <;> exact h) (fun u hS => exec_loadS rfl rfl (hS.e.cell 3)) hq0 ?_
  (try simp only [Act.put]); (try simp only [List.getElem_toArray]); (try simp only [List.getElem_cons_succ]); (try simp only [List.getElem_cons_zero]); (try simp only [List.setIfInBounds_toArray]); (try simp only [List.set_cons_succ]); (try simp only [List.set_cons_zero])
  refine any_take (i := 16) (.pointer (some ⟨b, o + 4, none⟩)) rfl rfl (by kernel_rfl) (by kernel_rfl) (by kernel_rfl) (by kernel_rfl) (fun _ _ d _ _ h => by cases d <;> exact h) (fun u hS => exec_ix12 rfl rfl rfl) hq0 ?_
  (try simp only [Act.put]); (try simp only [List.getElem_toArray]); (try simp only [List.getElem_cons_succ]); (try simp only [List.getElem_cons_zero]); (try simp only [List.setIfInBounds_toArray]); (try simp only [List.set_cons_succ]); (try simp only [List.set_cons_zero])
  refine any_take (i := 17) (Ev y sy) rfl rfl (by kernel_rfl) (by kernel_rfl) (by kernel_rfl) (by kernel_rfl) (fun _ _ d _ _ h => by cases d <;> exact h) (fun u hS => by obtain ⟨x0, x1, x2, x3, _⟩ := BKy.out.below hS.be; exact exec_loadX rfl rfl x0 x1 x2 x3) hq0 ?_
  (try simp only [Act.put]); (try simp only [List.getElem_toArray]); (try simp only [List.getElem_cons_succ]); (try simp only [List.getElem_cons_zero]); (try simp only [List.setIfInBounds_toArray]); (try simp only [List.set_cons_succ]); (try simp only [List.set_cons_zero])
  refine any_take (i := 7) (.pointer (some ⟨w.heap.size, 0, none⟩)) rfl rfl (by kernel_rfl) (by kernel_rfl) (by kernel_rfl) (by kernel_rfl) (fun _ _ d _ _ h => by cases d <;> exact h) (fun u hS => rfl) hq0 ?_
  (try simp only [Act.put]); (try simp only [List.getElem_toArray]); (try simp only [List.getElem_cons_succ]); (try simp only [List.getElem_cons_zero]); (try simp only [List.setIfInBounds_toArray]); (try simp only [List.set_cons_succ]); (try simp only [List.set_cons_zero])
  refine any_take (i := 8) (.int .i64 6) rfl rfl (by kernel_rfl) (by kernel_rfl) (by kernel_rfl) (by kernel_rfl) (fun _ _ d _ _ h => by cases d <;> exact h) (fun u hS => exec_loadI rfl rfl (hS.e.cell 0)) hq0 ?_
  (try simp only [Act.put]); (try simp only [List.getElem_toArray]); (try simp only [List.getElem_cons_succ]); (try simp only [List.getElem_cons_zero]); (try simp only [List.setIfInBounds_toArray]); (try simp only [List.set_cons_succ]); (try simp only [List.set_cons_zero])
  refine any_take (i := 9) (.int .i64 2) rfl rfl (by kernel_rfl) (by kernel_rfl) (by kernel_rfl) (by kernel_rfl) (fun _ _ d _ _ h => by cases d <;> exact h) (fun u hS => exec_sub4 (by omega) (by omega) rfl rfl rfl) hq0 ?_
  (try simp only [Act.put]); (try simp only [List.getElem_toArray]); (try simp only [List.getElem_cons_succ]); (try simp only [List.getElem_cons_zero]); (try simp only [List.setIfInBounds_toArray]); (try simp only [List.set_cons_succ]); (try simp only [List.set_cons_zero])
  refine any_take (i := 10) (.pointer (some ⟨w.heap.size + 2, 2, none⟩)) rfl rfl (by kernel_rfl) (by kernel_rfl) (by kernel_rfl) (by kernel_rfl) (fun _ _ d _ _ h => by cases d <;> exact h) (fun u hS => exec_ix5 (j := 2) (by omega) rfl rfl rfl rfl) hq0 ?_
  (try simp only [Act.put]); (try simp only [List.getElem_toArray]); (try simp only [List.getElem_cons_succ]); (try simp only [List.getElem_cons_zero]); (try simp only [List.setIfInBounds_toArray]); (try simp only [List.set_cons_succ]); (try simp only [List.set_cons_zero])
  refine any_take (i := 11) (.string { data := #[94] }) rfl rfl (by kernel_rfl) (by kernel_rfl) (by kernel_rfl) (by kernel_rfl) (fun _ _ d _ _ h => by cases d <;> exact h) (fun u hS => exec_loadG rfl rfl (hS.g.cell 2)) hq0 ?_
  (try simp only [Act.put]); (try simp only [List.getElem_toArray]); (try simp only [List.getElem_cons_succ]); (try simp only [List.getElem_cons_zero]); (try simp only [List.setIfInBounds_toArray]); (try simp only [List.set_cons_succ]); (try simp only [List.set_cons_zero])
  refine any_branch [4] (by kernel_rfl) rfl fun ix hix => ?_
  simp only [List.mem_cons, List.not_mem_nil, or_false] at hix
  subst hix
  refine any_op rfl rfl fun K hK => ?_
  go_simp
  have hc := IH.out x _ _ u0 BNx.out BPx.out (BKx.out.below hq0.be).2.2.2.2
  rw [HQx.out] at hc
  refine hc.mono ?_
  rintro e u1 ⟨rfl, hb⟩
  have hq1 := hq0.step hb
  refine hK _ _ (fun _ => hq1) ?_
  (try simp only [Act.put]); (try simp only [List.getElem_toArray]); (try simp only [List.getElem_cons_succ]); (try simp only [List.getElem_cons_zero]); (try simp only [List.setIfInBounds_toArray]); (try simp only [List.set_cons_succ]); (try simp only [List.set_cons_zero])
  clear hK
  obtain ⟨r5, hr5⟩ : ∃ r, (({ data := #[40, 40] } : ByteArray) : ByteArray) ++ qx = r := ⟨_, rfl⟩
  have HZ5 := Bx.mk (show r5.size ≤ 320002 from by rw [← hr5, cat_sz]; have : (({ data := #[40, 40] } : ByteArray)).size = 2 := rfl; have := BLx.out; omega)
  have HR5 := Bx.mk hr5
  clear hr5
  refine any_take (i := 5) (.string r5) rfl rfl (by kernel_rfl) (by kernel_rfl) (by kernel_rfl) (by kernel_rfl) (fun _ _ d _ _ h => by cases d <;> exact h) (fun u hS => exec_addR HR5.out rfl rfl rfl (by have : (({ data := #[40, 40] } : ByteArray)).size = 2 := rfl; have := BLx.out; omega)) hq1 ?_
  (try simp only [Act.put]); (try simp only [List.getElem_toArray]); (try simp only [List.getElem_cons_succ]); (try simp only [List.getElem_cons_zero]); (try simp only [List.setIfInBounds_toArray]); (try simp only [List.set_cons_succ]); (try simp only [List.set_cons_zero])
  obtain ⟨r6, hr6⟩ : ∃ r, (r5 : ByteArray) ++ ({ data := #[41, 32] } : ByteArray) = r := ⟨_, rfl⟩
  have HZ6 := Bx.mk (show r6.size ≤ 320004 from by rw [← hr6, cat_sz]; have := HZ5.out; have : (({ data := #[41, 32] } : ByteArray)).size = 2 := rfl; omega)
  have HR6 := Bx.mk hr6
  clear hr6
  refine any_take (i := 6) (.string r6) rfl rfl (by kernel_rfl) (by kernel_rfl) (by kernel_rfl) (by kernel_rfl) (fun _ _ d _ _ h => by cases d <;> exact h) (fun u hS => exec_addR HR6.out rfl rfl rfl (by have := HZ5.out; have : (({ data := #[41, 32] } : ByteArray)).size = 2 := rfl; omega)) hq1 ?_
  (try simp only [Act.put]); (try simp only [List.getElem_toArray]); (try simp only [List.getElem_cons_succ]); (try simp only [List.getElem_cons_zero]); (try simp only [List.setIfInBounds_toArray]); (try simp only [List.set_cons_succ]); (try simp only [List.set_cons_zero])
  obtain ⟨r12, hr12⟩ : ∃ r, (r6 : ByteArray) ++ ({ data := #[94] } : ByteArray) = r := ⟨_, rfl⟩
  have HZ12 := Bx.mk (show r12.size ≤ 320005 from by rw [← hr12, cat_sz]; have := HZ6.out; have : (({ data := #[94] } : ByteArray)).size = 1 := rfl; omega)
  have HR12 := Bx.mk hr12
  clear hr12
  refine any_take (i := 12) (.string r12) rfl rfl (by kernel_rfl) (by kernel_rfl) (by kernel_rfl) (by kernel_rfl) (fun _ _ d _ _ h => by cases d <;> exact h) (fun u hS => exec_addR HR12.out rfl rfl rfl (by have := HZ6.out; have : (({ data := #[94] } : ByteArray)).size = 1 := rfl; omega)) hq1 ?_
  (try simp only [Act.put]); (try simp only [List.getElem_toArray]); (try simp only [List.getElem_cons_succ]); (try simp only [List.getElem_cons_zero]); (try simp only [List.setIfInBounds_toArray]); (try simp only [List.set_cons_succ]); (try simp only [List.set_cons_zero])
  obtain ⟨r13, hr13⟩ : ∃ r, (r12 : ByteArray) ++ ({ data := #[32, 40] } : ByteArray) = r := ⟨_, rfl⟩
  have HZ13 := Bx.mk (show r13.size ≤ 320007 from by rw [← hr13, cat_sz]; have := HZ12.out; have : (({ data := #[32, 40] } : ByteArray)).size = 2 := rfl; omega)
  have HR13 := Bx.mk hr13
  clear hr13
  refine any_take (i := 13) (.string r13) rfl rfl (by kernel_rfl) (by kernel_rfl) (by kernel_rfl) (by kernel_rfl) (fun _ _ d _ _ h => by cases d <;> exact h) (fun u hS => exec_addR HR13.out rfl rfl rfl (by have := HZ12.out; have : (({ data := #[32, 40] } : ByteArray)).size = 2 := rfl; omega)) hq1 ?_
  (try simp only [Act.put]); (try simp only [List.getElem_toArray]); (try simp only [List.getElem_cons_succ]); (try simp only [List.getElem_cons_zero]); (try simp only [List.setIfInBounds_toArray]); (try simp only [List.set_cons_succ]); (try simp only [List.set_cons_zero])
  refine any_branch [18] (by kernel_rfl) rfl fun ix hix => ?_
  simp only [List.mem_cons, List.not_mem_nil, or_false] at hix
  subst hix
  refine any_op rfl rfl fun K hK => ?_
  go_simp
  have hc := IH.out y _ _ u1 BNy.out BPy.out (BKy.out.below hq1.be).2.2.2.2
  rw [HQy.out] at hc
  refine hc.mono ?_
  rintro e u2 ⟨rfl, hb⟩
  have hq2 := hq1.step hb
  refine hK _ _ (fun _ => hq2) ?_
  (try simp only [Act.put]); (try simp only [List.getElem_toArray]); (try simp only [List.getElem_cons_succ]); (try simp only [List.getElem_cons_zero]); (try simp only [List.setIfInBounds_toArray]); (try simp only [List.set_cons_succ]); (try simp only [List.set_cons_zero])
  clear hK
  obtain ⟨r19, hr19⟩ : ∃ r, (r13 : ByteArray) ++ qy = r := ⟨_, rfl⟩
  have HZ19 := Bx.mk (show r19.size ≤ 640007 from by rw [← hr19, cat_sz]; have := HZ13.out; have := BLy.out; omega)
  have HR19 := Bx.mk hr19
  clear hr19
  refine any_take (i := 19) (.string r19) rfl rfl (by kernel_rfl) (by kernel_rfl) (by kernel_rfl) (by kernel_rfl) (fun _ _ d _ _ h => by cases d <;> exact h) (fun u hS => exec_addR HR19.out rfl rfl rfl (by have := HZ13.out; have := BLy.out; omega)) hq2 ?_
  (try simp only [Act.put]); (try simp only [List.getElem_toArray]); (try simp only [List.getElem_cons_succ]); (try simp only [List.getElem_cons_zero]); (try simp only [List.setIfInBounds_toArray]); (try simp only [List.set_cons_succ]); (try simp only [List.set_cons_zero])
  obtain ⟨r20, hr20⟩ : ∃ r, (r19 : ByteArray) ++ ({ data := #[41, 41] } : ByteArray) = r := ⟨_, rfl⟩
  have HZ20 := Bx.mk (show r20.size ≤ 640009 from by rw [← hr20, cat_sz]; have := HZ19.out; have : (({ data := #[41, 41] } : ByteArray)).size = 2 := rfl; omega)
  have HR20 := Bx.mk hr20
  clear hr20
  refine any_take (i := 20) (.string r20) rfl rfl (by kernel_rfl) (by kernel_rfl) (by kernel_rfl) (by kernel_rfl) (fun _ _ d _ _ h => by cases d <;> exact h) (fun u hS => exec_addR HR20.out rfl rfl rfl (by have := HZ19.out; have : (({ data := #[41, 41] } : ByteArray)).size = 2 := rfl; omega)) hq2 ?_
  (try simp only [Act.put]); (try simp only [List.getElem_toArray]); (try simp only [List.getElem_cons_succ]); (try simp only [List.getElem_cons_zero]); (try simp only [List.setIfInBounds_toArray]); (try simp only [List.set_cons_succ]); (try simp only [List.set_cons_zero])
  refine any_branch [21] (by kernel_rfl) rfl fun ix hix => ?_
  simp only [List.mem_cons, List.not_mem_nil, or_false] at hix
  subst hix
  refine any_op rfl rfl fun K hK => ?_
  go_simp
  refine hK _ _ (fun _ => hq2) ?_
  (try simp only [Act.put]); (try simp only [List.getElem_toArray]); (try simp only [List.getElem_cons_succ]); (try simp only [List.getElem_cons_zero]); (try simp only [List.setIfInBounds_toArray]); (try simp only [List.set_cons_succ]); (try simp only [List.set_cons_zero])
  clear hK
  refine any_end (by kernel_rfl) ?_
  have HF := Bx.mk hq2.be
  clear hq0 hq1 hq2
  go_wp2_with fail
  go_ret
  refine ⟨congrArg (fun s => Ending.returned (Value.string s)) (ba_ext ?_), HF.out⟩
  rw [← HR20.out, ← HR19.out, ← HR13.out, ← HR12.out, ← HR6.out, ← HR5.out, ← HQx.out, ← HQy.out]
  simp only [ByteArray.data_append, Array.toList_append]
  unfold Ex.prk Ex.par Ex.sgn
  simp
set_option maxHeartbeats 16000000 in
theorem rput_7 (n : Nat) (hn1 : n ≤ 20000) (ih : P2z n) (a : Int) (m : Nat) (hm : m < 8) (b o cap : Nat) (w : World) (x : Tr) (sx : Value) (Kx : Kid w b o x sx) (Nx : (x.on .nil).nodes ≤ n) (Px : (x.on .nil).allPlain = true) (y : Tr) (sy : Value) (Ky : Kid w b (o + 4) y sy) (Ny : (y.on .nil).nodes ≤ n) (Py : (y.on .nil).allPlain = true) :
    Calls Try.prog 21 #[.agg #[.int .i64 7, .int .i64 a, .int .i64 (m : Int), .slice (some ⟨b, o, none⟩) 2 cap]] w fun e w' => e = .returned (.string ⟨(Ex.prk 7 (m : Int) [Ex.pr x, Ex.pr y]).toArray⟩) ∧ Below w.heap.size w w' := by
  have hw0 : (m : Int) % 10 = (m : Int) := by omega
  have hw1 : wrap64 (48 + (m : Int)) = 48 + (m : Int) := w64 _ (by omega)
  have hw2 : IntKind.i64.wrap (48 + (m : Int)) = 48 + (m : Int) := by rw [IntKind.wrap_i64]; omega
  have hw3 : IntKind.u8.wrap (48 + (m : Int)) = 48 + (m : Int) := by rw [IntKind.wrap_u8]; omega
  have hB := Blk.new (w.alloc (.cells #[.int .i64 7, .int .i64 a, .int .i64 (m : Int), .slice (some ⟨b, o, none⟩) 2 cap] 36)) 5 #[.int .u8 (48 + (m : Int))]
  have hO : OwnB ((w.alloc (.cells #[.int .i64 7, .int .i64 a, .int .i64 (m : Int), .slice (some ⟨b, o, none⟩) 2 cap] 36)).alloc (.cells #[.int .u8 (48 + (m : Int))] 5)) (w.heap.size + 1) (.slice (some ⟨w.heap.size + 1, 0, none⟩) 1 1) [Nat.toUInt8 (48 + m)] := by
    rw [alloc_size] at hB
    refine ⟨rfl, .inr ⟨w.heap.size + 1, 1, #[.int .u8 (48 + (m : Int))], rfl, Nat.le_refl _, hB.eq, Nat.le_refl _, by unfold maxLen; omega, rfl, ?_⟩⟩
    have e : ((Nat.toUInt8 (48 + m)).toNat : Int) = 48 + (m : Int) := by
      have : (Nat.toUInt8 (48 + m)).toNat = 48 + m := by simp [Nat.toUInt8, UInt8.toNat_ofNat', Nat.mod_eq_of_lt (show 48 + m < 256 by omega)]
      rw [this]; omega
    simp
    omega
  have hC := hO.str (by simp)
  have HE := Bx.mk (show (⟨#[48 + UInt8.ofNat m]⟩ : ByteArray) = strOf [48 + m] from by unfold strOf; simp [Nat.toUInt8])
  have H0 := Bx.mk (PT.start w 7 a (m : Int) (.slice (some ⟨b, o, none⟩) 2 cap) (.int .u8 (48 + (m : Int))))
  have HD := Bx.mk (dig_of m)
  have HDZ := Bx.mk (show (strOf [48 + m]).size = 1 from by rw [strOf_size]; rfl)
  clear hO hB
  have BKx := Bx.mk Kx
  have BNx := Bx.mk Nx
  have BPx := Bx.mk Px
  have BLx := Bx.mk (show (⟨(Ex.pr x).toArray⟩ : ByteArray).size ≤ 320000 from by have := pr_len x; rw [size_mk]; omega)
  have BKy := Bx.mk Ky
  have BNy := Bx.mk Ny
  have BPy := Bx.mk Py
  have BLy := Bx.mk (show (⟨(Ex.pr y).toArray⟩ : ByteArray).size ≤ 320000 from by have := pr_len y; rw [size_mk]; omega)
  have IH := Bx.mk ih
  clear ih Kx Nx Px Ky Ny Py
  go_enter Try.func21, Try.ntmps21
  go_wp2_with fail
  generalize hW : World.alloc (World.alloc (World.alloc _ _) _) _ = W0
  have H1 : Bx (PT w W0 7 a (m : Int) (.slice (some ⟨b, o, none⟩) 2 cap)) := ⟨by rw [← hW]; exact H0.out⟩
  clear hW H0 hC hw0 hw1 hw2 hw3
  rw [HE.out]
  generalize hds : strOf [48 + m] = ds at *
  clear hds
  obtain ⟨qx, hqx⟩ : ∃ q : ByteArray, (⟨(Ex.pr x).toArray⟩ : ByteArray) = q := ⟨_, rfl⟩
  rw [hqx] at BLx
  have HQx := Bx.mk hqx
  clear hqx
  obtain ⟨qy, hqy⟩ : ∃ q : ByteArray, (⟨(Ex.pr y).toArray⟩ : ByteArray) = q := ⟨_, rfl⟩
  rw [hqy] at BLy
  have HQy := Bx.mk hqy
  clear hqy
  refine region_any 100 (fun u => PT w u 7 a (m : Int) (.slice (some ⟨b, o, none⟩) 2 cap)) (by kernel_rfl) ?_
  generalize hu : World.drew _ = u0
  have hq0 := H1.out.step ((Below.refl _ _).drew)
  rw [hu] at hq0
  clear hu
  refine any_take (i := 0) (.pointer (some ⟨w.heap.size, 3, none⟩)) rfl rfl (by kernel_rfl) (by kernel_rfl) (by kernel_rfl) (by kernel_rfl) (fun _ _ d _ _ h => by cases d <;> exact h) (fun u hS => rfl) hq0 ?_
  (try simp only [Act.put]); (try simp only [List.getElem_toArray]); (try simp only [List.getElem_cons_succ]); (try simp only [List.getElem_cons_zero]); (try simp only [List.setIfInBounds_toArray]); (try simp only [List.set_cons_succ]); (try simp only [List.set_cons_zero])
  refine any_take (i := 1) (.slice (some ⟨b, o, none⟩) 2 cap) rfl rfl (by kernel_rfl) (by kernel_rfl) (by kernel_rfl) (by kernel_rfl) (fun _ _ d _ _ h => by cases d <;> exact h) (fun u hS => exec_loadS rfl rfl (hS.e.cell 3)) hq0 ?_
  (try simp only [Act.put]); (try simp only [List.getElem_toArray]); (try simp only [List.getElem_cons_succ]); (try simp only [List.getElem_cons_zero]); (try simp only [List.setIfInBounds_toArray]); (try simp only [List.set_cons_succ]); (try simp only [List.set_cons_zero])
  refine any_take (i := 2) (.pointer (some ⟨b, o, none⟩)) rfl rfl (by kernel_rfl) (by kernel_rfl) (by kernel_rfl) (by kernel_rfl) (fun _ _ d _ _ h => by cases d <;> exact h) (fun u hS => exec_ix02 rfl rfl rfl) hq0 ?_
  (try simp only [Act.put]); (try simp only [List.getElem_toArray]); (try simp only [List.getElem_cons_succ]); (try simp only [List.getElem_cons_zero]); (try simp only [List.setIfInBounds_toArray]); (try simp only [List.set_cons_succ]); (try simp only [List.set_cons_zero])
  refine any_take (i := 3) (Ev x sx) rfl rfl (by kernel_rfl) (by kernel_rfl) (by kernel_rfl) (by kernel_rfl) (fun _ _ d _ _ h => by cases d <;> exact h) (fun u hS => by obtain ⟨x0, x1, x2, x3, _⟩ := BKx.out.below hS.be; exact exec_loadX rfl rfl x0 x1 x2 x3) hq0 ?_
  (try simp only [Act.put]); (try simp only [List.getElem_toArray]); (try simp only [List.getElem_cons_succ]); (try simp only [List.getElem_cons_zero]); (try simp only [List.setIfInBounds_toArray]); (try simp only [List.set_cons_succ]); (try simp only [List.set_cons_zero])
  refine any_take (i := 14) (.pointer (some ⟨w.heap.size, 3, none⟩)) rfl rfl (by kernel_rfl) (by kernel_rfl) (by kernel_rfl) (by kernel_rfl) (fun _ _ d _ _ h => by cases d <;> exact h) (fun u hS => rfl) hq0 ?_
  (try simp only [Act.put]); (try simp only [List.getElem_toArray]); (try simp only [List.getElem_cons_succ]); (try simp only [List.getElem_cons_zero]); (try simp only [List.setIfInBounds_toArray]); (try simp only [List.set_cons_succ]); (try simp only [List.set_cons_zero])
  refine any_take (i := 15) (.slice (some ⟨b, o, none⟩) 2 cap) rfl rfl (by kernel_rfl) (by kernel_rfl) (by kernel_rfl) (by kernel_rfl) (fun _ _ d _ _ h => by cases d <;> exact h) (fun u hS => exec_loadS rfl rfl (hS.e.cell 3)) hq0 ?_
  (try simp only [Act.put]); (try simp only [List.getElem_toArray]); (try simp only [List.getElem_cons_succ]); (try simp only [List.getElem_cons_zero]); (try simp only [List.setIfInBounds_toArray]); (try simp only [List.set_cons_succ]); (try simp only [List.set_cons_zero])
  refine any_take (i := 16) (.pointer (some ⟨b, o + 4, none⟩)) rfl rfl (by kernel_rfl) (by kernel_rfl) (by kernel_rfl) (by kernel_rfl) (fun _ _ d _ _ h => by cases d <;> exact h) (fun u hS => exec_ix12 rfl rfl rfl) hq0 ?_
  (try simp only [Act.put]); (try simp only [List.getElem_toArray]); (try simp only [List.getElem_cons_succ]); (try simp only [List.getElem_cons_zero]); (try simp only [List.setIfInBounds_toArray]); (try simp only [List.set_cons_succ]); (try simp only [List.set_cons_zero])
  refine any_take (i := 17) (Ev y sy) rfl rfl (by kernel_rfl) (by kernel_rfl) (by kernel_rfl) (by kernel_rfl) (fun _ _ d _ _ h => by cases d <;> exact h) (fun u hS => by obtain ⟨x0, x1, x2, x3, _⟩ := BKy.out.below hS.be; exact exec_loadX rfl rfl x0 x1 x2 x3) hq0 ?_
  (try simp only [Act.put]); (try simp only [List.getElem_toArray]); (try simp only [List.getElem_cons_succ]); (try simp only [List.getElem_cons_zero]); (try simp only [List.setIfInBounds_toArray]); (try simp only [List.set_cons_succ]); (try simp only [List.set_cons_zero])
  refine any_take (i := 7) (.pointer (some ⟨w.heap.size, 0, none⟩)) rfl rfl (by kernel_rfl) (by kernel_rfl) (by kernel_rfl) (by kernel_rfl) (fun _ _ d _ _ h => by cases d <;> exact h) (fun u hS => rfl) hq0 ?_
  (try simp only [Act.put]); (try simp only [List.getElem_toArray]); (try simp only [List.getElem_cons_succ]); (try simp only [List.getElem_cons_zero]); (try simp only [List.setIfInBounds_toArray]); (try simp only [List.set_cons_succ]); (try simp only [List.set_cons_zero])
  refine any_take (i := 8) (.int .i64 7) rfl rfl (by kernel_rfl) (by kernel_rfl) (by kernel_rfl) (by kernel_rfl) (fun _ _ d _ _ h => by cases d <;> exact h) (fun u hS => exec_loadI rfl rfl (hS.e.cell 0)) hq0 ?_
  (try simp only [Act.put]); (try simp only [List.getElem_toArray]); (try simp only [List.getElem_cons_succ]); (try simp only [List.getElem_cons_zero]); (try simp only [List.setIfInBounds_toArray]); (try simp only [List.set_cons_succ]); (try simp only [List.set_cons_zero])
  refine any_take (i := 9) (.int .i64 3) rfl rfl (by kernel_rfl) (by kernel_rfl) (by kernel_rfl) (by kernel_rfl) (fun _ _ d _ _ h => by cases d <;> exact h) (fun u hS => exec_sub4 (by omega) (by omega) rfl rfl rfl) hq0 ?_
  (try simp only [Act.put]); (try simp only [List.getElem_toArray]); (try simp only [List.getElem_cons_succ]); (try simp only [List.getElem_cons_zero]); (try simp only [List.setIfInBounds_toArray]); (try simp only [List.set_cons_succ]); (try simp only [List.set_cons_zero])
  refine any_take (i := 10) (.pointer (some ⟨w.heap.size + 2, 3, none⟩)) rfl rfl (by kernel_rfl) (by kernel_rfl) (by kernel_rfl) (by kernel_rfl) (fun _ _ d _ _ h => by cases d <;> exact h) (fun u hS => exec_ix5 (j := 3) (by omega) rfl rfl rfl rfl) hq0 ?_
  (try simp only [Act.put]); (try simp only [List.getElem_toArray]); (try simp only [List.getElem_cons_succ]); (try simp only [List.getElem_cons_zero]); (try simp only [List.setIfInBounds_toArray]); (try simp only [List.set_cons_succ]); (try simp only [List.set_cons_zero])
  refine any_take (i := 11) (.string { data := #[45, 62] }) rfl rfl (by kernel_rfl) (by kernel_rfl) (by kernel_rfl) (by kernel_rfl) (fun _ _ d _ _ h => by cases d <;> exact h) (fun u hS => exec_loadG rfl rfl (hS.g.cell 3)) hq0 ?_
  (try simp only [Act.put]); (try simp only [List.getElem_toArray]); (try simp only [List.getElem_cons_succ]); (try simp only [List.getElem_cons_zero]); (try simp only [List.setIfInBounds_toArray]); (try simp only [List.set_cons_succ]); (try simp only [List.set_cons_zero])
  refine any_branch [4] (by kernel_rfl) rfl fun ix hix => ?_
  simp only [List.mem_cons, List.not_mem_nil, or_false] at hix
  subst hix
  refine any_op rfl rfl fun K hK => ?_
  go_simp
  have hc := IH.out x _ _ u0 BNx.out BPx.out (BKx.out.below hq0.be).2.2.2.2
  rw [HQx.out] at hc
  refine hc.mono ?_
  rintro e u1 ⟨rfl, hb⟩
  have hq1 := hq0.step hb
  refine hK _ _ (fun _ => hq1) ?_
  (try simp only [Act.put]); (try simp only [List.getElem_toArray]); (try simp only [List.getElem_cons_succ]); (try simp only [List.getElem_cons_zero]); (try simp only [List.setIfInBounds_toArray]); (try simp only [List.set_cons_succ]); (try simp only [List.set_cons_zero])
  clear hK
  obtain ⟨r5, hr5⟩ : ∃ r, (({ data := #[40, 40] } : ByteArray) : ByteArray) ++ qx = r := ⟨_, rfl⟩
  have HZ5 := Bx.mk (show r5.size ≤ 320002 from by rw [← hr5, cat_sz]; have : (({ data := #[40, 40] } : ByteArray)).size = 2 := rfl; have := BLx.out; omega)
  have HR5 := Bx.mk hr5
  clear hr5
  refine any_take (i := 5) (.string r5) rfl rfl (by kernel_rfl) (by kernel_rfl) (by kernel_rfl) (by kernel_rfl) (fun _ _ d _ _ h => by cases d <;> exact h) (fun u hS => exec_addR HR5.out rfl rfl rfl (by have : (({ data := #[40, 40] } : ByteArray)).size = 2 := rfl; have := BLx.out; omega)) hq1 ?_
  (try simp only [Act.put]); (try simp only [List.getElem_toArray]); (try simp only [List.getElem_cons_succ]); (try simp only [List.getElem_cons_zero]); (try simp only [List.setIfInBounds_toArray]); (try simp only [List.set_cons_succ]); (try simp only [List.set_cons_zero])
  obtain ⟨r6, hr6⟩ : ∃ r, (r5 : ByteArray) ++ ({ data := #[41, 32] } : ByteArray) = r := ⟨_, rfl⟩
  have HZ6 := Bx.mk (show r6.size ≤ 320004 from by rw [← hr6, cat_sz]; have := HZ5.out; have : (({ data := #[41, 32] } : ByteArray)).size = 2 := rfl; omega)
  have HR6 := Bx.mk hr6
  clear hr6
  refine any_take (i := 6) (.string r6) rfl rfl (by kernel_rfl) (by kernel_rfl) (by kernel_rfl) (by kernel_rfl) (fun _ _ d _ _ h => by cases d <;> exact h) (fun u hS => exec_addR HR6.out rfl rfl rfl (by have := HZ5.out; have : (({ data := #[41, 32] } : ByteArray)).size = 2 := rfl; omega)) hq1 ?_
  (try simp only [Act.put]); (try simp only [List.getElem_toArray]); (try simp only [List.getElem_cons_succ]); (try simp only [List.getElem_cons_zero]); (try simp only [List.setIfInBounds_toArray]); (try simp only [List.set_cons_succ]); (try simp only [List.set_cons_zero])
  obtain ⟨r12, hr12⟩ : ∃ r, (r6 : ByteArray) ++ ({ data := #[45, 62] } : ByteArray) = r := ⟨_, rfl⟩
  have HZ12 := Bx.mk (show r12.size ≤ 320006 from by rw [← hr12, cat_sz]; have := HZ6.out; have : (({ data := #[45, 62] } : ByteArray)).size = 2 := rfl; omega)
  have HR12 := Bx.mk hr12
  clear hr12
  refine any_take (i := 12) (.string r12) rfl rfl (by kernel_rfl) (by kernel_rfl) (by kernel_rfl) (by kernel_rfl) (fun _ _ d _ _ h => by cases d <;> exact h) (fun u hS => exec_addR HR12.out rfl rfl rfl (by have := HZ6.out; have : (({ data := #[45, 62] } : ByteArray)).size = 2 := rfl; omega)) hq1 ?_
  (try simp only [Act.put]); (try simp only [List.getElem_toArray]); (try simp only [List.getElem_cons_succ]); (try simp only [List.getElem_cons_zero]); (try simp only [List.setIfInBounds_toArray]); (try simp only [List.set_cons_succ]); (try simp only [List.set_cons_zero])
  obtain ⟨r13, hr13⟩ : ∃ r, (r12 : ByteArray) ++ ({ data := #[32, 40] } : ByteArray) = r := ⟨_, rfl⟩
  have HZ13 := Bx.mk (show r13.size ≤ 320008 from by rw [← hr13, cat_sz]; have := HZ12.out; have : (({ data := #[32, 40] } : ByteArray)).size = 2 := rfl; omega)
  have HR13 := Bx.mk hr13
  clear hr13
  refine any_take (i := 13) (.string r13) rfl rfl (by kernel_rfl) (by kernel_rfl) (by kernel_rfl) (by kernel_rfl) (fun _ _ d _ _ h => by cases d <;> exact h) (fun u hS => exec_addR HR13.out rfl rfl rfl (by have := HZ12.out; have : (({ data := #[32, 40] } : ByteArray)).size = 2 := rfl; omega)) hq1 ?_
  (try simp only [Act.put]); (try simp only [List.getElem_toArray]); (try simp only [List.getElem_cons_succ]); (try simp only [List.getElem_cons_zero]); (try simp only [List.setIfInBounds_toArray]); (try simp only [List.set_cons_succ]); (try simp only [List.set_cons_zero])
  refine any_branch [18] (by kernel_rfl) rfl fun ix hix => ?_
  simp only [List.mem_cons, List.not_mem_nil, or_false] at hix
  subst hix
  refine any_op rfl rfl fun K hK => ?_
  go_simp
  have hc := IH.out y _ _ u1 BNy.out BPy.out (BKy.out.below hq1.be).2.2.2.2
  rw [HQy.out] at hc
  refine hc.mono ?_
  rintro e u2 ⟨rfl, hb⟩
  have hq2 := hq1.step hb
  refine hK _ _ (fun _ => hq2) ?_
  (try simp only [Act.put]); (try simp only [List.getElem_toArray]); (try simp only [List.getElem_cons_succ]); (try simp only [List.getElem_cons_zero]); (try simp only [List.setIfInBounds_toArray]); (try simp only [List.set_cons_succ]); (try simp only [List.set_cons_zero])
  clear hK
  obtain ⟨r19, hr19⟩ : ∃ r, (r13 : ByteArray) ++ qy = r := ⟨_, rfl⟩
  have HZ19 := Bx.mk (show r19.size ≤ 640008 from by rw [← hr19, cat_sz]; have := HZ13.out; have := BLy.out; omega)
  have HR19 := Bx.mk hr19
  clear hr19
  refine any_take (i := 19) (.string r19) rfl rfl (by kernel_rfl) (by kernel_rfl) (by kernel_rfl) (by kernel_rfl) (fun _ _ d _ _ h => by cases d <;> exact h) (fun u hS => exec_addR HR19.out rfl rfl rfl (by have := HZ13.out; have := BLy.out; omega)) hq2 ?_
  (try simp only [Act.put]); (try simp only [List.getElem_toArray]); (try simp only [List.getElem_cons_succ]); (try simp only [List.getElem_cons_zero]); (try simp only [List.setIfInBounds_toArray]); (try simp only [List.set_cons_succ]); (try simp only [List.set_cons_zero])
  obtain ⟨r20, hr20⟩ : ∃ r, (r19 : ByteArray) ++ ({ data := #[41, 41] } : ByteArray) = r := ⟨_, rfl⟩
  have HZ20 := Bx.mk (show r20.size ≤ 640010 from by rw [← hr20, cat_sz]; have := HZ19.out; have : (({ data := #[41, 41] } : ByteArray)).size = 2 := rfl; omega)
  have HR20 := Bx.mk hr20
  clear hr20
  refine any_take (i := 20) (.string r20) rfl rfl (by kernel_rfl) (by kernel_rfl) (by kernel_rfl) (by kernel_rfl) (fun _ _ d _ _ h => by cases d <;> exact h) (fun u hS => exec_addR HR20.out rfl rfl rfl (by have := HZ19.out; have : (({ data := #[41, 41] } : ByteArray)).size = 2 := rfl; omega)) hq2 ?_
  (try simp only [Act.put]); (try simp only [List.getElem_toArray]); (try simp only [List.getElem_cons_succ]); (try simp only [List.getElem_cons_zero]); (try simp only [List.setIfInBounds_toArray]); (try simp only [List.set_cons_succ]); (try simp only [List.set_cons_zero])
  refine any_branch [21] (by kernel_rfl) rfl fun ix hix => ?_
  simp only [List.mem_cons, List.not_mem_nil, or_false] at hix
  subst hix
  refine any_op rfl rfl fun K hK => ?_
  go_simp
  refine hK _ _ (fun _ => hq2) ?_
  (try simp only [Act.put]); (try simp only [List.getElem_toArray]); (try simp only [List.getElem_cons_succ]); (try simp only [List.getElem_cons_zero]); (try simp only [List.setIfInBounds_toArray]); (try simp only [List.set_cons_succ]); (try simp only [List.set_cons_zero])
  clear hK
  refine any_end (by kernel_rfl) ?_
  have HF := Bx.mk hq2.be
  clear hq0 hq1 hq2
  go_wp2_with fail
  go_ret
  refine ⟨congrArg (fun s => Ending.returned (Value.string s)) (ba_ext ?_), HF.out⟩
  rw [← HR20.out, ← HR19.out, ← HR13.out, ← HR12.out, ← HR6.out, ← HR5.out, ← HQx.out, ← HQy.out]
  simp only [ByteArray.data_append, Array.toList_append]
  unfold Ex.prk Ex.par Ex.sgn
  simp
set_option maxHeartbeats 16000000 in
theorem rput_8 (n : Nat) (hn1 : n ≤ 20000) (ih : P2z n) (a : Int) (m : Nat) (hm : m < 8) (b o cap : Nat) (w : World) (x : Tr) (sx : Value) (Kx : Kid w b o x sx) (Nx : (x.on .nil).nodes ≤ n) (Px : (x.on .nil).allPlain = true) (y : Tr) (sy : Value) (Ky : Kid w b (o + 4) y sy) (Ny : (y.on .nil).nodes ≤ n) (Py : (y.on .nil).allPlain = true) :
    Calls Try.prog 21 #[.agg #[.int .i64 8, .int .i64 a, .int .i64 (m : Int), .slice (some ⟨b, o, none⟩) 2 cap]] w fun e w' => e = .returned (.string ⟨(Ex.prk 8 (m : Int) [Ex.pr x, Ex.pr y]).toArray⟩) ∧ Below w.heap.size w w' := by
  have hw0 : (m : Int) % 10 = (m : Int) := by omega
  have hw1 : wrap64 (48 + (m : Int)) = 48 + (m : Int) := w64 _ (by omega)
  have hw2 : IntKind.i64.wrap (48 + (m : Int)) = 48 + (m : Int) := by rw [IntKind.wrap_i64]; omega
  have hw3 : IntKind.u8.wrap (48 + (m : Int)) = 48 + (m : Int) := by rw [IntKind.wrap_u8]; omega
  have hB := Blk.new (w.alloc (.cells #[.int .i64 8, .int .i64 a, .int .i64 (m : Int), .slice (some ⟨b, o, none⟩) 2 cap] 36)) 5 #[.int .u8 (48 + (m : Int))]
  have hO : OwnB ((w.alloc (.cells #[.int .i64 8, .int .i64 a, .int .i64 (m : Int), .slice (some ⟨b, o, none⟩) 2 cap] 36)).alloc (.cells #[.int .u8 (48 + (m : Int))] 5)) (w.heap.size + 1) (.slice (some ⟨w.heap.size + 1, 0, none⟩) 1 1) [Nat.toUInt8 (48 + m)] := by
    rw [alloc_size] at hB
    refine ⟨rfl, .inr ⟨w.heap.size + 1, 1, #[.int .u8 (48 + (m : Int))], rfl, Nat.le_refl _, hB.eq, Nat.le_refl _, by unfold maxLen; omega, rfl, ?_⟩⟩
    have e : ((Nat.toUInt8 (48 + m)).toNat : Int) = 48 + (m : Int) := by
      have : (Nat.toUInt8 (48 + m)).toNat = 48 + m := by simp [Nat.toUInt8, UInt8.toNat_ofNat', Nat.mod_eq_of_lt (show 48 + m < 256 by omega)]
      rw [this]; omega
    simp
    omega
  have hC := hO.str (by simp)
  have HE := Bx.mk (show (⟨#[48 + UInt8.ofNat m]⟩ : ByteArray) = strOf [48 + m] from by unfold strOf; simp [Nat.toUInt8])
  have H0 := Bx.mk (PT.start w 8 a (m : Int) (.slice (some ⟨b, o, none⟩) 2 cap) (.int .u8 (48 + (m : Int))))
  have HD := Bx.mk (dig_of m)
  have HDZ := Bx.mk (show (strOf [48 + m]).size = 1 from by rw [strOf_size]; rfl)
  clear hO hB
  have BKx := Bx.mk Kx
  have BNx := Bx.mk Nx
  have BPx := Bx.mk Px
  have BLx := Bx.mk (show (⟨(Ex.pr x).toArray⟩ : ByteArray).size ≤ 320000 from by have := pr_len x; rw [size_mk]; omega)
  have BKy := Bx.mk Ky
  have BNy := Bx.mk Ny
  have BPy := Bx.mk Py
  have BLy := Bx.mk (show (⟨(Ex.pr y).toArray⟩ : ByteArray).size ≤ 320000 from by have := pr_len y; rw [size_mk]; omega)
  have IH := Bx.mk ih
  clear ih Kx Nx Px Ky Ny Py
  go_enter Try.func21, Try.ntmps21
  go_wp2_with fail
  generalize hW : World.alloc (World.alloc (World.alloc _ _) _) _ = W0
  have H1 : Bx (PT w W0 8 a (m : Int) (.slice (some ⟨b, o, none⟩) 2 cap)) := ⟨by rw [← hW]; exact H0.out⟩
  clear hW H0 hC hw0 hw1 hw2 hw3
  rw [HE.out]
  generalize hds : strOf [48 + m] = ds at *
  clear hds
  obtain ⟨qx, hqx⟩ : ∃ q : ByteArray, (⟨(Ex.pr x).toArray⟩ : ByteArray) = q := ⟨_, rfl⟩
  rw [hqx] at BLx
  have HQx := Bx.mk hqx
  clear hqx
  obtain ⟨qy, hqy⟩ : ∃ q : ByteArray, (⟨(Ex.pr y).toArray⟩ : ByteArray) = q := ⟨_, rfl⟩
  rw [hqy] at BLy
  have HQy := Bx.mk hqy
  clear hqy
  refine region_any 100 (fun u => PT w u 8 a (m : Int) (.slice (some ⟨b, o, none⟩) 2 cap)) (by kernel_rfl) ?_
  generalize hu : World.drew _ = u0
  have hq0 := H1.out.step ((Below.refl _ _).drew)
  rw [hu] at hq0
  clear hu
  refine any_take (i := 0) (.pointer (some ⟨w.heap.size, 3, none⟩)) rfl rfl (by kernel_rfl) (by kernel_rfl) (by kernel_rfl) (by kernel_rfl) (fun _ _ d _ _ h => by cases d <;> exact h) (fun u hS => rfl) hq0 ?_
  (try simp only [Act.put]); (try simp only [List.getElem_toArray]); (try simp only [List.getElem_cons_succ]); (try simp only [List.getElem_cons_zero]); (try simp only [List.setIfInBounds_toArray]); (try simp only [List.set_cons_succ]); (try simp only [List.set_cons_zero])
  refine any_take (i := 1) (.slice (some ⟨b, o, none⟩) 2 cap) rfl rfl (by kernel_rfl) (by kernel_rfl) (by kernel_rfl) (by kernel_rfl) (fun _ _ d _ _ h => by cases d <;> exact h) (fun u hS => exec_loadS rfl rfl (hS.e.cell 3)) hq0 ?_
  (try simp only [Act.put]); (try simp only [List.getElem_toArray]); (try simp only [List.getElem_cons_succ]); (try simp only [List.getElem_cons_zero]); (try simp only [List.setIfInBounds_toArray]); (try simp only [List.set_cons_succ]); (try simp only [List.set_cons_zero])
  refine any_take (i := 2) (.pointer (some ⟨b, o, none⟩)) rfl rfl (by kernel_rfl) (by kernel_rfl) (by kernel_rfl) (by kernel_rfl) (fun _ _ d _ _ h => by cases d <;> exact h) (fun u hS => exec_ix02 rfl rfl rfl) hq0 ?_
  (try simp only [Act.put]); (try simp only [List.getElem_toArray]); (try simp only [List.getElem_cons_succ]); (try simp only [List.getElem_cons_zero]); (try simp only [List.setIfInBounds_toArray]); (try simp only [List.set_cons_succ]); (try simp only [List.set_cons_zero])
  refine any_take (i := 3) (Ev x sx) rfl rfl (by kernel_rfl) (by kernel_rfl) (by kernel_rfl) (by kernel_rfl) (fun _ _ d _ _ h => by cases d <;> exact h) (fun u hS => by obtain ⟨x0, x1, x2, x3, _⟩ := BKx.out.below hS.be; exact exec_loadX rfl rfl x0 x1 x2 x3) hq0 ?_
  (try simp only [Act.put]); (try simp only [List.getElem_toArray]); (try simp only [List.getElem_cons_succ]); (try simp only [List.getElem_cons_zero]); (try simp only [List.setIfInBounds_toArray]); (try simp only [List.set_cons_succ]); (try simp only [List.set_cons_zero])
  refine any_take (i := 14) (.pointer (some ⟨w.heap.size, 3, none⟩)) rfl rfl (by kernel_rfl) (by kernel_rfl) (by kernel_rfl) (by kernel_rfl) (fun _ _ d _ _ h => by cases d <;> exact h) (fun u hS => rfl) hq0 ?_
  (try simp only [Act.put]); (try simp only [List.getElem_toArray]); (try simp only [List.getElem_cons_succ]); (try simp only [List.getElem_cons_zero]); (try simp only [List.setIfInBounds_toArray]); (try simp only [List.set_cons_succ]); (try simp only [List.set_cons_zero])
  refine any_take (i := 15) (.slice (some ⟨b, o, none⟩) 2 cap) rfl rfl (by kernel_rfl) (by kernel_rfl) (by kernel_rfl) (by kernel_rfl) (fun _ _ d _ _ h => by cases d <;> exact h) (fun u hS => exec_loadS rfl rfl (hS.e.cell 3)) hq0 ?_
  (try simp only [Act.put]); (try simp only [List.getElem_toArray]); (try simp only [List.getElem_cons_succ]); (try simp only [List.getElem_cons_zero]); (try simp only [List.setIfInBounds_toArray]); (try simp only [List.set_cons_succ]); (try simp only [List.set_cons_zero])
  refine any_take (i := 16) (.pointer (some ⟨b, o + 4, none⟩)) rfl rfl (by kernel_rfl) (by kernel_rfl) (by kernel_rfl) (by kernel_rfl) (fun _ _ d _ _ h => by cases d <;> exact h) (fun u hS => exec_ix12 rfl rfl rfl) hq0 ?_
  (try simp only [Act.put]); (try simp only [List.getElem_toArray]); (try simp only [List.getElem_cons_succ]); (try simp only [List.getElem_cons_zero]); (try simp only [List.setIfInBounds_toArray]); (try simp only [List.set_cons_succ]); (try simp only [List.set_cons_zero])
  refine any_take (i := 17) (Ev y sy) rfl rfl (by kernel_rfl) (by kernel_rfl) (by kernel_rfl) (by kernel_rfl) (fun _ _ d _ _ h => by cases d <;> exact h) (fun u hS => by obtain ⟨x0, x1, x2, x3, _⟩ := BKy.out.below hS.be; exact exec_loadX rfl rfl x0 x1 x2 x3) hq0 ?_
  (try simp only [Act.put]); (try simp only [List.getElem_toArray]); (try simp only [List.getElem_cons_succ]); (try simp only [List.getElem_cons_zero]); (try simp only [List.setIfInBounds_toArray]); (try simp only [List.set_cons_succ]); (try simp only [List.set_cons_zero])
  refine any_take (i := 7) (.pointer (some ⟨w.heap.size, 0, none⟩)) rfl rfl (by kernel_rfl) (by kernel_rfl) (by kernel_rfl) (by kernel_rfl) (fun _ _ d _ _ h => by cases d <;> exact h) (fun u hS => rfl) hq0 ?_
  (try simp only [Act.put]); (try simp only [List.getElem_toArray]); (try simp only [List.getElem_cons_succ]); (try simp only [List.getElem_cons_zero]); (try simp only [List.setIfInBounds_toArray]); (try simp only [List.set_cons_succ]); (try simp only [List.set_cons_zero])
  refine any_take (i := 8) (.int .i64 8) rfl rfl (by kernel_rfl) (by kernel_rfl) (by kernel_rfl) (by kernel_rfl) (fun _ _ d _ _ h => by cases d <;> exact h) (fun u hS => exec_loadI rfl rfl (hS.e.cell 0)) hq0 ?_
  (try simp only [Act.put]); (try simp only [List.getElem_toArray]); (try simp only [List.getElem_cons_succ]); (try simp only [List.getElem_cons_zero]); (try simp only [List.setIfInBounds_toArray]); (try simp only [List.set_cons_succ]); (try simp only [List.set_cons_zero])
  refine any_take (i := 9) (.int .i64 4) rfl rfl (by kernel_rfl) (by kernel_rfl) (by kernel_rfl) (by kernel_rfl) (fun _ _ d _ _ h => by cases d <;> exact h) (fun u hS => exec_sub4 (by omega) (by omega) rfl rfl rfl) hq0 ?_
  (try simp only [Act.put]); (try simp only [List.getElem_toArray]); (try simp only [List.getElem_cons_succ]); (try simp only [List.getElem_cons_zero]); (try simp only [List.setIfInBounds_toArray]); (try simp only [List.set_cons_succ]); (try simp only [List.set_cons_zero])
  refine any_take (i := 10) (.pointer (some ⟨w.heap.size + 2, 4, none⟩)) rfl rfl (by kernel_rfl) (by kernel_rfl) (by kernel_rfl) (by kernel_rfl) (fun _ _ d _ _ h => by cases d <;> exact h) (fun u hS => exec_ix5 (j := 4) (by omega) rfl rfl rfl rfl) hq0 ?_
  (try simp only [Act.put]); (try simp only [List.getElem_toArray]); (try simp only [List.getElem_cons_succ]); (try simp only [List.getElem_cons_zero]); (try simp only [List.setIfInBounds_toArray]); (try simp only [List.set_cons_succ]); (try simp only [List.set_cons_zero])
  refine any_take (i := 11) (.string { data := #[60, 45, 62] }) rfl rfl (by kernel_rfl) (by kernel_rfl) (by kernel_rfl) (by kernel_rfl) (fun _ _ d _ _ h => by cases d <;> exact h) (fun u hS => exec_loadG rfl rfl (hS.g.cell 4)) hq0 ?_
  (try simp only [Act.put]); (try simp only [List.getElem_toArray]); (try simp only [List.getElem_cons_succ]); (try simp only [List.getElem_cons_zero]); (try simp only [List.setIfInBounds_toArray]); (try simp only [List.set_cons_succ]); (try simp only [List.set_cons_zero])
  refine any_branch [4] (by kernel_rfl) rfl fun ix hix => ?_
  simp only [List.mem_cons, List.not_mem_nil, or_false] at hix
  subst hix
  refine any_op rfl rfl fun K hK => ?_
  go_simp
  have hc := IH.out x _ _ u0 BNx.out BPx.out (BKx.out.below hq0.be).2.2.2.2
  rw [HQx.out] at hc
  refine hc.mono ?_
  rintro e u1 ⟨rfl, hb⟩
  have hq1 := hq0.step hb
  refine hK _ _ (fun _ => hq1) ?_
  (try simp only [Act.put]); (try simp only [List.getElem_toArray]); (try simp only [List.getElem_cons_succ]); (try simp only [List.getElem_cons_zero]); (try simp only [List.setIfInBounds_toArray]); (try simp only [List.set_cons_succ]); (try simp only [List.set_cons_zero])
  clear hK
  obtain ⟨r5, hr5⟩ : ∃ r, (({ data := #[40, 40] } : ByteArray) : ByteArray) ++ qx = r := ⟨_, rfl⟩
  have HZ5 := Bx.mk (show r5.size ≤ 320002 from by rw [← hr5, cat_sz]; have : (({ data := #[40, 40] } : ByteArray)).size = 2 := rfl; have := BLx.out; omega)
  have HR5 := Bx.mk hr5
  clear hr5
  refine any_take (i := 5) (.string r5) rfl rfl (by kernel_rfl) (by kernel_rfl) (by kernel_rfl) (by kernel_rfl) (fun _ _ d _ _ h => by cases d <;> exact h) (fun u hS => exec_addR HR5.out rfl rfl rfl (by have : (({ data := #[40, 40] } : ByteArray)).size = 2 := rfl; have := BLx.out; omega)) hq1 ?_
  (try simp only [Act.put]); (try simp only [List.getElem_toArray]); (try simp only [List.getElem_cons_succ]); (try simp only [List.getElem_cons_zero]); (try simp only [List.setIfInBounds_toArray]); (try simp only [List.set_cons_succ]); (try simp only [List.set_cons_zero])
  obtain ⟨r6, hr6⟩ : ∃ r, (r5 : ByteArray) ++ ({ data := #[41, 32] } : ByteArray) = r := ⟨_, rfl⟩
  have HZ6 := Bx.mk (show r6.size ≤ 320004 from by rw [← hr6, cat_sz]; have := HZ5.out; have : (({ data := #[41, 32] } : ByteArray)).size = 2 := rfl; omega)
  have HR6 := Bx.mk hr6
  clear hr6
  refine any_take (i := 6) (.string r6) rfl rfl (by kernel_rfl) (by kernel_rfl) (by kernel_rfl) (by kernel_rfl) (fun _ _ d _ _ h => by cases d <;> exact h) (fun u hS => exec_addR HR6.out rfl rfl rfl (by have := HZ5.out; have : (({ data := #[41, 32] } : ByteArray)).size = 2 := rfl; omega)) hq1 ?_
  (try simp only [Act.put]); (try simp only [List.getElem_toArray]); (try simp only [List.getElem_cons_succ]); (try simp only [List.getElem_cons_zero]); (try simp only [List.setIfInBounds_toArray]); (try simp only [List.set_cons_succ]); (try simp only [List.set_cons_zero])
  obtain ⟨r12, hr12⟩ : ∃ r, (r6 : ByteArray) ++ ({ data := #[60, 45, 62] } : ByteArray) = r := ⟨_, rfl⟩
  have HZ12 := Bx.mk (show r12.size ≤ 320007 from by rw [← hr12, cat_sz]; have := HZ6.out; have : (({ data := #[60, 45, 62] } : ByteArray)).size = 3 := rfl; omega)
  have HR12 := Bx.mk hr12
  clear hr12
  refine any_take (i := 12) (.string r12) rfl rfl (by kernel_rfl) (by kernel_rfl) (by kernel_rfl) (by kernel_rfl) (fun _ _ d _ _ h => by cases d <;> exact h) (fun u hS => exec_addR HR12.out rfl rfl rfl (by have := HZ6.out; have : (({ data := #[60, 45, 62] } : ByteArray)).size = 3 := rfl; omega)) hq1 ?_
  (try simp only [Act.put]); (try simp only [List.getElem_toArray]); (try simp only [List.getElem_cons_succ]); (try simp only [List.getElem_cons_zero]); (try simp only [List.setIfInBounds_toArray]); (try simp only [List.set_cons_succ]); (try simp only [List.set_cons_zero])
  obtain ⟨r13, hr13⟩ : ∃ r, (r12 : ByteArray) ++ ({ data := #[32, 40] } : ByteArray) = r := ⟨_, rfl⟩
  have HZ13 := Bx.mk (show r13.size ≤ 320009 from by rw [← hr13, cat_sz]; have := HZ12.out; have : (({ data := #[32, 40] } : ByteArray)).size = 2 := rfl; omega)
  have HR13 := Bx.mk hr13
  clear hr13
  refine any_take (i := 13) (.string r13) rfl rfl (by kernel_rfl) (by kernel_rfl) (by kernel_rfl) (by kernel_rfl) (fun _ _ d _ _ h => by cases d <;> exact h) (fun u hS => exec_addR HR13.out rfl rfl rfl (by have := HZ12.out; have : (({ data := #[32, 40] } : ByteArray)).size = 2 := rfl; omega)) hq1 ?_
  (try simp only [Act.put]); (try simp only [List.getElem_toArray]); (try simp only [List.getElem_cons_succ]); (try simp only [List.getElem_cons_zero]); (try simp only [List.setIfInBounds_toArray]); (try simp only [List.set_cons_succ]); (try simp only [List.set_cons_zero])
  refine any_branch [18] (by kernel_rfl) rfl fun ix hix => ?_
  simp only [List.mem_cons, List.not_mem_nil, or_false] at hix
  subst hix
  refine any_op rfl rfl fun K hK => ?_
  go_simp
  have hc := IH.out y _ _ u1 BNy.out BPy.out (BKy.out.below hq1.be).2.2.2.2
  rw [HQy.out] at hc
  refine hc.mono ?_
  rintro e u2 ⟨rfl, hb⟩
  have hq2 := hq1.step hb
  refine hK _ _ (fun _ => hq2) ?_
  (try simp only [Act.put]); (try simp only [List.getElem_toArray]); (try simp only [List.getElem_cons_succ]); (try simp only [List.getElem_cons_zero]); (try simp only [List.setIfInBounds_toArray]); (try simp only [List.set_cons_succ]); (try simp only [List.set_cons_zero])
  clear hK
  obtain ⟨r19, hr19⟩ : ∃ r, (r13 : ByteArray) ++ qy = r := ⟨_, rfl⟩
  have HZ19 := Bx.mk (show r19.size ≤ 640009 from by rw [← hr19, cat_sz]; have := HZ13.out; have := BLy.out; omega)
  have HR19 := Bx.mk hr19
  clear hr19
  refine any_take (i := 19) (.string r19) rfl rfl (by kernel_rfl) (by kernel_rfl) (by kernel_rfl) (by kernel_rfl) (fun _ _ d _ _ h => by cases d <;> exact h) (fun u hS => exec_addR HR19.out rfl rfl rfl (by have := HZ13.out; have := BLy.out; omega)) hq2 ?_
  (try simp only [Act.put]); (try simp only [List.getElem_toArray]); (try simp only [List.getElem_cons_succ]); (try simp only [List.getElem_cons_zero]); (try simp only [List.setIfInBounds_toArray]); (try simp only [List.set_cons_succ]); (try simp only [List.set_cons_zero])
  obtain ⟨r20, hr20⟩ : ∃ r, (r19 : ByteArray) ++ ({ data := #[41, 41] } : ByteArray) = r := ⟨_, rfl⟩
  have HZ20 := Bx.mk (show r20.size ≤ 640011 from by rw [← hr20, cat_sz]; have := HZ19.out; have : (({ data := #[41, 41] } : ByteArray)).size = 2 := rfl; omega)
  have HR20 := Bx.mk hr20
  clear hr20
  refine any_take (i := 20) (.string r20) rfl rfl (by kernel_rfl) (by kernel_rfl) (by kernel_rfl) (by kernel_rfl) (fun _ _ d _ _ h => by cases d <;> exact h) (fun u hS => exec_addR HR20.out rfl rfl rfl (by have := HZ19.out; have : (({ data := #[41, 41] } : ByteArray)).size = 2 := rfl; omega)) hq2 ?_
  (try simp only [Act.put]); (try simp only [List.getElem_toArray]); (try simp only [List.getElem_cons_succ]); (try simp only [List.getElem_cons_zero]); (try simp only [List.setIfInBounds_toArray]); (try simp only [List.set_cons_succ]); (try simp only [List.set_cons_zero])
  refine any_branch [21] (by kernel_rfl) rfl fun ix hix => ?_
  simp only [List.mem_cons, List.not_mem_nil, or_false] at hix
  subst hix
  refine any_op rfl rfl fun K hK => ?_
  go_simp
  refine hK _ _ (fun _ => hq2) ?_
  (try simp only [Act.put]); (try simp only [List.getElem_toArray]); (try simp only [List.getElem_cons_succ]); (try simp only [List.getElem_cons_zero]); (try simp only [List.setIfInBounds_toArray]); (try simp only [List.set_cons_succ]); (try simp only [List.set_cons_zero])
  clear hK
  refine any_end (by kernel_rfl) ?_
  have HF := Bx.mk hq2.be
  clear hq0 hq1 hq2
  go_wp2_with fail
  go_ret
  refine ⟨congrArg (fun s => Ending.returned (Value.string s)) (ba_ext ?_), HF.out⟩
  rw [← HR20.out, ← HR19.out, ← HR13.out, ← HR12.out, ← HR6.out, ← HR5.out, ← HQx.out, ← HQy.out]
  simp only [ByteArray.data_append, Array.toList_append]
  unfold Ex.prk Ex.par Ex.sgn
  simp
theorem P2z.succ (n : Nat) (hn1 : n ≤ 20000) (ih : P2z n) : P2z (n + 1) := by
  intro t sl B u hn hp hs
  rw [Fo.nodes_on] at hn
  rw [Fo.allPlain_on, Bool.and_eq_true, Bool.and_eq_true] at hp
  obtain ⟨⟨hpl, hka⟩, _⟩ := hp
  obtain ⟨h1, h2, h3, h4, h5⟩ := plain_shape hpl
  obtain ⟨k, a, v, kids⟩ := t
  simp only [] at h1 h2 h3 h4 h5 hn hka hs
  have hnil : (Fo.nil).nodes = 0 := rfl
  rw [hnil] at hn
  obtain ⟨p, cap, b, o, rfl, hpn, hcap, hr⟩ := hs
  unfold Ev Ex.pr
  simp only []
  have hc : k = 1 ∨ k = 2 ∨ k = 3 ∨ k = 4 ∨ k = 5 ∨ k = 6 ∨ k = 7 ∨ k = 8 ∨ k = 9 ∨ k = 10 ∨ k = 11 := by omega
  have a0 : (k = 1 ∨ k = 2) → kids = .nil := fun h => Fo.len0 (by rw [h3, Ex.kids0 (by omega)])
  have hone : ∀ (x : Tr), kids = x.on .nil → ∃ sx, p = some ⟨b, o, none⟩ ∧ Kid u b o x sx ∧ (x.on .nil).nodes ≤ n ∧ (x.on .nil).allPlain = true := fun x e => by
    subst e
    obtain ⟨sx, K, _⟩ := kid_of hr
    rw [Fo.nodes_on] at hn
    refine ⟨sx, ?_, K, by rw [Fo.nodes_on]; omega, hka⟩
    rcases hpn with ⟨e, _⟩ | e
    · cases e
    · exact e
  have htwo : ∀ (x y : Tr), kids = x.on (y.on .nil) → ∃ sx sy, p = some ⟨b, o, none⟩ ∧ (Kid u b o x sx ∧ (x.on .nil).nodes ≤ n ∧ (x.on .nil).allPlain = true) ∧ (Kid u b (o + 4) y sy ∧ (y.on .nil).nodes ≤ n ∧ (y.on .nil).allPlain = true) := fun x y e => by
    subst e
    obtain ⟨sx, K, hr2⟩ := kid_of hr
    obtain ⟨sy, K2, _⟩ := kid_of hr2
    rw [Fo.nodes_on, Fo.nodes_on] at hn
    rw [Fo.allPlain_on, Bool.and_eq_true] at hka
    refine ⟨sx, sy, ?_, ⟨K, by rw [Fo.nodes_on]; omega, by rw [Fo.allPlain_on, hka.1]; rfl⟩, ⟨K2, by rw [Fo.nodes_on]; omega, hka.2⟩⟩
    rcases hpn with ⟨e, _⟩ | e
    · cases e
    · exact e
  have hthree : ∀ (x y z : Tr), kids = x.on (y.on (z.on .nil)) → ∃ sx sy sz, p = some ⟨b, o, none⟩ ∧ (Kid u b o x sx ∧ (x.on .nil).nodes ≤ n ∧ (x.on .nil).allPlain = true) ∧ (Kid u b (o + 4) y sy ∧ (y.on .nil).nodes ≤ n ∧ (y.on .nil).allPlain = true) ∧ (Kid u b (o + 4 + 4) z sz ∧ (z.on .nil).nodes ≤ n ∧ (z.on .nil).allPlain = true) := fun x y z e => by
    subst e
    obtain ⟨sx, K, hr2⟩ := kid_of hr
    obtain ⟨sy, K2, hr3⟩ := kid_of hr2
    obtain ⟨sz, K3, _⟩ := kid_of hr3
    rw [Fo.nodes_on, Fo.nodes_on, Fo.nodes_on] at hn
    rw [Fo.allPlain_on, Bool.and_eq_true, Fo.allPlain_on y, Bool.and_eq_true (Ex.plain y && y.kids.allPlain)] at hka
    refine ⟨sx, sy, sz, ?_, ⟨K, by rw [Fo.nodes_on]; omega, by rw [Fo.allPlain_on, hka.1]; rfl⟩, ⟨K2, by rw [Fo.nodes_on]; omega, by rw [Fo.allPlain_on, hka.2.1]; rfl⟩, ⟨K3, by rw [Fo.nodes_on]; omega, hka.2.2⟩⟩
    rcases hpn with ⟨e, _⟩ | e
    · cases e
    · exact e
  have k1 : (k = 3 ∨ k = 10 ∨ k = 11) → kids.len = 1 := fun h => by rw [h3, Ex.kids1 h]
  have k2 : (4 ≤ k ∧ k ≤ 8) → kids.len = 2 := fun h => by rw [h3, Ex.kids2 h]
  have k3 : k = 9 → kids.len = 3 := fun h => by rw [h3, Ex.kids3 h]
  have hv8 : ∃ m : Nat, v = (m : Int) ∧ m < 8 := by
    have ht : Ex.top k ≤ 7 := by unfold Ex.top; repeat' split
                                 all_goals omega
    exact ⟨v.toNat, by omega, by omega⟩
  obtain ⟨m, rfl, hm⟩ := hv8
  rcases hc with rfl | rfl | rfl | rfl | rfl | rfl | rfl | rfl | rfl | rfl | rfl
  · have e := a0 (by omega); subst e
    exact rput_1 n hn1 ih a m hm p cap u
  · have e := a0 (by omega); subst e
    exact rput_2 n hn1 ih a m hm p cap u
  · obtain ⟨x, e⟩ := Fo.len1 (k1 (by omega))
    obtain ⟨sx, rfl, K, hx, px⟩ := hone x e
    subst e
    exact rput_3 n hn1 ih a m hm b o cap u x sx K hx px
  · obtain ⟨x, y, e⟩ := Fo.len2 (k2 (by omega))
    obtain ⟨sx, sy, rfl, ⟨K, hx, px⟩, K2, hy, py⟩ := htwo x y e
    subst e
    exact rput_4 n hn1 ih a m hm b o cap u x sx K hx px y sy K2 hy py
  · obtain ⟨x, y, e⟩ := Fo.len2 (k2 (by omega))
    obtain ⟨sx, sy, rfl, ⟨K, hx, px⟩, K2, hy, py⟩ := htwo x y e
    subst e
    exact rput_5 n hn1 ih a m hm b o cap u x sx K hx px y sy K2 hy py
  · obtain ⟨x, y, e⟩ := Fo.len2 (k2 (by omega))
    obtain ⟨sx, sy, rfl, ⟨K, hx, px⟩, K2, hy, py⟩ := htwo x y e
    subst e
    exact rput_6 n hn1 ih a m hm b o cap u x sx K hx px y sy K2 hy py
  · obtain ⟨x, y, e⟩ := Fo.len2 (k2 (by omega))
    obtain ⟨sx, sy, rfl, ⟨K, hx, px⟩, K2, hy, py⟩ := htwo x y e
    subst e
    exact rput_7 n hn1 ih a m hm b o cap u x sx K hx px y sy K2 hy py
  · obtain ⟨x, y, e⟩ := Fo.len2 (k2 (by omega))
    obtain ⟨sx, sy, rfl, ⟨K, hx, px⟩, K2, hy, py⟩ := htwo x y e
    subst e
    exact rput_8 n hn1 ih a m hm b o cap u x sx K hx px y sy K2 hy py
  · obtain ⟨x, y, z, e⟩ := Fo.len3 (k3 rfl)
    obtain ⟨sx, sy, sz, rfl, ⟨K, hx, px⟩, ⟨K2, hy, py⟩, K3, hz, pz⟩ := hthree x y z e
    subst e
    exact rput_9 n hn1 ih a m hm b o cap u x sx K hx px y sy K2 hy py z sz K3 hz pz
  · obtain ⟨x, e⟩ := Fo.len1 (k1 (by omega))
    obtain ⟨sx, rfl, K, hx, px⟩ := hone x e
    subst e
    exact rput_10 n hn1 ih a m hm b o cap u x sx K hx px
  · obtain ⟨x, e⟩ := Fo.len1 (k1 (by omega))
    obtain ⟨sx, rfl, K, hx, px⟩ := hone x e
    subst e
    exact rput_11 n hn1 ih a m hm b o cap u x sx K hx px
theorem P2z.all : ∀ n, n ≤ 20000 → P2z n
  | 0, _ => fun t sl B u h => by rw [Fo.nodes_on] at h; omega
  | n + 1, h => P2z.succ n (by omega) (P2z.all n (by omega))
theorem rprint_any (t : Tr) (sl : Value) (B : Nat → Prop) (u : World) (hn : (t.on .nil).nodes ≤ 20000) (hp : (t.on .nil).allPlain = true) (hs : SlF u B sl t.kids) :
    Calls Try.prog 21 #[Ev t sl] u fun e w' => e = .returned (.string ⟨(Ex.pr t).toArray⟩) ∧ Below u.heap.size u w' := P2z.all _ (Nat.le_refl _) t sl B u hn hp hs
end Go.Proofs.Ytfgokhafiffbaaa
